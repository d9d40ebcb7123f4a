/- Part. -/
import Derived.Test.YtndkohocgfmamaaGreatDoorF0
import Derived.Test.YtndkohocgfmamaaGreatDoorRows
import Derived.WalkKit
import Derived.Lib.Hide
import Derived.Deep.Draws
namespace Go.Proofs.YtndkohocgfmamaaGreatDoor
namespace Mem
open Go.RowKit
def Blk(w:World)(g:Nat)(t:TypeId)(cs:Array Value):Prop:=w.heap[g]? =some (.cells cs t (0,0))
variable {w w' a b c:World}{g n:Nat}{t e:TypeId}{cs:Array Value}{p:Addr}{ts:List TypeId}{v:Value}{xs:List Value}{bs:List Nat}
theorem Blk.lt(h:Blk w g t cs):g<w.heap.size:=(dG.1 h).1
theorem Blk.cell(h:Blk w g t cs)(i:Nat):w.cell? ⟨g,i,none⟩=cs[i]?:=cell_of_row w g i cs t (0,0) h
theorem Blk.frozen(h:Blk w g t cs)(i:Nat):w.frozen? ⟨g,i,none⟩=false:=by
 unfold Blk at h
 simp[World.frozen?,h]
theorem Blk.new(w:World)(t:TypeId)(cs:Array Value):Blk (w.alloc (.cells cs t)) w.heap.size t cs:=heap_alloc_new w _
theorem Blk.at_(h:g=w.heap.size):Blk (w.alloc (.cells cs t)) g t cs:=by subst h;exact Blk.new w t cs
theorem Blk.drew{w:World}{g:Nat}{t:TypeId}{cs:Array Value}(h:Blk w g t cs):Blk w.drew g t cs:=h
theorem Blk.drewN{w:World}{g:Nat}{t:TypeId}{cs:Array Value}(h:Blk w g t cs)(n:Nat):Blk (w.drewN n) g t cs:=h
theorem Blk.alloc{w:World}{g:Nat}{t:TypeId}{cs:Array Value}(h:Blk w g t cs)(o:Obj):Blk (w.alloc o) g t cs:=(Below.heap_alloc w o g h.lt).trans h
theorem Blk.set(h:Blk w g t cs)(i:Nat)(u:Value):Blk (w.setCell ⟨g,i,none⟩ u) g t (cs.setIfInBounds i u):=by
 unfold Blk at h⊢
 simp[World.setCell,Array.getElem?_modify,h]
theorem Blk.far(h:Blk w g t cs)(d:g≠p.block)(u:Value):Blk (w.setCell p u) g t cs:=(Below.heap_setCell w p u g d).trans h
theorem Blk.below{B:Nat}(h:Blk w g t cs)(hb:Below B w w')(d:g<B):Blk w' g t cs:=(hb.block g d).trans h
theorem Blk.ne{g':Nat}{f:TypeId}{i:Array Value}(h:Blk w g t cs)(d:Blk w g' f i)(j:t≠f):g≠g':=by
 rintro rfl;unfold Blk at h d;rw[h]at d;injection d with d;injection d with _ k;exact j k
theorem Blk.splice{g:Nat}{t:TypeId}:∀(vs:List Value) (o:Nat) (w:World) (cs:Array Value),Blk w g t cs->o+vs.length<=cs.size->
  ∃d:Array Value,Blk (w.setCells g o vs) g t d/\d.toList=cs.toList.take o++vs++cs.toList.drop (o+vs.length)
 | [],o,w,cs,h,_=>⟨cs,h,by simp⟩
 |v ::r,o,w,cs,h,ho=>by
  have q:o<cs.toList.length:=by simp at ho⊢;omega
  obtain⟨d,k,m⟩:=Blk.splice r (o+1) (w.setCell ⟨g,o,none⟩ v) (cs.setIfInBounds o v) (h.set o v) (by simp at ho⊢;omega);refine⟨d,k,?_⟩;rw[m,Array.toList_setIfInBounds,List.set_eq_take_append_cons_drop,if_pos q];obtain⟨A,f⟩:∃A,cs.toList.take o=A:=⟨_,rfl⟩;obtain⟨D,hD⟩:∃D,cs.toList.drop (o+1)=D:=⟨_,rfl⟩;have i:A.length=o:=by rw[<-f,jT];omega
  have j:cs.toList.drop (o+(v ::r).length)=D.drop r.length:=by
   rw[<-hD,List.drop_drop]
   congr 1
   simp only[List.length_cons]
   omega
  rw[j,f,hD,List.take_append,List.drop_append,i,List.take_of_length_le (l:=A) (by omega),@List.drop_eq_nil_of_le _ A _ (by omega),show o+1-o=1 by omega,show o+1+r.length-o=r.length+1 by omega]
  simp
def typed(ts:List TypeId)(w:World)(k:Nat):Prop:=∃(cs:Array Value) (t:TypeId) (fr:Nat×Nat),w.heap[k]? =some (.cells cs t fr)/\t∈ts
structure Fr(B:Nat)(ts:List TypeId)(w w':World):Prop where
 os:w'.os=w.os
 tape:w'.tape=w.tape
 output:w'.output=w.output
 size:w.heap.size<=w'.heap.size
 block:∀k,k<w.heap.size->(k<B\/¬typed ts w k)->w'.heap[k]? =w.heap[k]?
theorem Fr.trans{B:Nat}{ts:List TypeId}{a b c:World}(h:Fr B ts a b)(k:Fr B ts b c):Fr B ts a c:=
 ⟨k.os.trans h.os,k.tape.trans h.tape,k.output.trans h.output,ax h.size k.size,λi f d=>by
  have e:=h.block i f d;refine(k.block i (aD f h.size) ?_).trans e;rcases d with d|d
  ·exact .inl d
  ·refine .inr (λm=>d ?_);obtain⟨cs,t,fr,j,l⟩:=m;exact⟨cs,t,fr,e▸j,l⟩⟩
theorem Fr.of_below{B:Nat}(h:Below w.heap.size w w'):Fr B ts w w':=
 ⟨h.os,h.tape,h.output,h.size,λk d _=>h.block k d⟩
theorem Fr.below{B:Nat}(h:Fr B ts w w')(f:B<=w.heap.size):Below B w w':=⟨h.os,h.tape,h.output,h.size,λk d=>h.block k (by omega) (.inl d)⟩
theorem Fr.keep{B:Nat}(h:Fr B ts w w')(hb:Blk w g t cs)(d:g<B\/t∉ts):Blk w' g t cs:=
 (h.block g hb.lt (d.imp id (λd ⟨j,k,fr,f,i⟩=>by
  rw[show w.heap[g]? =_ from hb]at f;cases f;exact d i))).trans hb
theorem Fr.row{B:Nat}(h:Fr B ts w w'){base size:Nat}(d:w.ownsRow base e size v n xs)(j:e∉ts):w'.ownsRow base e size v n xs:=by
 refine⟨d.1,?_⟩;rcases d.2 with f|⟨g,cap,cur,rfl,hb,i,r⟩
 ·exact .inl f
 ·exact .inr ⟨g,cap,cur,rfl,hb,h.keep i (.inr j),r⟩
theorem JS{row:Option Nat}(h:a.grownBy b row)(k:b.grownBy c row):a.grownBy c row:=
 ⟨k.os.trans h.os,k.tape.trans h.tape,k.output.trans h.output,ax h.size k.size,λi d f=>(k.block i (aD d h.size) f).trans (h.block i d f)⟩
theorem JU{row:Option Nat}(h:Below a.heap.size a b):a.grownBy b row:=⟨h.os,h.tape,h.output,h.size,λi d _=>h.block i d⟩
theorem sj{row:Option Nat}(h:Below a.heap.size a b)(k:b.grownBy c row):a.grownBy c row:=JS (JU h) k
theorem dU{base:Nat}{size:Nat}(h:w.ownsRow base e size v n xs)(f:v.ownBlock≠some p.block)(u:Value): (w.setCell p u).ownsRow base e size v n xs:=
 h.kept (row:=some p.block) ⟨rfl,rfl,rfl,by simp[World.setCell],λk _ d=>Below.heap_setCell w p u k (λe=>d (by rw[e]))⟩ (.inr f)
theorem Blk.grown{row:Option Nat}(h:Blk w g t cs)(hb:w.grownBy w' row)(d:some g≠row):Blk w' g t cs:=(hb.block g h.lt d).trans h
structure Only(bs:List Nat)(w w':World):Prop where
 os:w'.os=w.os
 tape:w'.tape=w.tape
 output:w'.output=w.output
 size:w.heap.size<=w'.heap.size
 block:∀k,k<w.heap.size->k∉bs->w'.heap[k]? =w.heap[k]?
theorem Only.refl(bs:List Nat)(w:World):Only bs w w:=⟨rfl,rfl,rfl,aj _,λ_ _ _=>rfl⟩
theorem Only.trans{bs:List Nat}{a b c:World}(h:Only bs a b)(k:Only bs b c):Only bs a c:=
 ⟨k.os.trans h.os,k.tape.trans h.tape,k.output.trans h.output,ax h.size k.size,λi d f=>(k.block i (aD d h.size) f).trans (h.block i d f)⟩
theorem Only.drew{bs:List Nat}{a w:World}(h:Only bs a w):Only bs a w.drew:=⟨h.os,h.tape,h.output,h.size,h.block⟩
theorem Only.drewN{bs:List Nat}{a w:World}(h:Only bs a w)(n:Nat):Only bs a (w.drewN n):=⟨h.os,h.tape,h.output,h.size,h.block⟩
theorem Only.set(h:Only bs a w)(d:p.block∈bs\/a.heap.size<=p.block)(u:Value):Only bs a (w.setCell p u):=
 ⟨h.os,h.tape,h.output,by simpa[World.setCell]using h.size,λi j f=>(Below.heap_setCell w p u i (by
  rintro rfl;rcases d with d|d
  ·exact f d
  ·omega)).trans (h.block i j f)⟩
theorem Only.setCells{bs:List Nat}{g:Nat}:∀(vs:List Value) (o:Nat) {a w:World},Only bs a w->(g∈bs\/a.heap.size<=g)->Only bs a (w.setCells g o vs)
 | [],_,_,_,h,_=>h
 |v ::r,o,_,_,h,hg=>Only.setCells r (o+1) (h.set (p:=⟨g,o,none⟩) hg v) hg
theorem Only.of_below(h:Below w.heap.size w w'):Only bs w w':=⟨h.os,h.tape,h.output,h.size,λk d _=>h.block k d⟩
theorem Only.of_grown{row:Option Nat}(h:w.grownBy w' row)(j:∀g,row=some g->g∈bs\/w.heap.size<=g):Only bs w w':=
 ⟨h.os,h.tape,h.output,h.size,λk f i=>h.block k f (λe=>by
  rcases j k e.symm with d|d
  ·exact i d
  ·omega)⟩
theorem Only.mono{bs':List Nat}(h:Only bs w w')(j:∀g∈bs,g∈bs'):Only bs' w w':=⟨h.os,h.tape,h.output,h.size,λk d i=>h.block k d (λf=>i (j k f))⟩
theorem Blk.only(h:Blk w g t cs)(hb:Only bs w w')(d:g∉bs):Blk w' g t cs:=(hb.block g h.lt d).trans h
theorem yB{base:Nat}{size:Nat}(h:w.ownsRow base e size v n xs)(hb:Only bs w w')(j:∀g,v.ownBlock=some g->g∉bs):w'.ownsRow base e size v n xs:=by
 refine⟨h.1,?_⟩;rcases h.2 with d|⟨g,cap,cur,rfl,f,i,r⟩
 ·exact .inl d
 ·exact .inr ⟨g,cap,cur,rfl,f,Blk.only (t:=e) i hb (j g rfl),r⟩
theorem Only.below{B:Nat}(h:Only bs w w')(i:B<=w.heap.size)(f:∀g∈bs,B<=g):Below B w w':=
 ⟨h.os,h.tape,h.output,h.size,λk j=>h.block k (by omega) (λd=>by have:=f k d;omega)⟩
theorem Only.fr{B:Nat}(h:Only bs w w')(m:∀g∈bs,(B<=g/\typed ts w g)\/w.heap.size<=g):Fr B ts w w':=
 ⟨h.os,h.tape,h.output,h.size,λk j d=>h.block k j (λl=>by
  rcases m k l with⟨f,i⟩|f
  ·rcases d with d|d
   ·omega
   ·exact d i
  ·omega)⟩
end Mem
end Go.Proofs.YtndkohocgfmamaaGreatDoor
