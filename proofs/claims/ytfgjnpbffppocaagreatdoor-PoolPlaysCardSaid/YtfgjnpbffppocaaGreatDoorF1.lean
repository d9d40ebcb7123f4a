/- Part. -/
import Derived.Test.YtfgjnpbffppocaaGreatDoorF0
import Derived.Test.YtfgjnpbffppocaaGreatDoorRows
import Derived.WalkKit
import Derived.Lib.Hide
import Derived.Below
import Derived.Laws.OwnMore
import Derived.Laws.Rows
import Derived.Laws.IdiomCopy
import Derived.Deep.Draws
namespace Go.Proofs.YtfgjnpbffppocaaGreatDoor
namespace Mem
open Go.RowKit
def Blk (w:World) (g:Nat) (t:TypeId) (cs:Array Value):Prop:=w.heap[g]? =some (.cells cs t (0,0))
theorem Blk.lt {w:World} {g:Nat} {t:TypeId} {cs:Array Value} (h:Blk w g t cs):g<w.heap.size:=(Array.getElem?_eq_some_iff.1 h).1
theorem Blk.cell {w:World} {g:Nat} {t:TypeId} {cs:Array Value} (h:Blk w g t cs) (i:Nat):w.cell? ⟨g,i,none⟩=cs[i]?:=cell_of_row w g i cs t (0,0) h
theorem Blk.frozen {w:World} {g:Nat} {t:TypeId} {cs:Array Value} (h:Blk w g t cs) (i:Nat):w.frozen? ⟨g,i,none⟩=false:=by
 unfold Blk at h
 simp[World.frozen?,h]
theorem Blk.new (w:World) (t:TypeId) (cs:Array Value):Blk (w.alloc (.cells cs t)) w.heap.size t cs:=heap_alloc_new w _
theorem Blk.at_ {w:World} {g:Nat} {t:TypeId} {cs:Array Value} (h:g=w.heap.size):Blk (w.alloc (.cells cs t)) g t cs:=by subst h;exact Blk.new w t cs
theorem Blk.drew {w:World} {g:Nat} {t:TypeId} {cs:Array Value} (h:Blk w g t cs):Blk w.drew g t cs:=h
theorem Blk.drewN {w:World} {g:Nat} {t:TypeId} {cs:Array Value} (h:Blk w g t cs) (n:Nat):Blk (w.drewN n) g t cs:=h
theorem Blk.alloc {w:World} {g:Nat} {t:TypeId} {cs:Array Value} (h:Blk w g t cs) (o:Obj):Blk (w.alloc o) g t cs:=(Below.heap_alloc w o g h.lt).trans h
theorem Blk.set {w:World} {g:Nat} {t:TypeId} {cs:Array Value} (h:Blk w g t cs) (i:Nat) (u:Value):Blk (w.setCell ⟨g,i,none⟩ u) g t (cs.setIfInBounds i u):=by
 unfold Blk at h⊢
 simp[World.setCell,Array.getElem?_modify,h]
theorem Blk.far {w:World} {g:Nat} {t:TypeId} {cs:Array Value} (h:Blk w g t cs) {p:Addr} (hp:g≠p.block) (u:Value):Blk (w.setCell p u) g t cs:=(Below.heap_setCell w p u g hp).trans h
theorem Blk.below {B:Nat} {w w':World} {g:Nat} {t:TypeId} {cs:Array Value} (h:Blk w g t cs) (hb:Below B w w') (hg:g<B):Blk w' g t cs:=(hb.block g hg).trans h
theorem Blk.ne {w:World} {g g':Nat} {t t':TypeId} {cs cs':Array Value} (h:Blk w g t cs) (h':Blk w g' t' cs') (hne:t≠t'):g≠g':=by
 rintro rfl;unfold Blk at h h';rw[h]at h';injection h' with h';injection h' with _ ht;exact hne ht
theorem Blk.splice {g:Nat} {t:TypeId}:∀(vs:List Value) (o:Nat) (w:World) (cs:Array Value),Blk w g t cs->o+vs.length<=cs.size->
  ∃cs':Array Value,Blk (w.setCells g o vs) g t cs'/\cs'.toList=cs.toList.take o++vs++cs.toList.drop (o+vs.length)
 | [],o,w,cs,h,_=>⟨cs,h,by simp⟩
 |v ::r,o,w,cs,h,ho=>by
  have ho':o<cs.toList.length:=by simp at ho⊢;omega
  obtain⟨cs',h1,h2⟩:=Blk.splice r (o+1) (w.setCell ⟨g,o,none⟩ v) (cs.setIfInBounds o v) (h.set o v) (by simp at ho⊢;omega);refine⟨cs',h1,?_⟩;rw[h2,Array.toList_setIfInBounds,List.set_eq_take_append_cons_drop,if_pos ho'];obtain⟨A,hA⟩:∃A,cs.toList.take o=A:=⟨_,rfl⟩;obtain⟨D,hD⟩:∃D,cs.toList.drop (o+1)=D:=⟨_,rfl⟩;have e1:A.length=o:=by rw[<-hA,jT];omega
  have e2:cs.toList.drop (o+(v ::r).length)=D.drop r.length:=by
   rw[<-hD,List.drop_drop]
   congr 1
   simp only[List.length_cons]
   omega
  rw[e2,hA,hD,List.take_append,List.drop_append,e1,List.take_of_length_le (l:=A) (by omega),@List.drop_eq_nil_of_le _ A _ (by omega),show o+1-o=1 by omega,show o+1+r.length-o=r.length+1 by omega]
  simp
def typed (ts:List TypeId) (w:World) (k:Nat):Prop:=∃(cs:Array Value) (t:TypeId) (fr:Nat×Nat),w.heap[k]? =some (.cells cs t fr)/\t∈ts
structure Fr (B:Nat) (ts:List TypeId) (w w':World):Prop where
 os:w'.os=w.os
 tape:w'.tape=w.tape
 output:w'.output=w.output
 size:w.heap.size<=w'.heap.size
 block:∀k,k<w.heap.size->(k<B\/¬typed ts w k)->w'.heap[k]? =w.heap[k]?
theorem Fr.trans {B:Nat} {ts:List TypeId} {a b c:World} (h:Fr B ts a b) (k:Fr B ts b c):Fr B ts a c:=
 ⟨k.os.trans h.os,k.tape.trans h.tape,k.output.trans h.output,Nat.le_trans h.size k.size,λi hi hn=>by
  have e:=h.block i hi hn;refine(k.block i (Nat.lt_of_lt_of_le hi h.size) ?_).trans e;rcases hn with hn|hn
  ·exact .inl hn
  ·refine .inr (λht=>hn ?_);obtain⟨cs,t,fr,h1,h2⟩:=ht;exact⟨cs,t,fr,e▸h1,h2⟩⟩
theorem Fr.below {B:Nat} {ts:List TypeId} {w w':World} (h:Fr B ts w w') (hB:B<=w.heap.size):Below B w w':=⟨h.os,h.tape,h.output,h.size,λk hk=>h.block k (by omega) (.inl hk)⟩
theorem Fr.keep {B:Nat} {ts:List TypeId} {w w':World} (h:Fr B ts w w') {g:Nat} {t:TypeId} {cs:Array Value} (hb:Blk w g t cs) (hn:g<B\/t∉ts):Blk w' g t cs:=
 (h.block g hb.lt (hn.imp id (λhn ⟨cs',t',fr,h1,h2⟩=>by
  rw[show w.heap[g]? =_ from hb]at h1;cases h1;exact hn h2))).trans hb
theorem Fr.row {B:Nat} {ts:List TypeId} {w w':World} (h:Fr B ts w w') {base size n:Nat} {e:TypeId} {v:Value} {xs:List Value} (ho:w.ownsRow base e size v n xs) (hn:e∉ts):w'.ownsRow base e size v n xs:=by
 refine⟨ho.1,?_⟩;rcases ho.2 with h0|⟨g,cap,cur,rfl,hb,hg,r⟩
 ·exact .inl h0
 ·exact .inr ⟨g,cap,cur,rfl,hb,h.keep hg (.inr hn),r⟩
theorem grown_trans {a b c:World} {row:Option Nat} (h:a.grownBy b row) (k:b.grownBy c row):a.grownBy c row:=
 ⟨k.os.trans h.os,k.tape.trans h.tape,k.output.trans h.output,Nat.le_trans h.size k.size,λi hi hn=>(k.block i (Nat.lt_of_lt_of_le hi h.size) hn).trans (h.block i hi hn)⟩
theorem grown_below {a b:World} {row:Option Nat} (h:Below a.heap.size a b):a.grownBy b row:=⟨h.os,h.tape,h.output,h.size,λi hi _=>h.block i hi⟩
theorem grown_later {a b c:World} {row:Option Nat} (h:Below a.heap.size a b) (k:b.grownBy c row):a.grownBy c row:=grown_trans (grown_below h) k
theorem own_far {w:World} {base:Nat} {e:TypeId} {size:Nat} {v:Value} {n:Nat} {xs:List Value} (h:w.ownsRow base e size v n xs) {p:Addr} (hp:v.ownBlock≠some p.block) (u:Value): (w.setCell p u).ownsRow base e size v n xs:=
 h.kept (row:=some p.block) ⟨rfl,rfl,rfl,by simp[World.setCell],λk _ hn=>Below.heap_setCell w p u k (λe=>hn (by rw[e]))⟩ (.inr hp)
theorem Blk.grown {w w':World} {g:Nat} {t:TypeId} {cs:Array Value} {row:Option Nat} (h:Blk w g t cs) (hb:w.grownBy w' row) (hg:some g≠row):Blk w' g t cs:=(hb.block g h.lt hg).trans h
structure Only (bs:List Nat) (w w':World):Prop where
 os:w'.os=w.os
 tape:w'.tape=w.tape
 output:w'.output=w.output
 size:w.heap.size<=w'.heap.size
 block:∀k,k<w.heap.size->k∉bs->w'.heap[k]? =w.heap[k]?
theorem Only.refl (bs:List Nat) (w:World):Only bs w w:=⟨rfl,rfl,rfl,Nat.le_refl _,λ_ _ _=>rfl⟩
theorem Only.trans {bs:List Nat} {a b c:World} (h:Only bs a b) (k:Only bs b c):Only bs a c:=
 ⟨k.os.trans h.os,k.tape.trans h.tape,k.output.trans h.output,Nat.le_trans h.size k.size,λi hi hn=>(k.block i (Nat.lt_of_lt_of_le hi h.size) hn).trans (h.block i hi hn)⟩
theorem Only.drew {bs:List Nat} {a w:World} (h:Only bs a w):Only bs a w.drew:=⟨h.os,h.tape,h.output,h.size,h.block⟩
theorem Only.drewN {bs:List Nat} {a w:World} (h:Only bs a w) (n:Nat):Only bs a (w.drewN n):=⟨h.os,h.tape,h.output,h.size,h.block⟩
theorem Only.set {bs:List Nat} {a w:World} (h:Only bs a w) {p:Addr} (hp:p.block∈bs\/a.heap.size<=p.block) (u:Value):Only bs a (w.setCell p u):=
 ⟨h.os,h.tape,h.output,by simpa[World.setCell]using h.size,λi hi hne=>(Below.heap_setCell w p u i (by
  rintro rfl;rcases hp with hp|hp
  ·exact hne hp
  ·omega)).trans (h.block i hi hne)⟩
theorem Only.setCells {bs:List Nat} {g:Nat}:∀(vs:List Value) (o:Nat) {a w:World},Only bs a w->(g∈bs\/a.heap.size<=g)->Only bs a (w.setCells g o vs)
 | [],_,_,_,h,_=>h
 |v ::r,o,_,_,h,hg=>Only.setCells r (o+1) (h.set (p:=⟨g,o,none⟩) hg v) hg
theorem Only.of_below {bs:List Nat} {w w':World} (h:Below w.heap.size w w'):Only bs w w':=⟨h.os,h.tape,h.output,h.size,λk hk _=>h.block k hk⟩
theorem Only.of_grown {bs:List Nat} {w w':World} {row:Option Nat} (h:w.grownBy w' row) (hr:∀g,row=some g->g∈bs\/w.heap.size<=g):Only bs w w':=
 ⟨h.os,h.tape,h.output,h.size,λk hk hn=>h.block k hk (λe=>by
  rcases hr k e.symm with h1|h1
  ·exact hn h1
  ·omega)⟩
theorem Only.mono {bs bs':List Nat} {w w':World} (h:Only bs w w') (hs:∀g∈bs,g∈bs'):Only bs' w w':=⟨h.os,h.tape,h.output,h.size,λk hk hn=>h.block k hk (λhm=>hn (hs k hm))⟩
theorem Blk.only {bs:List Nat} {w w':World} {g:Nat} {t:TypeId} {cs:Array Value} (h:Blk w g t cs) (hb:Only bs w w') (hg:g∉bs):Blk w' g t cs:=(hb.block g h.lt hg).trans h
theorem own_only {bs:List Nat} {w w':World} {base:Nat} {e:TypeId} {size:Nat} {v:Value} {n:Nat} {xs:List Value} (h:w.ownsRow base e size v n xs) (hb:Only bs w w') (hv:∀g,v.ownBlock=some g->g∉bs):w'.ownsRow base e size v n xs:=by
 refine⟨h.1,?_⟩;rcases h.2 with h0|⟨g,cap,cur,rfl,hg,hgg,r⟩
 ·exact .inl h0
 ·exact .inr ⟨g,cap,cur,rfl,hg,Blk.only (t:=e) hgg hb (hv g rfl),r⟩
theorem Only.below {bs:List Nat} {B:Nat} {w w':World} (h:Only bs w w') (hB:B<=w.heap.size) (hs:∀g∈bs,B<=g):Below B w w':=
 ⟨h.os,h.tape,h.output,h.size,λk hk=>h.block k (by omega) (λhm=>by have:=hs k hm;omega)⟩
theorem Only.fr {bs:List Nat} {B:Nat} {ts:List TypeId} {w w':World} (h:Only bs w w') (hs:∀g∈bs,(B<=g/\typed ts w g)\/w.heap.size<=g):Fr B ts w w':=
 ⟨h.os,h.tape,h.output,h.size,λk hk hn=>h.block k hk (λhm=>by
  rcases hs k hm with⟨h1,h2⟩|h1
  ·rcases hn with hn|hn
   ·omega
   ·exact hn h2
  ·omega)⟩
end Mem
end Go.Proofs.YtfgjnpbffppocaaGreatDoor
