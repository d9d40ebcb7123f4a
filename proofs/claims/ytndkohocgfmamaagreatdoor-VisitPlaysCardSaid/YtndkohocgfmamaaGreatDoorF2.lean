/- Part. -/
import Derived.Test.YtndkohocgfmamaaGreatDoorF1
import Derived.WalkSmall
import Derived.BigQuiet
import Derived.Deep.Slices
import Derived.Deep.OwnRows
namespace Go.Proofs.YtndkohocgfmamaaGreatDoor
namespace Mem
open Go.RowKit
def bv(b:UInt8):Value:=.int .u8 (b.toNat:Int)
def Lies(w:World)(a:Option Addr)(xs:List Value):Prop:=xs= []\/∃g off,a=some ⟨g,off,none⟩/\g<w.heap.size/\∀i u,xs[i]? =some u->w.cell? ⟨g,off+i,none⟩=some u
def blk(a:Option Addr):Option Nat:=a.map (·.block)
variable {w w':World}{a:Option Addr}{xs:List Value}{F:List Nat}{e e1 t:TypeId}{n b1 s1 n1 g:Nat}{v v1:Value}{cs:Array Value}{P:Nat->Prop}
theorem Lies.keep(h:Lies w a xs)(f:w.heap.size<=w'.heap.size)(b:∀g,blk a=some g->w'.heap[g]? =w.heap[g]?):Lies w' a xs:=by
 rcases h with h|⟨g,off,rfl,d,hc⟩
 ·exact .inl h
 ·exact .inr ⟨g,off,rfl,by omega,λi u c=>by
   have e:=b g rfl;have:=hc i u c;unfold World.cell? at this⊢;rw[e];exact this⟩
theorem Lies.below{B:Nat}(h:Lies w a xs)(b:Below B w w')(hb:∀g,blk a=some g->g<B):Lies w' a xs:=h.keep b.size (λg c=>b.block g (hb g c))
theorem Lies.later(h:Lies w a xs)(b:Below w.heap.size w w'):Lies w' a xs:=by
 rcases h with h|⟨g,off,rfl,c,hc⟩
 ·exact .inl h
 ·exact .inr ⟨g,off,rfl,aD c b.size,λi u d=>(b.cell (p:=⟨g,off+i,none⟩) c).trans (hc i u d)⟩
theorem Lies.drewN{w:World}{a:Option Addr}{xs:List Value}(h:Lies w a xs)(n:Nat):Lies (w.drewN n) a xs:=h
theorem Lies.only(h:Lies w a xs)(c:Only F w w')(d:∀g,blk a=some g->g∉F):Lies w' a xs:=by
 rcases h with h|⟨g,off,rfl,b,hc⟩
 ·exact .inl h
 ·exact Lies.keep (.inr ⟨g,off,rfl,b,hc⟩) c.size (λq hq=>by cases hq;exact c.block g b (d g rfl))
theorem Lies.take{w:World}{a:Option Addr}{xs:List Value}(h:Lies w a xs)(n:Nat):Lies w a (xs.take n):=by
 rcases h with h|⟨g,off,rfl,c,hc⟩
 ·exact .inl (by rw[h];simp)
 ·exact .inr ⟨g,off,rfl,c,λi u b=>hc i u (by
   rw[jh]at b
   split at b
   ·exact b
   ·cases b)⟩
theorem Lies.drop{w:World}{g off:Nat}{xs:List Value}(h:Lies w (some ⟨g,off,none⟩) xs)(n:Nat):Lies w (some ⟨g,off+n,none⟩) (xs.drop n):=by
 rcases h with h|⟨d,f,e,c,hc⟩
 ·exact .inl (by rw[h];simp)
 ·cases e
  exact .inr ⟨g,off+n,rfl,c,λi u b=>by
   rw[List.getElem?_drop]at b;have:=hc (n+i) u b
   rwa [<-Nat.add_assoc]at this⟩
theorem own_shape{base:Nat}{size:Nat}(h:w.ownsRow base e size v n xs):∃a cap,v=.slice a n cap/\n<=cap/\Lies w a xs/\(∀g,blk a=some g->base<=g/\g<w.heap.size)/\v.ownBlock=blk a:=by
 rcases h.2 with⟨rfl,rfl⟩|⟨g,cap,cur,rfl,r⟩
 ·exact⟨none,0,rfl,aj _,.inl (iw (by rw[h.1,Nat.zero_mul])),(λg b=>by cases b),rfl⟩
 ·refine⟨some ⟨g,0,none⟩,cap,rfl,r.2.2.1,.inr ⟨g,0,rfl,(h.lt g rfl).2,λj u c=>?_⟩,(λq hq=>by cases hq;exact h.lt g rfl),rfl⟩;have:=h.cells (g:=g) rfl j u c;have e: (⟨g,0,none⟩:Addr).add j=⟨g,j,none⟩:=by unfold Addr.add;split <;> simp_all
  rw[e]at this;rw[Nat.zero_add];exact this
theorem bH{base b:Nat}{size:Nat}(h:w.ownsRow base e size v n xs)(hb:b<=base):w.ownsRow b e size v n xs:=by
 refine⟨h.1,?_⟩;rcases h.2 with c|⟨g,cap,cur,rfl,d,r⟩
 ·exact .inl c
 ·exact .inr ⟨g,cap,cur,rfl,ax hb d,r⟩
theorem own_below{B base:Nat}{size:Nat}(h:w.ownsRow base e size v n xs)(c:Below B w w')(hl:∀q,v.ownBlock=some q->q<B):w'.ownsRow base e size v n xs:=by
 refine⟨h.1,?_⟩;rcases h.2 with b|⟨g,cap,cur,rfl,d,f,r⟩
 ·exact .inl b
 ·exact .inr ⟨g,cap,cur,rfl,d,(c.block g (hl g rfl)).trans f,r⟩
theorem own_later{base:Nat}{size:Nat}(h:w.ownsRow base e size v n xs)(b:Below w.heap.size w w'):w'.ownsRow base e size v n xs:=own_below h b (λq hq=>(h.lt q hq).2)
theorem vR{f:Nat}{c:TypeId}{s2 n2:Nat}{d:Value}{o:List Value}(i:w.ownsRow b1 e1 s1 v1 n1 xs)(j:w.ownsRow f c s2 d n2 o)(l:e1≠c):v1.ownBlock=none\/v1.ownBlock≠d.ownBlock:=by
 rcases i.2 with⟨rfl,_⟩|⟨h,c1,p,rfl,_,k,_⟩
 ·exact .inl rfl
 ·right
  rcases j.2 with⟨rfl,_⟩|⟨g2,c2,q,rfl,_,b,_⟩
  ·intro e;cases e
  ·intro e;have e:h=g2:=by simpa[Value.ownBlock]using e
   subst e;rw[k]at b;injection b with b;injection b with _ m;exact l m
theorem aV(d:w.ownsRow b1 e1 s1 v1 n1 xs)(b:Blk w g t cs)(h:e1≠t):v1.ownBlock≠some g:=by
 rcases d.2 with⟨rfl,_⟩|⟨c,c1,j,rfl,_,f,_⟩
 ·intro e;cases e
 ·intro e;have e:c=g:=by simpa[Value.ownBlock]using e
  subst e;unfold Blk at b;rw[f]at b;injection b with b;injection b with _ i;exact h i
theorem MN(b:w.ownsRow b1 e1 s1 v1 n1 xs)(c:Blk w g t cs)(d:e1≠t)(i:Nat)(u:Value): (w.setCell ⟨g,i,none⟩ u).ownsRow b1 e1 s1 v1 n1 xs:=dU b (aV b c d) u
theorem fT(w:World)(e:TypeId)(size:Nat): (w.alloc (.cells #[] e)).ownsRow w.heap.size e size (.slice (some ⟨w.heap.size,0,none⟩) 0 0) 0 []:=World.ownsRow_lit w #[] 0 jn (by decide) (by simp)
theorem dQ{a:Addr}(h:Lies w (some a) xs):∀j u,xs[j]? =some u->w.cell? (a.add j)=some u:=λj u b=>by
 rcases h with rfl|⟨g,off,e,_,hc⟩
 ·simp at b
 ·cases e;have e: (⟨g,off,none⟩:Addr).add j=⟨g,off+j,none⟩:=by unfold Addr.add;split <;> simp_all
  rw[e];exact hc j u b
theorem kN(bs:List UInt8):∀u∈bs.map bv,u.oneCell'=true:=λu c=>by
 obtain⟨b,_,rfl⟩:=List.mem_map.1 c
 rfl
theorem jX: (Tryz.prog.info? 5).map (λi=>(i.zero,i.size,i.bytes))=some (some (.int .u8 0),1,1):=by kernel_rfl
theorem lI{bs:List UInt8}{i:Nat}{x:UInt8}(h:bs[i]? =some x): (bs.map bv)[i]? =some (bv x):=by simp[h]
theorem jG(w:World)(t:TypeId)(cs:Array Value):Lies (w.alloc (.cells cs t)) (some ⟨w.heap.size,0,none⟩) cs.toList:=.inr ⟨w.heap.size,0,rfl,by simp,λi u b=>by
 rw[Nat.zero_add,(Blk.new w t cs).cell i]
 simpa using b⟩
structure Upon(P:Nat->Prop)(w w':World):Prop where
 os:w'.os=w.os
 tape:w'.tape=w.tape
 output:w'.output=w.output
 size:w.heap.size<=w'.heap.size
 block:∀k,k<w.heap.size->¬P k->w'.heap[k]? =w.heap[k]?
theorem Upon.refl(P:Nat->Prop)(w:World):Upon P w w:=⟨rfl,rfl,rfl,aj _,λ_ _ _=>rfl⟩
theorem Upon.trans{P Q:Nat->Prop}{a b c:World}(h:Upon P a b)(k:Upon Q b c)(j:∀g,Q g->P g\/a.heap.size<=g):Upon P a c:=
 ⟨k.os.trans h.os,k.tape.trans h.tape,k.output.trans h.output,ax h.size k.size,λi d f=>(k.block i (aD d h.size) (λhq=>(j i hq).elim f (λl=>by omega))).trans (h.block i d f)⟩
theorem Upon.mono{Q:Nat->Prop}(h:Upon P w w')(f:∀k,P k->Q k):Upon Q w w':=⟨h.os,h.tape,h.output,h.size,λk b c=>h.block k b (λd=>c (f k d))⟩
theorem Upon.fB(h:Only F w w')(hF:∀g∈F,P g\/w.heap.size<=g):Upon P w w':=
 ⟨h.os,h.tape,h.output,h.size,λk b d=>h.block k b (λc=>(hF k c).elim d (λf=>by omega))⟩
theorem Upon.of_below(h:Below w.heap.size w w'):Upon P w w':=⟨h.os,h.tape,h.output,h.size,λk b _=>h.block k b⟩
theorem Upon.of_grown{P:Nat->Prop}{w w':World}{row:Option Nat}(h:w.grownBy w' row)(c:∀g,row=some g->P g\/w.heap.size<=g):Upon P w w':=Upon.fB (F:=row.toList) (Only.of_grown h (λg b=>.inl (by rw[b];simp))) (λg b=>c g (by simpa using b))
theorem Upon.below{B:Nat}(h:Upon P w w')(d:B<=w.heap.size)(c:∀g,P g->B<=g):Below B w w':=
 ⟨h.os,h.tape,h.output,h.size,λk f=>h.block k (by omega) (λb=>by have:=c k b;omega)⟩
theorem Upon.drew{P:Nat->Prop}{a w:World}(h:Upon P a w):Upon P a w.drew:=⟨h.os,h.tape,h.output,h.size,h.block⟩
theorem Upon.drewN{P:Nat->Prop}{a w:World}(h:Upon P a w)(n:Nat):Upon P a (w.drewN n):=⟨h.os,h.tape,h.output,h.size,h.block⟩
theorem Upon.set{a:World}(h:Upon P a w){p:Addr}(b:P p.block\/a.heap.size<=p.block)(u:Value):Upon P a (w.setCell p u):=
 ⟨h.os,h.tape,h.output,by simpa[World.setCell]using h.size,λi d c=>(Below.heap_setCell w p u i (by
  rintro rfl;rcases b with b|b
  ·exact c b
  ·omega)).trans (h.block i d c)⟩
theorem Upon.alloc{P:Nat->Prop}{a w:World}(h:Upon P a w)(o:Obj):Upon P a (w.alloc o):=
 ⟨h.os,h.tape,h.output,ax h.size (by simp),λi b c=>(Below.heap_alloc w o i (aD b h.size)).trans (h.block i b c)⟩
theorem Blk.upon(h:Blk w g t cs)(hb:Upon P w w')(b:¬P g):Blk w' g t cs:=(hb.block g h.lt b).trans h
theorem fC{base:Nat}{size:Nat}(h:w.ownsRow base e size v n xs)(hb:Upon P w w')(f:∀g,v.ownBlock=some g->¬P g):w'.ownsRow base e size v n xs:=by
 refine⟨h.1,?_⟩;rcases h.2 with b|⟨g,cap,cur,rfl,c,d,r⟩
 ·exact .inl b
 ·exact .inr ⟨g,cap,cur,rfl,c,(hb.block g (h.lt g rfl).2 (f g rfl)).trans d,r⟩
theorem Lies.upon(h:Lies w a xs)(hb:Upon P w w')(c:∀g,blk a=some g->¬P g):Lies w' a xs:=by
 rcases h with h|⟨g,off,rfl,b,hc⟩
 ·exact .inl h
 ·exact Lies.keep (.inr ⟨g,off,rfl,b,hc⟩) hb.size (λq hq=>by cases hq;exact hb.block g b (c g rfl))
end Mem
end Go.Proofs.YtndkohocgfmamaaGreatDoor
