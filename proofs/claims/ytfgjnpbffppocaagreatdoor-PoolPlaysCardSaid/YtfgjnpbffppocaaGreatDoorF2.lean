/- Part. -/
import Derived.Test.YtfgjnpbffppocaaGreatDoorF0
import Derived.Test.YtfgjnpbffppocaaGreatDoorF1
import Derived.WalkSmall
import Derived.BigQuiet
import Derived.Deep.QuietTactic
import Derived.Deep.Slices
import Derived.Deep.OwnRows
import Derived.IntWalk
import Derived.Laws.BitsAllLaws
namespace Go.Proofs.YtfgjnpbffppocaaGreatDoor
namespace Mem
open Go.RowKit
def bv (b:UInt8):Value:=.int .u8 (b.toNat:Int)
def Lies (w:World) (a:Option Addr) (xs:List Value):Prop:=xs= []\/∃g off,a=some ⟨g,off,none⟩/\g<w.heap.size/\∀i u,xs[i]? =some u->w.cell? ⟨g,off+i,none⟩=some u
def blk (a:Option Addr):Option Nat:=a.map (·.block)
theorem Lies.keep {w w':World} {a:Option Addr} {xs:List Value} (h:Lies w a xs) (hs:w.heap.size<=w'.heap.size) (hk:∀g,blk a=some g->w'.heap[g]? =w.heap[g]?):Lies w' a xs:=by
 rcases h with h|⟨g,off,rfl,hg,hc⟩
 ·exact .inl h
 ·exact .inr ⟨g,off,rfl,by omega,λi u hu=>by
   have e:=hk g rfl;have:=hc i u hu;unfold World.cell? at this⊢;rw[e];exact this⟩
theorem Lies.below {w w':World} {a:Option Addr} {xs:List Value} {B:Nat} (h:Lies w a xs) (hB:Below B w w') (hb:∀g,blk a=some g->g<B):Lies w' a xs:=h.keep hB.size (λg hg=>hB.block g (hb g hg))
theorem Lies.later {w w':World} {a:Option Addr} {xs:List Value} (h:Lies w a xs) (hB:Below w.heap.size w w'):Lies w' a xs:=by
 rcases h with h|⟨g,off,rfl,hg,hc⟩
 ·exact .inl h
 ·exact .inr ⟨g,off,rfl,Nat.lt_of_lt_of_le hg hB.size,λi u hu=>(hB.cell (p:=⟨g,off+i,none⟩) hg).trans (hc i u hu)⟩
theorem Lies.drewN {w:World} {a:Option Addr} {xs:List Value} (h:Lies w a xs) (n:Nat):Lies (w.drewN n) a xs:=h
theorem Lies.only {w w':World} {a:Option Addr} {xs:List Value} {F:List Nat} (h:Lies w a xs) (ho:Only F w w') (hn:∀g,blk a=some g->g∉F):Lies w' a xs:=by
 rcases h with h|⟨g,off,rfl,hg,hc⟩
 ·exact .inl h
 ·exact Lies.keep (.inr ⟨g,off,rfl,hg,hc⟩) ho.size (λq hq=>by cases hq;exact ho.block g hg (hn g rfl))
theorem Lies.take {w:World} {a:Option Addr} {xs:List Value} (h:Lies w a xs) (n:Nat):Lies w a (xs.take n):=by
 rcases h with h|⟨g,off,rfl,hg,hc⟩
 ·exact .inl (by rw[h];simp)
 ·exact .inr ⟨g,off,rfl,hg,λi u hu=>hc i u (by
   rw[List.getElem?_take]at hu
   split at hu
   ·exact hu
   ·cases hu)⟩
theorem Lies.drop {w:World} {g off:Nat} {xs:List Value} (h:Lies w (some ⟨g,off,none⟩) xs) (n:Nat):Lies w (some ⟨g,off+n,none⟩) (xs.drop n):=by
 rcases h with h|⟨g',off',e,hg,hc⟩
 ·exact .inl (by rw[h];simp)
 ·cases e
  exact .inr ⟨g,off+n,rfl,hg,λi u hu=>by
   rw[List.getElem?_drop]at hu;have:=hc (n+i) u hu
   rwa [<-Nat.add_assoc]at this⟩
theorem own_shape {w:World} {base:Nat} {e:TypeId} {size n:Nat} {v:Value} {xs:List Value} (h:w.ownsRow base e size v n xs):∃a cap,v=.slice a n cap/\n<=cap/\Lies w a xs/\(∀g,blk a=some g->base<=g/\g<w.heap.size)/\v.ownBlock=blk a:=by
 rcases h.2 with⟨rfl,rfl⟩|⟨g,cap,cur,rfl,r⟩
 ·exact⟨none,0,rfl,Nat.le_refl _,.inl (List.eq_nil_of_length_eq_zero (by rw[h.1,Nat.zero_mul])),(λg hg=>by cases hg),rfl⟩
 ·refine⟨some ⟨g,0,none⟩,cap,rfl,r.2.2.1,.inr ⟨g,0,rfl,(h.lt g rfl).2,λj u hj=>?_⟩,(λq hq=>by cases hq;exact h.lt g rfl),rfl⟩;have:=h.cells (g:=g) rfl j u hj;have e: (⟨g,0,none⟩:Addr).add j=⟨g,j,none⟩:=by unfold Addr.add;split <;> simp_all
  rw[e]at this;rw[Nat.zero_add];exact this
theorem own_mono {w:World} {base base':Nat} {e:TypeId} {size n:Nat} {v:Value} {xs:List Value} (h:w.ownsRow base e size v n xs) (hb:base'<=base):w.ownsRow base' e size v n xs:=by
 refine⟨h.1,?_⟩;rcases h.2 with h0|⟨g,cap,cur,rfl,hg,r⟩
 ·exact .inl h0
 ·exact .inr ⟨g,cap,cur,rfl,Nat.le_trans hb hg,r⟩
theorem own_below {w w':World} {B base:Nat} {e:TypeId} {size n:Nat} {v:Value} {xs:List Value} (h:w.ownsRow base e size v n xs) (hB:Below B w w') (hl:∀q,v.ownBlock=some q->q<B):w'.ownsRow base e size v n xs:=by
 refine⟨h.1,?_⟩;rcases h.2 with h0|⟨g,cap,cur,rfl,hg,hgg,r⟩
 ·exact .inl h0
 ·exact .inr ⟨g,cap,cur,rfl,hg,(hB.block g (hl g rfl)).trans hgg,r⟩
theorem own_later {w w':World} {base:Nat} {e:TypeId} {size n:Nat} {v:Value} {xs:List Value} (h:w.ownsRow base e size v n xs) (hB:Below w.heap.size w w'):w'.ownsRow base e size v n xs:=own_below h hB (λq hq=>(h.lt q hq).2)
theorem own_apart {w:World} {b1 b2:Nat} {e1 e2:TypeId} {s1 s2 n1 n2:Nat} {v1 v2:Value} {xs ys:List Value} (h1:w.ownsRow b1 e1 s1 v1 n1 xs) (h2:w.ownsRow b2 e2 s2 v2 n2 ys) (hne:e1≠e2):v1.ownBlock=none\/v1.ownBlock≠v2.ownBlock:=by
 rcases h1.2 with⟨rfl,_⟩|⟨g1,c1,cur1,rfl,_,hb1,_⟩
 ·exact .inl rfl
 ·right
  rcases h2.2 with⟨rfl,_⟩|⟨g2,c2,cur2,rfl,_,hb2,_⟩
  ·intro e;cases e
  ·intro e;have e:g1=g2:=by simpa[Value.ownBlock]using e
   subst e;rw[hb1]at hb2;injection hb2 with hb2;injection hb2 with _ ht;exact hne ht
theorem own_ne_blk {w:World} {b1:Nat} {e1 t:TypeId} {s1 n1 g:Nat} {v1:Value} {xs:List Value} {cs:Array Value} (h1:w.ownsRow b1 e1 s1 v1 n1 xs) (h2:Blk w g t cs) (hne:e1≠t):v1.ownBlock≠some g:=by
 rcases h1.2 with⟨rfl,_⟩|⟨g1,c1,cur1,rfl,_,hb1,_⟩
 ·intro e;cases e
 ·intro e;have e:g1=g:=by simpa[Value.ownBlock]using e
  subst e;unfold Blk at h2;rw[hb1]at h2;injection h2 with h2;injection h2 with _ ht;exact hne ht
theorem own_past {w:World} {b1:Nat} {e1 t:TypeId} {s1 n1 g:Nat} {v1:Value} {xs:List Value} {cs:Array Value} (h1:w.ownsRow b1 e1 s1 v1 n1 xs) (h2:Blk w g t cs) (hne:e1≠t) (i:Nat) (u:Value): (w.setCell ⟨g,i,none⟩ u).ownsRow b1 e1 s1 v1 n1 xs:=own_far h1 (own_ne_blk h1 h2 hne) u
theorem own_empty (w:World) (e:TypeId) (size:Nat): (w.alloc (.cells #[] e)).ownsRow w.heap.size e size (.slice (some ⟨w.heap.size,0,none⟩) 0 0) 0 []:=World.ownsRow_lit w #[] 0 jn (by decide) (by simp)
theorem lies_add {w:World} {a:Addr} {xs:List Value} (h:Lies w (some a) xs):∀j u,xs[j]? =some u->w.cell? (a.add j)=some u:=λj u hu=>by
 rcases h with rfl|⟨g,off,e,_,hc⟩
 ·simp at hu
 ·cases e;have e: (⟨g,off,none⟩:Addr).add j=⟨g,off+j,none⟩:=by unfold Addr.add;split <;> simp_all
  rw[e];exact hc j u hu
theorem oneCell_bytes (bs:List UInt8):∀u∈bs.map bv,u.oneCell'=true:=λu hu=>by
 obtain⟨b,_,rfl⟩:=List.mem_map.1 hu
 rfl
theorem infoB8: (Tryz.prog.info? 5).map (λi=>(i.zero,i.size,i.bytes))=some (some (.int .u8 0),1,1):=by kernel_rfl
theorem bv_at {bs:List UInt8} {i:Nat} {x:UInt8} (h:bs[i]? =some x): (bs.map bv)[i]? =some (bv x):=by simp[h]
theorem new_lies (w:World) (t:TypeId) (cs:Array Value):Lies (w.alloc (.cells cs t)) (some ⟨w.heap.size,0,none⟩) cs.toList:=.inr ⟨w.heap.size,0,rfl,by simp,λi u hu=>by
 rw[Nat.zero_add,(Blk.new w t cs).cell i]
 simpa using hu⟩
end Mem
namespace Mem
open Go.RowKit
structure Upon (P:Nat->Prop) (w w':World):Prop where
 os:w'.os=w.os
 tape:w'.tape=w.tape
 output:w'.output=w.output
 size:w.heap.size<=w'.heap.size
 block:∀k,k<w.heap.size->¬P k->w'.heap[k]? =w.heap[k]?
theorem Upon.refl (P:Nat->Prop) (w:World):Upon P w w:=⟨rfl,rfl,rfl,Nat.le_refl _,λ_ _ _=>rfl⟩
theorem Upon.trans {P Q:Nat->Prop} {a b c:World} (h:Upon P a b) (k:Upon Q b c) (hs:∀g,Q g->P g\/a.heap.size<=g):Upon P a c:=
 ⟨k.os.trans h.os,k.tape.trans h.tape,k.output.trans h.output,Nat.le_trans h.size k.size,λi hi hn=>(k.block i (Nat.lt_of_lt_of_le hi h.size) (λhq=>(hs i hq).elim hn (λhg=>by omega))).trans (h.block i hi hn)⟩
theorem Upon.mono {P Q:Nat->Prop} {w w':World} (h:Upon P w w') (hs:∀k,P k->Q k):Upon Q w w':=⟨h.os,h.tape,h.output,h.size,λk hk hn=>h.block k hk (λhp=>hn (hs k hp))⟩
theorem Upon.of_only {P:Nat->Prop} {F:List Nat} {w w':World} (h:Only F w w') (hF:∀g∈F,P g\/w.heap.size<=g):Upon P w w':=
 ⟨h.os,h.tape,h.output,h.size,λk hk hn=>h.block k hk (λhm=>(hF k hm).elim hn (λhg=>by omega))⟩
theorem Upon.of_below {P:Nat->Prop} {w w':World} (h:Below w.heap.size w w'):Upon P w w':=⟨h.os,h.tape,h.output,h.size,λk hk _=>h.block k hk⟩
theorem Upon.of_grown {P:Nat->Prop} {w w':World} {row:Option Nat} (h:w.grownBy w' row) (hr:∀g,row=some g->P g\/w.heap.size<=g):Upon P w w':=Upon.of_only (F:=row.toList) (Only.of_grown h (λg hg=>.inl (by rw[hg];simp))) (λg hg=>hr g (by simpa using hg))
theorem Upon.below {P:Nat->Prop} {B:Nat} {w w':World} (h:Upon P w w') (hB:B<=w.heap.size) (hs:∀g,P g->B<=g):Below B w w':=
 ⟨h.os,h.tape,h.output,h.size,λk hk=>h.block k (by omega) (λhm=>by have:=hs k hm;omega)⟩
theorem Upon.drew {P:Nat->Prop} {a w:World} (h:Upon P a w):Upon P a w.drew:=⟨h.os,h.tape,h.output,h.size,h.block⟩
theorem Upon.drewN {P:Nat->Prop} {a w:World} (h:Upon P a w) (n:Nat):Upon P a (w.drewN n):=⟨h.os,h.tape,h.output,h.size,h.block⟩
theorem Upon.set {P:Nat->Prop} {a w:World} (h:Upon P a w) {p:Addr} (hp:P p.block\/a.heap.size<=p.block) (u:Value):Upon P a (w.setCell p u):=
 ⟨h.os,h.tape,h.output,by simpa[World.setCell]using h.size,λi hi hne=>(Below.heap_setCell w p u i (by
  rintro rfl;rcases hp with hp|hp
  ·exact hne hp
  ·omega)).trans (h.block i hi hne)⟩
theorem Upon.alloc {P:Nat->Prop} {a w:World} (h:Upon P a w) (o:Obj):Upon P a (w.alloc o):=
 ⟨h.os,h.tape,h.output,Nat.le_trans h.size (by simp),λi hi hne=>(Below.heap_alloc w o i (Nat.lt_of_lt_of_le hi h.size)).trans (h.block i hi hne)⟩
theorem Blk.upon {P:Nat->Prop} {w w':World} {g:Nat} {t:TypeId} {cs:Array Value} (h:Blk w g t cs) (hb:Upon P w w') (hg:¬P g):Blk w' g t cs:=(hb.block g h.lt hg).trans h
theorem own_upon {P:Nat->Prop} {w w':World} {base:Nat} {e:TypeId} {size:Nat} {v:Value} {n:Nat} {xs:List Value} (h:w.ownsRow base e size v n xs) (hb:Upon P w w') (hv:∀g,v.ownBlock=some g->¬P g):w'.ownsRow base e size v n xs:=by
 refine⟨h.1,?_⟩;rcases h.2 with h0|⟨g,cap,cur,rfl,hg,hgg,r⟩
 ·exact .inl h0
 ·exact .inr ⟨g,cap,cur,rfl,hg,(hb.block g (h.lt g rfl).2 (hv g rfl)).trans hgg,r⟩
theorem Lies.upon {P:Nat->Prop} {w w':World} {a:Option Addr} {xs:List Value} (h:Lies w a xs) (hb:Upon P w w') (hv:∀g,blk a=some g->¬P g):Lies w' a xs:=by
 rcases h with h|⟨g,off,rfl,hg,hc⟩
 ·exact .inl h
 ·exact Lies.keep (.inr ⟨g,off,rfl,hg,hc⟩) hb.size (λq hq=>by cases hq;exact hb.block g hg (hv g rfl))
end Mem
end Go.Proofs.YtfgjnpbffppocaaGreatDoor
