/- Part. -/
import Derived.Test.YtndkohocgfmamaaGreatDoorF5
import Derived.Deep.RegionHeldLaw
import Derived.Deep.AppendLies
namespace Go.Proofs.YtndkohocgfmamaaGreatDoor
open Go.Proofs.Tryz
namespace Dk
open Go.RowKit Go.Deep Mem Crc
structure DM where
 bl:List (List UInt8)
 wt:List (Nat×List UInt8)
 off:Bool
 aM:Int
def DM.deed(m:DM):DM×Int:=if m.aM=0 then({m with off:=true},6)else if 0<m.aM then({m with aM:=m.aM-1},0)else(m,0)
def DM.write(m:DM)(i:Nat)(b:List UInt8):DM×Int:=if m.aM=0 then(m.deed.1,6)else({m.deed.1 with wt:=m.wt++ [(i,b)]},0)
def puts(bl:List (List UInt8))(ws:List (Nat×List UInt8)):List (List UInt8):=ws.foldl (λl x=>l.set x.1 x.2) bl
def DM.sync(m:DM):DM×Int:=if m.aM=0 then(m.deed.1,6)else({m.deed.1 with bl:=puts m.bl m.wt,wt:=[]},0)
def lG(l:List (List UInt8)):List Value:=l.flatMap (λb=>b.map bv)
def iC(l:List (Nat×List UInt8)):List Value:=l.flatMap (λx=>Value.int .i64 (x.1:Int)::x.2.map bv)
theorem yL:∀{l:List (List UInt8)},(∀b∈l,b.length=128)->(lG l).length=l.length*128
 | [],_=>rfl
 |b ::r,h=>by
  have:=yL (l:=r) (λx c=>h x (by simp[c]));have a:=h b (by simp);unfold lG at this⊢;simp only[jC,jL,jP,List.length_cons,a,this]
  omega
theorem Cn:∀{l:List (Nat×List UInt8)},(∀x∈l,x.2.length=128)->(iC l).length=l.length*129
 | [],_=>rfl
 |b ::r,h=>by
  have:=Cn (l:=r) (λx c=>h x (by simp[c]));have a:=h b (by simp);unfold iC at this⊢;simp only[jC,jL,jP,List.length_cons,a,this]
  omega
theorem Ke(l:List (Nat×List UInt8))(i:Nat)(b:List UInt8):iC (l++ [(i,b)])=iC l++(Value.int .i64 (i:Int)::b.map bv):=by unfold iC;simp
variable {w w':World}{d g:Nat}{wv:Value}{m:DM}
theorem qN{base:Nat}{e:TypeId}{size:Nat}{v:Value}{n:Nat}{xs:List Value}(h:w.ownsRow base e size v n xs)(f:∀g,v.ownBlock=some g->w'.heap[g]? =w.heap[g]?):w'.ownsRow base e size v n xs:=by
 refine⟨h.1,?_⟩;rcases h.2 with a|⟨g,cap,cur,rfl,b,c,r⟩
 ·exact .inl a
 ·exact .inr ⟨g,cap,cur,rfl,b,(f g rfl).trans c,r⟩
structure Dk(w:World)(d g:Nat)(wv:Value)(m:DM):Prop where
 disk:Blk w d 105 #[.slice (some ⟨g,0,none⟩) m.bl.length m.bl.length,wv,.bool m.off,.int .i64 m.aM]
 row:Blk w g 220 (lG m.bl).toArray
 wt:w.ownsRow 0 222 129 wv m.wt.length (iC m.wt)
 len:∀b∈m.bl,b.length=128
 mJ:∀x∈m.wt,x.1<m.bl.length/\x.2.length=128
 f0: -9223372036854775808<=m.aM
 f1:m.aM<=9223372036854775807
 small:m.bl.length<=65536
 nil:m.wt= []->wv=.slice none 0 0
def Has(d g:Nat)(wv:Value)(k:Nat):Prop:=k=d\/k=g\/wv.ownBlock=some k
theorem Dk.lt{w:World}{d g:Nat}{wv:Value}{m:DM}(h:Dk w d g wv m):∀k,Has d g wv k->k<w.heap.size:=λk a=>by
 rcases a with rfl|rfl|a
 ·exact h.disk.lt
 ·exact h.row.lt
 ·exact(h.wt.lt k a).2
theorem Dk.keep(h:Dk w d g wv m)(_:w.heap.size<=w'.heap.size)(a:∀k,Has d g wv k->w'.heap[k]? =w.heap[k]?):Dk w' d g wv m:=
 ⟨(a d (.inl rfl)).trans h.disk,(a g (.inr (.inl rfl))).trans h.row,qN h.wt (λq hq=>a q (.inr (.inr hq))),h.len,h.mJ,h.f0,h.f1,h.small,h.nil⟩
theorem Dk.later(h:Dk w d g wv m)(a:Below w.heap.size w w'):Dk w' d g wv m:=h.keep a.size (λk b=>a.block k (h.lt k b))
theorem Dk.upon{P:Nat->Prop}(h:Dk w d g wv m)(a:Upon P w w')(c:∀k,P k->¬Has d g wv k):Dk w' d g wv m:=h.keep a.size (λk b=>a.block k (h.lt k b) (λe=>c k e b))
theorem Dk.dg(h:Dk w d g wv m):d≠g:=h.disk.ne h.row (by decide)
theorem Dk.wd(h:Dk w d g wv m):wv.ownBlock≠some d:=aV h.wt h.disk (by decide)
theorem Dk.wg(h:Dk w d g wv m):wv.ownBlock≠some g:=aV h.wt h.row (by decide)
theorem Dk.cells(h:Dk w d g wv m):w.cell? ⟨d,0,none⟩=some (.slice (some ⟨g,0,none⟩) m.bl.length m.bl.length)/\w.cell? ⟨d,1,none⟩=some wv/\w.cell? ⟨d,2,none⟩=some (.bool m.off)/\w.cell? ⟨d,3,none⟩=some (.int .i64 m.aM):=by
 refine⟨?_,?_,?_,?_⟩ <;> rw[h.disk.cell] <;> rfl
theorem mK(h:Dk w d g wv m):
  Calls prog 46 #[.pointer (some ⟨d,0,none⟩)] w λe w'=>e=.returned (.int .i64 (m.bl.length:Int))/\w'=w:=by
 obtain⟨b,_,_,_⟩:=h.cells;obtain⟨n,a⟩:=jl m.bl.length;rw[<-a]at b⊢;clear h a
 go_enter func46,ntmps46
 go_wp2_with fail
 go_ret
 exact⟨rfl,rfl⟩
theorem qO(h:Dk w d g wv m):
  Calls prog 92 #[.pointer (some ⟨d,0,none⟩)] w λe w'=>e=.returned (.bool !m.off)/\w'=w:=by
 obtain⟨_,_,c2,_⟩:=h.cells;obtain⟨off,a⟩:=jl m.off;rw[<-a]at c2⊢;clear h a
 go_enter func92,ntmps92
 cases off
 ·go_wp2_with fail
  go_ret
  exact⟨rfl,rfl⟩
 ·go_wp2_with fail
  go_ret
  exact⟨rfl,rfl⟩
theorem yM(i:Int)(h:Dk w d g wv m):
  Calls prog 166 #[.pointer (some ⟨d,0,none⟩),.int .i64 i] w λe w'=>e=.returned (.bool (decide (0<=i)&&decide (i<m.bl.length)))/\w'=w:=by
 have b:=jq (mK h);obtain⟨n,c⟩:=jl m.bl.length;rw[<-c]at b⊢;clear h c
 by_cases a:0<=i
 ·have hd:decide (0<=i)=true:=by simpa using a
  go_enter func166,ntmps166
  go_wp2_with fail
  refine b.out.mono ?_;rintro e w1 ⟨rfl,rfl⟩
  go_wp2_with fail
  go_ret
  exact⟨by simp[a],rfl⟩
 ·have hd:decide (0<=i)=false:=by simpa using a
  go_enter func166,ntmps166
  go_wp2_with fail
  go_ret
  exact⟨by simp,rfl⟩
def qP(m:DM)(i:Int):Int:=if m.off then 6 else if 0<=i/\i<m.bl.length then 0 else 9
theorem mH(i:Int)(h:Dk w d g wv m):
  Calls prog 129 #[.pointer (some ⟨d,0,none⟩),.int .i64 i] w λe w'=>e=.returned (.int .i64 (qP m i))/\w'=w:=by
 have a:=jq (qO h);have b:=jq (yM i h);unfold qP;obtain⟨n,f⟩:=jl m.bl.length;obtain⟨off,j⟩:=jl m.off;rw[<-f]at b⊢;rw[<-j]at a⊢;clear h f j
 cases off with
 |true=>
  go_enter func129,ntmps129
  go_wp2_with fail
  refine a.out.mono ?_;rintro e w1 ⟨rfl,rfl⟩
  go_wp2_with fail
  go_ret
  exact⟨rfl,rfl⟩
 |false=>
  obtain⟨q,hq⟩:=jl ((decide (0<=i)&&decide (i<(n:Int))));have c: (if 0<=i/\i<(n:Int)then(0:Int)else 9)=if q then 0 else 9:=by rw[hq];simp
  rw[<-hq]at b;simp only[Bool.false_eq_true,if_false];rw[c];clear c hq
  cases q with
  |true=>
   go_enter func129,ntmps129
   go_wp2_with fail
   refine a.out.mono ?_;rintro e w1 ⟨rfl,rfl⟩
   go_wp2_with fail
   refine b.out.mono ?_;rintro e w1 ⟨rfl,rfl⟩
   go_wp2_with fail
   go_ret
   exact⟨rfl,rfl⟩
  |false=>
   go_enter func129,ntmps129
   go_wp2_with fail
   refine a.out.mono ?_;rintro e w1 ⟨rfl,rfl⟩
   go_wp2_with fail
   refine b.out.mono ?_;rintro e w1 ⟨rfl,rfl⟩
   go_wp2_with fail
   go_ret
   exact⟨rfl,rfl⟩
theorem Co(h:Dk w d g wv m):
  Calls prog 130 #[.pointer (some ⟨d,0,none⟩)] w λe w'=>e=.returned (.int .i64 m.deed.2)/\Dk w' d g wv m.deed.1/\Only [d] w w':=by
 obtain⟨o,c1,c2,q⟩:=h.cells;have v:=h.disk.frozen 2;have x:=h.disk.frozen 3;have c:∀i u,Blk (w.setCell ⟨d,i,none⟩ u) g 220 (lG m.bl).toArray/\(w.setCell ⟨d,i,none⟩ u).ownsRow 0 222 129 wv m.wt.length (iC m.wt):=λi u=>⟨h.row.far (gL h.dg) u,dU h.wt h.wd u⟩
 by_cases a:m.aM=0
 ·have b:m.deed=({m with off:=true},6):=by unfold DM.deed;rw[if_pos a]
  rw[b];have hb:=h.disk.set 2 (.bool true);have hd:Dk (w.setCell ⟨d,2,none⟩ (.bool true)) d g wv {m with off:=true}:=⟨hb,(c _ _).1,(c _ _).2,h.len,h.mJ,h.f0,h.f1,h.small,h.nil⟩;have f:=jq hd;have n:Only [d] w (w.setCell ⟨d,2,none⟩ (.bool true)):=(Only.refl [d] w).set (p:=⟨d,2,none⟩) (.inl (by simp)) (.bool true);rw[a]at q;clear c h hb hd b a o c1
  go_enter func130,ntmps130
  go_wp2_with fail
  go_ret
  exact⟨rfl,f.out,n⟩
 ·have r: (m.aM==0)=false:=by simpa using a
  by_cases j:0<m.aM
  ·have b:m.deed=({m with aM:=m.aM-1},0):=by unfold DM.deed;rw[if_neg a,if_pos j]
   rw[b];have hb:=h.disk.set 3 (.int .i64 (m.aM-1));have hd:Dk (w.setCell ⟨d,3,none⟩ (.int .i64 (m.aM-1))) d g wv {m with aM:=m.aM-1}:=⟨hb,(c _ _).1,(c _ _).2,h.len,h.mJ,by have:=h.f0;show _<=m.aM-1;omega,by have:=h.f1;show m.aM-1<=_;omega,h.small,h.nil⟩;have f:=jq hd;have n:Only [d] w (w.setCell ⟨d,3,none⟩ (.int .i64 (m.aM-1))):=(Only.refl [d] w).set (p:=⟨d,3,none⟩) (.inl (by simp)) (.int .i64 (m.aM-1));have f1:=h.f1;obtain⟨k,l⟩:=jl m.aM;rw[<-l]at q r j f1 f n⊢;have s:decide (0<k)=true:=by simpa using j
   have t:RowKit.wrap64 (k-1)=k-1:=IntWalk.wrap64_in _ (by omega);clear c h hb hd b a o c1 l
   go_enter func130,ntmps130
   go_wp2_with fail
   go_ret
   exact⟨rfl,f.out,n⟩
  ·have b:m.deed=(m,0):=by unfold DM.deed;rw[if_neg a,if_neg j]
   rw[b];have f:=jq h;obtain⟨k,l⟩:=jl m.aM;rw[<-l]at q r j;have s:decide (0<k)=false:=by simpa using j
   clear c h b a o c1 l
   go_enter func130,ntmps130
   go_wp2_with fail
   go_ret
   exact⟨rfl,f.out,Only.refl _ _⟩
end Dk
end Go.Proofs.YtndkohocgfmamaaGreatDoor
