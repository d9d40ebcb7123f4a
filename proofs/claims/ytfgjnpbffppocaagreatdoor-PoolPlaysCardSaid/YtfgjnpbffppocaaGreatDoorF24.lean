/- Part. -/
import Derived.Test.YtfgjnpbffppocaaGreatDoorF0
import Derived.Test.YtfgjnpbffppocaaGreatDoorF0Q
import Derived.Test.YtfgjnpbffppocaaGreatDoorF2
import Derived.Test.YtfgjnpbffppocaaGreatDoorF4
import Derived.Deep.RegionHeld3
import Derived.Deep.RegionHeldLaw
import Derived.Deep.RegionLaw
import Derived.Deep.AppendLies
import Derived.Outline
namespace Go.Proofs.YtfgjnpbffppocaaGreatDoor
namespace Dk
open Go.RowKit Go.Deep Mem Crc
structure DM where
 bl:List (List UInt8)
 wt:List (Nat×List UInt8)
 off:Bool
 fuse:Int
def DM.deed (m:DM):DM×Int:=if m.fuse=0 then({m with off:=true},6)else if 0<m.fuse then({m with fuse:=m.fuse-1},0)else(m,0)
def DM.write (m:DM) (i:Nat) (b:List UInt8):DM×Int:=if m.fuse=0 then(m.deed.1,6)else({m.deed.1 with wt:=m.wt++ [(i,b)]},0)
def puts (bl:List (List UInt8)) (ws:List (Nat×List UInt8)):List (List UInt8):=ws.foldl (λl x=>l.set x.1 x.2) bl
def DM.sync (m:DM):DM×Int:=if m.fuse=0 then(m.deed.1,6)else({m.deed.1 with bl:=puts m.bl m.wt,wt:=[]},0)
def blC (l:List (List UInt8)):List Value:=l.flatMap (λb=>b.map bv)
def wtC (l:List (Nat×List UInt8)):List Value:=l.flatMap (λx=>Value.int .i64 (x.1:Int)::x.2.map bv)
theorem blC_length:∀{l:List (List UInt8)},(∀b∈l,b.length=128)->(blC l).length=l.length*128
 | [],_=>rfl
 |b ::r,h=>by
  have:=blC_length (l:=r) (λx hx=>h x (by simp[hx]));have h1:=h b (by simp);unfold blC at this⊢;simp only[jC,jL,jP,List.length_cons,h1,this]
  omega
theorem wtC_length:∀{l:List (Nat×List UInt8)},(∀x∈l,x.2.length=128)->(wtC l).length=l.length*129
 | [],_=>rfl
 |b ::r,h=>by
  have:=wtC_length (l:=r) (λx hx=>h x (by simp[hx]));have h1:=h b (by simp);unfold wtC at this⊢;simp only[jC,jL,jP,List.length_cons,h1,this]
  omega
theorem wtC_snoc (l:List (Nat×List UInt8)) (i:Nat) (b:List UInt8):wtC (l++ [(i,b)])=wtC l++(Value.int .i64 (i:Int)::b.map bv):=by unfold wtC;simp
theorem own_keep {w w':World} {base:Nat} {e:TypeId} {size:Nat} {v:Value} {n:Nat} {xs:List Value} (h:w.ownsRow base e size v n xs) (hk:∀g,v.ownBlock=some g->w'.heap[g]? =w.heap[g]?):w'.ownsRow base e size v n xs:=by
 refine⟨h.1,?_⟩;rcases h.2 with h0|⟨g,cap,cur,rfl,hg,hgg,r⟩
 ·exact .inl h0
 ·exact .inr ⟨g,cap,cur,rfl,hg,(hk g rfl).trans hgg,r⟩
structure Dk (w:World) (d g:Nat) (wv:Value) (m:DM):Prop where
 disk:Blk w d 97 #[.slice (some ⟨g,0,none⟩) m.bl.length m.bl.length,wv,.bool m.off,.int .i64 m.fuse]
 row:Blk w g 192 (blC m.bl).toArray
 wt:w.ownsRow 0 194 129 wv m.wt.length (wtC m.wt)
 len:∀b∈m.bl,b.length=128
 wlen:∀x∈m.wt,x.1<m.bl.length/\x.2.length=128
 f0: -9223372036854775808<=m.fuse
 f1:m.fuse<=9223372036854775807
 small:m.bl.length<=65536
 nil:m.wt= []->wv=.slice none 0 0
def Has (d g:Nat) (wv:Value) (k:Nat):Prop:=k=d\/k=g\/wv.ownBlock=some k
theorem Dk.lt {w:World} {d g:Nat} {wv:Value} {m:DM} (h:Dk w d g wv m):∀k,Has d g wv k->k<w.heap.size:=λk hk=>by
 rcases hk with rfl|rfl|hk
 ·exact h.disk.lt
 ·exact h.row.lt
 ·exact(h.wt.lt k hk).2
theorem Dk.keep {w w':World} {d g:Nat} {wv:Value} {m:DM} (h:Dk w d g wv m) (_:w.heap.size<=w'.heap.size) (hk:∀k,Has d g wv k->w'.heap[k]? =w.heap[k]?):Dk w' d g wv m:=
 ⟨(hk d (.inl rfl)).trans h.disk,(hk g (.inr (.inl rfl))).trans h.row,own_keep h.wt (λq hq=>hk q (.inr (.inr hq))),h.len,h.wlen,h.f0,h.f1,h.small,h.nil⟩
theorem Dk.later {w w':World} {d g:Nat} {wv:Value} {m:DM} (h:Dk w d g wv m) (hB:Below w.heap.size w w'):Dk w' d g wv m:=h.keep hB.size (λk hk=>hB.block k (h.lt k hk))
theorem Dk.upon {w w':World} {d g:Nat} {wv:Value} {m:DM} {P:Nat->Prop} (h:Dk w d g wv m) (hB:Upon P w w') (hP:∀k,P k->¬Has d g wv k):Dk w' d g wv m:=h.keep hB.size (λk hk=>hB.block k (h.lt k hk) (λhp=>hP k hp hk))
theorem Dk.dg {w:World} {d g:Nat} {wv:Value} {m:DM} (h:Dk w d g wv m):d≠g:=h.disk.ne h.row (by decide)
theorem Dk.wd {w:World} {d g:Nat} {wv:Value} {m:DM} (h:Dk w d g wv m):wv.ownBlock≠some d:=own_ne_blk h.wt h.disk (by decide)
theorem Dk.wg {w:World} {d g:Nat} {wv:Value} {m:DM} (h:Dk w d g wv m):wv.ownBlock≠some g:=own_ne_blk h.wt h.row (by decide)
theorem Dk.cells {w:World} {d g:Nat} {wv:Value} {m:DM} (h:Dk w d g wv m):w.cell? ⟨d,0,none⟩=some (.slice (some ⟨g,0,none⟩) m.bl.length m.bl.length)/\w.cell? ⟨d,1,none⟩=some wv/\w.cell? ⟨d,2,none⟩=some (.bool m.off)/\w.cell? ⟨d,3,none⟩=some (.int .i64 m.fuse):=by
 refine⟨?_,?_,?_,?_⟩ <;> rw[h.disk.cell] <;> rfl
theorem count_any {d g:Nat} {wv:Value} {m:DM} {w:World} (h:Dk w d g wv m):
  Calls Tryz.prog 48 #[.pointer (some ⟨d,0,none⟩)] w λe w'=>e=.returned (.int .i64 (m.bl.length:Int))/\w'=w:=by
 obtain⟨c0,_,_,_⟩:=h.cells;obtain⟨n,hn⟩:=jl m.bl.length;rw[<-hn]at c0⊢;clear h hn
 go_enter Tryz.func48,Tryz.ntmps48
 go_wp2_with fail
 go_ret
 exact⟨rfl,rfl⟩
theorem on_any {d g:Nat} {wv:Value} {m:DM} {w:World} (h:Dk w d g wv m):
  Calls Tryz.prog 91 #[.pointer (some ⟨d,0,none⟩)] w λe w'=>e=.returned (.bool !m.off)/\w'=w:=by
 obtain⟨_,_,c2,_⟩:=h.cells;obtain⟨off,hoff⟩:=jl m.off;rw[<-hoff]at c2⊢;clear h hoff
 go_enter Tryz.func91,Tryz.ntmps91
 cases off
 ·go_wp2_with fail
  go_ret
  exact⟨rfl,rfl⟩
 ·go_wp2_with fail
  go_ret
  exact⟨rfl,rfl⟩
theorem there_any {d g:Nat} {wv:Value} {m:DM} (i:Int) {w:World} (h:Dk w d g wv m):
  Calls Tryz.prog 141 #[.pointer (some ⟨d,0,none⟩),.int .i64 i] w λe w'=>e=.returned (.bool (decide (0<=i)&&decide (i<m.bl.length)))/\w'=w:=by
 have hC:=jq (count_any h);obtain⟨n,hn⟩:=jl m.bl.length;rw[<-hn]at hC⊢;clear h hn
 by_cases h0:0<=i
 ·have hd:decide (0<=i)=true:=by simpa using h0
  go_enter Tryz.func141,Tryz.ntmps141
  go_wp2_with fail
  refine hC.out.mono ?_;rintro e w1 ⟨rfl,rfl⟩
  go_wp2_with fail
  go_ret
  exact⟨by simp[h0],rfl⟩
 ·have hd:decide (0<=i)=false:=by simpa using h0
  go_enter Tryz.func141,Tryz.ntmps141
  go_wp2_with fail
  go_ret
  exact⟨by simp,rfl⟩
def mayE (m:DM) (i:Int):Int:=if m.off then 6 else if 0<=i/\i<m.bl.length then 0 else 9
theorem may_any {d g:Nat} {wv:Value} {m:DM} (i:Int) {w:World} (h:Dk w d g wv m):
  Calls Tryz.prog 114 #[.pointer (some ⟨d,0,none⟩),.int .i64 i] w λe w'=>e=.returned (.int .i64 (mayE m i))/\w'=w:=by
 have hC:=jq (on_any h);have hT:=jq (there_any i h);unfold mayE;obtain⟨n,hn⟩:=jl m.bl.length;obtain⟨off,hoff⟩:=jl m.off;rw[<-hn]at hT⊢;rw[<-hoff]at hC⊢;clear h hn hoff
 cases off with
 |true=>
  go_enter Tryz.func114,Tryz.ntmps114
  go_wp2_with fail
  refine hC.out.mono ?_;rintro e w1 ⟨rfl,rfl⟩
  go_wp2_with fail
  go_ret
  exact⟨rfl,rfl⟩
 |false=>
  obtain⟨q,hq⟩:=jl ((decide (0<=i)&&decide (i<(n:Int))));have he: (if 0<=i/\i<(n:Int)then(0:Int)else 9)=if q then 0 else 9:=by rw[hq];simp
  rw[<-hq]at hT;simp only[Bool.false_eq_true,if_false];rw[he];clear he hq
  cases q with
  |true=>
   go_enter Tryz.func114,Tryz.ntmps114
   go_wp2_with fail
   refine hC.out.mono ?_;rintro e w1 ⟨rfl,rfl⟩
   go_wp2_with fail
   refine hT.out.mono ?_;rintro e w1 ⟨rfl,rfl⟩
   go_wp2_with fail
   go_ret
   exact⟨rfl,rfl⟩
  |false=>
   go_enter Tryz.func114,Tryz.ntmps114
   go_wp2_with fail
   refine hC.out.mono ?_;rintro e w1 ⟨rfl,rfl⟩
   go_wp2_with fail
   refine hT.out.mono ?_;rintro e w1 ⟨rfl,rfl⟩
   go_wp2_with fail
   go_ret
   exact⟨rfl,rfl⟩
theorem deed_any {d g:Nat} {wv:Value} {m:DM} {w:World} (h:Dk w d g wv m):
  Calls Tryz.prog 115 #[.pointer (some ⟨d,0,none⟩)] w λe w'=>e=.returned (.int .i64 m.deed.2)/\Dk w' d g wv m.deed.1/\Only [d] w w':=by
 obtain⟨c0,c1,c2,c3⟩:=h.cells;have z2:=h.disk.frozen 2;have z3:=h.disk.frozen 3;have hset:∀i u,Blk (w.setCell ⟨d,i,none⟩ u) g 192 (blC m.bl).toArray/\(w.setCell ⟨d,i,none⟩ u).ownsRow 0 194 129 wv m.wt.length (wtC m.wt):=λi u=>⟨h.row.far (Ne.symm h.dg) u,own_far h.wt h.wd u⟩
 by_cases h0:m.fuse=0
 ·have he:m.deed=({m with off:=true},6):=by unfold DM.deed;rw[if_pos h0]
  rw[he];have hb:=h.disk.set 2 (.bool true);have hd:Dk (w.setCell ⟨d,2,none⟩ (.bool true)) d g wv {m with off:=true}:=⟨hb,(hset _ _).1,(hset _ _).2,h.len,h.wlen,h.f0,h.f1,h.small,h.nil⟩;have HD:=jq hd;have ho:Only [d] w (w.setCell ⟨d,2,none⟩ (.bool true)):=(Only.refl [d] w).set (p:=⟨d,2,none⟩) (.inl (by simp)) (.bool true);rw[h0]at c3;clear hset h hb hd he h0 c0 c1
  go_enter Tryz.func115,Tryz.ntmps115
  go_wp2_with fail
  go_ret
  exact⟨rfl,HD.out,ho⟩
 ·have h0': (m.fuse==0)=false:=by simpa using h0
  by_cases h1:0<m.fuse
  ·have he:m.deed=({m with fuse:=m.fuse-1},0):=by unfold DM.deed;rw[if_neg h0,if_pos h1]
   rw[he];have hb:=h.disk.set 3 (.int .i64 (m.fuse-1));have hd:Dk (w.setCell ⟨d,3,none⟩ (.int .i64 (m.fuse-1))) d g wv {m with fuse:=m.fuse-1}:=⟨hb,(hset _ _).1,(hset _ _).2,h.len,h.wlen,by have:=h.f0;show _<=m.fuse-1;omega,by have:=h.f1;show m.fuse-1<=_;omega,h.small,h.nil⟩;have HD:=jq hd;have ho:Only [d] w (w.setCell ⟨d,3,none⟩ (.int .i64 (m.fuse-1))):=(Only.refl [d] w).set (p:=⟨d,3,none⟩) (.inl (by simp)) (.int .i64 (m.fuse-1));have f1:=h.f1;obtain⟨fz,hfz⟩:=jl m.fuse;rw[<-hfz]at c3 h0' h1 f1 HD ho⊢;have hd1:decide (0<fz)=true:=by simpa using h1
   have hw:RowKit.wrap64 (fz-1)=fz-1:=IntWalk.wrap64_in _ (by omega);clear hset h hb hd he h0 c0 c1 hfz
   go_enter Tryz.func115,Tryz.ntmps115
   go_wp2_with fail
   go_ret
   exact⟨rfl,HD.out,ho⟩
  ·have he:m.deed=(m,0):=by unfold DM.deed;rw[if_neg h0,if_neg h1]
   rw[he];have HD:=jq h;obtain⟨fz,hfz⟩:=jl m.fuse;rw[<-hfz]at c3 h0' h1;have hd1:decide (0<fz)=false:=by simpa using h1
   clear hset h he h0 c0 c1 hfz
   go_enter Tryz.func115,Tryz.ntmps115
   go_wp2_with fail
   go_ret
   exact⟨rfl,HD.out,Only.refl _ _⟩
end Dk
end Go.Proofs.YtfgjnpbffppocaaGreatDoor
