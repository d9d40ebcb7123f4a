/- Part. -/
import Derived.Test.YtcdcnhecimajkaaGreatDoorF0
import Derived.Test.YtcdcnhecimajkaaGreatDoorF0Q
import Derived.Test.YtcdcnhecimajkaaGreatDoorF6
import Derived.RangeFuncBox
import Derived.RangeFuncLeaves
import Derived.RangeFuncBound
import Derived.RangeFuncNested
import Derived.Shelf.Abstract
import Derived.OwnWalkIn
import Derived.TacticsInMore
import Derived.LoopNIn
import Derived.LoopIn
import Derived.Outline
set_option maxHeartbeats 2000000
set_option maxRecDepth 100000
namespace Go.Proofs.YtcdcnhecimajkaaGreatDoor
namespace Runs
open Go.RowKit Go.Deep Go.Shelf Mem Crc Merge
attribute [local go_sem] Oper.semAt_some
abbrev SL:=Option Addr×Nat×Nat
def sl (x:SL):Value:=.slice x.1 x.2.1 x.2.2
theorem values1_in (F:Fence) (n:Nat) (h7:F.fn 114) (hro:F.round=none) (hn:1<=n) (l Bs:Nat) {w0:World} {a:Option Addr} {c:Nat} {vs:List SL} (hL:Lies w0 a (vs.map sl)) (_:vs.length<=c) (hmax:vs.length<=1000000) (J Jx:List SL->World->Prop)
  (hY:∀pre x W,J pre W->pre.length<vs.length->YieldAt F (n-1) Tryz.prog l #[sl x] W λe W'=>
   (e=.returned (.bool true)/\J (pre++ [x]) W'/\Below w0.heap.size W W')\/(e=.returned (.bool false)/\Jx (pre++ [x]) W'))
  (W:World) (hB:Below w0.heap.size w0 W) (hcs:W.cell? ⟨Bs,0,none⟩=some (.slice a vs.length c)) (h0:J [] W):
  CallsIn F n Tryz.prog 114 #[.func (.yield l) #[] #[],.pointer (some ⟨Bs,0,none⟩)] W λe W'=>(∃v,e=.returned v)/\
   ((∃ys,ys=vs/\J ys W')\/(∃pre,(∃k,k<=vs.length/\pre=vs.take k)/\Jx pre W')):=by
 have HL:=jq hL;clear hL;refine callsIn_of_wp Tryz.func114 rfl h7 ?_ hro;simp only[Tryz.ntmps114,List.size_toArray,List.length_cons,List.length_nil,Nat.reduceAdd,Nat.reduceSub,Array.replicate_succ,Array.replicate_zero,List.push_toArray,List.append_toArray,List.nil_append,List.cons_append]
 gi_wp2
 gi_loopw [7] (λi wr=>∃k:Nat,k<=vs.length/\i=.int .i64 k/\J (vs.take k) wr/\Below w0.heap.size W wr)
  (λi _=>vs.length-(intOf i).toNat)
 case atStart=>exact⟨0,Nat.zero_le _,rfl,by simpa using h0,Below.refl _ _⟩
 case round=>
  obtain⟨k,hk,rfl,hJs,hnx⟩:=hrel
  by_cases hlt:k<vs.length
  ·have hlr:=HL.out.later (hB.trans hnx);obtain⟨x,hx⟩:∃x,vs[k]? =some x:=⟨vs[k],jg hlt⟩;have hmap: (vs.map sl)[k]? =some (sl x):=by simp[hx]
   obtain⟨g,off,ea,_,hcell⟩:∃g off,a=some ⟨g,off,none⟩/\g<wr.heap.size/\∀i u,(vs.map sl)[i]? =some u->wr.cell? ⟨g,off+i,none⟩=some u:=by
    rcases hlr with e|h
    ·rw[e]at hmap;cases hmap
    ·exact h
   have hck:=hcell k _ hmap;have hw:RowKit.wrap64 ((k:Int)+1)=(k:Int)+1:=IntWalk.wrap64_in _ (by omega);have hyes:vs.take (k+1)=vs.take k++ [x]:=by rw[List.take_add_one,hx];rfl
   obtain⟨fn,tmps,assign,body,hy,hR⟩:=hY _ x wr hJs (by simp;omega);have HYS:=jq hyes;have HX:=jq hnx;have HE:=jq ea;clear hyes hnx hcell hmap hx hlr;subst a;unfold sl at hck hy;obtain⟨xa,xn,xc⟩:=x;dsimp only at hck hy
   gi_wp2
   refine hR.mono ?_;rintro e W3 (⟨rfl,hJ3,hk3⟩|⟨rfl,hJx3⟩)
   ·gi_wp2
    go_roundw
    case rel=>exact⟨k+1,by omega,by simp,by rw[HYS.out];exact hJ3,HX.out.trans hk3⟩
    case measure=>simp[intOf];omega
   ·gi_wp2
    refine bodyPost_ret (results_none rfl _ _ _) rfl ?_;exact⟨⟨_,rfl⟩,.inr ⟨_,⟨k+1,by omega,HYS.out.symm⟩,hJx3⟩⟩
  ·obtain rfl:k=vs.length:=by omega
   rw[List.take_length]at hJs
   gi_wp2
   go_end0
   exact⟨⟨_,rfl⟩,.inl ⟨_,rfl,hJs⟩⟩
theorem values_in (F:Fence) (n:Nat) (h5:F.fn 75) (hro:F.round=none) (a:Option Addr) (len c:Nat) (w:World):
  CallsIn F n Tryz.prog 75 #[.slice a len c] w λe w'=>e=.returned (.func (.func 114) #[] #[.pointer (some ⟨w.heap.size,0,none⟩)])/\w'=w.alloc (.cells #[.slice a len c] 25):=by
 refine callsIn_of_wp Tryz.func75 rfl h5 ?_ hro;simp only[Tryz.ntmps75,List.size_toArray,List.length_cons,List.length_nil,Nat.reduceAdd,Nat.reduceSub,Array.replicate_succ,Array.replicate_zero,List.push_toArray,List.append_toArray,List.nil_append,List.cons_append]
 gi_wp2
 go_ret
 exact⟨rfl,rfl⟩
theorem values_gives (F:Fence) (n:Nat) (h8:F.fn 114) (hro:F.round=none) (hn:1<=n) (Bs:Nat) {w0 w:World} {a:Option Addr} {c:Nat} {vs:List SL} (hL:Lies w0 a (vs.map sl)) (hlc:vs.length<=c) (hmax:vs.length<=1000000) (hB:Below w0.heap.size w0 w) (hBs:Bs<w.heap.size)
  (hc:w.cell? ⟨Bs,0,none⟩=some (.slice a vs.length c)):
  SeqStopsK F n Tryz.prog 114 #[.pointer (some ⟨Bs,0,none⟩)] (λx:SL=>#[sl x]) (Below w0.heap.size) (λys=>ys=vs)
   (λpre=>∃k,k<=vs.length/\pre=vs.take k) vs.length w:=λl J Jx W hW _ _ hY h0=>
 values1_in F n h8 hro hn l Bs hL hlc hmax J Jx (λpre x W1 hj hl=>hY pre x W1 hj hl) W (hB.trans (hW.mono hB.size)) ((hW.cell (p:=⟨Bs,0,none⟩) hBs).trans hc) h0
end Runs
end Go.Proofs.YtcdcnhecimajkaaGreatDoor
