/- Part. -/
import Derived.Test.YtcdcnhecimajkaaGreatDoorF0
import Derived.Test.YtcdcnhecimajkaaGreatDoorF0Q
import Derived.Test.YtcdcnhecimajkaaGreatDoorF8
import Derived.Sort.QuietIn
set_option maxHeartbeats 400000
set_option maxRecDepth 100000
namespace Go.Proofs.YtcdcnhecimajkaaGreatDoor
namespace Runs
open Go.RowKit Go.Deep Go.Shelf Mem Crc Merge
attribute [local go_sem] Oper.semAt_some
def pieces (g off wd m:Nat):List SL:=(List.range m).map λk=>(some ⟨g,off+k*wd,none⟩,wd,wd)
theorem pieces_len (g off wd m:Nat): (pieces g off wd m).length=m:=by simp[pieces]
theorem pieces_succ (g off wd k:Nat):pieces g off wd (k+1)=pieces g off wd k++ [(some ⟨g,off+k*wd,none⟩,wd,wd)]:=by simp[pieces,List.range_succ]
theorem chunk1_in (n:Nat) (hn:1<=n) (l Bs Bn:Nat) {w0:World} {g off wd m c:Nat} (hwd:0<wd) (hlc:m*wd<=c) (hmax:m*wd<=1000000) (hs0:Bs<w0.heap.size) (hn0:Bn<w0.heap.size) (J Jx:List SL->World->Prop)
  (hJ:∀s X q,J s X->J s (X.drewN q))
  (hY:∀pre x W,J pre W->pre.length<m->YieldAt Fence.wide (n-1) Tryz.prog l #[sl x] W λe W'=>
   (e=.returned (.bool true)/\J (pre++ [x]) W'/\Below w0.heap.size W W')\/(e=.returned (.bool false)/\Jx (pre++ [x]) W'))
  (W:World) (hB:Below w0.heap.size w0 W) (hcs:w0.cell? ⟨Bs,0,none⟩=some (.slice (some ⟨g,off,none⟩) (m*wd) c)) (hcn:w0.cell? ⟨Bn,0,none⟩=some (.int .i64 wd)) (h0:J [] W):
  CallsIn Fence.wide n Tryz.prog 105 #[.func (.yield l) #[] #[],.pointer (some ⟨Bs,0,none⟩),.pointer (some ⟨Bn,0,none⟩)] W λe W'=>(∃v,e=.returned v)/\
   ((∃ys,ys=pieces g off wd m/\J ys W')\/(∃pre,(∃k,k<=m/\pre=pieces g off wd k)/\Jx pre W')):=by
 obtain⟨M,hM⟩:=jl (m*wd);rw[<-hM]at hlc hcs hmax;refine callsIn_of_wp Tryz.func105 rfl trivial ?_ rfl;simp only[Tryz.ntmps105,List.size_toArray,List.length_cons,List.length_nil,Nat.reduceAdd,Nat.reduceSub,Array.replicate_succ,Array.replicate_zero,List.push_toArray,List.append_toArray,List.nil_append,List.cons_append]
 gi_wp2
 gi_loopw [4] (λi wr=>∃k p:Nat,k<=m/\p=k*wd/\i=.int .i64 p/\J (pieces g off wd k) wr/\Below w0.heap.size w0 wr)
  (λi _=>M-(intOf i).toNat)
 case atStart=>exact⟨0,0,Nat.zero_le _,by simp,rfl,h0,hB⟩
 case round=>
  obtain⟨k,p,hk,hp,rfl,hJs,hnx⟩:=hrel;have hcs1:=(hnx.cell (p:=⟨Bs,0,none⟩) hs0).trans hcs;have hcn1:=(hnx.cell (p:=⟨Bn,0,none⟩) hn0).trans hcn
  by_cases hlt:k<m
  ·have hpw:p+wd<=M:=by rw[hp,hM,<-Nat.succ_mul];exact Nat.mul_le_mul_right _ hlt
   have hp2:p+wd=(k+1)*wd:=by rw[hp,Nat.succ_mul]
   have hyes:=pieces_succ g off wd k;rw[<-hp]at hyes;have HYS:=jq hyes;have HP:=jq hp;have HP2:=jq hp2;have HM:=jq hM;clear hyes hp hp2 hM;have hw:IntKind.i64.wrap ((p:Int)+wd)=(p:Int)+wd:=(IntWalk.i64_left _).trans (IntWalk.wrap64_in _ (by omega));have hl2:p<M:=Nat.lt_of_lt_of_le (Nat.lt_add_of_pos_right hwd) hpw;have hl1:decide ((p:Int) <(M:Int))=true:=jd (Int.ofNat_lt.2 hl2);have hmin:min (wd:Int) ((M-p:Nat):Int)=wd:=Int.min_eq_left (Int.ofNat_le.2 (Nat.le_sub_of_add_le' hpw));have HX:=jq hnx;have HJ:=jq hJs;clear hnx hJs
   gi_wp2
   gi_quiet (fail)
   have hdr:wr.grownBy (wr.drewN nq) none:=⟨rfl,rfl,rfl,Nat.le_refl _,λ_ _ _=>rfl⟩;have hXd:=HX.out.grown hdr (by have:=HX.out.size;omega) (λq e=>by cases e);have hcs2:=(hXd.cell (p:=⟨Bs,0,none⟩) hs0).trans hcs;have hcn2:=(hXd.cell (p:=⟨Bn,0,none⟩) hn0).trans hcn;have hJd:=hJ _ _ nq HJ.out;obtain⟨fn,tmps,assign,body,hy,hR⟩:=hY _ (some ⟨g,off+p,none⟩,wd,wd) (wr.drewN nq) hJd (by rw[pieces_len];exact hlt);have HXD:=jq hXd;unfold sl at hy;dsimp only at hy;clear hJd hXd
   gi_wp2
   refine hR.mono ?_;rintro e W3 (⟨rfl,hJ3,hk3⟩|⟨rfl,hJx3⟩)
   ·have hcs3:=((HXD.out.trans hk3).cell (p:=⟨Bs,0,none⟩) hs0).trans hcs;have hcn3:=((HXD.out.trans hk3).cell (p:=⟨Bn,0,none⟩) hn0).trans hcn
    gi_wp2
    go_roundw
    case rel=>exact⟨k+1,p+wd,by omega,HP2.out,by simp,by rw[HYS.out];exact hJ3,HXD.out.trans hk3⟩
    case measure=>simp[intOf];omega
   ·gi_wp2
    refine bodyPost_ret (results_none rfl _ _ _) rfl ?_;exact⟨⟨_,rfl⟩,.inr ⟨_,⟨k+1,by omega,HYS.out.symm⟩,hJx3⟩⟩
  ·obtain rfl:k=m:=Nat.le_antisymm hk (Nat.not_lt.1 hlt);obtain rfl:p=M:=hp.trans hM.symm;have hl1:decide ((p:Int) <(p:Int))=false:=by simp
   gi_wp2
   go_end0
   exact⟨⟨_,rfl⟩,.inl ⟨_,rfl,hJs⟩⟩
theorem chunk_any (a:Option Addr) (len c wd:Nat) (hwd:0<wd) (w:World):
  Calls Tryz.prog 66 #[.slice a len c,.int .i64 wd] w λe w'=>e=.returned (.func (.func 105) #[] #[.pointer (some ⟨w.heap.size,0,none⟩),.pointer (some ⟨w.heap.size+1,0,none⟩)])/\w'=(w.alloc (.cells #[.slice a len c] 24)).alloc (.cells #[.int .i64 wd] 3):=by
 have h1:decide ((wd:Int) <1)=false:=jf (by omega)
 go_enter Tryz.func66,Tryz.ntmps66
 go_wp2_with fail
 go_ret
 exact⟨rfl,rfl⟩
theorem collect_pieces {g off wd m c:Nat} (hwd:0<wd) (hlc:m*wd<=c) (hmax:m*wd<=1000000) (w:World) (Bs Bn:Nat) (hBs:Bs<w.heap.size) (hBn:Bn<w.heap.size) (hcs:w.cell? ⟨Bs,0,none⟩=some (.slice (some ⟨g,off,none⟩) (m*wd) c)) (hcn:w.cell? ⟨Bn,0,none⟩=some (.int .i64 wd)):
  Calls Tryz.prog 89 #[.func (.func 105) #[] #[.pointer (some ⟨Bs,0,none⟩),.pointer (some ⟨Bn,0,none⟩)]] w λe w'=>∃v,e=.returned v/\OwnL w' w.heap.size v (pieces g off wd m)/\Below w.heap.size w w':=by
 have hm:m<=1000000:=Nat.le_trans (Nat.le_mul_of_pos_right m hwd) hmax
 have hseq:SeqStopsK Fence.wide 4 Tryz.prog 105 #[.pointer (some ⟨Bs,0,none⟩),.pointer (some ⟨Bn,0,none⟩)] (λx:SL=>#[sl x]) (Below w.heap.size) (λys=>ys=pieces g off wd m)
   (λpre=>∃k,k<=m/\pre=pieces g off wd k) m w:=λl J Jx W hW hJ hJx hY h0=>by
  exact chunk1_in 4 (by omega) l Bs Bn (w0:=w) hwd hlc hmax hBs hBn J Jx (λs X q hs=>hJ s X _ none hs ⟨rfl,rfl,rfl,Nat.le_refl _,λ_ _ _=>rfl⟩ (λr e=>by cases e)) (λpre x W1 hj hl=>hY pre x W1 hj hl) W hW hcs hcn h0
 refine(collect_any _ _ (enters_of Tryz.func105 (by kernel_rfl) rfl) hm w jn hseq).mono ?_;rintro e w' ⟨v,xs,rfl,rfl,_,h1,h2⟩;exact⟨v,rfl,h1,h2⟩
end Runs
end Go.Proofs.YtcdcnhecimajkaaGreatDoor
