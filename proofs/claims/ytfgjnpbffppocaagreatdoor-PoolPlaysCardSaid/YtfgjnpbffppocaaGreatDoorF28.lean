/- Part. -/
import Derived.Test.YtfgjnpbffppocaaGreatDoorF0
import Derived.Test.YtfgjnpbffppocaaGreatDoorF0Q
import Derived.Test.YtfgjnpbffppocaaGreatDoorF4
import Derived.Test.YtfgjnpbffppocaaGreatDoorF27
import Derived.Sort.QuietIn
import Derived.LoopIn
set_option maxHeartbeats 400000
set_option maxRecDepth 100000
namespace Go.Proofs.YtfgjnpbffppocaaGreatDoor
namespace Chunk
open Go.RowKit Go.Deep Mem Crc Sees
attribute [local go_sem] Oper.semAt_some
abbrev SL:=Option Addr×Nat×Nat
def sl (x:SL):Value:=.slice x.1 x.2.1 x.2.2
def piece (g off wd M k:Nat):SL:=(some ⟨g,off+k*wd,none⟩,min wd (M-k*wd),min wd (M-k*wd))
def pieces (g off wd M m:Nat):List SL:=(List.range m).map (piece g off wd M)
theorem pieces_len (g off wd M m:Nat): (pieces g off wd M m).length=m:=by simp[pieces]
theorem pieces_succ (g off wd M k:Nat):pieces g off wd M (k+1)=pieces g off wd M k++ [piece g off wd M k]:=by simp[pieces,List.range_succ]
def KeepB (Bs Bn:Nat) (X Y:World):Prop:=X.heap.size<=Y.heap.size/\Y.heap[Bs]? =X.heap[Bs]?/\Y.heap[Bn]? =X.heap[Bn]?
def MineD (X Y:World):Prop:=∃q,Y=X.drewN q
theorem chunk_sees (n:Nat) (hn:1<=n) (Bs Bn:Nat) {w0:World} {g off wd M m c:Nat} (hwd:0<wd) (hwd2:wd<=1000000) (hlc:M<=c) (hmax:M<=2000000) (hm1:M<=m*wd) (hm2:∀k,k<m->k*wd<M) (hs0:Bs<w0.heap.size) (hn0:Bn<w0.heap.size)
  (hcs:w0.cell? ⟨Bs,0,none⟩=some (.slice (some ⟨g,off,none⟩) M c)) (hcn:w0.cell? ⟨Bn,0,none⟩=some (.int .i64 wd)):
  SeqSees Fence.wide n Tryz.prog 113 #[.pointer (some ⟨Bs,0,none⟩),.pointer (some ⟨Bn,0,none⟩)] (λx:SL=>#[sl x]) MineD (KeepB Bs Bn) (λpre x _=>x=piece g off wd M pre.length) (λys=>ys=pieces g off wd M m) (λpre=>∃k,k<=m/\pre=pieces g off wd M k) m w0:=by
 intro l J Jx W hB hJ _ hY h0;refine callsIn_of_wp Tryz.func113 rfl trivial ?_ rfl;simp only[Tryz.ntmps113,List.size_toArray,List.length_cons,List.length_nil,Nat.reduceAdd,Nat.reduceSub,Array.replicate_succ,Array.replicate_zero,List.push_toArray,List.append_toArray,List.nil_append,List.cons_append]
 gi_wp2
 gi_loopw [4] (λi wr=>∃k p:Nat,k<=m/\p=k*wd/\i=.int .i64 p/\J (pieces g off wd M k) wr/\KeepB Bs Bn W wr)
  (λi _=>M-(intOf i).toNat)
 case atStart=>exact⟨0,0,Nat.zero_le _,by simp,rfl,h0,Nat.le_refl _,rfl,rfl⟩
 case round=>
  obtain⟨k,p,hk,hp,rfl,hJs,hnx⟩:=hrel;have hcs1:wr.cell? ⟨Bs,0,none⟩=some (.slice (some ⟨g,off,none⟩) M c):=(World.cell?_of_block hnx.2.1).trans ((hB.cell (p:=⟨Bs,0,none⟩) hs0).trans hcs);have hcn1:wr.cell? ⟨Bn,0,none⟩=some (.int .i64 wd):=(World.cell?_of_block hnx.2.2).trans ((hB.cell (p:=⟨Bn,0,none⟩) hn0).trans hcn)
  by_cases hlt:k<m
  ·have hl2:p<M:=by rw[hp];exact hm2 k hlt
   have hp2:p+wd=(k+1)*wd:=by rw[hp,Nat.succ_mul]
   have hyes:=pieces_succ g off wd M k;obtain⟨q,hq⟩:=jl (min wd (M-p));have hpc:piece g off wd M k=(some ⟨g,off+p,none⟩,q,q):=by unfold piece;rw[<-hp,<-hq]
   rw[hpc]at hyes;have hq0:0<q:=by omega
   have hpq:p+q<=M:=by omega
   have hmin:min (wd:Int) ((M-p:Nat):Int)=(q:Int):=by omega
   have hmin2: (if M-p<wd then((M-p:Nat):Int)else(wd:Int))=(q:Int):=by split <;> omega
   have HYS:=jq hyes;have HP:=jq hp;have HP2:=jq hp2;have HPC:=jq hpc;have hl1:decide ((p:Int) <(M:Int))=true:=jd (Int.ofNat_lt.2 hl2);have hw1:IntKind.i64.wrap ((p:Int)+q)=(p:Int)+q:=by rw[IntKind.wrap_i64];omega
   have hw:IntKind.i64.wrap ((p:Int)+wd)=(p:Int)+wd:=by rw[IntKind.wrap_i64];omega
   have hpm:p+wd<=4000000:=by omega
   have HX:=jq hnx;have HJ:=jq hJs;clear hnx hJs hyes hp hp2 hpc hq
   gi_wp2
   gi_quiet (fail)
   have hcs2: (wr.drewN nq).cell? ⟨Bs,0,none⟩=some (.slice (some ⟨g,off,none⟩) M c):=hcs1;have hcn2: (wr.drewN nq).cell? ⟨Bn,0,none⟩=some (.int .i64 wd):=hcn1;obtain⟨fn,tmps,assign,body,hy,hR⟩:=hY _ (some ⟨g,off+p,none⟩,q,q) (wr.drewN nq) (hJ _ _ _ HJ.out ⟨nq,rfl⟩) (by rw[pieces_len];exact hlt) (by rw[pieces_len];exact HPC.out.symm);unfold sl at hy;dsimp only at hy;clear hcs1 hcn1
   gi_wp2
   refine hR.mono ?_;rintro e W3 (⟨rfl,hJ3,hk3⟩|⟨rfl,hJx3⟩)
   ·have hcs3:W3.cell? ⟨Bs,0,none⟩=some (.slice (some ⟨g,off,none⟩) M c):=(World.cell?_of_block hk3.2.1).trans hcs2;have hcn3:W3.cell? ⟨Bn,0,none⟩=some (.int .i64 wd):=(World.cell?_of_block hk3.2.2).trans hcn2;have HK3:Hid (KeepB Bs Bn W W3):=jq ⟨Nat.le_trans HX.out.1 hk3.1,hk3.2.1.trans HX.out.2.1,hk3.2.2.trans HX.out.2.2⟩;have HJ3:=jq hJ3;clear hcs2 hcn2 hk3 hJ3
    gi_wp2
    go_roundw
    case rel=>exact⟨k+1,p+wd,by omega,HP2.out,by simp,by rw[HYS.out];exact HJ3.out,HK3.out⟩
    case measure=>simp[intOf];omega
   ·gi_wp2
    refine bodyPost_ret (results_none rfl _ _ _) rfl ?_;exact⟨⟨_,rfl⟩,.inr ⟨_,⟨k+1,by omega,HYS.out.symm⟩,hJx3⟩⟩
  ·obtain rfl:k=m:=Nat.le_antisymm hk (Nat.not_lt.1 hlt);have hl1:decide ((p:Int) <(M:Int))=false:=jf (by omega)
   gi_wp2
   go_end0
   exact⟨⟨_,rfl⟩,.inl ⟨_,rfl,hJs⟩⟩
theorem chunk_any (a:Option Addr) (len c wd:Nat) (hwd:0<wd) (w:World):
  Calls Tryz.prog 79 #[.slice a len c,.int .i64 wd] w λe w'=>e=.returned (.func (.func 113) #[] #[.pointer (some ⟨w.heap.size,0,none⟩),.pointer (some ⟨w.heap.size+1,0,none⟩)])/\w'=(w.alloc (.cells #[.slice a len c] 27)).alloc (.cells #[.int .i64 wd] 3):=by
 have h1:decide ((wd:Int) <1)=false:=jf (by omega)
 go_enter Tryz.func79,Tryz.ntmps79
 go_wp2_with fail
 go_ret
 exact⟨rfl,rfl⟩
end Chunk
end Go.Proofs.YtfgjnpbffppocaaGreatDoor
