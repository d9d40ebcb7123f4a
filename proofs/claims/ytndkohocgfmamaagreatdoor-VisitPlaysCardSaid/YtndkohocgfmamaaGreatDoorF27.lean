/- Part. -/
import Derived.Test.YtndkohocgfmamaaGreatDoorF5
import Derived.Lib.Bytealg
import Derived.RangeFuncBound
import Derived.RangeFuncNested
import Derived.Shelf.Abstract
import Derived.OwnWalkIn
import Derived.TacticsInMore
import Derived.LoopNIn
import Derived.LoopIn
set_option maxHeartbeats 2000000
set_option maxRecDepth 100000
namespace Go.Proofs.YtndkohocgfmamaaGreatDoor
open Go.Proofs.Tryz
namespace Runs
open Go.RowKit Go.Deep Mem Crc Merge
theorem FK(w:World)(g:Nat):∀(bs:List UInt8) (off:Nat) (acc:ByteArray),(∀i u,bs[i]? =some u->w.cell? ⟨g,off+i,none⟩=some (bv u))->
  (Extern.Bytes.loadBytes ⟨g,off,none⟩ bs.length acc).run prog w=.ok ⟨acc.data++bs.toArray⟩ w
 | [],_,acc,_=>by simp[Extern.Bytes.loadBytes]
 |x ::t,off,acc,h=>by
  have b:w.cell? ⟨g,off,none⟩=some (.int .u8 (x.toNat:Int)):=by simpa[bv]using h 0 x rfl
  have d: (⟨g,off,none⟩:Addr).add 1=⟨g,off+1,none⟩:=by unfold Addr.add;split <;> simp_all
  have f:=FK w g t (off+1) (acc.push ((x.toNat:Int).toNat.toUInt8)) (λi u e=>by
   have:=h (i+1) u (by simpa using e);rw[show off+1+i=off+(i+1)by omega];exact this)
  simp only[List.length_cons,Extern.Bytes.loadBytes,Sem.run_bind,run_load,b,Result.andThen_ok,d,f]
  congr 1
  apply oQ
  simp
theorem FL(w:World)(a:Option Addr)(c:Nat)(bs:List UInt8)(h:Lies w a (bs.map bv)): (Extern.Bytes.bytesOf (.slice a bs.length c)).run prog w=.ok ⟨bs.toArray⟩ w:=by
 cases a with
 |none=>
  have e:bs= []:=by simpa using Ad h
  subst e
  rfl
 |some p=>
  rcases h with h|⟨g,off,e,_,hc⟩
  ·have e:bs= []:=by simpa using h
   subst e
   rfl
  ·cases e;have:=FK w g bs off .empty (λi u b=>hc i (bv u) (lI b));show(Extern.Bytes.loadBytes ⟨g,off,none⟩ bs.length .empty).run prog w=_;rw[this]
   congr 1
   apply oQ
   show(#[]:Array UInt8)++bs.toArray=bs.toArray
   simp
theorem cmp_eq:∀a b:B,Lib.compareBytes a b=iV a b
 | [],[]=>rfl
 | [],_ ::_=>by rw[Qo,if_neg (by simp)];rfl
 |_ ::_,[]=>by rw[Qp,if_neg (by simp)];rfl
 |x ::s,y ::t=>by
  rw[Qq];unfold Lib.compareBytes;rw[cmp_eq s t]
theorem Ae(u v:Value)(a b:B)(w:World)(k:eT w u a)(l:eT w v b):
  Calls prog 107 #[u,v] w λe w'=>e=.returned (.int .i64 (iV a b))/\w'=w:=by
 obtain⟨p,cp,rfl,_,f⟩:=k;obtain⟨q,d,rfl,_,hq⟩:=l
 have g: (Extern.BytealgCompare.compare #[.slice p a.length cp,.slice q b.length d]).run prog w=.ok (.int .i64 (iV a b)) w:=by
  have i:=FL w p cp a f;have j:=FL w q d b hq;show Sem.run prog (do pure (goInt (Extern.BytealgCompare.cmp (<-Extern.Bytes.bytesOf (.slice p a.length cp)) (<-Extern.Bytes.bytesOf (.slice q b.length d))))) w=_;simp only[Sem.run_bind,i,Result.andThen_ok,j,Sem.run_pure,Lib.cmp_eq];rw[<-cmp_eq]
  simp[goInt]
 have h:=jq g;clear f hq g
 go_enter func107,ntmps107
 go_wp2_with fail
 rw[run_callFunc_extern func150 (by kernel_rfl) (by kernel_rfl) (by kernel_rfl) (e:=Extern.BytealgCompare.compare) (by kernel_rfl),h.out];simp only[Result.andThen];rw[Oper.upon_value]
 go_wp2_with fail
 go_ret
 exact⟨rfl,rfl⟩
open Go.Shelf
attribute [local go_sem] Oper.semAt_some
abbrev SL:=Option Addr×Nat×Nat
def sl(x:SL):Value:=.slice x.1 x.2.1 x.2.2
variable {w0:World}{a:Option Addr}{c:Nat}
theorem Qr(F:Fence)(n:Nat)(E:F.fn 149)(O:F.round=none)(U:1<=n)(l o:Nat){vs:List SL}(r:Lies w0 a (vs.map sl))(_:vs.length<=c)(T:vs.length<=1000000)(J q:List SL->World->Prop)(M:∀pre x W,J pre W->pre.length<vs.length->YieldAt F (n-1) prog l #[sl x] W λe b=>
   (e=.returned (.bool true)/\J (pre++ [x]) b/\Below w0.heap.size W b)\/(e=.returned (.bool false)/\q (pre++ [x]) b))(W:World)(G:Below w0.heap.size w0 W)(hcs:W.cell? ⟨o,0,none⟩=some (.slice a vs.length c))(D:J [] W):
  CallsIn F n prog 149 #[.func (.yield l) #[] #[],.pointer (some ⟨o,0,none⟩)] W λe b=>(∃v,e=.returned v)/\
   ((∃z,z=vs/\J z b)\/(∃pre,(∃k,k<=vs.length/\pre=vs.take k)/\q pre b)):=by
 have A:=jq r;clear r;refine callsIn_of_wp func149 rfl E ?_ O;simp only[ntmps149,List.size_toArray,List.length_cons,List.length_nil,Nat.reduceAdd,Nat.reduceSub,Array.replicate_succ,Array.replicate_zero,List.push_toArray,List.append_toArray,List.nil_append,List.cons_append]
 gi_wp2
 gi_loopw [7] (λi wr=>∃k:Nat,k<=vs.length/\i=.int .i64 k/\J (vs.take k) wr/\Below w0.heap.size W wr)
  (λi _=>vs.length-(intOf i).toNat)
 case atStart=>exact⟨0,aC _,rfl,by simpa using D,Below.refl _ _⟩
 case round=>
  obtain⟨k,S,rfl,f,j⟩:=hrel
  by_cases hlt:k<vs.length
  ·have t:=A.out.later (G.trans j);obtain⟨x,m⟩:∃x,vs[k]? =some x:=⟨vs[k],jg hlt⟩;have d: (vs.map sl)[k]? =some (sl x):=by simp[m]
   obtain⟨g,off,C,_,hcell⟩:∃g off,a=some ⟨g,off,none⟩/\g<wr.heap.size/\∀i u,(vs.map sl)[i]? =some u->wr.cell? ⟨g,off+i,none⟩=some u:=by
    rcases t with e|h
    ·rw[e]at d;cases d
    ·exact h
   have s:=hcell k _ d;have V:RowKit.wrap64 ((k:Int)+1)=(k:Int)+1:=IntWalk.wrap64_in _ (by omega);have y:vs.take (k+1)=vs.take k++ [x]:=by rw[bF,m];rfl
   obtain⟨R,X,assign,body,w,L⟩:=M _ x wr f (by simp;omega);have p:=jq y;have B:=jq j;have P:=jq C;clear y j hcell d m t;subst a;unfold sl at s w;obtain⟨Y,Z,xc⟩:=x;dsimp only at s w
   gi_wp2
   refine L.mono ?_;rintro e Q (⟨rfl,H,N⟩|⟨rfl,I⟩)
   ·gi_wp2
    go_roundw
    case rel=>exact⟨k+1,by omega,by simp,by rw[p.out];exact H,B.out.trans N⟩
    case measure=>simp[intOf];omega
   ·gi_wp2
    refine bodyPost_ret (results_none rfl _ _ _) rfl ?_;exact⟨⟨_,rfl⟩,.inr ⟨_,⟨k+1,by omega,p.out.symm⟩,I⟩⟩
  ·obtain rfl:k=vs.length:=by omega
   rw[lC]at f
   gi_wp2
   go_end0
   exact⟨⟨_,rfl⟩,.inl ⟨_,rfl,f⟩⟩
theorem values_in(F:Fence)(n:Nat)(b:F.fn 106)(d:F.round=none)(a:Option Addr)(len c:Nat)(w:World):
  CallsIn F n prog 106 #[.slice a len c] w λe w'=>e=.returned (.func (.func 149) #[] #[.pointer (some ⟨w.heap.size,0,none⟩)])/\w'=w.alloc (.cells #[.slice a len c] 120):=by
 refine callsIn_of_wp func106 rfl b ?_ d;simp only[ntmps106,List.size_toArray,List.length_cons,List.length_nil,Nat.reduceAdd,Nat.reduceSub,Array.replicate_succ,Array.replicate_zero,List.push_toArray,List.append_toArray,List.nil_append,List.cons_append]
 gi_wp2
 go_ret
 exact⟨rfl,rfl⟩
theorem Qs(F:Fence)(n:Nat)(i:F.fn 149)(u:F.round=none)(t:1<=n)(b:Nat){w:World}{vs:List SL}(m:Lies w0 a (vs.map sl))(r:vs.length<=c)(s:vs.length<=1000000)(d:Below w0.heap.size w0 w)(j:b<w.heap.size)(hc:w.cell? ⟨b,0,none⟩=some (.slice a vs.length c)):
  SeqStopsK F n prog 149 #[.pointer (some ⟨b,0,none⟩)] (λx:SL=>#[sl x]) (Below w0.heap.size) (λv=>v=vs)
   (λpre=>∃k,k<=vs.length/\pre=vs.take k) vs.length w:=λl J f W e _ _ o h=>
 Qr F n i u t l b m r s J f (λpre x g q hl=>o pre x g q hl) W (d.trans (e.mono d.size)) ((e.cell (p:=⟨b,0,none⟩) j).trans hc) h
end Runs
end Go.Proofs.YtndkohocgfmamaaGreatDoor
