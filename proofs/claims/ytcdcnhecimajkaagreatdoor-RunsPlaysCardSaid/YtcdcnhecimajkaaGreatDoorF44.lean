/- Part. -/
import Derived.Test.YtcdcnhecimajkaaGreatDoorF0
import Derived.Test.YtcdcnhecimajkaaGreatDoorF0Q
import Derived.Test.YtcdcnhecimajkaaGreatDoorF18
import Derived.Test.YtcdcnhecimajkaaGreatDoorF23
import Derived.Test.YtcdcnhecimajkaaGreatDoorF40
set_option maxHeartbeats 1000000
set_option maxRecDepth 100000
namespace Go.Proofs.YtcdcnhecimajkaaGreatDoor
namespace Runs
open Go.RowKit Go.Deep Go.Shelf Mem Crc Merge
open Store (nv)
theorem lss_str13 (t:TypeId) (a b:ByteArray):binOp .lss t (.string a) (.string b)=pure (.bool (Op.bytesLess a.toList b.toList)):=by simp[binOp,Op.stringOp]
theorem less_str {x y:List UInt8} {sx sy:ByteArray} (hx:nv x=.string sx) (hy:nv y=.string sy):Op.bytesLess sx.toList sy.toList=decide (x<y):=by
 unfold Store.nv at hx hy;injection hx with hx;injection hy with hy;subst hx hy;rw[Lib.toList_data,Lib.toList_data,bytesLess_eq]
attribute [local go_sem] Oper.semAt_some lss_str13
theorem refRises_any (wd:Nat) {a:Option Addr} {c:Nat} {vs:List SL} {l:List B} (w:World) (hL:Lies w a (vs.map sl)) (hR:RecsIn w (vs.map sl) l) (hn:l.length<=1000000):
  Calls Tryz.prog 32 #[.slice a vs.length c,.int .i64 (wd:Int)] w λe w'=>e=.returned (.bool (decide (MayR wd l)))/\Below w.heap.size w w':=by
 have hlv:vs.length=l.length:=by simpa using hR.len
 obtain⟨n,hln⟩:=jl vs.length;obtain⟨mr,hmr⟩:=jl (decide (MayR wd l));rw[<-hln,<-hmr];have HLN:=jq (hln.trans hlv);have HL:=jq hL;have HR:=jq hR;have HMR:=jq hmr;have hn9:n<=1000000:=by omega
 clear hL hR hln hlv hmr hn
 go_enter Tryz.func32,Tryz.ntmps32
 go_wp2_with fail
 go_loopw[8] (λi wr=>∃k:Nat,k<=n/\i=.int .i64 (k:Int)/\(∃m,wr=w.drewN m)/\MayK wd l k) (λi _=>n-(intOf i).toNat)
 case atStart=>exact⟨0,Nat.zero_le _,rfl,⟨0,rfl⟩,λj b hj=>by omega⟩
 case round=>
  obtain⟨k,hk,rfl,⟨m,hm⟩,hmk⟩:=hrel;have hBr:Below w.heap.size w wr:=by rw[hm];exact⟨rfl,rfl,rfl,Nat.le_refl _,λ_ _=>rfl⟩
  have HM:=jq hm;have HMK:=jq hmk;clear hm hmk
  by_cases hlt:k<n
  ·have hkd:decide ((k:Int) <(n:Int))=true:=jd (by omega);obtain⟨b,hb⟩:∃b,l[k]? =some b:=⟨l[k]'(by rw[<-HLN.out];exact hlt),jg _⟩;obtain⟨y,hy⟩:∃y,(vs.map sl)[k]? =some y:=⟨(vs.map sl)[k]'(by rw[HR.out.len,<-HLN.out];exact hlt),jg _⟩;have hrec:=HR.out.at_ k y b hy hb;obtain⟨g,o,rfl,cy⟩:=lies_at (HL.out.later hBr) hy;obtain⟨ba,bc,rfl,_,_⟩:=id hrec;obtain⟨bl,hbl⟩:=jl b.length;rw[<-hbl]at cy hrec;have HREC:=jq hrec;have HB:=jq hb;have HBL:=jq hbl;clear hrec hy hb hbl
   by_cases hw:bl=wd
   ·have t1: ((bl:Int)==wd)=true:=by simp;omega
    have t2: ((bl:Int) !=wd)=false:=by simp;omega
    by_cases h0:k=0
    ·have d0:decide (0<k)=false:=jf (by omega);have HE:=jq (show MayK wd l (k+1)from mayK_next HMK.out HB.out (by rw[<-HBL.out];exact hw) (λp hp=>by omega));clear hw h0
     go_wp2_with fail
     go_quiet (fail)
     go_wp2_with fail
     go_roundw
     case rel=>exact⟨k+1,by omega,by simp,⟨m+nq,by rw[HM.out];simp[World.drewN,Nat.add_assoc]⟩,HE.out⟩
     case measure=>simp[intOf];omega
    ·have d0:decide (0<k)=true:=jd (by omega);obtain⟨p,hp⟩:∃p,l[k-1]? =some p:=⟨l[k-1]'(by rw[<-HLN.out];omega),jg _⟩;obtain⟨yp,hyp⟩:∃y,(vs.map sl)[k-1]? =some y:=⟨(vs.map sl)[k-1]'(by rw[HR.out.len,<-HLN.out];omega),jg _⟩;have hrp:=HR.out.at_ (k-1) yp p hyp hp;obtain⟨g',o',e',cp⟩:=lies_at (HL.out.later hBr) hyp;injection e' with e';injection e' with e1 e2;subst e1 e2;obtain⟨pa,pc,rfl,_,_⟩:=id hrp;obtain⟨pl,hpl⟩:=jl p.length;rw[<-hpl]at cp hrp
     have hcb:∀q,(convert 24 9 (.slice ba bl bc)).run Tryz.prog (wr.drewN q)=.ok (nv b) (wr.drewN q):=λq=>by
      obtain⟨_,_,e,_,hl⟩:=HREC.out.later hBr;cases e;rw[HBL.out];exact Full.conv_any (hl.drewN q)
     have hcp:∀q,(convert 24 9 (.slice pa pl pc)).run Tryz.prog (wr.drewN q)=.ok (nv p) (wr.drewN q):=λq=>by
      obtain⟨_,_,e,_,hl⟩:=hrp.later hBr;cases e;rw[hpl];exact Full.conv_any (hl.drewN q)
     obtain⟨sb,hsb⟩:∃s:ByteArray,nv b=.string s:=⟨_,rfl⟩;obtain⟨sp,hsp⟩:∃s:ByteArray,nv p=.string s:=⟨_,rfl⟩;rw[hsb]at hcb;rw[hsp]at hcp;have hlt2:=less_str hsb hsp;obtain⟨cm,hcm⟩:=jl (decide (b<p));rw[<-hcm]at hlt2;have hk0:0<k:=by omega
     have hk1n:k-1<n:=by omega
     have HK0:=jq hk0;have HBW:=jq (show b.length=wd by rw[<-HBL.out];exact hw);have HCM2:=jq hcm;have HP:=jq hp;clear hcm hrp hyp hp hpl hw h0 hsb hsp;cases cm
     case true=>
      have hno:mr=false:=by
       rw[HMR.out];refine jf (λh=>?_);have hbp:=of_decide_eq_true HCM2.out.symm;have:=rises_iff.1 h.2 (k-1) p b HP.out (by rw[show k-1+1=k from by have:=HK0.out;omega];exact HB.out);exact absurd hbp (List.not_lt.2 this)
      subst hno
      go_wp2_with fail
      go_quiet (fail)
      go_wp2_with fail
      go_ret
      exact⟨rfl,⟨hBr.os,hBr.tape,hBr.output,hBr.size,hBr.block⟩⟩
     case false=>
      have HE:=jq (show MayK wd l (k+1)from mayK_next HMK.out HB.out HBW.out (λq hq hq2=>by
       rw[HP.out]at hq2;cases hq2;exact List.not_lt.1 (of_decide_eq_false HCM2.out.symm)))
      go_wp2_with fail
      go_quiet (fail)
      go_wp2_with fail
      go_roundw
      case rel=>exact⟨k+1,by omega,by simp,⟨m+nq,by rw[HM.out];simp[World.drewN,Nat.add_assoc]⟩,HE.out⟩
      case measure=>simp[intOf];omega
   ·have t1: ((bl:Int)==wd)=false:=by simp;omega
    have t2: ((bl:Int) !=wd)=true:=by simp;omega
    have hno:mr=false:=by
     rw[HMR.out];exact jf (λh=>hw (by rw[HBL.out];exact h.1 b (jM HB.out)))
    subst hno;clear hw
    go_wp2_with fail
    go_quiet (fail)
    go_wp2_with fail
    go_ret
    exact⟨rfl,⟨hBr.os,hBr.tape,hBr.output,hBr.size,hBr.block⟩⟩
  ·obtain rfl:k=n:=by omega
   have hkd:decide ((k:Int) <(k:Int))=false:=jf (by omega)
   have hyes:mr=true:=by
    rw[HMR.out];exact jd (mayK_all (by rw[<-HLN.out];exact HMK.out))
   subst hyes
   go_wp2_with fail
   go_ret
   exact⟨rfl,⟨hBr.os,hBr.tape,hBr.output,hBr.size,hBr.block⟩⟩
end Runs
end Go.Proofs.YtcdcnhecimajkaaGreatDoor
