/- Part. -/
import Derived.Test.YtfgjnpbffppocaaGreatDoorF0
import Derived.Test.YtfgjnpbffppocaaGreatDoorF0Q
import Derived.Test.YtfgjnpbffppocaaGreatDoorF2
import Derived.Test.YtfgjnpbffppocaaGreatDoorF13
import Derived.Test.YtfgjnpbffppocaaGreatDoorF21
import Derived.Sort.Walk0
import Derived.StillTactics
set_option maxHeartbeats 2000000
set_option maxRecDepth 100000
namespace Go.Proofs.YtfgjnpbffppocaaGreatDoor
namespace Pool
open Go.RowKit Go.Deep Mem Crc
open Store (nv)
theorem cmpNaN_any (x:ByteArray) (w:World):Calls Tryz.prog 85 #[.string x] w λe w'=>e=.returned (.bool false)/\w'=w:=by
 go_enter Tryz.func85,Tryz.ntmps85
 go_wp2_with fail
 go_ret
 exact⟨by simp,rfl⟩
theorem slNaN_any (x:ByteArray) (w:World):Calls Tryz.prog 53 #[.string x] w λe w'=>e=.returned (.bool false)/\w'=w:=by
 go_enter Tryz.func53,Tryz.ntmps53
 go_wp2_with fail
 go_ret
 exact⟨by simp,rfl⟩
theorem cmpLess_any (x y:ByteArray) (w:World):Calls Tryz.prog 52 #[.string x,.string y] w λe w'=>e=.returned (.bool (Op.bytesLess x.toList y.toList))/\w'=w:=by
 go_enter Tryz.func52,Tryz.ntmps52
 go_wp2_with (first|(go_at_call 85;refine(cmpNaN_any _ _).mono ?_;rintro e w1 ⟨rfl,rfl⟩))
 go_ret
 exact⟨rfl,rfl⟩
theorem rise_lt {ss:List (List UInt8)} (hs:ss.Pairwise (·< ·)) {i j:Nat} (hij:i<j) (hj:j<ss.length):ss[i] <ss[j]:=List.pairwise_iff_getElem.1 hs i j (by omega) hj hij
structure Srch (ss:List (List UInt8)) (nm:List UInt8) (lo hi:Nat):Prop where
 le:lo<=hi
 n:hi<=ss.length
 low:∀t,(h:t<ss.length)->t<lo->ss[t] <nm
 high:∀t,(h:t<ss.length)->hi<=t->¬ss[t] <nm
theorem Srch.up {ss:List (List UInt8)} {nm:List UInt8} {lo hi:Nat} (h:Srch ss nm lo hi) (hs:ss.Pairwise (·< ·)) {m:Nat} (h1:lo<=m) (h2:m<hi) (hm:ss[m]'(by have:=h.n;omega) <nm):Srch ss nm (m+1) hi:=
 ⟨by omega,h.n,λt ht htm=>by
  by_cases e:t=m
  ·subst e;exact hm
  ·exact List.lt_trans (rise_lt hs (show t<m by omega) (by have:=h.n;omega)) hm,h.high⟩
theorem Srch.down {ss:List (List UInt8)} {nm:List UInt8} {lo hi:Nat} (h:Srch ss nm lo hi) (hs:ss.Pairwise (·< ·)) {m:Nat} (h1:lo<=m) (h2:m<hi) (hm:¬ss[m]'(by have:=h.n;omega) <nm):Srch ss nm lo m:=
 ⟨h1,by have:=h.n;omega,h.low,λt ht htm=>by
  by_cases e:t=m
  ·subst e;exact hm
  ·exact λhlt=>hm (List.lt_trans (rise_lt hs (show m<t by omega) ht) hlt)⟩
theorem Srch.mem {ss:List (List UInt8)} {nm:List UInt8} {i:Nat} (h:Srch ss nm i i) (hs:ss.Pairwise (·< ·)) (hi:i<ss.length):nm∈ss↔ss[i]=nm:=by
 constructor
 ·intro hm;obtain⟨t,ht,rfl⟩:=List.mem_iff_getElem.1 hm
  by_cases e:t=i
  ·subst e;rfl
  ·exfalso
   by_cases hlt:t<i
   ·exact List.lt_irrefl _ (h.low t ht hlt)
   ·exact h.high i hi jn (rise_lt hs (by omega) ht)
 ·rintro rfl;exact List.getElem_mem hi
theorem Srch.none {ss:List (List UInt8)} {nm:List UInt8} {i:Nat} (h:Srch ss nm i i) (hi:¬i<ss.length):nm∉ss:=λhm=>by
 obtain⟨t,ht,rfl⟩:=List.mem_iff_getElem.1 hm;exact List.lt_irrefl _ (h.low t ht (by omega))
theorem search_rows {base:Nat} {va:Option Addr} {vc:Nat} (ss:List (List UInt8)) (nm:List UInt8) (w:World) (hO:w.ownsRow base 9 1 (.slice va ss.length vc) ss.length (ss.map encStr)) (hs:ss.Pairwise (·< ·)) (hm:ss.length<=1000000):
  Calls Tryz.prog 21 #[.slice va ss.length vc,.string ⟨nm.toArray⟩] w λe w'=>∃x,e=.returned (.tuple #[x,.bool (decide (nm∈ss))])/\w'=w:=by
 obtain⟨_,_,e0,_,hL,_,_⟩:=own_shape hO;injection e0 with e0;subst e0;obtain⟨n,hn⟩:=jl ss.length;obtain⟨r,hr⟩:=jl (decide (nm∈ss));obtain⟨y,hy⟩:∃y:ByteArray,y=⟨nm.toArray⟩:=⟨_,rfl⟩;rw[<-hn]at hm;rw[<-hn,<-hr,<-hy];have HL:=jq hL;have HS:=jq hs;have HN:=jq hn;have HR:=jq hr;have HY:=jq hy;have h0:Hid (Srch ss nm 0 n):=jq ⟨Nat.zero_le _,by omega,λt _ h=>by omega,λt ht h=>by omega⟩;clear hO hL hs hn hr hy
 go_enter Tryz.func21,Tryz.ntmps21
 go_wp2_with fail
 go_loopw[7,8] (λi j wr=>∃lo hi:Nat,lo<=hi/\hi<=n/\i=.int .i64 (lo:Int)/\j=.int .i64 (hi:Int)/\wr=w/\Hid (Srch ss nm lo hi)) (λi j _=>(intOf j).toNat-(intOf i).toNat)
 case atStart=>exact⟨0,n,Nat.zero_le _,Nat.le_refl _,rfl,rfl,rfl,h0⟩
 case round=>
  obtain⟨lo,hi,hlh,hhn,rfl,rfl,rfl,hS⟩:=hrel
  by_cases hlt:lo<hi
  ·obtain⟨m,hme⟩:=jl ((lo+hi)/2);have hml:lo<=m:=by omega
   have hmh:m<hi:=by omega
   have hmn:m<ss.length:=by have:=HN.out;omega
   obtain⟨x,hx⟩:∃x:ByteArray,x=⟨(ss[m]).toArray⟩:=⟨_,rfl⟩;obtain⟨g,o,rfl,cm⟩:=Mani.lies_at HL.out (k:=m) (u:=.string x) (by rw[List.getElem?_map,jg hmn,hx];rfl)
   have hls:Op.bytesLess x.toList y.toList=decide (ss[m] <nm):=by
    rw[hx,HY.out,Lib.toList_data,Lib.toList_data,bytesLess_eq]
   have e1: ((lo:Int)+(hi:Int))/2=(m:Int):=by omega
   have HX:=jq hx;have HME:=jq hme;clear hx hme
   by_cases hb:ss[m] <nm
   ·rw[jd hb]at hls;have HN2:=jq (hS.out.up HS.out hml hmh hb);clear hb
    go_wp2_with (first|(go_at_call 52;refine(cmpLess_any _ _ _).mono ?_;rintro e w1 ⟨rfl,rfl⟩))
    go_roundw
    case rel=>exact⟨m+1,hi,by omega,hhn,by go_num,rfl,trivial,HN2⟩
    case measure=>simp[intOf];omega
   ·rw[jf hb]at hls;have HN2:=jq (hS.out.down HS.out hml hmh hb);clear hb
    go_wp2_with (first|(go_at_call 52;refine(cmpLess_any _ _ _).mono ?_;rintro e w1 ⟨rfl,rfl⟩))
    go_roundw
    case rel=>exact⟨lo,m,by omega,by omega,rfl,by go_num,trivial,HN2⟩
    case measure=>simp[intOf];omega
  ·obtain rfl:lo=hi:=by omega
   by_cases hl:lo<n
   ·have hmn:lo<ss.length:=by have:=HN.out;omega
    have hmem:=hS.out.mem HS.out hmn;obtain⟨x,hx⟩:∃x:ByteArray,x=⟨(ss[lo]).toArray⟩:=⟨_,rfl⟩;obtain⟨g,o,rfl,cm⟩:=Mani.lies_at HL.out (k:=lo) (u:=.string x) (by rw[List.getElem?_map,jg hmn,hx];rfl)
    have heq: (x.toList==y.toList)=r:=by
     rw[HR.out,hx,HY.out,Lib.toList_data,Lib.toList_data]
     by_cases e:ss[lo]=nm
     ·rw[jd (hmem.2 e),e];simp
     ·rw[jf (λh=>e (hmem.1 h))]
      simpa using e
    clear hx hmem;cases r <;>
    ·go_wp2_with (first|(go_at_call 53;refine(slNaN_any _ _).mono ?_;rintro e w1 ⟨rfl,rfl⟩))
     go_ret2
     exact⟨_,rfl,rfl⟩
   ·have hno:=hS.out.none (by have:=HN.out;omega);obtain rfl:r=false:=by rw[HR.out];exact jf hno
    clear hno
    go_wp2_with fail
    go_ret2
    exact⟨_,rfl,rfl⟩
end Pool
end Go.Proofs.YtfgjnpbffppocaaGreatDoor
