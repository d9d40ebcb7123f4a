/- Part. -/
import Derived.Test.YtfgjnpbffppocaaGreatDoorF0
import Derived.Test.YtfgjnpbffppocaaGreatDoorF0Q
import Derived.Test.YtfgjnpbffppocaaGreatDoorF4
import Derived.Laws.IdiomStrings
import Derived.Deep.RegionHeld3
set_option maxHeartbeats 1000000
set_option maxRecDepth 100000
namespace Go.Proofs.YtfgjnpbffppocaaGreatDoor
namespace Text
open Go.RowKit Go.Deep Mem Crc
attribute [local go_sem] Oper.semAt_some
theorem decA_acc:∀(f n:Nat) (acc:List UInt8),decA f n acc=decA f n []++acc
 |0,_,_=>rfl
 |f+1,n,acc=>by
  unfold decA
  split
  ·rfl
  ·rw[decA_acc f (n/10) (dig n ::acc),decA_acc f (n/10) [dig n],List.append_assoc]
   rfl
theorem decA_fuel:∀(f n:Nat),0<f->n<10^f->∀acc,decA (f+1) n acc=decA f n acc
 |0,_,h,_,_=>absurd h (Nat.lt_irrefl _)
 |f+1,n,_,hn,acc=>by
  by_cases h:n/10=0
  ·unfold decA;rw[if_pos h,if_pos h]
  ·have hf:0<f:=by
    rcases f with _|f
    ·simp at hn;omega
    ·omega
   have hn':n/10<10^f:=by
    rw[Nat.div_lt_iff_lt_mul (by decide),<-Nat.pow_succ];exact hn
   have:=decA_fuel f (n/10) hf hn' (dig n ::acc);unfold decA;rw[if_neg h,if_neg h];exact this
theorem dec_small (n:Nat) (h:n<10):dec n= [dig n]:=by
 unfold dec decA;rw[if_pos (by omega)]
theorem dec_big (n:Nat) (h:10<=n) (hn:n<100000000000000000000):dec n=dec (n/10)++ [dig n]:=by
 unfold dec
 rw[show decA 20 n []=decA 19 (n/10) [dig n]by
  conv=>lhs;unfold decA
  rw[if_neg (by omega)],decA_acc]
 rw[<-decA_fuel 19 (n/10) (by decide) (by have e: (10:Nat)^19=10000000000000000000:=(by decide);omega)]
theorem str_app (a b:List UInt8): ((⟨a.toArray⟩:ByteArray)++(⟨b.toArray⟩:ByteArray))=⟨(a++b).toArray⟩:=by
 apply ByteArray.ext
 simp
theorem dec_length (n:Nat): (dec n).length<=20:=by
 have:=decA_length 20 n [];rw[List.length_nil,Nat.zero_add]at this;exact this
def strV (b:List UInt8):Value:=.string ⟨b.toArray⟩
theorem conv_one (w:World) (x:Nat) (hx:x<10): (convert 27 9 (.slice (some ⟨w.heap.size,0,none⟩) 1 1)).run Tryz.prog (w.alloc (.cells #[.int .u8 (48+(x:Int))] 5))=.ok (strV [dig x]) (w.alloc (.cells #[.int .u8 (48+(x:Int))] 5)):=by
 have hd:=dig_nat x;rw[Nat.mod_eq_of_lt hx]at hd;refine run_convert_bytes_back _ 27 9 5 ⟨w.heap.size,0,none⟩ 1 [dig x] Tryz.underlying27 Tryz.underlying5 Tryz.underlying9 (λj hj=>?_);have e:j=0:=by simpa using hj
 subst e;have:=(Blk.new w 5 #[.int .u8 (48+(x:Int))]).cell 0
 simp[Addr.add,this,hd]
theorem refPut_any:∀(m n:Nat) (w:World),n<10^m->m<=20->n<18446744073709551616->
  Calls Tryz.prog 57 #[.int .u64 (n:Int)] w λe w'=>e=.returned (strV (dec n))/\Below w.heap.size w w':=by
 intro m
 induction m with
 |zero=>
  intro n w h _ _;have h0:n=0:=by simpa using h
  subst h0;have hcv:=conv_one w 0 (by decide);rw[dec_small 0 (by decide)]
  simp at hcv
  go_enter Tryz.func57,Tryz.ntmps57
  go_wp2_with fail
  go_ret
  exact⟨rfl,(Below.refl _ w).alloc jn _⟩
 |succ m ih=>
  intro n w h hm hn
  by_cases h10:n<10
  ·have hcv:=conv_one w n h10;rw[dec_small n h10];clear h ih hn
   go_enter Tryz.func57,Tryz.ntmps57
   go_wp2_with fail
   go_ret
   exact⟨rfl,(Below.refl _ w).alloc jn _⟩
  ·have h1:n/10<10^m:=by
    rw[Nat.div_lt_iff_lt_mul (by decide),<-Nat.pow_succ];exact h
   have hm1:1<=m:=by
    rcases m with _|m
    ·simp at h;omega
    ·omega
   have h2:n%10<10^m:=Nat.lt_of_lt_of_le (Nat.mod_lt _ (by decide)) (by
    have:=Nat.pow_le_pow_right (show 0<10 by decide) hm1
    omega)
   have HI1:=jq (λw=>ih (n/10) w h1 (by omega) (by omega));have HI2:=jq (λw=>ih (n%10) w h2 (by omega) (by omega))
   have HD:=jq (show strV (dec n)=.string ((⟨(dec (n/10)).toArray⟩:ByteArray)++(⟨(dec (n%10)).toArray⟩:ByteArray))from by
    rw[str_app,dec_small (n%10) (by omega),dec_big n (by omega) (by omega)];have:dig (n%10)=dig n:=by unfold dig;rw[Nat.mod_mod]
    rw[this]
    rfl)
   have hs1:=dec_length (n/10);have hs2:=dec_length (n%10);obtain⟨sa,hsa⟩:∃sa:ByteArray,sa=⟨(dec (n/10)).toArray⟩:=⟨_,rfl⟩;obtain⟨sb,hsb⟩:∃sb:ByteArray,sb=⟨(dec (n%10)).toArray⟩:=⟨_,rfl⟩;have hla:sa.size<=20:=by rw[hsa];simpa[ByteArray.size]using hs1
   have hlb:sb.size<=20:=by rw[hsb];simpa[ByteArray.size]using hs2
   rw[<-hsa,<-hsb]at HD;have HSA:=jq hsa;have HSB:=jq hsb;have h10':10<=n:=by omega
   clear ih h h1 h2 hs1 hs2 hsa hsb h10;obtain⟨q,hq⟩:=jl (n/10);obtain⟨r,hr⟩:=jl (n%10);have hqI: (n:Int)/10=(q:Int):=by omega
   have hrI: (n:Int)%10=(r:Int):=by omega
   rw[<-hq]at HI1 HSA;rw[<-hr]at HI2 HSB;clear hq hr
   go_enter Tryz.func57,Tryz.ntmps57
   go_wp2_with fail
   refine(HI1.out _).mono ?_;rintro e w1 ⟨rfl,hB1⟩;unfold strV;rw[<-HSA.out]
   go_wp2_with fail
   refine(HI2.out _).mono ?_;rintro e w2 ⟨rfl,hB2⟩;unfold strV;rw[<-HSB.out];have HB:=jq (hB1.trans (hB2.mono hB1.size));clear hB1 hB2
   go_wp2_with fail
   go_ret
   exact⟨by rw[HD.out];rfl,HB.out⟩
end Text
end Go.Proofs.YtfgjnpbffppocaaGreatDoor
