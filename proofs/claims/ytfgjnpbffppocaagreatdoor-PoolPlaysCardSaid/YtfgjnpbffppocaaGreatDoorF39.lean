/- Part. -/
import Derived.Test.YtfgjnpbffppocaaGreatDoorF0
import Derived.Test.YtfgjnpbffppocaaGreatDoorF0Q
import Derived.Test.YtfgjnpbffppocaaGreatDoorF2
import Derived.Test.YtfgjnpbffppocaaGreatDoorF20
import Derived.Test.YtfgjnpbffppocaaGreatDoorShelf
import Derived.Deep.RegionHeld3
set_option maxHeartbeats 2000000
set_option maxRecDepth 100000
namespace Go.Proofs.YtfgjnpbffppocaaGreatDoor
namespace Read
open Go.RowKit Go.Deep Mem Crc
def numG (most:Nat):Nat->Nat->List UInt8->Nat×Nat×Int
 |_,_,[]=>(0,0,2)
 |i,n,c ::r=>
  if 64<i*7+Lib.bitLen (c.toNat%128)\/(0<i/\c.toNat=0)then(0,0,3)
  else if 127<c.toNat then numG most (i+1) (n+c.toNat%128*2^(7*i)) r
  else if most<n+c.toNat%128*2^(7*i)then(0,0,9)
  else(n+c.toNat%128*2^(7*i),i+1,0)
def Rd (B:Nat) (w:World) (r:Nat) (bs:List UInt8) (e:Int):Prop:=∃a cap,Blk w r 242 #[.slice a bs.length cap,.int .i64 e]/\bs.length<=cap/\bs.length<=4000000/\Lies w a (bs.map bv)/\(∀k,Mem.blk a=some k->k<B)/\B<=r
theorem Rd.lt {B:Nat} {w:World} {r:Nat} {bs:List UInt8} {e:Int} (h:Rd B w r bs e):r<w.heap.size:=by
 obtain⟨a,cap,h1,_⟩:=h;exact h1.lt
theorem Rd.upon {B:Nat} {X:Nat->Prop} {w w':World} {r:Nat} {bs:List UInt8} {e:Int} (h:Rd B w r bs e) (hu:Upon X w w') (hr:¬X r) (hX:∀k,X k->B<=k):Rd B w' r bs e:=by
 obtain⟨a,cap,h1,h2,h3,h4,h5,h6⟩:=h;exact⟨a,cap,h1.upon hu hr,h2,h3,h4.upon hu (λk hk hx=>by have:=h5 k hk;have:=hX k hx;omega),h5,h6⟩
theorem Rd.later {B:Nat} {w w':World} {r:Nat} {bs:List UInt8} {e:Int} (h:Rd B w r bs e) (hB:Below w.heap.size w w'):Rd B w' r bs e:=by
 obtain⟨a,cap,h1,h2,h3,h4,h5⟩:=h;exact⟨a,cap,h1.below hB h1.lt,h2,h3,h4.later hB,h5⟩
theorem new_any (B:Nat) (a:Option Addr) (cap:Nat) (bs:List UInt8) (w:World) (hc:bs.length<=cap) (hc2:bs.length<=4000000) (hL:Lies w a (bs.map bv)) (ha:∀k,Mem.blk a=some k->k<B) (hB:B<=w.heap.size):
  Calls Tryz.prog 135 #[.slice a bs.length cap] w λe w'=>∃r,e=.returned (.pointer (some ⟨r,0,none⟩))/\Rd B w' r bs 0/\w.heap.size<=r/\Below w.heap.size w w':=by
 obtain⟨n,hn⟩:=jl bs.length;rw[<-hn];have HN:=jq hn;have HL:=jq hL;have HA:=jq ha;have HBB:=jq hB;clear hL ha hn hB
 go_enter Tryz.func135,Tryz.ntmps135
 go_wp2_with fail
 go_ret
 have hB:Below w.heap.size w (w.alloc (.cells #[.slice a n cap,.int .i64 0] 242)):=(Below.refl _ w).alloc jn _;exact⟨w.heap.size,rfl,⟨a,cap,by rw[<-HN.out];exact Blk.new w _ _,hc,hc2,HL.out.later hB,HA.out,HBB.out⟩,Nat.le_refl _,hB⟩
theorem bad_any {B:Nat} {w:World} {r:Nat} {bs:List UInt8} (h:Rd B w r bs 0) (k:Int) (hk:k≠0):
  Calls Tryz.prog 158 #[.pointer (some ⟨r,0,none⟩),.int .i64 k] w λe w'=>e=.returned (.tuple #[])/\Rd B w' r bs k/\Only [r] w w':=by
 obtain⟨a,cap,hb,h2,h3,h4,h5,h6⟩:=h;have c1:=hb.cell 1;have z1:=hb.frozen 1
 simp at c1
 have hk': (k==0)=false:=by simpa using hk
 have ho:Only [r] w (w.setCell ⟨r,1,none⟩ (.int .i64 k)):=(Only.refl [r] w).set (p:=⟨r,1,none⟩) (.inl (by simp)) _;have hR:Rd B (w.setCell ⟨r,1,none⟩ (.int .i64 k)) r bs k:=⟨a,cap,hb.set 1 _,h2,h3,h4.only ho (λg hg hm=>by have:=h5 g hg;rw[jE.1 hm]at this;omega),h5,h6⟩;have HR:=jq hR;have HO:=jq ho;clear hb h4 h5 hR ho h2 h3
 go_enter Tryz.func158,Tryz.ntmps158
 go_wp2_with fail
 go_end0
 exact⟨rfl,HR.out,HO.out⟩
theorem err_any {B:Nat} {w:World} {r:Nat} {bs:List UInt8} {k:Int} (h:Rd B w r bs k):
  Calls Tryz.prog 137 #[.pointer (some ⟨r,0,none⟩)] w λe w'=>e=.returned (.int .i64 k)/\w'=w:=by
 obtain⟨a,cap,hb,_⟩:=h;have c1:=hb.cell 1
 simp at c1
 clear hb
 go_enter Tryz.func137,Tryz.ntmps137
 go_wp2_with fail
 go_ret
 exact⟨rfl,rfl⟩
def endE (bs:List UInt8) (k:Int):Int:=if k=0 then(if bs= []then 0 else 4)else k
theorem left_any {B:Nat} {w:World} {r:Nat} {bs:List UInt8} {k:Int} (h:Rd B w r bs k):
  Calls Tryz.prog 159 #[.pointer (some ⟨r,0,none⟩)] w λe w'=>e=.returned (.int .i64 (if k=0 then(bs.length:Int)else 0))/\w'=w:=by
 obtain⟨a,cap,hb,_⟩:=h;have c0:=hb.cell 0;have c1:=hb.cell 1
 simp at c0 c1
 obtain⟨n,hn⟩:=jl bs.length;rw[<-hn]at c0⊢;clear hb hn
 by_cases hk:k=0
 ·subst hk;rw[if_pos rfl]
  go_enter Tryz.func159,Tryz.ntmps159
  go_wp2_with fail
  go_ret
  exact⟨rfl,rfl⟩
 ·have hk': (k==0)=false:=by simpa using hk
  rw[if_neg hk]
  go_enter Tryz.func159,Tryz.ntmps159
  go_wp2_with fail
  go_ret
  exact⟨rfl,rfl⟩
theorem end_any {B:Nat} {w:World} {r:Nat} {bs:List UInt8} {k:Int} (h:Rd B w r bs k):
  Calls Tryz.prog 139 #[.pointer (some ⟨r,0,none⟩)] w λe w'=>e=.returned (.int .i64 (endE bs k))/\w'=w:=by
 have HL:=jq (left_any h);have HE:=jq (err_any h);clear h
 by_cases hk:k=0
 ·subst hk;rw[if_pos rfl]at HL
  by_cases hb:bs= []
  ·subst hb;have e0:endE [] 0=0:=rfl;rw[e0];simp only[List.length_nil]at HL
   go_enter Tryz.func139,Tryz.ntmps139
   go_wp2_with fail
   refine HL.out.mono ?_;rintro e w1 ⟨rfl,rfl⟩
   go_wp2_with fail
   refine HE.out.mono ?_;rintro e w2 ⟨rfl,rfl⟩
   go_wp2_with fail
   go_ret
   exact⟨rfl,rfl⟩
  ·have e0:endE bs 0=4:=by unfold endE;rw[if_pos rfl,if_neg hb]
   rw[e0];obtain⟨n,hn⟩:=jl bs.length;rw[<-hn]at HL
   have hn1:decide (0<n)=true:=jd (by
    have:bs.length≠0:=λh=>hb (List.length_eq_zero_iff.1 h)
    omega)
   clear hb e0 hn
   go_enter Tryz.func139,Tryz.ntmps139
   go_wp2_with fail
   refine HL.out.mono ?_;rintro e w1 ⟨rfl,rfl⟩
   go_wp2_with fail
   go_ret
   exact⟨rfl,rfl⟩
 ·rw[if_neg hk]at HL;have e0:endE bs k=k:=by unfold endE;rw[if_neg hk]
  rw[e0];clear e0 hk
  go_enter Tryz.func139,Tryz.ntmps139
  go_wp2_with fail
  refine HL.out.mono ?_;rintro e w1 ⟨rfl,rfl⟩
  go_wp2_with fail
  refine HE.out.mono ?_;rintro e w2 ⟨rfl,rfl⟩
  go_wp2_with fail
  go_ret
  exact⟨rfl,rfl⟩
theorem add_lit (b off n:Nat): (⟨b,off,none⟩:Addr).add n=⟨b,off+n,none⟩:=by
 unfold Addr.add
 split <;> simp_all
theorem add_block (p:Addr) (n:Nat): (p.add n).block=p.block:=by
 unfold Addr.add
 split <;> rfl
theorem slice_low (a:Option Addr) (len cap m:Nat) (h1:m<=len) (h2:len<=cap):∃a',(∀W:World,(Instr.sliceAt 27 (.slice a len cap) (some (.int .i64 (m:Int))) none none).run Tryz.prog W=.ok (.slice a' (len-m) (cap-m)) W)/\Mem.blk a'=Mem.blk a/\
  ∀(W:World) (l:List UInt8),l.length=len->Lies W a (l.map bv)->Lies W a' ((l.drop m).map bv):=by
 have hel:Tryz.prog.elem 27=5:=by kernel_rfl
 have hu:Tryz.prog.underlying 27=some (.slice (Tryz.prog.elem 27)):=by rw[hel];exact Tryz.underlying27
 have hsz:∀W:World,(sizeOf 5).run Tryz.prog W=.ok 1 W:=λW=>by kernel_rfl
 refine⟨if cap=m then a else a.map (·.add (m*1)),λW=>?_,?_,λW l hl hL=>?_⟩
 ·rw[run_sliceAt_slice W _ _ _ _ _ hu,run_slice_l W _ _ _ _ hu .i64 (m:Int) (by omega) (by omega),hel,hsz]
  simp[Result.andThen,sliced]
 ·split
  ·rfl
  ·cases a with
   |none=>rfl
   |some p=>simp[Mem.blk,add_block]
 ·by_cases hm:m=len
  ·left
   rw[hm,<-hl,List.drop_length]
   rfl
  ·rw[if_neg (by omega)];rcases hL with h|⟨g,off,rfl,hg,hc⟩
   ·left
    rw[List.map_eq_nil_iff]at h;rw[h]
    simp
   ·have e: (some (⟨g,off,none⟩:Addr)).map (·.add (m*1))=some ⟨g,off+m,none⟩:=by
     rw[Nat.mul_one];show some ((⟨g,off,none⟩:Addr).add m)=_;rw[add_lit]
    rw[e,List.map_drop];exact Lies.drop (.inr ⟨g,off,rfl,hg,hc⟩) m
theorem lies_get {w:World} {a:Option Addr} {bs:List UInt8} (h:Lies w a (bs.map bv)) {k:Nat} {c:UInt8} (hk:bs[k]? =some c):∃g o,a=some ⟨g,o,none⟩/\w.cell? ⟨g,o+k,none⟩=some (bv c):=by
 obtain⟨g,o,rfl,_,hc⟩:=h.resolve_left (λe=>by rw[List.map_eq_nil_iff.1 e]at hk;simp at hk);exact⟨g,o,rfl,hc k _ (bv_at hk)⟩
theorem or_join (N x k:Nat) (hN:N<2^k):N ||| x*2^k=N+x*2^k:=by
 rw[Nat.or_comm,Nat.add_comm,<-Nat.shiftLeft_eq,Nat.shiftLeft_add_eq_or_of_lt hN]
theorem bitLen_lt7:∀n:Fin 128,n.val<2^Lib.bitLen n.val/\Lib.bitLen n.val<=7:=by decide +kernel
theorem num_step {N x i:Nat} (hN:N<2^(7*i)) (h:i*7+Lib.bitLen (x%128)<=64):x%128*2^(7*i) <18446744073709551616/\N+x%128*2^(7*i) <18446744073709551616/\N+x%128*2^(7*i) <2^(7*(i+1))/\i<=9:=by
 obtain⟨h1,h2⟩:=bitLen_lt7 ⟨x%128,Nat.mod_lt _ (by decide)⟩;dsimp only at h1 h2;have hy7:x%128+1<=128:=by have:=Nat.mod_lt x (show 0<128 by decide);omega
 obtain⟨l,hl⟩:=jl (Lib.bitLen (x%128));rw[<-hl]at h h1 h2;clear hl;obtain⟨y,hy⟩:=jl (x%128);rw[<-hy]at h1 hy7⊢;clear hy;have e1: (y+1)*2^(7*i)=y*2^(7*i)+2^(7*i):=Nat.succ_mul _ _;have h3: (y+1)*2^(7*i)<=2^(l+7*i):=by rw[Nat.pow_add];exact Nat.mul_le_mul_right _ h1
 have h4:2^(l+7*i)<=2^64:=Nat.pow_le_pow_right (by decide) (by omega);have h5: (y+1)*2^(7*i)<=128*2^(7*i):=Nat.mul_le_mul_right _ hy7;have h6:128*2^(7*i)=2^(7*(i+1)):=by rw[show 7*(i+1)=7+7*i by omega,Nat.pow_add]
 have h7: (2:Nat)^64=18446744073709551616:=by decide
 refine⟨by omega,by omega,by omega,by omega⟩
theorem and127:∀n:Fin 256,bits .and .u8 (n.val:Int) 127=((n.val%128:Nat):Int):=by decide +kernel
theorem num_bad {B:Nat} {w:World} {r:Nat} {bs:List UInt8} {k:Int} (h:Rd B w r bs k) (hk:k≠0) (most:Nat):
  Calls Tryz.prog 136 #[.pointer (some ⟨r,0,none⟩),.int .u64 (most:Int)] w λe w'=>e=.returned (.int .u64 0)/\w'=w:=by
 obtain⟨a,cap,hb,_⟩:=h;have c1:=hb.cell 1
 simp at c1
 have hk': (k==0)=false:=by simpa using hk
 clear hb
 go_enter Tryz.func136,Tryz.ntmps136
 go_wp2_with fail
 go_ret
 exact⟨rfl,rfl⟩
attribute [local go_sem] Oper.semAt_some
theorem num_any {B:Nat} {w:World} {r:Nat} {bs:List UInt8} (h:Rd B w r bs 0) (most:Nat) (_:most<18446744073709551616):
  Calls Tryz.prog 136 #[.pointer (some ⟨r,0,none⟩),.int .u64 (most:Int)] w λe w'=>e=.returned (.int .u64 ((numG most 0 0 bs).1:Int))/\Rd B w' r (bs.drop (numG most 0 0 bs).2.1) (numG most 0 0 bs).2.2/\Only [r] w w':=by
 obtain⟨a,cap,hb,h2,h3,h4,h5,h6⟩:=id h;have c0:=hb.cell 0;have c1:=hb.cell 1;have z0:=hb.frozen 0
 simp at c0 c1
 obtain⟨L,hL⟩:=jl bs.length;rw[<-hL]at c0 h2 h3;obtain⟨res,hres⟩:=jl (numG most 0 0 bs);rw[<-hres];have HRES:=jq hres;have HLL:=jq hL;have HR:=jq h;have H4:=jq h4;have HB:=jq hb;have H5:=jq h5;have H6:=jq h6;clear hb h4 h5 h6 h hL hres
 go_enter Tryz.func136,Tryz.ntmps136
 go_wp2_with fail
 go_loopw[5,22] (λn i wr=>∃(k N:Nat),k<=L/\n=.int .u64 (N:Int)/\i=.int .i64 (k:Int)/\Hid (wr=w)/\Hid (N<2^(7*k))/\N<18446744073709551616/\Hid (numG most k N (bs.drop k)=res)) (λ_ i _=>L-(intOf i).toNat)
 case atStart=>exact⟨0,0,Nat.zero_le _,rfl,rfl,jq rfl,jq (by decide),by decide,jq HRES.out.symm⟩
 case round=>
  obtain⟨k,N,hk,rfl,rfl,hw,hN,hN2,hG⟩:=hrel;obtain rfl:wr=w:=hw.out
  by_cases hlt:k<L
  ·have hjd:decide ((k:Int) <(L:Int))=true:=jd (by omega);obtain⟨c,hc⟩:∃c,bs[k]? =some c:=⟨bs[k]'(by rw[<-HLL.out];exact hlt),jg _⟩;obtain⟨ga,oa,rfl,hca⟩:=lies_get H4.out hc
   have hstep:bs.drop k=c ::bs.drop (k+1):=by
    rw[List.drop_eq_getElem_cons (jS.1 hc).1,(jS.1 hc).2]
   have hg:=hG.out;rw[hstep]at hg;unfold numG at hg;obtain⟨x,hx⟩:=jl c.toNat;have hx256:x<256:=by rw[hx];exact c.toNat_lt
   rw[<-hx]at hg;have hcv:bv c=.int .u8 (x:Int):=by rw[hx];rfl
   rw[hcv]at hca;have hand:bits .and .u8 (x:Int) 127=((x%128:Nat):Int):=and127 ⟨x,hx256⟩;have hns:=λh=>num_step (x:=x) (i:=k) hN.out h
   have hlb7:Lib.bitLen (x%128)<=7:=(bitLen_lt7 ⟨x%128,Nat.mod_lt _ (by decide)⟩).2;have hxm:x%128<128:=Nat.mod_lt _ (by decide);obtain⟨xm,hxe⟩:=jl (x%128);rw[<-hxe]at hand hns hlb7 hg hxm;have hlen:=Tryz.bits_Len8 (xm:Int) wr (by omega) (by omega);have e8: (xm:Int).toNat=xm:=by omega
   rw[e8]at hlen;obtain⟨lb,hlb⟩:=jl (Lib.bitLen xm);rw[<-hlb]at hlen hg hns hlb7;have HNS:=jq hns;have HG:=jq hg;have HLEN:=jq hlen;have HLB:=jq hlb;clear hg hlen hlb hstep hc hx hcv hw hG e8 hns hxe
   go_wp2_with fail
   refine HLEN.out.mono ?_;rintro e w1 ⟨rfl,rfl⟩
   by_cases hA:64<k*7+lb\/(0<k/\x=0)
   ·have hr:res=(0,0,3):=by
     have:=HG.out;rw[if_pos hA]at this;exact this.symm
    have HBAD:=jq (bad_any HR.out 3 (by decide));have HRR:=jq hr
    by_cases hA1:64<k*7+lb
    ·have hd1:decide ((64:Int) <(k:Int)*7+(lb:Int))=true:=jd (by omega);clear hA hr
     go_wp2_with fail
     refine HBAD.out.mono ?_;rintro e w2 ⟨rfl,hR2,hO2⟩;have HR2:=jq hR2;have HO2:=jq hO2;clear hR2 hO2 HBAD
     go_wp2_with fail
     go_ret
     rw[HRR.out];exact⟨rfl,HR2.out,HO2.out⟩
    ·have hd1:decide ((64:Int) <(k:Int)*7+(lb:Int))=false:=jf (by omega);have hk0:decide (0<k)=true:=jd (by omega);have hx0: ((x:Int)==0)=true:=by simp;omega
     clear hA hr
     go_wp2_with fail
     refine HBAD.out.mono ?_;rintro e w2 ⟨rfl,hR2,hO2⟩;have HR2:=jq hR2;have HO2:=jq hO2;clear hR2 hO2 HBAD
     go_wp2_with fail
     go_ret
     rw[HRR.out];exact⟨rfl,HR2.out,HO2.out⟩
   ·have hg2:=HG.out;rw[if_neg hA]at hg2;obtain⟨s1,s2,s3,s4⟩:=HNS.out (by omega);obtain⟨sh,hsh⟩:=jl (xm*2^(7*k))
    have hor:bits .or .u64 (N:Int) (sh:Int)=((N+sh:Nat):Int):=by
     rw[hsh,u64_or_nat N _ hN2 s1,or_join N xm (7*k) hN.out]
    rw[<-hsh]at s1 s2 s3 hg2;have hd1:decide ((64:Int) <(k:Int)*7+(lb:Int))=false:=jf (by omega);have HG2:=jq hg2;have HSH:=jq hsh;clear hg2 hsh;obtain⟨kp,hkp⟩:=jl (decide (0<k))
    have hkz:kp=true->((x:Int)==0)=false:=λh=>by
     have:0<k:=by rw[hkp]at h;exact of_decide_eq_true h
     simp
     omega
    have hkd:decide (0<k)=kp:=hkp.symm;have HKZ:=jq hkz;have hsl: ((xm:Int)*2^(7*k))=(sh:Int):=by rw[HSH.out];push_cast;rfl
    clear hkz hkp hA HNS
    by_cases hC:127<x
    ·have hd2:decide (127<(x:Int))=true:=jd (by omega);have hg3:=HG2.out;rw[if_pos hC]at hg3;have HG3:=jq hg3;clear hg3 HG2;cases kp
     ·go_wp2_with fail
      exact⟨⟨k+1,N+sh,by omega,by simp,by simp,jq (by trivial),jq s3,s2,HG3⟩,by simp[intOf];omega⟩
     ·have hx0:=HKZ.out rfl
      go_wp2_with fail
      exact⟨⟨k+1,N+sh,by omega,by simp,by simp,jq (by trivial),jq s3,s2,HG3⟩,by simp[intOf];omega⟩
    ·have hd2:decide (127<(x:Int))=false:=jf (by omega);have hg3:=HG2.out;rw[if_neg hC]at hg3
     by_cases hM:most<N+sh
     ·rw[if_pos hM]at hg3;have HRR:=jq hg3.symm;have hd3:decide ((most:Int) <(N:Int)+(sh:Int))=true:=jd (by omega);have HBAD:=jq (bad_any HR.out 9 (by decide));clear hg3 HG2;cases kp
      all_goals
       first|(have hx0:=HKZ.out rfl)|skip
       go_wp2_with fail
       refine HBAD.out.mono ?_;rintro e w2 ⟨rfl,hR2,hO2⟩;have HR2:=jq hR2;have HO2:=jq hO2;clear hR2 hO2 HBAD
       go_wp2_with fail
       go_ret
       rw[HRR.out];exact⟨rfl,HR2.out,HO2.out⟩
     ·rw[if_neg hM]at hg3;have HRR:=jq hg3.symm;have hd3:decide ((most:Int) <(N:Int)+(sh:Int))=false:=jf (by omega);obtain⟨a',hsl2,hblk,hlies⟩:=slice_low (some ⟨ga,oa,none⟩) L cap (k+1) (by omega) h2;have hsc: (((k+1:Nat):Int))=(k:Int)+1:=by push_cast;rfl
      rw[hsc]at hsl2
      have hRn:Rd B (w1.setCell ⟨r,0,none⟩ (.slice a' (L-(k+1)) (cap-(k+1)))) r (bs.drop (k+1)) 0:=by
       have hbl:=HB.out.set 0 (.slice a' (L-(k+1)) (cap-(k+1)));have hl2: (bs.drop (k+1)).length=L-(k+1):=by rw[List.length_drop,HLL.out]
       refine⟨a',cap-(k+1),by rw[hl2];exact hbl,by rw[hl2];omega,by rw[hl2];omega,?_,λq hq=>H5.out q (by rw[<-hblk];exact hq),H6.out⟩;have hu:Upon (λq=>q=r) w1 (w1.setCell ⟨r,0,none⟩ (.slice a' (L-(k+1)) (cap-(k+1)))):=(Upon.refl (λq=>q=r) w1).set (p:=⟨r,0,none⟩) (.inl rfl) _
       exact(hlies w1 bs HLL.out.symm H4.out).upon hu (λq hq e=>by
        have:=H5.out q (by rw[<-hblk];exact hq);have:=H6.out
        omega)
      have hOn:Only [r] w1 (w1.setCell ⟨r,0,none⟩ (.slice a' (L-(k+1)) (cap-(k+1)))):=(Only.refl [r] w1).set (p:=⟨r,0,none⟩) (.inl (by simp)) _;have HRN:=jq hRn;have HON:=jq hOn;clear hg3 HG2 hRn hOn hblk hlies hsc;cases kp
      all_goals
       first|(have hx0:=HKZ.out rfl)|skip
       go_wp2_with fail
       go_ret
       rw[HRR.out];exact⟨rfl,HRN.out,HON.out⟩
  ·have hjd:decide ((k:Int) <(L:Int))=false:=jf (by omega);have hg:=hG.out;rw[List.drop_of_length_le (by rw[<-HLL.out];omega)]at hg;have HRR:=jq (show res=(0,0,2)from hg.symm);have HBAD:=jq (bad_any HR.out 2 (by decide));clear hg hG hw
   go_wp2_with fail
   refine HBAD.out.mono ?_;rintro e w2 ⟨rfl,hR2,hO2⟩;have HR2:=jq hR2;have HO2:=jq hO2;clear hR2 hO2 HBAD
   go_wp2_with fail
   go_ret
   rw[HRR.out];exact⟨rfl,HR2.out,HO2.out⟩
end Read
end Go.Proofs.YtfgjnpbffppocaaGreatDoor
