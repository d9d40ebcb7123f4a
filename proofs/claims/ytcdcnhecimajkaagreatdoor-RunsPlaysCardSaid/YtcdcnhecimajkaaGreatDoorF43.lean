/- Part. -/
import Derived.Test.YtcdcnhecimajkaaGreatDoorF0
import Derived.Test.YtcdcnhecimajkaaGreatDoorF0Q
import Derived.Test.YtcdcnhecimajkaaGreatDoorF5
import Derived.Test.YtcdcnhecimajkaaGreatDoorF40
set_option maxHeartbeats 2000000
set_option maxRecDepth 100000
namespace Go.Proofs.YtcdcnhecimajkaaGreatDoor
namespace Runs
open Go.RowKit Go.Deep Go.Shelf Mem Crc Merge RefF
open Store (nv)
attribute [local go_sem] Oper.semAt_some gtr_str'
theorem hc3_of {w:World} {base g off c:Nat} {sec:Frame.Sec} (h:w.ownsRow base 135 2 (.slice (some ⟨g,off,none⟩) 1 c) 1 (Frame.flatS [sec])):w.cell? ⟨g,off+1,none⟩=some (.slice sec.a sec.body.length sec.cp):=by
 obtain⟨_,_,e,_,hL,_,_⟩:=own_shape h;cases e;obtain⟨q,o,e,_,hc⟩:=hL.resolve_left (λe=>by simp[Frame.flatS,Frame.Sec.vs]at e);injection e with e;injection e with e1 e2;subst e1 e2;exact hc 1 _ (by simp[Frame.flatS,Frame.Sec.vs])
def ReadAns (o:Option (List B)) (w:World) (e:Ending) (w':World):Prop:=
 Below w.heap.size w w'/\match o with
 |some l=>∃a c,e=.returned (.tuple #[.slice a l.length c,.bool true])/\OwnS w' w.heap.size (.slice a l.length c) l
 |none=>∃a c,e=.returned (.tuple #[.slice a 0 c,.bool false])
theorem refRead_any (wd:Nat) (hwd:1<=wd) (hwd2:wd<=64) (bs:List UInt8) (w:World) (hm:bs.length<=1000000):
  Calls Tryz.prog 35 #[nv bs,.int .i64 (wd:Int)] w (ReadAns (readR wd bs) w):=by
 obtain⟨R0,hR0⟩:=jl (readR wd bs);rw[<-hR0];obtain⟨sb,hsb⟩:∃s:ByteArray,strB bs=.string s:=⟨_,rfl⟩
 have hsn:sb.size=bs.length:=by
  unfold strB at hsb;injection hsb with hsb;rw[<-hsb]
  simp[ByteArray.size]
 obtain⟨W1,hW1⟩:=jl (w.alloc (.cells #[] 9));have hB1:Below w.heap.size w W1:=by rw[hW1];exact(Below.refl _ w).alloc jn _
 have hO1:OwnS W1 w.heap.size (.slice (some ⟨w.heap.size,0,none⟩) 0 0) []:=by rw[hW1];exact own_empty w 9 1
 obtain⟨V,cap,hcv,hLV,hBV,hcap⟩:=conv_nameC bs sb hsb W1;rw[hsn]at hcv hcap;have hA:=Frame.all5_any (some ⟨W1.heap.size,0,none⟩) cap bs V hLV hcap (by omega);obtain⟨nb,hnb⟩:=jl bs.length;rw[<-hnb]at hcv hA;have hsz:W1.heap.size=w.heap.size+1:=by rw[hW1];simp
 rw[hsz]at hA hcv;rw[show nv bs=.string sb from hsb];have HR0:=jq hR0;have HO1:=jq (own_later hO1 hBV);have HBV:=jq (hB1.trans (hBV.mono hB1.size));have HA:=jq hA;have HMB:=jq hm;rw[hW1]at hcv;clear hR0 hsb hsn hB1 hO1 hLV hBV hA hnb hm hcap hW1 hsz
 go_enter Tryz.func35,Tryz.ntmps35
 go_wp2_with fail
 refine HA.out.mono ?_;rintro e w3 ⟨⟨v3,secs,rfl,hO3,hkb,hbod⟩,hB3⟩;obtain⟨va3,vc3,rfl,hvc3,hL3,hbl3,_⟩:=own_shape hO3;have hBZ:=HBV.out.trans (hB3.mono HBV.out.size);obtain⟨er,her⟩:=jl ((Frame.allF (bs.length+1) bs).2);obtain⟨ns,hns⟩:=jl secs.length;rw[<-her,<-hns];have HBZ:=jq hBZ;have HO3:=jq (own_later HO1.out hB3);have hbad:R0=none->ReadAns R0 w (.returned (.tuple #[.slice (some ⟨w.heap.size,0,none⟩) 0 0,.bool false])) w3:=λh=>⟨HBZ.out,by rw[h];exact⟨_,_,rfl⟩⟩
 by_cases he:er=0
 case neg=>
  have HE:=jq (hbad (by rw[HR0.out];exact readR_bad (by rw[<-her];exact he)));have t1: (er==0)=false:=by simpa using he
  have t2: (er !=0)=true:=by simpa using he
  clear hkb hbod hO3 hL3 hB3 hBZ her hns hbad
  go_wp2_with fail
  go_ret2
  exact HE.out
 subst he
 by_cases hs1:ns=1
 case neg=>
  have HE:=jq (hbad (by rw[HR0.out];exact readR_many (by rw[<-hkb,jP,<-hns];exact hs1)));have t1: ((ns:Int)==1)=false:=by simp;omega
  have t2: ((ns:Int) !=1)=true:=by simp;omega
  clear hkb hbod hO3 hL3 hB3 hBZ her hns hbad
  go_wp2_with fail
  go_ret2
  exact HE.out
 subst hs1
 obtain⟨sec,rfl⟩:∃z,secs= [z]:=by
  match secs,hns with
  | [z],_=>exact⟨z,rfl⟩
 have hbd:=hbod sec (by simp);obtain⟨g3,off3,rfl,hg3,hc3⟩:=hL3.resolve_left (λe=>by simp[Frame.flatS,Frame.Sec.vs]at e);obtain⟨kd,hkd⟩:=jl sec.kind.toNat;have p0:=hc3 0 (.int .u8 (kd:Int)) (by simp[Frame.flatS,Frame.Sec.vs,hkd,bv]);obtain⟨M,hM⟩:=jl sec.body.length;have p1:=hc3 1 (.slice sec.a M sec.cp) (by simp[Frame.flatS,Frame.Sec.vs,hM]);rw[Nat.add_zero]at p0;have HR1:=jq (show R0=rowsS wd sec.kind sec.body by rw[HR0.out];exact readR_one her.symm hkb.symm)
 by_cases h82:kd=82
 case neg=>
  have HE:=jq (hbad (by
   rw[HR1.out];unfold rowsS;rw[if_neg (λe=>h82 (by rw[hkd,e.1];rfl))]))
  have t1: ((kd:Int)==82)=false:=by simp;omega
  have t2: ((kd:Int) !=82)=true:=by simp;omega
  clear hkb hbod hO3 hL3 hB3 hBZ her hns hbad hbd hc3 hkd hM
  go_wp2_with fail
  go_ret2
  exact HE.out
 subst h82;have hk82:sec.kind=82:=UInt8.toNat_inj.1 (by rw[<-hkd];rfl)
 have hwd0: ((wd:Int)==0)=false:=by
  have:¬(wd:Int)=0:=by omega
  simpa using this
 obtain⟨r,hr⟩:=jl (M%wd);have hmod: (M:Int).tmod (wd:Int)=(r:Int):=by rw[hr];exact(Int.ofNat_tmod M wd).symm
 by_cases h00:r=0
 case neg=>
  have HE:=jq (hbad (by
   rw[HR1.out];unfold rowsS;rw[if_neg (λe=>h00 (by rw[hr,hM];exact e.2.1))]))
  have t1: ((r:Int)==0)=false:=by simp;omega
  have t2: ((r:Int) !=0)=true:=by simp;omega
  clear hkb hbod hO3 hL3 hB3 hBZ her hns hbad hbd hc3 hkd hM hr hk82
  go_wp2_with fail
  go_ret2
  exact HE.out
 subst h00
 have hMb:M<=1000000:=by
  have:=allF_body (bs.length+1) bs sec.kb (by rw[<-hkb];simp);have h2:=HMB.out;have h3:sec.kb.2.length=M:=hM.symm
  omega
 have hMm:M=M/wd*wd:=by have:=Nat.div_add_mod' M wd;omega
 obtain⟨m,hm⟩:=jl (M/wd);rw[<-hm]at hMm;obtain⟨l,hl⟩:=jl (cutB wd m sec.body)
 have HR2:=jq (show R0=if Rises l then some l else none by
  rw[HR1.out];unfold rowsS;rw[<-hM,<-hm,<-hl]
  by_cases h:Rises l
  ·rw[if_pos h,if_pos ⟨hk82,hr.symm,h⟩]
  ·rw[if_neg h,if_neg (λe=>h e.2.2)])
 have hll:l.length=m:=by rw[hl];exact cutB_len wd m sec.body
 have hlw:∀b∈l,b.length=wd:=by rw[hl];exact cutB_wide (by rw[<-hM];exact hMm)
 have hat:∀k,k<m->l[k]? =some ((sec.body.drop (k*wd)).take wd):=λk hk=>by rw[hl];exact cutB_at wd m sec.body k hk
 obtain⟨va4,vc4,ev4,hvc4,hL4,hbl4,_⟩:=own_shape hbd;injection ev4 with ea4 _ ec4;rw[<-ea4]at hL4 hbl4;rw[<-ec4,<-hM]at hvc4;have HL4:=jq hL4;have HM:=jq hM;have HLL:=jq hll;have HLW:=jq hlw;have HAT:=jq hat;have HMM:=jq hMm;have HG3:=jq hg3;have HO4:=jq HO3.out;have HSEC:=jq (show w3.ownsRow V.heap.size 135 2 (.slice (some ⟨g3,off3,none⟩) 1 vc3) 1 (Frame.flatS [sec])from hO3);have HBOD:=jq (show OwnB w3 V.heap.size (.slice sec.a M sec.cp) sec.body from by rw[hM];exact hbd);clear hkb hbod hO3 hL3 hc3 hL4 hB3 ea4 ec4 hbd hkd hM hr hk82 hMm hm hl hll hlw hat her hns hbl4 hbl3 hbad hBZ HO3
 go_wp2_with fail
 go_loopw[6,9] (λo i wr=>∃(k p:Nat) (oa:Option Addr) (oc:Nat),k<=m/\i=.int .i64 (p:Int)/\o=.slice oa k oc/\Hid (p=k*wd)/\Hid (OwnS wr w.heap.size (.slice oa k oc) (l.take k))/\Hid (Rises (l.take k))/\Hid (wr.ownsRow V.heap.size 135 2 (.slice (some ⟨g3,off3,none⟩) 1 vc3) 1 (Frame.flatS [sec]))/\Hid (OwnB wr V.heap.size (.slice sec.a M sec.cp) sec.body)/\Hid (Below w.heap.size w wr)) (λ_ i _=>M-(intOf i).toNat)
 case atStart=>exact⟨0,0,_,_,Nat.zero_le _,rfl,rfl,jq (by simp),jq HO4.out,jq List.Pairwise.nil,HSEC,HBOD,HBZ⟩
 case round=>
  obtain⟨k,p,oa,oc,hk,rfl,rfl,HP,HOUT,HRI,HSE,HBO,HB⟩:=hrel;have q1:=hc3_of HSE.out;rw[<-HM.out]at q1
  by_cases hlt:k<m
  ·have hpw:p+wd<=M:=by rw[HP.out,HMM.out,<-Nat.succ_mul];exact Nat.mul_le_mul_right _ hlt
   have hl2:p<M:=by omega
   have hkd:decide ((p:Int) <(M:Int))=true:=jd (by omega);have HWW:=jq (show IntKind.i64.wrap ((p:Int)+(wd:Int))=(p:Int)+(wd:Int)from(IntWalk.i64_left _).trans (IntWalk.wrap64_in _ (by omega)));obtain⟨b,hb⟩:∃b,l[k]? =some b:=⟨l[k]'(by rw[HLL.out];exact hlt),jg _⟩;have hbw:b.length=wd:=HLW.out b (jM hb)
   have hbe:b=(sec.body.drop p).take wd:=by
    have:=HAT.out k hlt;rw[<-HP.out,hb]at this;exact Option.some.inj this
   obtain⟨ba,bc,e4,hcap,hLb,_,_⟩:=own_shape HBO.out;injection e4 with e5 e7 e6;clear e7;rw[<-e5]at hLb;rw[<-e6,<-HM.out]at hcap
   obtain⟨gb,ob,eb,hgb,hcb⟩:=hLb.resolve_left (λe=>by
    have:=congrArg List.length e;rw[jP,<-HM.out]at this
    simp at this
    omega)
   rw[eb]at q1
   have hLr:Lies wr (some ⟨gb,ob+p,none⟩) (b.map bv):=by
    rw[hbe,List.map_take,List.map_drop];exact(Lies.drop (.inr ⟨gb,ob,rfl,hgb,hcb⟩) p).take wd
   obtain⟨sb,hsb⟩:∃s:ByteArray,strB b=.string s:=⟨_,rfl⟩
   have hcv: (convert 24 9 (.slice (some ⟨gb,ob+p,none⟩) wd (sec.cp-p))).run Tryz.prog wr=.ok (.string sb) wr:=by
    have:=Full.conv_any (vc:=sec.cp-p) hLr;rw[hbw,show nv b=.string sb from hsb]at this;exact this
   have htk:l.take (k+1)=l.take k++ [b]:=by rw[List.take_add_one,hb];rfl
   have hkl: (l.take k).length=k:=by rw[jT,HLL.out];omega
   obtain⟨W2,hW2⟩:=jl (wr.alloc (.cells #[.string sb] 9));have hB2:Below wr.heap.size wr W2:=by rw[hW2];exact(Below.refl _ wr).alloc jn _
   have hL2:Lies W2 (some ⟨wr.heap.size,0,none⟩) ([b].map strB):=by
    rw[hW2];have:=new_lies wr 9 #[.string sb]
    simpa[hsb]using this
   have hmb:m<=1000000:=by
    have:=Nat.le_mul_of_pos_right m (show 0<wd by omega);have:=HMM.out
    omega
   have hO2:OwnS W2 w.heap.size (.slice oa k oc) (l.take k):=own_later HOUT.out hB2;obtain⟨a3,c3,w4,hr4,hO4,hg4⟩:=run_append_strs W2 36 _ _ hO2 (some ⟨wr.heap.size,0,none⟩) 1 [b] hL2 (by rw[hkl];simp;omega) (Nat.le_trans HB.out.size hB2.size);rw[<-htk,show(l.take (k+1)).length=k+1 by rw[jT,HLL.out];omega]at hr4 hO4;have hu4:Upon (λq=>(Value.slice oa k oc).ownBlock=some q) W2 w4:=Upon.of_grown hg4 (λq hq=>.inl hq);have hse2:=own_later HSE.out hB2;have hbo2:=own_later HBO.out hB2;have HSE4:=jq (own_upon hse2 hu4 (λq hq e=>(own_apart hse2 hO2 (by decide)).elim (λh=>by rw[h]at hq;cases hq) (λh=>h (by rw[hq,e]))));have HBO4:=jq (own_upon hbo2 hu4 (λq hq e=>(own_apart hbo2 hO2 (by decide)).elim (λh=>by rw[h]at hq;cases hq) (λh=>h (by rw[hq,e]))));have HB4:=jq ((HB.out.trans (hB2.mono HB.out.size)).grown hg4 (Nat.le_trans HB.out.size hB2.size) (λq hq=>(hO2.lt q hq).1));have HO4':=jq hO4;simp only[List.length_singleton]at hr4;rw[hW2]at hr4;have HRB:=jq hb;have HHSB:=jq hsb
   have hoL:Lies wr oa ((l.take k).map strB):=by
    obtain⟨_,_,e,_,h,_,_⟩:=own_shape HOUT.out;injection e with e1 _ _;rw[e1];exact h
   have HTK:=jq htk;have HPN:=jq (show p+wd=(k+1)*wd by rw[HP.out,Nat.succ_mul])
   have hcase: (k=0\/∃pv,0<k/\l[k-1]? =some pv/\¬b<pv)\/∃pv,0<k/\l[k-1]? =some pv/\b<pv:=by
    by_cases h0:k=0
    ·exact .inl (.inl h0)
    ·have hx:l[k-1]? =some (l[k-1]'(by rw[HLL.out];omega)):=jg _
     by_cases h2:b<l[k-1]'(by rw[HLL.out];omega)
     ·exact .inr ⟨_,by omega,hx,h2⟩
     ·exact .inl (.inr ⟨_,by omega,hx,h2⟩)
   have HOL:=jq hoL;have hkm:k<1000000:=by omega
   clear hb hbw hbe hcap hLb hgb hcb eb hLr hsb htk hkl hB2 hL2 hO2 hO4 hg4 hu4 hse2 hbo2 hW2 hoL e5 e6 hmb;rcases hcase with hgood|⟨pv,hk0,hpv,hbad⟩
   ·have HRI2:=jq (show Rises (l.take (k+1))by
     rw[HTK.out];refine rises_snoc HRI.out (λx hx=>?_);rcases hgood with rfl|⟨pv,hk0,hpv,hle⟩
     ·simp at hx
     ·have:x=pv:=by
       rw[List.getLast?_eq_getElem?,jT,HLL.out,List.getElem?_take]at hx;rw[show min k m-1=k-1 by omega,if_pos (by omega),hpv]at hx;exact(Option.some.inj hx).symm
      rw[this];exact List.not_lt.1 hle)
    rcases hgood with hk0|⟨pv,hk0,hpv,hle⟩
    case inl=>
     have d0:decide (0<k)=false:=jf (by omega);have hw:=HWW.out;clear hk0
     go_wp2_with (first|(at_builtin;refine Lib.wpList_append_run _ rfl _ _ _ _ rfl _ _ rfl rfl _ _ hr4 ?_))
     go_roundw
     case rel=>exact⟨k+1,p+wd,a3,c3,by omega,by simp,rfl,HPN,HO4',HRI2,HSE4,HBO4,HB4⟩
     case measure=>
      clear hw
      simp[intOf]
      omega
    case inr=>
     have d0:decide (0<k)=true:=jd (by omega);obtain⟨sp,hsp⟩:∃s:ByteArray,strB pv=.string s:=⟨_,rfl⟩;obtain⟨og,oo,rfl,cp⟩:=lies_at HOL.out (k:=k-1) (u:=.string sp) (by rw[List.getElem?_map,List.getElem?_take,if_pos (by omega),hpv];simp[hsp]);have hgt:=gtr_lt (x:=pv) (y:=b) hsp HHSB.out;rw[jf hle]at hgt;have hk1:k-1<k:=by omega
     have hw:=HWW.out;clear hle hpv hsp
     go_wp2_with (first|(at_builtin;refine Lib.wpList_append_run _ rfl _ _ _ _ rfl _ _ rfl rfl _ _ hr4 ?_))
     go_roundw
     case rel=>exact⟨k+1,p+wd,a3,c3,by omega,by simp,rfl,HPN,HO4',HRI2,HSE4,HBO4,HB4⟩
     case measure=>
      clear hw
      simp[intOf]
      omega
   ·have hno:¬Rises l:=λh=>by
     have:=rises_iff.1 h (k-1) pv b hpv (by rw[show k-1+1=k by omega];exact HRB.out);exact absurd hbad (List.not_lt.2 this)
    have hn:R0=none:=by rw[HR2.out,if_neg hno]
    obtain⟨W9,hW9⟩:=jl (wr.alloc (.cells #[] 9));have HE:=jq (show ReadAns R0 w (.returned (.tuple #[.slice (some ⟨wr.heap.size,0,none⟩) 0 0,.bool false])) W9 from⟨by rw[hW9];exact HB.out.alloc HB.out.size _,by rw[hn];exact⟨_,_,rfl⟩⟩);rw[hW9]at HE;have d0:decide (0<k)=true:=jd (by omega);obtain⟨sp,hsp⟩:∃s:ByteArray,strB pv=.string s:=⟨_,rfl⟩;obtain⟨og,oo,rfl,cp⟩:=lies_at HOL.out (k:=k-1) (u:=.string sp) (by rw[List.getElem?_map,List.getElem?_take,if_pos (by omega),hpv];simp[hsp]);have hgt:=gtr_lt (x:=pv) (y:=b) hsp HHSB.out;rw[jd hbad]at hgt;have hk1:k-1<k:=by omega
    have hw:=HWW.out;clear hbad hpv hsp hno hn hW9 hr4
    go_wp2_with fail
    go_ret2
    exact HE.out
  ·obtain rfl:k=m:=by omega
   have hpM:p=M:=by rw[HP.out,HMM.out]
   subst hpM;have hkd:decide ((p:Int) <(p:Int))=false:=jf (by omega);have htk:l.take k=l:=jW (by rw[HLL.out];exact Nat.le_refl _);have hri:=HRI.out;rw[htk]at hri
   have HE:=jq (show ReadAns R0 w (.returned (.tuple #[.slice oa k oc,.bool true])) wr from⟨HB.out,by
    rw[HR2.out,if_pos hri];have ho:=HOUT.out;rw[htk]at ho;dsimp only;rw[HLL.out];exact⟨oa,oc,rfl,ho⟩⟩)
   clear hri htk
   go_wp2_with fail
   go_ret2
   exact HE.out
end Runs
end Go.Proofs.YtcdcnhecimajkaaGreatDoor
