/- Part. -/
import Derived.Test.YtfgjnpbffppocaaGreatDoorF0
import Derived.Test.YtfgjnpbffppocaaGreatDoorF0H
import Derived.Test.YtfgjnpbffppocaaGreatDoorF0Q
import Derived.Test.YtfgjnpbffppocaaGreatDoorF7
import Derived.Test.YtfgjnpbffppocaaGreatDoorF8
import Derived.Test.YtfgjnpbffppocaaGreatDoorF9
import Derived.Test.YtfgjnpbffppocaaGreatDoorF15
import Derived.Test.YtfgjnpbffppocaaGreatDoorF17
import Derived.Test.YtfgjnpbffppocaaGreatDoorF18
import Derived.Test.YtfgjnpbffppocaaGreatDoorF38
import Derived.Test.YtfgjnpbffppocaaGreatDoorF41
import Derived.Test.YtfgjnpbffppocaaGreatDoorF42
import Derived.Test.YtfgjnpbffppocaaGreatDoorF43
import Derived.Test.YtfgjnpbffppocaaGreatDoorF44
import Derived.Test.YtfgjnpbffppocaaGreatDoorF46
import Derived.Deep.DeepCutAuto
import Derived.Deep.RegionLaw
import Derived.Deep.QuietTactic
import Derived.Deep.RegionHeld3
set_option maxHeartbeats 8000000
set_option maxRecDepth 100000
namespace Go.Proofs.YtfgjnpbffppocaaGreatDoor
namespace Pool
open Go.RowKit Go.Deep Mem Crc Walk RefF RefD
open Store (nv)
open Go.Proofs.YtfgjnpbffppocaaGreatDoor.Frame (allF)
theorem name24_any (i:Nat) (hi:i<4096) (w:World):
  Calls Tryz.prog 25 #[.int .i64 (i:Int)] w λe w'=>e=.returned (nv (pname i))/\Below w.heap.size w w':=by
 have hw:IntKind.u64.wrap (i:Int)=i:=IntWalk.u64_in _ (by omega);obtain⟨sd,hsd⟩:∃s:ByteArray,Text.strV (Text.dec i)=.string s:=⟨_,rfl⟩;have hp:=Text.refPut_any 20 i w (by omega) jn (by omega);rw[hsd]at hp
 have HN:Hid (nv (pname i)=.string ((⟨#[112]⟩:ByteArray)++sd)):=jq (by
  unfold Text.strV at hsd;injection hsd with hsd;rw[<-hsd];have:=Text.str_app [112] (Text.dec i);show Value.string ⟨(112 ::Text.dec i).toArray⟩=_;rw[show(⟨#[112]⟩:ByteArray)=⟨([112]:List UInt8).toArray⟩from rfl,this]
  rfl)
 have hl2:sd.size<=20:=by
  unfold Text.strV at hsd;injection hsd with hsd;rw[<-hsd];have:=Text.dec_length i
  simpa[ByteArray.size]using this
 have HP:=jq hp;clear hsd hp
 go_enter Tryz.func25,Tryz.ntmps25
 go_wp2_with fail
 refine HP.out.mono ?_;rintro e w1 ⟨rfl,hB1⟩;have HB1:=jq hB1;clear hB1
 go_wp2_with fail
 go_ret
 exact⟨by rw[HN.out];rfl,HB1.out⟩
theorem file24_any (a:Option Addr) (cp:Nat) (l:List (List Nat)) (w:World) (h:Lies w a (flatW l)) (hok:∀x∈l,ok x) (hm:l.length<=30000):
  Calls Tryz.prog 40 #[.slice a l.length cp] w λe w'=>e=.returned (nv (Go.Proofs.YtfgjnpbffppocaaGreatDoor.Frame.frameL 80 (Walk.all l)))/\Below w.heap.size w w':=by
 have HM:=jq (many20_any a cp l w h hok hm);have HAL:=jq (all_length l hok);clear h hok
 go_enter Tryz.func40,Tryz.ntmps40
 go_wp2_with fail
 refine HM.out.mono ?_;rintro e w1 ⟨v1,rfl,hO1,hB1⟩;obtain⟨va,vc,rfl,hvc,hL1,_,_⟩:=own_shape hO1;have HP:Hid (Calls Tryz.prog 68 #[.agg #[.int .u8 80,.slice va (Walk.all l).length vc]] w1 λe w'=>∃v,e=.returned v/\OwnB w' w1.heap.size v (Go.Proofs.YtfgjnpbffppocaaGreatDoor.Frame.frameL 80 (Walk.all l))/\Below w1.heap.size w1 w'):=jq (put5_any 80 va vc (Walk.all l) w1 hL1 (by rw[HAL.out];omega));have HB1:=jq hB1;clear hO1 hB1 hL1 hvc
 go_wp2_with fail
 refine HP.out.mono ?_;rintro e w2 ⟨v2,rfl,hO2,hB2⟩;obtain⟨fa,fc,rfl,hfc,hL2,_,_⟩:=own_shape hO2;have hcv:=Full.conv_any (w:=w2) (vc:=fc) hL2;have HB2:=jq (HB1.out.trans (hB2.mono HB1.out.size));clear hO2 hB2 hL2 hfc
 go_wp2_with fail
 go_ret
 exact⟨rfl,HB2.out⟩
def Read24 (b:List UInt8) (w:World) (e:Ending) (w':World):Prop:=match rdS b with
 |some l=>∃v,e=.returned (.tuple #[v,.bool true])/\OwnW w' w.heap.size v l
 |none=>∃v,e=.returned (.tuple #[v,.bool false])
theorem read24_none {b:List UInt8} {w w':World} {v:Value} (h:rdS b=none):Read24 b w (.returned (.tuple #[v,.bool false])) w':=by
 unfold Read24;rw[h];exact⟨_,rfl⟩
theorem read24_any (b:List UInt8) (w:World) (hm:b.length<=1048576):
  Calls Tryz.prog 26 #[nv b] w λe w'=>Read24 b w e w'/\Below w.heap.size w w':=by
 obtain⟨s,hs⟩:∃s:ByteArray,nv b=.string s:=⟨_,rfl⟩
 have hsl:s.size=b.length:=by
  unfold nv at hs;injection hs with hs;rw[<-hs]
  simp[ByteArray.size]
 obtain⟨V,cap,hcv,hLV,hBV,hcap⟩:=conv_nameC b s hs w;have HA:=jq (Go.Proofs.YtfgjnpbffppocaaGreatDoor.Frame.all5_any (some ⟨w.heap.size,0,none⟩) cap b V hLV (by omega) (by omega));rw[<-hsl]at HA;rw[hs];have HBV:=jq hBV;have HSL:=jq hsl;clear hs hsl hLV hBV
 go_enter Tryz.func26,Tryz.ntmps26
 go_wp2_with fail
 refine HA.out.mono ?_;rintro e w3 ⟨⟨v3,l,rfl,hO3,hkb,hbod⟩,hB3⟩;obtain⟨va3,vc3,rfl,hvc3,hL3,_,_⟩:=own_shape hO3;have HB3:=jq (HBV.out.trans (hB3.mono HBV.out.size));obtain⟨er,her⟩:=jl ((allF (b.length+1) b).2);rw[<-her];have HER:=jq her;have HKB:=jq hkb;have HBOD:=jq hbod;have HL3:=jq hL3;obtain⟨nl,hnl⟩:=jl l.length;rw[<-hnl];have HNL:=jq hnl;have hBz:=HB3.out.size;clear hkb hbod hL3 hO3 hB3 her hnl hcv;have HBA:Hid (Below w.heap.size w (w3.alloc (.cells #[] 26))):=jq (HB3.out.alloc hBz _)
 by_cases he:er=0
 ·subst he
  by_cases h1:nl=1
  ·subst h1;obtain⟨sec,hse⟩:=one_of HNL.out.symm;have hL4:=HL3.out;have hkb:=HKB.out;have hbd:=HBOD.out sec (by rw[hse];simp);rw[hse]at hL4 hkb;obtain⟨g3,off3,rfl,hg3,hc3⟩:=hL4.resolve_left (λe=>by simp[Go.Proofs.YtfgjnpbffppocaaGreatDoor.Frame.flatS,Go.Proofs.YtfgjnpbffppocaaGreatDoor.Frame.Sec.vs]at e);obtain⟨kd,hkd⟩:∃kd:Nat,kd=sec.kind.toNat:=⟨_,rfl⟩;have k0:=hc3 0 (.int .u8 (kd:Int)) (by simp[Go.Proofs.YtfgjnpbffppocaaGreatDoor.Frame.flatS,Go.Proofs.YtfgjnpbffppocaaGreatDoor.Frame.Sec.vs,hkd,bv]);have k1:=hc3 1 (.slice sec.a sec.body.length sec.cp) (by simp[Go.Proofs.YtfgjnpbffppocaaGreatDoor.Frame.flatS,Go.Proofs.YtfgjnpbffppocaaGreatDoor.Frame.Sec.vs]);rw[Nat.add_zero]at k0;have hallF:allF (b.length+1) b=([(sec.kind,sec.body)],0):=Prod.ext hkb.symm HER.out.symm;obtain⟨va4,vc4,ev4,hvc4,hLb,_,_⟩:=own_shape hbd;injection ev4 with ea4 _ ec4;rw[<-ea4]at hLb;rw[<-ec4]at hvc4;have HKD:=jq hkd;have HAF:=jq hallF;obtain⟨sa,hsa⟩:=jl sec.a;obtain⟨sc,hsc⟩:=jl sec.cp;obtain⟨body,hbody⟩:=jl sec.body;obtain⟨m,hm'⟩:=jl body.length;rw[<-hsa,<-hbody]at hLb;rw[<-hsc,<-hbody,<-hm']at hvc4;rw[<-hsa,<-hsc,<-hbody,<-hm']at k1;rw[<-hbody]at HAF;have HLB:=jq hLb;have HMM:=jq hm'
   have hmb:m<=b.length:=by
    have e:=congrArg List.length (allF_one hallF);rw[Go.Proofs.YtfgjnpbffppocaaGreatDoor.Frame.frameL_length,<-hbody,<-hm']at e
    omega
   clear hkb hbd hL4 hc3 hkd hallF ea4 ec4 hLb hm' hbody hsa hsc
   by_cases hk:kd=80
   ·subst hk;have hkind:sec.kind=80:=UInt8.toNat_inj.1 HKD.out.symm
    by_cases hm0:m=0
    ·subst hm0
     have hnone:rdS b=none:=rdS_none (λbody' ha hne _=>by
      rw[HAF.out]at ha;injection ha with ha;injection ha with ha;injection ha with _ ha;rw[<-ha]at hne;exact hne (List.eq_nil_of_length_eq_zero HMM.out.symm))
     have HNO:=jq hnone;clear hnone
     go_wp2_with fail
     go_ret2
     exact⟨read24_none HNO.out,HBA.out⟩
    ·have hmz: ((m:Int)==0)=false:=beq_eq_false_iff_ne.2 (by omega);have hne:body≠[]:=λe=>hm0 (by rw[HMM.out,e];rfl)
     have HNE:=jq hne;have hal:=all20_any sa sc body w3 HLB.out (by rw[<-HMM.out];exact hvc4) (by rw[<-HMM.out];omega);rw[<-HMM.out]at hal;have HAL:=jq hal;clear hal hne
     go_wp2_with fail
     refine HAL.out.mono ?_;rintro e w4 ⟨hans,hB4⟩;unfold All20 at hans;have HB4:=jq (HB3.out.trans (hB4.mono hBz))
     by_cases hmod:m%28=0
     ·rw[if_pos (by rw[<-HMM.out];exact hmod)]at hans;obtain⟨v4,rfl,hO4⟩:=hans;have HRS:=jq (rdS_some (by rw[HAF.out,hkind]) HNE.out (by rw[<-HMM.out];exact hmod));have HO4:=jq (own_mono hO4 hBz);clear hO4 hB4
      go_wp2_with fail
      go_ret2
      refine⟨?_,HB4.out⟩;unfold Read24;rw[HRS.out];exact⟨_,rfl,HO4.out⟩
     ·rw[if_neg (by rw[<-HMM.out];exact hmod)]at hans;obtain⟨v4,rfl⟩:=hans
      have hnone:rdS b=none:=rdS_none (λbody' ha _ h28=>by
       rw[HAF.out]at ha;injection ha with ha;injection ha with ha;injection ha with _ ha;rw[<-ha,<-HMM.out]at h28;exact hmod h28)
      have HNO:=jq hnone;clear hnone hB4
      go_wp2_with fail
      go_ret2
      exact⟨read24_none HNO.out,HB4.out⟩
   ·have hkz: ((kd:Int)==80)=false:=beq_eq_false_iff_ne.2 (by omega)
    have hnone:rdS b=none:=rdS_none (λbody' ha _ _=>by
     rw[HAF.out]at ha;injection ha with ha;injection ha with ha;injection ha with ha;exact hk (by rw[HKD.out,ha];rfl))
    have HNO:=jq hnone;clear hnone
    go_wp2_with fail
    go_ret2
    exact⟨read24_none HNO.out,HBA.out⟩
  ·have hnone:rdS b=none:=rdS_none (λbody ha _ _=>h1 (by have:=congrArg List.length HKB.out;rw[ha]at this;simpa[<-HNL.out]using this));have HNO:=jq hnone;have h1d: ((nl:Int) !=1)=true:=by simp;omega
   clear hnone
   go_wp2_with fail
   go_ret2
   exact⟨read24_none HNO.out,HBA.out⟩
 ·have hnone:rdS b=none:=rdS_none (λbody ha _ _=>he (by rw[HER.out,ha]));have HNO:=jq hnone;have hd: (er==0)=false:=by simpa using he
  clear hnone
  go_wp2_with fail
  go_ret2
  exact⟨read24_none HNO.out,HBA.out⟩
end Pool
namespace Pool
open Go.RowKit Go.Deep Mem Crc Walk RefF
open Store (nv Files)
def FlK (S:Rows):Nat->Files
 |0=>λ_=>none
 |k+1=>if S k= []then FlK S k else λx=>if x=pname k then some (Go.Proofs.YtfgjnpbffppocaaGreatDoor.Frame.frameL 80 (Walk.all (S k)))else FlK S k x
theorem flk_at {F:Files} {S:Rows} {n:Nat} (h:Fls F S n) (hn:n<=4096):∀k,k<=n->∀nm,((∃i,i<k/\nm=pname i)->FlK S k nm=F nm)/\((¬∃i,i<k/\nm=pname i)->FlK S k nm=none)
 |0,_,nm=>⟨fun⟨i,hi,_⟩=>absurd hi (by omega),λ_=>rfl⟩
 |k+1,hk,nm=>by
  obtain⟨i1,i2⟩:=flk_at h hn k (by omega) nm;have hF:=h.2 k (by omega)
  have hno:nm=pname k->¬∃i,i<k/\nm=pname i:=λe ⟨i,hi,e2⟩=>by
   have:=pname_one (i:=i) (j:=k) (by omega) (by omega) (e2.symm.trans e)
   omega
  unfold FlK
  by_cases hs:S k= []
  ·rw[if_pos hs]at hF⊢;refine⟨fun⟨i,hi,e⟩=>?_,λhne=>i2 (fun⟨i,hi,e⟩=>hne ⟨i,by omega,e⟩)⟩
   by_cases ek:i=k
   ·subst ek;rw[i2 (hno e),e,hF]
   ·exact i1 ⟨i,by omega,e⟩
  ·rw[if_neg hs]at hF⊢;refine⟨fun⟨i,hi,e⟩=>?_,λhne=>?_⟩
   ·by_cases ek:nm=pname k
    ·rw[if_pos ek,ek,hF]
    ·rw[if_neg ek]
     exact i1 ⟨i,by
      by_cases e2:i=k
      ·subst e2;exact absurd e ek
      ·omega,e⟩
   ·rw[if_neg (λe=>hne ⟨k,by omega,e⟩)];exact i2 (fun⟨i,hi,e⟩=>hne ⟨i,by omega,e⟩)
theorem flk_eq {F:Files} {S:Rows} {n:Nat} (h:Fls F S n) (hn:n<=4096):FlK S n=F:=by
 funext nm
 obtain⟨h1,h2⟩:=flk_at h hn n jn nm
 by_cases e:∃i,i<n/\nm=pname i
 ·exact h1 e
 ·rw[h2 e];refine Classical.byContradiction (λhne=>e (h.1 nm (λe2=>hne e2.symm)))
theorem putP_len (l:List FF) (nm b:List UInt8): (putP l nm b).length<=l.length+1:=by
 have h:∀(l:List FF) (s:List FF×Bool),(l.foldl (stepP nm b) s).1.length+(if(l.foldl (stepP nm b) s).2 then 0 else 1)<=s.1.length+(if s.2 then 0 else 1)+l.length:=by
  intro l
  induction l with
  |nil=>intro s;exact Nat.le_refl _
  |cons x r ih=>
   intro s;have h1:=ih (stepP nm b s x)
   have h2: (stepP nm b s x).1.length+(if(stepP nm b s x).2 then 0 else 1)<=s.1.length+(if s.2 then 0 else 1)+1:=by
    unfold stepP
    split
    ·omega
    ·split
     ·next h=>simp[h.1]
     ·simp
      omega
   rw[List.foldl_cons,List.length_cons]
   omega
 have:=h l ([],false);unfold putP;unfold foldP
 split
 ·next hc=>rw[if_pos hc]at this;simp at this;omega
 ·next hc=>rw[if_neg hc]at this;simp at this⊢;omega
attribute [local go_sem] Oper.semAt_some
theorem files24_any {w:World} {x:PX} {n:Nat} {S H:Rows} (h:PIn w x n S H) (hn:n<=4096) (hlen:∀i,i<n->(S i).length<=30000):
  Calls Tryz.prog 14 #[x.v n] w λe w'=>∃v L,e=.returned v/\w'.ownsRow w.heap.size 76 2 v L.length (flatP L)/\IsRow L (FlK S n)/\L.length<=n/\Below w.heap.size w w':=by
 obtain⟨rm,sa,sc,fs,ha,hc,fh⟩:=x;unfold PX.v PX.cells;dsimp only;obtain⟨W,hW⟩:=jl ((w.alloc (.cells #[.int .i64 (rm:Int),.slice sa n sc,.slice ha n hc] 40)).alloc (.cells #[] 76));have hB:Below w.heap.size w W:=by rw[hW];exact((Below.refl _ w).alloc jn _).alloc (by simp) _
 have hb:Blk W w.heap.size 40 #[.int .i64 (rm:Int),.slice sa n sc,.slice ha n hc]:=by rw[hW];exact(Blk.new w _ _).alloc _
 have ho:W.ownsRow w.heap.size 76 2 (.slice (some ⟨w.heap.size+1,0,none⟩) ([]:List FF).length 0) ([]:List FF).length (flatP []):=by
  rw[hW];have:=own_empty (w.alloc (.cells #[.int .i64 (rm:Int),.slice sa n sc,.slice ha n hc] 40)) 76 2;rw[World.size_alloc]at this;exact own_mono this (by omega)
 have b1:=hb.cell 1
 simp at b1
 rw[hW]at b1;have HB:=jq hB;have HH:=jq h.s;have HOK:=jq h.okS;have HLN:=jq hlen;have HBK:=jq hb;have HO:=jq ho;clear h hb hB ho hlen
 go_enter Tryz.func14,Tryz.ntmps14
 go_wp2_with fail
 rw[<-hW];clear hW b1
 go_loopw[3,9] (λo i wr=>∃(k:Nat) (L:List FF) (oa:Option Addr) (oc:Nat),k<=n/\L.length<=k/\i=.int .i64 (k:Int)/\o=.slice oa L.length oc/\Hid (wr.ownsRow w.heap.size 76 2 o L.length (flatP L))/\Hid (IsRow L (FlK S k))/\Hid (Blk wr w.heap.size 40 #[.int .i64 (rm:Int),.slice sa n sc,.slice ha n hc])/\Hid (Below w.heap.size w wr)) (λ_ i _=>n-(intOf i).toNat)
 case atStart=>exact⟨0,[],_,_,Nat.zero_le _,Nat.zero_le _,rfl,rfl,HO,jq isRow_none,HBK,HB⟩
 case round=>
  obtain⟨k,L,oa,oc,hk,hLk,rfl,rfl,hO,hR,hBk,hBl⟩:=hrel;have b1:=hBk.out.cell 1
  simp at b1
  by_cases hlt:k<n
  ·obtain⟨g,o,rfl,_,_⟩:=HH.out.at hlt;have cg:=HH.out.cell hBl.out hlt;obtain⟨m,hm⟩:=jl ((S k).length);obtain⟨ln,hln⟩:=jl L.length;rw[<-hm]at cg;rw[<-hln]at hLk⊢;have HM:=jq hm;have HLL:=jq hln
   by_cases h0:0<m
   ·have hd:decide (0<m)=true:=jd h0;have hdr:Below wr.heap.size wr wr.drew:=(Below.refl _ wr).drew;have HNM:=jq (name24_any k (by omega) wr.drew);have hS0:wr.drew.cell? ⟨w.heap.size,1,none⟩=some (.slice (some ⟨g,o,none⟩) n sc)/\wr.drew.cell? ⟨g,o+k,none⟩=some (.slice (fs k).1 m (fs k).2):=⟨b1,cg⟩
    have HKP:Hid (∀V,Below wr.heap.size wr V->V.cell? ⟨w.heap.size,1,none⟩=some (.slice (some ⟨g,o,none⟩) n sc)/\V.cell? ⟨g,o+k,none⟩=some (.slice (fs k).1 m (fs k).2)):=jq (λV hV=>⟨by
     have:=(hBk.out.below hV hBk.out.lt).cell 1
     simpa using this,by
     have:=HH.out.cell (hBl.out.trans (hV.mono hBl.out.size)) hlt
     rwa [<-HM.out]at this⟩)
    have HFL:Hid (∀V,Below wr.heap.size wr V->Calls Tryz.prog 40 #[.slice (fs k).1 m (fs k).2] V λe w'=>e=.returned (nv (Go.Proofs.YtfgjnpbffppocaaGreatDoor.Frame.frameL 80 (Walk.all (S k))))/\Below V.heap.size V w'):=jq (λV hV=>by
     have:=file24_any (fs k).1 (fs k).2 (S k) V ((HH.out.each k hlt).1.later (hBl.out.trans (hV.mono hBl.out.size))) (HOK.out k hlt) (HLN.out k hlt)
     rwa [<-HM.out]at this)
    have HPU:Hid (∀V,Below wr.heap.size wr V->Calls Tryz.prog 38 #[.slice oa ln oc,nv (pname k),nv (Go.Proofs.YtfgjnpbffppocaaGreatDoor.Frame.frameL 80 (Walk.all (S k)))] V λe w'=>∃v,e=.returned v/\w'.ownsRow V.heap.size 76 2 v (putP L (pname k) (Go.Proofs.YtfgjnpbffppocaaGreatDoor.Frame.frameL 80 (Walk.all (S k)))).length (flatP (putP L (pname k) (Go.Proofs.YtfgjnpbffppocaaGreatDoor.Frame.frameL 80 (Walk.all (S k)))))/\Below V.heap.size V w'):=jq (λV hV=>by
     obtain⟨_,_,e1,_,hL1,_,_⟩:=own_shape (own_later hO.out hV);injection e1 with e1;subst e1;have:=RefF.put_any oa oc L (pname k) (Go.Proofs.YtfgjnpbffppocaaGreatDoor.Frame.frameL 80 (Walk.all (S k))) V hL1 (by rw[<-HLL.out];omega)
     rwa [<-HLL.out]at this)
    have hpl:=putP_len L (pname k) (Go.Proofs.YtfgjnpbffppocaaGreatDoor.Frame.frameL 80 (Walk.all (S k)));rw[<-hln]at hpl;have hrow:=hR.out.put (pname k) (Go.Proofs.YtfgjnpbffppocaaGreatDoor.Frame.frameL 80 (Walk.all (S k)));have hne:S k≠[]:=λe=>by rw[e]at hm;simp at hm;omega
    have HROW:Hid (IsRow (putP L (pname k) (Go.Proofs.YtfgjnpbffppocaaGreatDoor.Frame.frameL 80 (Walk.all (S k)))) (FlK S (k+1))):=jq (by
     unfold FlK;rw[if_neg hne];exact hrow)
    obtain⟨bf,hbf⟩:=jl (Go.Proofs.YtfgjnpbffppocaaGreatDoor.Frame.frameL 80 (Walk.all (S k)));rw[<-hbf]at HFL HPU hpl HROW;clear hrow hne hbf hm hln hdr
    go_wp2_with fail
    go_region_held3 (λw'=>w'.cell? ⟨w.heap.size,1,none⟩=some (.slice (some ⟨g,o,none⟩) n sc)/\w'.cell? ⟨g,o+k,none⟩=some (.slice (fs k).1 m (fs k).2)) (first|exact hS0|exact hS1|exact hS2|exact hS3) ((first|(go_at_call 25;refine HNM.out.mono ?_;rintro e w1 ⟨rfl,hB1⟩;have hBa:=((Below.refl wr.heap.size wr).drew).trans hB1;have hS1:=HKP.out _ hBa;dsimp only)|(go_at_call 40;refine(HFL.out _ hBa).mono ?_;rintro e w2 ⟨rfl,hB2⟩;have hBb:=hBa.trans (hB2.mono hBa.size);have hS2:=HKP.out _ hBb;dsimp only)|(go_at_call 38;refine(HPU.out _ hBb).mono ?_;rintro e w3 ⟨v3,rfl,hO3,hB3⟩;have hBc:=hBb.trans (hB3.mono hBb.size);have hS3:=HKP.out _ hBc;dsimp only)))
    obtain⟨a3,c3,rfl,-⟩:=own_shape hO3;have HO3:=jq (own_mono hO3 (Nat.le_trans hBl.out.size hBb.size));have HBC:=jq hBc;clear hO3 hB3 hBc hBb hBa hB2 hB1 hS0 hS1 hS2 hS3
    go_wp2_with fail
    go_roundw
    case rel=>exact⟨k+1,_,_,_,by omega,by omega,by go_num,rfl,HO3,HROW,jq (hBk.out.below HBC.out hBk.out.lt),jq (hBl.out.trans (HBC.out.mono hBl.out.size))⟩
    case measure=>simp[intOf];omega
   ·have hm0:m=0:=by omega
    have hne:S k= []:=List.eq_nil_of_length_eq_zero (by omega)
    have HROW:Hid (IsRow L (FlK S (k+1))):=jq (by
     unfold FlK;rw[if_pos hne];exact hR.out)
    subst hm0;clear hne hm
    go_wp2_with fail
    go_roundw
    case rel=>exact⟨k+1,L,_,_,by omega,by omega,by go_num,by rw[HLL.out],by rw[HLL.out];exact hO,HROW,hBk,hBl⟩
    case measure=>simp[intOf];omega
  ·obtain rfl:k=n:=by omega
   go_wp2_with fail
   go_ret
   exact⟨_,L,rfl,hO.out,hR.out,hLk,hBl.out⟩
end Pool
namespace Pool
open Go.RowKit Go.Deep Mem Crc Walk RefF
open Store (nv Files)
def BadNew (shards room:Int):Prop:=shards<0\/4096<shards\/room<1\/65536<room
def zeroP:Value:=.agg #[.int .i64 0,.slice none 0 0,.slice none 0 0]
attribute [local go_sem] Oper.semAt_some
theorem new24_bad (v:Value) (shards room:Int) (h:BadNew shards room) (w:World):
  Calls Tryz.prog 7 #[v,.int .i64 shards,.int .i64 room] w λe w'=>e=.returned (.tuple #[zeroP,.int .i64 1])/\Below w.heap.size w w':=by
 have hb:Blk (w.alloc (.cells #[.int .i64 0,.slice none 0 0,.slice none 0 0] 40)) w.heap.size 40 #[.int .i64 0,.slice none 0 0,.slice none 0 0]:=Blk.new w _ _;obtain⟨s1,s2⟩:=box3_set hb (.int .i64 0) (.slice none 0 0) (.slice none 0 0);have g0:=s1.cell 0;have g1:=s1.cell 1;have g2:=s1.cell 2
 simp at g0 g1 g2
 have HB:=jq ((Below.refl w.heap.size w).alloc jn (.cells #[.int .i64 0,.slice none 0 0,.slice none 0 0] 40));clear hb s1 s2
 have hc: (decide (shards<0)=true)\/(decide (shards<0)=false/\decide (4096<shards)=true)\/(decide (shards<0)=false/\decide (4096<shards)=false/\decide (room<1)=true)\/(decide (shards<0)=false/\decide (4096<shards)=false/\decide (room<1)=false/\decide (65536<room)=true):=by
  unfold BadNew at h;simp only[decide_eq_true_eq,decide_eq_false_iff_not]
  omega
 clear h;rcases hc with d1|⟨d1,d2⟩|⟨d1,d2,d3⟩|⟨d1,d2,d3,d4⟩
 all_goals
  go_enter Tryz.func7,Tryz.ntmps7
  go_wp2_with fail
  refine bodyPost_ret (v:=.tuple #[zeroP,.int .i64 1]) (by simp[zeroP,results,Tryz.f7,go_sem]) rfl ⟨rfl,HB.out⟩
theorem RwK.congr {w:World} {a:Option Addr} {f:Loc} {R R':Rows} {n:Nat} (h:RwK w a f R n) (hR:∀i,i<n->R i=R' i):RwK w a f R' n:=by
 have e:slvs f R n=slvs f R' n:=by
  unfold slvs;exact List.map_congr_left (λi hi=>by unfold slv;rw[hR i (List.mem_range.1 hi)])
 exact⟨by rw[<-e];exact h.row,λi hi=>by rw[<-hR i hi];exact h.each i hi,h.lt⟩
theorem blk_lies {w:World} {g:Nat} {t:TypeId} {cs:Array Value} (h:Blk w g t cs):Lies w (some ⟨g,0,none⟩) cs.toList:=.inr ⟨g,0,rfl,h.lt,λi u hu=>by
 rw[Nat.zero_add,h.cell i]
 simpa using hu⟩
def nof:Loc:=λ_=>(none,0)
def rdK (F:Files) (k:Nat):Rows:=λi=>if i<k then rdF F i else []
structure N24 (w:World) (F:Files) (n room pb sb hb k:Nat) (f:Loc) (V:World):Prop where
 p:Blk V pb 40 #[.int .i64 (room:Int),.slice (some ⟨sb,0,none⟩) n n,.slice (some ⟨hb,0,none⟩) n n]
 s:Blk V sb 54 (slvs f (rdK F k) n).toArray
 h:Blk V hb 54 (slvs nof no n).toArray
 z:Blk V w.heap.size 40 #[.int .i64 0,.slice none 0 0,.slice none 0 0]
 rows:∀i,i<n->Lies V (f i).1 (flatW (rdK F k i))/\(rdK F k i).length<=(f i).2/\∀q,blk (f i).1=some q->w.heap.size<=q/\q≠sb/\q≠w.heap.size/\q<V.heap.size
 apart:w.heap.size<pb/\w.heap.size<sb/\w.heap.size<hb/\sb≠hb
 below:Below w.heap.size w V
theorem N24.later {w:World} {F:Files} {n room pb sb hb k:Nat} {f:Loc} {V V':World} (h:N24 w F n room pb sb hb k f V) (hB:Below V.heap.size V V'):N24 w F n room pb sb hb k f V':=
 ⟨h.p.below hB h.p.lt,h.s.below hB h.s.lt,h.h.below hB h.h.lt,h.z.below hB h.z.lt,λi hi=>⟨(h.rows i hi).1.later hB,(h.rows i hi).2.1,λq hq=>by
  obtain⟨h1,h2,h3,h4⟩:=(h.rows i hi).2.2 q hq;exact⟨h1,h2,h3,Nat.lt_of_lt_of_le h4 hB.size⟩⟩,h.apart,h.below.trans (hB.mono h.below.size)⟩
theorem N24.put {w:World} {F:Files} {n room pb sb hb k:Nat} {f:Loc} {V V':World} (h:N24 w F n room pb sb hb k f V) (hk:k<n) (hB:Below V.heap.size V V') {b:List UInt8} {l:List (List Nat)} (hF:F (pname k)=some b) (hr:rdS b=some l) {va:Option Addr} {vc:Nat} (hO:OwnW V' V.heap.size (.slice va l.length vc) l):N24 w F n room pb sb hb (k+1) (updl f k (va,vc)) (V'.setCell ⟨sb,k,none⟩ (.slice va l.length vc)):=by
 have h':=h.later hB;have hz:=hB.size;have hzw:=h.below.size;obtain⟨_,_,e1,hc,hL,hb',_⟩:=own_shape hO;injection e1 with e1 _ e2;subst e1 e2
 have hrd:rdF F k=l:=by
  unfold rdF;rw[hF];dsimp only;rw[hr]
  rfl
 have hR:upd (rdK F k) k l=rdK F (k+1):=by
  funext i
  unfold upd rdK
  by_cases e:i=k
  ·subst e;rw[if_pos rfl,if_pos (by omega),hrd]
  ·rw[if_neg e]
   by_cases e2:i<k
   ·rw[if_pos e2,if_pos (by omega)]
   ·rw[if_neg e2,if_neg (by omega)]
 have hs:=h'.s.set k (.slice va l.length vc)
 rw[show(slvs f (rdK F k) n).toArray.setIfInBounds k (.slice va l.length vc)=(slvs (updl f k (va,vc)) (rdK F (k+1)) n).toArray by
  rw[<-hR,<-slvs_upd hk l va vc]
  simp]at hs
 have hps:pb≠sb:=h'.p.ne h'.s (by decide);obtain⟨a1,a2,a3,a4⟩:=h.apart;have hu:Upon (λq=>q=sb) V' (V'.setCell ⟨sb,k,none⟩ (.slice va l.length vc)):=Upon.set (P:=λq=>q=sb) (p:=⟨sb,k,none⟩) (Upon.refl _ _) (.inl rfl) _;have hsb:=h.s.lt;refine⟨h'.p.upon hu hps,hs,h'.h.upon hu (Ne.symm a4),h'.z.upon hu (by omega),λi hi=>?_,h.apart,h'.below.trans (hu.below h'.below.size (λq hq=>by omega))⟩;rw[<-hR]
 by_cases e:i=k
 ·subst e;rw[upd_same,updl_same];refine⟨hL.upon hu (λg hg e=>by have:=(hb' g hg).1;omega),hc,λq hq=>?_⟩;have:=hb' q hq;have hz2:=hu.size;exact⟨by omega,by omega,by omega,by omega⟩
 ·rw[upd_other _ e,updl_other _ e];obtain⟨r1,r2,r3⟩:=h'.rows i hi
  exact⟨r1.upon hu (λg hg e=>(r3 g hg).2.1 e),r2,λq hq=>by
   obtain⟨x1,x2,x3,x4⟩:=r3 q hq;exact⟨x1,x2,x3,Nat.lt_of_lt_of_le x4 hu.size⟩⟩
theorem N24.none_ {w:World} {F:Files} {n room pb sb hb k:Nat} {f:Loc} {V:World} (h:N24 w F n room pb sb hb k f V) (hF:F (pname k)=none):N24 w F n room pb sb hb (k+1) f V:=by
 have hR:rdK F k=rdK F (k+1):=by
  funext i
  unfold rdK
  by_cases e:i=k
  ·subst e;rw[if_neg (by omega),if_pos (by omega)];unfold rdF;rw[hF]
  ·by_cases e2:i<k
   ·rw[if_pos e2,if_pos (by omega)]
   ·rw[if_neg e2,if_neg (by omega)]
 exact⟨h.p,by rw[<-hR];exact h.s,h.h,h.z,by rw[<-hR];exact h.rows,h.apart,h.below⟩
theorem n24_start {w W:World} {F:Files} {n room pb sb hb:Nat} (hp:Blk W pb 40 #[.int .i64 (room:Int),.slice (some ⟨sb,0,none⟩) n n,.slice (some ⟨hb,0,none⟩) n n]) (hs:Blk W sb 54 (slvs nof no n).toArray) (hh:Blk W hb 54 (slvs nof no n).toArray) (hz:Blk W w.heap.size 40 #[.int .i64 0,.slice none 0 0,.slice none 0 0])
  (ha:w.heap.size<pb/\w.heap.size<sb/\w.heap.size<hb/\sb≠hb) (hB:Below w.heap.size w W):N24 w F n room pb sb hb 0 nof W.drew:=by
 have e:rdK F 0=no:=by
  funext i
  unfold rdK;rw[if_neg (by omega)]
  rfl
 refine⟨hp,by rw[e];exact hs,hh,hz,λi hi=>?_,ha,hB.drew⟩;rw[e];exact⟨.inl rfl,Nat.le_refl _,λq hq=>by cases hq⟩
def New24 (F:Files) (n room:Nat) (w:World) (e:Ending) (w':World):Prop:=
 ((∀i b,i<n->F (pname i)=some b->rdS b≠none)/\∃x':PX,e=.returned (.tuple #[x'.v n,.int .i64 0])/\x'.rm=room/\PIn w' x' n (rdF F) no/\∀q,PB x' n q->w.heap.size<=q)\/
 ((∃i b,i<n/\F (pname i)=some b/\rdS b=none)/\e=.returned (.tuple #[zeroP,.int .i64 5]))
theorem new24_any (a:Option Addr) (cp:Nat) (L:List FF) (F:Files) (n room:Nat) (w:World) (h:Lies w a (flatP L)) (hrow:IsRow L F) (hL:L.length<=100000) (hn:n<=4096) (hr1:1<=room) (hr2:room<=65536) (hsz:∀nm b,F nm=some b->b.length<=1048576):
  Calls Tryz.prog 7 #[.slice a L.length cp,.int .i64 (n:Int),.int .i64 (room:Int)] w λe w'=>New24 F n room w e w'/\Below w.heap.size w w':=by
 have t1:decide ((n:Int) <0)=false:=by simp
 have t2:decide (4096<(n:Int))=false:=by simp;omega
 have t3:decide ((room:Int) <1)=false:=by simp;omega
 have t4:decide (65536<(room:Int))=false:=by simp;omega
 obtain⟨i0,hi0,hz0,hz1,hz2⟩:=info_parts infoSW
 have hmk:∀w,(Instr.makeSlice 38 (.int .i64 (n:Int)) (.int .i64 (n:Int))).run Tryz.prog w=.ok (.slice (some ⟨w.heap.size,0,none⟩) n n) (w.alloc (.cells (slvs nof no n).toArray 54)):=λw=>by
  have e:=run_makeSlice w (P:=Tryz.prog) 38 54 i0 (.slice none 0 0) Tryz.underlying38 hi0 hz0 .i64 .i64 n n (by omega) (by omega) (by rw[hz1];simp;omega) (by rw[hz2];omega) (by omega);rw[e,hz1]
  have:madeCells (Value.slice none 0 0).cells ((n:Int).toNat*1)=(slvs nof no n).toArray:=by
   apply Array.ext'
   rw[show(Value.slice none 0 0).cells=#[Value.slice none 0 0]from rfl,toList_madeCells_one];have e1: (slvs nof no n)=(List.range n).map (λ_=>Value.slice none 0 0):=rfl;rw[List.toList_toArray,e1,List.map_const',List.length_range]
   simp
  rw[this]
  simp
 obtain⟨Ln,hLn⟩:=jl L.length;have HL:=jq h;have HROW:=jq hrow;have HLL:=jq hL;have HSZ:=jq hsz;rw[<-hLn];have HLN:=jq hLn;have HMK:=jq hmk;clear h hrow hL hsz hLn
 go_enter Tryz.func7,Tryz.ntmps7
 go_upto_region 3 with(fail)
 go_cut[8] (λs8 wx=>∃pb sb hb:Nat,s8=.pointer (some ⟨pb,0,none⟩)/\Hid (N24 w F n room pb sb hb 0 nof wx))
 case first=>
  go_region_law (skip)
  all_goals go_wp2_with fail
  all_goals go_meet
  all_goals exact⟨_,_,_,rfl,jq (n24_start (by first|(refine Blk.at_ ?_;simp;done)|(refine Blk.alloc (Blk.at_ ?_) _;simp;done)|(refine Blk.alloc (Blk.alloc (Blk.at_ ?_) _) _;simp;done)|(exact(((Blk.new w _ _).alloc _).alloc _).alloc _)) (by first|(refine Blk.at_ ?_;simp;done)|(refine Blk.alloc (Blk.at_ ?_) _;simp;done)|(refine Blk.alloc (Blk.alloc (Blk.at_ ?_) _) _;simp;done)|(exact(((Blk.new w _ _).alloc _).alloc _).alloc _)) (by first|(refine Blk.at_ ?_;simp;done)|(refine Blk.alloc (Blk.at_ ?_) _;simp;done)|(refine Blk.alloc (Blk.alloc (Blk.at_ ?_) _) _;simp;done)|(exact(((Blk.new w _ _).alloc _).alloc _).alloc _)) (by first|(refine Blk.at_ ?_;simp;done)|(refine Blk.alloc (Blk.at_ ?_) _;simp;done)|(refine Blk.alloc (Blk.alloc (Blk.at_ ?_) _) _;simp;done)|(exact(((Blk.new w _ _).alloc _).alloc _).alloc _)) ⟨by omega,by omega,by omega,by omega⟩ (((((Below.refl _ w).alloc jn _).alloc (by simp only[World.size_alloc];omega) _).alloc (by simp only[World.size_alloc];omega) _).alloc (by simp only[World.size_alloc];omega) _))⟩
 case rest=>
  obtain⟨pb,sb,hb,rfl,HI⟩:=hcut;clear hmk hi0 hz0 hz1 hz2 i0
  go_wp2_with fail
  go_loopw[9] (λi wr=>∃(k:Nat) (f:Loc),k<=n/\i=.int .i64 (k:Int)/\Hid (N24 w F n room pb sb hb k f wr)/\Hid (∀i b,i<k->F (pname i)=some b->rdS b≠none)) (λi _=>n-(intOf i).toNat)
  case atStart=>exact⟨0,nof,Nat.zero_le _,rfl,HI,jq (λi b hi=>by omega)⟩
  case round=>
   obtain⟨k,f,hk,rfl,hN,hG⟩:=hrel;have hBl:=hN.out.below;have hBz:=hBl.size
   by_cases hlt:k<n
   ·have HNM:=jq (name24_any k (by omega) wr)
    go_wp2_with fail
    refine HNM.out.mono ?_;rintro e w1 ⟨rfl,hB1⟩;have hL1:=HL.out.later (hBl.trans (hB1.mono hBz));have hfd:=find_any a cp L (pname k) w1 hL1 (by have:=HLL.out;omega);rw[<-HLN.out]at hfd;obtain⟨hf1,hf2⟩:=HROW.out.find (pname k);have HN1:=jq (hN.out.later hB1);cases hF:F (pname k)with
    |none=>
     have hno:¬findP L (pname k) <Ln:=λh=>(hf1.1 (by rw[<-HLN.out];exact h)) hF
     rw[if_neg hno,jf hno]at hfd;have HFD:=jq hfd;have HF:=jq hF;clear hfd hf1 hf2 hL1 hF hno hB1
     go_wp2_with fail
     refine HFD.out.mono ?_;rintro e w2 ⟨rfl,rfl⟩
     go_wp2_with fail
     go_roundw
     case rel=>exact⟨k+1,f,by omega,by go_num,jq (HN1.out.none_ HF.out),jq (λi b hi hb=>by
      by_cases e:i=k
      ·subst e;rw[HF.out]at hb;cases hb
      ·exact hG.out i b (by omega) hb)⟩
     case measure=>simp[intOf];omega
    |some b=>
     have hyes:findP L (pname k) <Ln:=by
      rw[HLN.out];exact hf1.2 (by rw[hF];exact λe=>by cases e)
     rw[if_pos hyes,jd hyes]at hfd;obtain⟨q,hq⟩:=jl (findP L (pname k));have hx:=hf2 b hF;rw[<-hq]at hfd hx hyes;obtain⟨g,o,ea,-,cB⟩:=RefF.cells_at hL1 hx;subst ea;obtain⟨sb',hsb'⟩:∃s:ByteArray,nv b=.string s:=⟨_,rfl⟩;have hrd:=read24_any b w1 (HSZ.out _ _ hF);dsimp only at cB;rw[hsb']at hrd cB;have HRD:=jq hrd;have HFD:=jq hfd;have HF:=jq hF;clear hfd hf1 hf2 hL1 hF hB1 hx hq hrd hsb'
     go_wp2_with fail
     refine HFD.out.mono ?_;rintro e w2 ⟨rfl,rfl⟩
     go_wp2_with fail
     refine HRD.out.mono ?_;rintro e w3 ⟨hans,hB3⟩;have HN3:=jq (HN1.out.later hB3);have hbel:=HN3.out.below;unfold Read24 at hans
     cases hr:rdS b with
     |none=>
      rw[hr]at hans;dsimp only at hans;obtain⟨v3,rfl⟩:=hans;have q0:=HN3.out.z.cell 0;have q1:=HN3.out.z.cell 1;have q2:=HN3.out.z.cell 2;have y0:=HN3.out.z.frozen 0;have y1:=HN3.out.z.frozen 1;have y2:=HN3.out.z.frozen 2
      simp at q0 q1 q2
      obtain⟨s1,s2⟩:=box3_set HN3.out.z (.int .i64 0) (.slice none 0 0) (.slice none 0 0);have g0:=s1.cell 0;have g1:=s1.cell 1;have g2:=s1.cell 2
      simp at g0 g1 g2
      have HS2:=jq s2;have HR:=jq hr;clear s1 s2 hr cB hB3
      go_wp2_with fail
      refine bodyPost_ret (v:=.tuple #[zeroP,.int .i64 5]) (by simp[zeroP,results,Tryz.f7,go_sem,g0,g1,g2]) rfl ⟨.inr ⟨⟨k,b,hlt,HF.out,HR.out⟩,rfl⟩,hbel.trans (HS2.out.below hbel.size (λq hq=>by omega))⟩
     |some l=>
      rw[hr]at hans;dsimp only at hans;obtain⟨v3,rfl,hO3⟩:=hans;obtain⟨la,lc,rfl,-⟩:=own_shape hO3;have q1:=HN3.out.p.cell 1
      simp at q1
      have cs:=HN3.out.s.cell k;have fs':=HN3.out.s.frozen k;rw[jt,slvs_at hlt]at cs;unfold slv at cs;have HNN:=jq (HN1.out.put hlt hB3 HF.out hr hO3);have HR:=jq hr;clear cB hB3 hr hO3
      go_wp2_with fail
      go_roundw
      case rel=>exact⟨k+1,_,by omega,by go_num,HNN,jq (λi b' hi hb=>by
       by_cases e:i=k
       ·subst e;rw[HF.out]at hb;injection hb with hb;subst hb;rw[HR.out];exact λe=>by cases e
       ·exact hG.out i b' (by omega) hb)⟩
      case measure=>simp[intOf];omega
   ·obtain rfl:k=n:=by omega
    have q0:=hN.out.z.cell 0;have q1:=hN.out.z.cell 1;have q2:=hN.out.z.cell 2;have y0:=hN.out.z.frozen 0;have y1:=hN.out.z.frozen 1;have y2:=hN.out.z.frozen 2;have p0:=hN.out.p.cell 0;have p1:=hN.out.p.cell 1;have p2:=hN.out.p.cell 2
    simp at q0 q1 q2 p0 p1 p2
    obtain⟨s1,s2⟩:=box3_set hN.out.z (.int .i64 (room:Int)) (.slice (some ⟨sb,0,none⟩) k k) (.slice (some ⟨hb,0,none⟩) k k);have g0:=s1.cell 0;have g1:=s1.cell 1;have g2:=s1.cell 2
    simp at g0 g1 g2
    have HS2:=jq s2;clear s1 s2
    go_wp2_with fail
    obtain⟨a1,a2,a3,a4⟩:=hN.out.apart;refine bodyPost_ret (v:=.tuple #[.agg #[.int .i64 (room:Int),.slice (some ⟨sb,0,none⟩) k k,.slice (some ⟨hb,0,none⟩) k k],.int .i64 0]) (by simp[results,Tryz.f7,go_sem,g0,g1,g2]) rfl ⟨.inl ⟨hG.out,⟨room,some ⟨sb,0,none⟩,k,f,some ⟨hb,0,none⟩,k,nof⟩,rfl,rfl,⟨?_,?_,?_,λi hi y hy=>by cases hy⟩,λq hq=>?_⟩,hBl.trans (HS2.out.below hBl.size (λq hq=>by omega))⟩
    ·have hS:=blk_lies hN.out.s
     have hR:RwK wr (some ⟨sb,0,none⟩) f (rdK F k) k:=⟨by simpa using hS,λi hi=>⟨(hN.out.rows i hi).1,(hN.out.rows i hi).2.1⟩,λq hq=>by
      rcases hq with hq|⟨i,hi,hq⟩
      ·have e:sb=q:=by simpa[blk]using hq
       rw[<-e];exact hN.out.s.lt
      ·exact((hN.out.rows i hi).2.2 q hq).2.2.2⟩
     refine(hR.congr (λi hi=>by unfold rdK;rw[if_pos hi])).upon HS2.out (λq hq e=>?_);rcases hq with hq|⟨i,hi,hq⟩
     ·have e2:sb=q:=by simpa[blk]using hq
      omega
     ·have:=((hN.out.rows i hi).2.2 q hq).2.2.1
      omega
    ·have hS:=blk_lies hN.out.h
     have hR:RwK wr (some ⟨hb,0,none⟩) nof no k:=⟨by simpa using hS,λi hi=>⟨.inl rfl,Nat.le_refl _⟩,λq hq=>by
      rcases hq with hq|⟨i,hi,hq⟩
      ·have e:hb=q:=by simpa[blk]using hq
       rw[<-e];exact hN.out.h.lt
      ·cases hq⟩
     refine hR.upon HS2.out (λq hq e=>?_);rcases hq with hq|⟨i,hi,hq⟩
     ·have e2:hb=q:=by simpa[blk]using hq
      omega
     ·cases hq
    ·intro i hi y hy;unfold rdF at hy;cases hb':F (pname i)with
     |none=>rw[hb']at hy;cases hy
     |some b=>
      rw[hb']at hy;dsimp only at hy
      cases hr:rdS b with
      |none=>exact absurd hr (hG.out i b hi hb')
      |some l=>rw[hr]at hy;exact(rdS_file hr).2.2.1 y hy
    ·rcases hq with(hq|⟨i,hi,hq⟩)|(hq|⟨i,hi,hq⟩)
     ·have e2:sb=q:=by simpa[blk]using hq
      omega
     ·exact((hN.out.rows i hi).2.2 q hq).1
     ·have e2:hb=q:=by simpa[blk]using hq
      omega
     ·cases hq
end Pool
namespace Pool
open Go.RowKit Go.Deep Mem Crc Walk Full RefF
open Store (Sto Files setF setF_same setF_other nv)
structure PY where
 s:Nat
 d:Nat
 pp:Nat
 sm:Nat
 hm:Nat
 n:Nat
 room:Nat
 ct:Nat
 Qs:Nat->Prop
 hv:Nat->Option Value
 S:Rows
 Hd:Rows
 x:PX
 S2:Rows
 H2:Rows
 H:Files
 L:List FF
 an:Option Addr
 nc:Nat
def PY.A (Y:PY) (B:Nat) (o:Option Obj):Pa:=⟨Y.pp,Y.s,stoX B Y.s Y.d 400 o Y.H,Y.sm,Y.hm,Y.n,Y.room⟩
def PY.cells (Y:PY):Array Value:=#[.pointer (some ⟨Y.d,0,none⟩),.pointer (some ⟨Y.s,0,none⟩),.pointer (some ⟨Y.pp,0,none⟩),.int .i64 (Y.x.rm:Int),.slice Y.x.sa Y.n Y.x.sc,.slice Y.x.ha Y.n Y.x.hc,.slice Y.an Y.L.length Y.nc]
def PY.D (Y:PY) (B:Nat) (o:Option Obj) (k:Nat):Prop:=allQ (Y.A B o) Y.Qs Y.hv k
structure PMid (B p:Nat) (o:Option Obj) (w:World) (Y:PY):Prop where
 live:Pl (Y.A B o) Y.ct w Y.Qs Y.hv Y.S Y.Hd
 base:∀k,Y.D B o k->B<=k\/k=0
 blk:Blk w p 46 Y.cells
 pD:¬Y.D B o p
 pB:B<=p
 rm:Y.x.rm=Y.room
 ref:PIn w Y.x Y.n Y.S2 Y.H2
 refB:∀q,PB Y.x Y.n q->B<=q/\¬Y.D B o q/\q≠p
 lies:Lies w Y.an (flatP Y.L)
 liesB:∀q,Mem.blk Y.an=some q->B<=q/\¬Y.D B o q/\q≠p/\q<w.heap.size
 row:IsRow Y.L Y.H
 low:0<B/\B<=w.heap.size/\w.heap[0]? =o
variable {B p:Nat} {o:Option Obj} {w w' w1 w2:World} {Y:PY}
theorem PMid.later (h:PMid B p o w Y) (hB:Below w.heap.size w w'):PMid B p o w' Y:=by
 obtain⟨z1,z2,z3⟩:=h.low
 exact⟨h.live.later hB,h.base,h.blk.below hB h.blk.lt,h.pD,h.pB,h.rm,h.ref.later hB,h.refB,h.lies.later hB,λq hq=>by
  obtain⟨a,b,c,d⟩:=h.liesB q hq;exact⟨a,b,c,Nat.lt_of_lt_of_le d hB.size⟩,h.row,z1,Nat.le_trans z2 hB.size,(hB.block _ (by omega)).trans z3⟩
theorem PMid.ltP (h:PMid B p o w Y):∀q,PB Y.x Y.n q->q<w.heap.size:=λq hq=>hq.elim (h.ref.s.lt q) (h.ref.h.lt q)
theorem pl_low {s d pp sm hm n room ct:Nat} {H:Files} {Qs:Nat->Prop} {hv:Nat->Option Value} {S Hd:Rows} (h:Pl ⟨pp,s,stoX B s d 400 o H,sm,hm,n,room⟩ ct w Qs hv S Hd):0<B/\B<=w.heap.size/\w.heap[0]? =o:=by
 obtain⟨F,j,hs,-,-⟩:=h.store;obtain⟨-,-,h1,h2,h3⟩:=stoX_base hs;exact⟨h1,h2,h3⟩
theorem below_of {P:Nat->Prop} (hu:Upon P w w1) (hP:∀k,P k->B<=k\/k=0) (hl:B<=w.heap.size) (hz:w1.heap[0]? =w.heap[0]?):Below B w w1:=
 ⟨hu.os,hu.tape,hu.output,hu.size,λk hk=>by
  by_cases e:k=0
  ·rw[e];exact hz
  ·exact hu.block k (by omega) (λhq=>(hP k hq).elim (λh=>by omega) e)⟩
theorem PMid.pool (h:PMid B p o w Y) {s' ct':Nat} {H':Files} {pp' sm' hm':Nat} {Qs':Nat->Prop} {hv':Nat->Option Value} {S' Hd':Rows} (hp:Pl ⟨pp',s',stoX B s' Y.d 400 o H',sm',hm',Y.n,Y.room⟩ ct' w1 Qs' hv' S' Hd')
  (hq:∀k,allQ ⟨pp',s',stoX B s' Y.d 400 o H',sm',hm',Y.n,Y.room⟩ Qs' hv' k->Y.D B o k\/w.heap.size<=k) (hu:Upon (Y.D B o) w w1) {L':List FF} {an':Option Addr} {nc':Nat} (hs:s'=Y.s) (hpp:pp'=Y.pp) (hH:H'=Y.H) (hL:L'=Y.L/\an'=Y.an/\nc'=Y.nc):
  PMid B p o w1 {Y with s:=s',pp:=pp',sm:=sm',hm:=hm',ct:=ct',Qs:=Qs',hv:=hv',S:=S',Hd:=Hd',H:=H',L:=L',an:=an',nc:=nc'}/\Below B w w1:=by
 obtain⟨rfl,rfl,rfl⟩:=hL;subst hs hpp hH;obtain⟨z1,z2,z3⟩:=h.low;obtain⟨y1,y2,y3⟩:=pl_low hp;have hz:=hu.size;have hpl:=h.blk.lt;have hn:∀k,¬Y.D B o k->k<w.heap.size->¬allQ ⟨Y.pp,Y.s,stoX B Y.s Y.d 400 o Y.H,sm',hm',Y.n,Y.room⟩ Qs' hv' k:=λk h1 h2 h3=>(hq k h3).elim h1 (λh=>by omega)
 refine⟨⟨hp,λk hk=>(hq k hk).elim (h.base k) (λh1=>.inl (by omega)),h.blk.upon hu h.pD,hn p h.pD hpl,h.pB,h.rm,h.ref.upon hu (λk hk=>(h.refB k hk).2.1),λk hk=>⟨(h.refB k hk).1,hn k (h.refB k hk).2.1 (h.ltP k hk),(h.refB k hk).2.2⟩,h.lies.upon hu (λk hk=>(h.liesB k hk).2.1),λk hk=>?_,h.row,y1,y2,y3⟩,below_of hu h.base z2 (y3.trans z3.symm)⟩;obtain⟨a,b,c,d⟩:=h.liesB k hk;exact⟨a,hn k b d,c,by omega⟩
theorem PMid.went (h:PMid B p o w Y) {ct':Nat} {S' Hd':Rows} {X:Nat->Prop} (hw:Went (Y.A B o) ct' (Y.D B o) w w1 S' Hd' X):∃Qs' hv',PMid B p o w1 {Y with ct:=ct',Qs:=Qs',hv:=hv',S:=S',Hd:=Hd'}/\Below B w w1/\(∀k,X k->¬allQ (Y.A B o) Qs' hv' k):=by
 obtain⟨Qs',hv',hp,hq,hx,hu⟩:=hw;obtain⟨h1,h2⟩:=h.pool (s':=Y.s) (pp':=Y.pp) (sm':=Y.sm) (hm':=Y.hm) (H':=Y.H) (L':=Y.L) (an':=Y.an) (nc':=Y.nc) hp hq hu rfl rfl rfl ⟨rfl,rfl,rfl⟩;exact⟨Qs',hv',h1,h2,hx⟩
theorem PMid.turn (h:PMid B p o w Y) {x':PX} {S' H':Rows} (hn:PNew Y.n Y.x S' H' w w1 x') (hb:Blk w2 p 46 {Y with x:=x'}.cells) (hu:Upon (λq=>q=p) w1 w2):PMid B p o w2 {Y with x:=x',S2:=S',H2:=H'}/\Below B w w2:=by
 obtain⟨n1,n2,n3,n4⟩:=hn;have h1:=h.later n4;have hz:=n4.size;have hz2:=hu.size;obtain⟨z1,z2,z3⟩:=h1.low;have hpB:=h.pB;have hpl:=h.blk.lt;have hlt:=h.live.lt
 have hne:∀q,PB x' Y.n q->B<=q/\¬Y.D B o q/\q≠p:=λq hq=>by
  rcases n3 q hq with h2|h2
  ·exact h.refB q h2
  ·obtain⟨z4,z5,z6⟩:=h.low;exact⟨by omega,λh3=>by have:=hlt q h3;omega,by omega⟩
 have hB2:Below B w1 w2:=hu.below (by omega) (λq hq=>by omega);refine⟨⟨h1.live.upon hu (λk hk e=>h.pD (by rw[<-e];exact hk)),h.base,hb,h.pD,h.pB,n1.trans h.rm,n2.upon hu (λq hq e=>(hne q hq).2.2 e),hne,h1.lies.upon hu (λq hq e=>(h1.liesB q hq).2.2.1 e),λq hq=>?_,h.row,z1,by omega,?_⟩,?_⟩
 ·obtain⟨a,b,c,d⟩:=h1.liesB q hq;exact⟨a,b,c,by omega⟩
 ·rw[<-z3];exact hB2.block _ z1
 ·obtain⟨z4,z5,z6⟩:=h.low;exact(n4.mono z5).trans hB2
structure PPlay (B p:Nat) (o:Option Obj) (i:Nat) (w:World) (Y:PY):Prop where
 mid:PMid B p o w Y
 rows:Y.S2=Y.S/\Y.H2=Y.Hd
 ct:Y.ct<=20000+100*i
 nr:Y.n<=4096/\1<=Y.room/\Y.room<=65536
 held:many Y.Hd Y.n<=Y.room/\many Y.Hd Y.n<=i
 tot:many Y.S Y.n+many Y.Hd Y.n<=20*i
 good: (∀j b,j<Y.n->Y.H (pname j)=some b->rdS b≠none)/\∀nm,Y.H nm≠none->∃j,j<Y.n/\nm=pname j
 totH:many (rdF Y.H) Y.n<=20*i
 few:Y.L.length<=5000
def PStep (B p:Nat) (o:Option Obj) (i:Nat) (Y:PY) (w w':World):Prop:=∃Y',PPlay B p o (i+1) w' Y'/\(Y'.n=Y.n/\Y'.room=Y.room)/\Below B w w'
variable {i:Nat}
theorem PPlay.later (h:PPlay B p o i w Y) (hB:Below w.heap.size w w'):PPlay B p o i w' Y:=⟨h.mid.later hB,h.rows,h.ct,h.nr,h.held,h.tot,h.good,h.totH,h.few⟩
theorem PPlay.next (h:PPlay B p o i w Y):PPlay B p o (i+1) w Y:=⟨h.mid,h.rows,by have:=h.ct;omega,h.nr,⟨h.held.1,by have:=h.held.2;omega⟩,by have:=h.tot;omega,h.good,by have:=h.totH;omega,h.few⟩
theorem PPlay.same (h:PPlay B p o i w Y) (hB:Below w.heap.size w w'):PStep B p o i Y w w':=⟨Y,(h.later hB).next,⟨rfl,rfl⟩,hB.mono h.mid.low.2.1⟩
theorem PPlay.len (h:PPlay B p o i w Y) (hi:i<=60): (∀j,j<Y.n->(Y.S j).length+(Y.Hd j).length<=1200)/\many Y.Hd Y.n<=1200/\many Y.S Y.n<=1200:=by
 have ht:=h.tot;refine⟨λj hj=>?_,by omega,by omega⟩;have h1:=len_le_many Y.S j Y.n hj;have h2:=len_le_many Y.Hd j Y.n hj
 omega
end Pool
namespace Pool
open Go.RowKit Go.Deep Mem Crc Walk Full
open Store (Sto Files setF setF_same setF_other nv)
variable {B p s d sm hm n room ct:Nat} {o:Option Obj} {H:Files} {w w':World} {Qs:Nat->Prop} {hv:Nat->Option Value} {S Hd:Rows}
theorem Pl.swap (h:Pl ⟨p,s,stoX B s d 400 o H,sm,hm,n,room⟩ ct w Qs hv S Hd) {H' F':Files} {Q':Nat->Prop} {j':Nat} (hs: (stoX B s d 400 o H').At w' Q' false F' j') (hf:Fls F' S n) (hq:∀k,Q' k->Qs k\/w.heap.size<=k) (hu:Upon Qs w w'):
  Pl ⟨p,s,stoX B s d 400 o H',sm,hm,n,room⟩ j' w' Q' hv S Hd:=by
 obtain⟨h1,-,⟨f,h4,h4'⟩,⟨f5,h5,h5'⟩,h6,h7,h8,h9,h10,h11,h12,h13⟩:=h;have hnq:∀k,k<w.heap.size->¬Qs k->¬Q' k:=λk h1 h2 h3=>(hq k h3).elim h2 (λh=>by omega)
 have hp:¬Qs p:=λh=>h9 p h (.inl rfl)
 have hs1:¬Qs sm:=λh=>h9 sm h (.inr (.inl rfl))
 have hh1:¬Qs hm:=λh=>h9 hm h (.inr (.inr rfl))
 have hlt:∀i,i<n->∀v,hv i=some v->∀k,v.ownBlock=some k->k<w.heap.size:=λi hi v he k hk=>by
  have:=h6 i hi;rw[he]at this;exact(this.lt k hk).2
 refine⟨h1.upon hu hp,⟨F',j',hs,hf,Nat.le_refl _⟩,⟨f,h4.keep (hu.block _ h4.lt hs1),h4'⟩,⟨f5,h5.keep (hu.block _ h5.lt hh1),h5'⟩,λi hi=>?_,h7,λi v k hi he hk=>?_,λk hk h3=>?_,h10,h11,h12,h13⟩
 ·have:=h6 i hi
  cases he:hv i with
  |none=>
   rw[he]at this;exact this
  |some v=>
   rw[he]at this;exact own_upon (show OwnW w 0 v (Hd i)from this) hu (λg hg=>(h8 i v g hi he hg).1)
 ·exact⟨hnq k (hlt i hi v he k hk) (h8 i v k hi he hk).1,(h8 i v k hi he hk).2⟩
 ·refine(hq k hk).elim (λh=>h9 k h h3) (λh=>?_);have a1:=h1.lt;have a2:=h4.lt;have a3:=h5.lt;rcases h3 with h3|h3|h3
  ·have h3:k=p:=h3;dsimp only at a1
   omega
  ·have h3:k=sm:=h3;dsimp only at a2
   omega
  ·have h3:k=hm:=h3;dsimp only at a3
   omega
end Pool
namespace Pool
open Go.RowKit Go.Deep Mem Crc Walk Full RefF
open Store (Sto Files setF setF_same setF_other nv)
def AllGood (F:Files) (n:Nat):Prop:=∀i b,i<n->F (pname i)=some b->rdS b≠none
def Anew (B p:Nat) (o:Option Obj) (s d n room j:Nat) (H F:Files) (Q:Nat->Prop) (an:Option Addr) (ln nc:Nat) (w:World) (e:Ending) (w':World):Prop:=
 (AllGood F n/\e=.returned (.tuple #[.bool true,.bool true])/\∃(pp sm hm:Nat) (x:PX),Pl ⟨pp,s,stoX B s d 400 o H,sm,hm,n,room⟩ j w' Q (λ_=>none) (rdF F) no/\(w.heap.size<=pp/\w.heap.size<=sm/\w.heap.size<=hm)/\PIn w' x n (rdF F) no/\x.rm=room/\(∀q,PB x n q->w.heap.size<=q/\¬allQ ⟨pp,s,stoX B s d 400 o H,sm,hm,n,room⟩ Q (λ_=>none) q)/\
  Blk w' p 46 #[.pointer (some ⟨d,0,none⟩),.pointer (some ⟨s,0,none⟩),.pointer (some ⟨pp,0,none⟩),.int .i64 (x.rm:Int),.slice x.sa n x.sc,.slice x.ha n x.hc,.slice an ln nc]/\Upon (λq=>q=p) w w')\/
 (¬AllGood F n/\e=.returned (.tuple #[.bool true,.bool false])/\Below w.heap.size w w')
theorem newG_split {s:Nat} {T:Sto s} {F:Files} {j:Nat} {Qs:Nat->Prop} {n room:Nat} {w:World} {e:Ending} {w':World} (h:NewG T F j Qs n room w e w'):∃(pv:Option Addr) (ev:Int),e=.returned (.tuple #[.pointer pv,.int .i64 ev])/\
  ((AllGood F n/\ev=0/\∃p sm hm,pv=some ⟨p,0,none⟩/\NS T F j Qs p sm hm n room n none w'/\w.heap.size<=p/\w.heap.size<=sm/\w.heap.size<=hm)\/(¬AllGood F n/\ev=5/\pv=none)):=by
 rcases h with⟨h1,p,sm,hm,rfl,h2⟩|⟨⟨i,b,h1,h2,h3⟩,rfl⟩
 ·exact⟨_,_,rfl,.inl ⟨h1,rfl,p,sm,hm,rfl,h2⟩⟩
 ·exact⟨_,_,rfl,.inr ⟨λhg=>hg i b h1 h2 h3,rfl,rfl⟩⟩
theorem new24_split {F:Files} {n room:Nat} {w:World} {e:Ending} {w':World} (h:New24 F n room w e w'):∃(x:PX) (xs xh:Nat) (ev:Int),e=.returned (.tuple #[.agg #[.int .i64 (x.rm:Int),.slice x.sa xs x.sc,.slice x.ha xh x.hc],.int .i64 ev])/\
  ((AllGood F n/\ev=0/\xs=n/\xh=n/\x.rm=room/\PIn w' x n (rdF F) no/\∀q,PB x n q->w.heap.size<=q)\/(¬AllGood F n/\ev=5)):=by
 rcases h with⟨h1,x,rfl,h2⟩|⟨⟨i,b,h1,h2,h3⟩,rfl⟩
 ·exact⟨x,n,n,_,rfl,.inl ⟨h1,rfl,rfl,rfl,h2⟩⟩
 ·exact⟨⟨0,none,0,nof,none,0,nof⟩,0,0,_,rfl,.inr ⟨λhg=>hg i b h1 h2 h3,rfl⟩⟩
attribute [local go_sem] Oper.semAt_some
theorem anew_any {B p:Nat} {o:Option Obj} {s d n room j pp0 sc hc ln nc fc:Nat} {sa ha an fa:Option Addr} {H F:Files} {w:World} {Q:Nat->Prop} {L:List FF} (hst: (stoX B s d 400 o H).At w Q false F j)
  (hb:Blk w p 46 #[.pointer (some ⟨d,0,none⟩),.pointer (some ⟨s,0,none⟩),.pointer (some ⟨pp0,0,none⟩),.int .i64 (room:Int),.slice sa n sc,.slice ha n hc,.slice an ln nc]) (hpQ:¬Q p) (hL:Lies w fa (flatP L)) (hrow:IsRow L F) (hl:L.length<=100000) (hn:n<=4096) (hr1:1<=room) (hr2:room<=65536)
  (hF:∀nm,F nm≠none->∃i,i<n/\nm=pname i):
  Calls Tryz.prog 36 #[.pointer (some ⟨p,0,none⟩),.slice fa L.length fc] w λe w'=>Anew B p o s d n room j H F Q an ln nc w e w':=by
 have hplt:=hb.lt;have HNG:=jq (new_gen (T:=stoX B s d 400 o H) ((stoX B s d 400 o H).later hst ((Below.refl _ w).drew)) hn hr1 hr2 (λW hW=>stoX_names ((stoX B s d 400 o H).later hst (((Below.refl _ w).drew).trans hW))));have HCL:Hid (∀V,Below w.heap.size w V->V.cell? ⟨p,1,none⟩=some (.pointer (some ⟨s,0,none⟩))/\V.cell? ⟨p,5,none⟩=some (.slice ha n hc)/\V.cell? ⟨p,3,none⟩=some (.int .i64 (room:Int))):=jq (λV hV=>⟨(hb.below hV hplt).cell 1,(hb.below hV hplt).cell 5,(hb.below hV hplt).cell 3⟩);have hS0:=HCL.out w.drew ((Below.refl _ w).drew);have HSZ:Hid (∀nm b,F nm=some b->b.length<=1048576):=jq (λnm b e=>((stoX B s d 400 o H).short hst nm b e).2);obtain⟨lf,hlf⟩:=jl L.length;have HST:=jq hst;have HBK:=jq hb;have HLL:=jq hL;have HROW:=jq hrow;have HFN:=jq hF;have HPQ:=jq hpQ;rw[<-hlf];have HLF:=jq hlf;have HL1:=jq hl;clear hst hb hL hrow hF hpQ hlf hl
 go_enter Tryz.func36,Tryz.ntmps36
 go_wp2_with fail
 go_region_held3 (λw'=>w'.cell? ⟨p,1,none⟩=some (.pointer (some ⟨s,0,none⟩))/\w'.cell? ⟨p,5,none⟩=some (.slice ha n hc)/\w'.cell? ⟨p,3,none⟩=some (.int .i64 (room:Int))) (first|exact hS0|exact hS1) (first|(go_at_call 6;refine HNG.out.mono ?_;rintro e w1 ⟨hng,hB1⟩;have hBa:Below w.heap.size w w1:=((Below.refl _ w).drew).trans hB1;have hS1:=HCL.out w1 hBa;obtain⟨pv,ev,rfl,hcase⟩:=newG_split hng;dsimp only))
 have HDR:Hid (Below w.heap.size w w1.drew):=jq (hBa.trans (((Below.refl _ w1).drew).mono hBa.size));have hS2:=HCL.out w1.drew HDR.out
 have HN24:Hid (∀V,Below w1.heap.size w1 V->Calls Tryz.prog 7 #[.slice fa lf fc,.int .i64 (n:Int),.int .i64 (room:Int)] V λe w'=>New24 F n room V e w'/\Below V.heap.size V w'):=jq (λV hV=>by
  have:=new24_any fa fc L F n room V (HLL.out.later (hBa.trans (hV.mono hBa.size))) HROW.out HL1.out hn hr1 hr2 HSZ.out
  rwa [<-HLF.out]at this)
 clear hB1 hng hS0 hS1
 go_wp2_with fail
 go_cut[8,9] (λs8 s9 wx=>∃(b:Nat) (x:PX) (xs xh:Nat) (xe:Int),s8=.pointer (some ⟨b,0,none⟩)/\s9=.int .i64 xe/\Hid (Blk wx b 40 #[.int .i64 (x.rm:Int),.slice x.sa xs x.sc,.slice x.ha xh x.hc]/\Below w1.heap.size w1 wx/\w1.heap.size<=b)/\
  Hid ((AllGood F n/\xe=0/\xs=n/\xh=n/\x.rm=room/\PIn wx x n (rdF F) no/\∀q,PB x n q->w1.heap.size<=q/\q≠b)\/(¬AllGood F n/\xe=5)))
 case first=>
  go_region_held3 (λw'=>w'.cell? ⟨p,1,none⟩=some (.pointer (some ⟨s,0,none⟩))/\w'.cell? ⟨p,5,none⟩=some (.slice ha n hc)/\w'.cell? ⟨p,3,none⟩=some (.int .i64 (room:Int))) (first|exact hS2|exact hS3|exact HCL.out _ (hBd.alloc hBd.size _)|exact HCL.out _ (HDR.out.alloc HDR.out.size _)|exact HCL.out _ (((hBd.setCell hBa.size _).setCell hBa.size _).setCell hBa.size _)) (first|(go_at_call 7;refine(HN24.out _ (by first|exact(Below.refl _ _).drew|exact((Below.refl _ _).drew).alloc jn _)).mono ?_;rintro e wA ⟨hans,hBA⟩;obtain⟨⟨xr,xsa,xsc,xfs,xha,xhc,xfh⟩,xs,xh,xe,rfl,hcase2⟩:=new24_split hans;clear hans;have hbx:=(Blk.new w1.drew 40 #[.int .i64 0,.slice none 0 0,.slice none 0 0]).below hBA (Blk.new w1.drew 40 _).lt;have hBd:Below w.heap.size w wA:=(HDR.out.alloc HDR.out.size (.cells #[.int .i64 0,.slice none 0 0,.slice none 0 0] 40)).trans (hBA.mono (by have:=hBa.size;simp;omega));have hS3:=HCL.out wA hBd;have r0:=hbx.cell 0;have r1:=hbx.cell 1;have r2:=hbx.cell 2;have u0:=hbx.frozen 0;have u1:=hbx.frozen 1;have u2:=hbx.frozen 2;simp at r0 r1 r2 u0 u1 u2;dsimp only)|(go_at_call 7;refine(HN24.out _ (by first|exact(Below.refl _ _).drew|exact((Below.refl _ _).drew).alloc jn _)).mono ?_;rintro e wA ⟨hans,hBA⟩;obtain⟨⟨xr,xsa,xsc,xfs,xha,xhc,xfh⟩,xs,xh,xe,rfl,hcase2⟩:=new24_split hans;clear hans;have hBd:Below w.heap.size w wA:=HDR.out.trans (hBA.mono HDR.out.size);have hS3:=HCL.out wA hBd;dsimp only))
  ·go_wp2_with fail
   go_meet
   have hBA1:Below w1.heap.size w1 wA:=((Below.refl _ w1).drew).trans (hBA.mono jn);refine⟨_,⟨xr,xsa,xsc,xfs,xha,xhc,xfh⟩,_,_,_,rfl,rfl,jq ⟨Blk.new wA _ _,hBA1.alloc hBA1.size _,hBA1.size⟩,jq (hcase2.imp (fun⟨c1,c2,c3,c4,c5,c6,c7⟩=>⟨c1,c2,c3,c4,c5,c6.later ((Below.refl _ wA).alloc jn _),λq hq=>⟨c7 q hq,λe=>?_⟩⟩) id)⟩;have:q<wA.heap.size:=hq.elim (c6.s.lt q) (c6.h.lt q)
   omega
  ·go_wp2_with fail
   go_meet
   have hBA1:Below w1.heap.size w1 wA:=(((Below.refl _ w1).drew).alloc jn _).trans (hBA.mono (by simp));obtain⟨s1,s2⟩:=box3_set hbx (.int .i64 (xr:Int)) (.slice xsa xs xsc) (.slice xha xh xhc);refine⟨_,⟨xr,xsa,xsc,xfs,xha,xhc,xfh⟩,_,_,_,rfl,rfl,jq ⟨s1,hBA1.trans (s2.below hBA1.size (λq hq=>Nat.le_of_eq hq.symm)),Nat.le_refl _⟩,jq (hcase2.imp (fun⟨c1,c2,c3,c4,c5,c6,c7⟩=>⟨c1,c2,c3,c4,c5,c6.upon s2 (λq hq e=>?_),λq hq=>⟨?_,λe=>?_⟩⟩) id)⟩
   ·have h1: (w1.drew.alloc (.cells #[.int .i64 0,.slice none 0 0,.slice none 0 0] 40)).heap.size<=q:=c7 q hq;have e1:q=w1.heap.size:=e
    simp at h1
    omega
   ·have h1: (w1.drew.alloc (.cells #[.int .i64 0,.slice none 0 0,.slice none 0 0] 40)).heap.size<=q:=c7 q hq
    simp at h1
    omega
   ·have h1: (w1.drew.alloc (.cells #[.int .i64 0,.slice none 0 0,.slice none 0 0] 40)).heap.size<=q:=c7 q hq;have e1:q=w1.heap.size:=e
    simp at h1
    omega
 case rest=>
  obtain⟨b,⟨xr,xsa,xsc,xfs,xha,xhc,xfh⟩,xs,xh,xe,rfl,rfl,HBX,HC2⟩:=hcut;have hbV:=HBX.out.1;have hBV:Below w.heap.size w wc:=hBa.trans (HBX.out.2.1.mono hBa.size);have hbge:=HBX.out.2.2;have hbp:=HBK.out.below hBV hplt
  by_cases hg:AllGood F n
  ·obtain⟨-,hev,pp,sm,hm,rfl,hns,n1,n2,n3⟩:=hcase.resolve_right (λh=>h.1 hg);obtain⟨-,hxe,hxs,hxh,hrm,hpin,hpb⟩:=HC2.out.resolve_right (λh=>h.1 hg);have hxs:=hxs.symm;have hxh:=hxh.symm;subst hxs hxh;subst hev hxe;dsimp only at hrm;subst hrm;have r0:=hbV.cell 0;have r1:=hbV.cell 1;have r2:=hbV.cell 2
   simp at r0 r1 r2
   have k2:=hbp.cell 2;have k3:=hbp.cell 3;have k4:=hbp.cell 4;have k5:=hbp.cell 5;have z2:=hbp.frozen 2;have z3:=hbp.frozen 3;have z4:=hbp.frozen 4;have z5:=hbp.frozen 5
   simp at k2 k3 k4 k5
   have hpb':p≠b:=by have:=hBa.size;omega
   have hX0:wc.drew.cell? ⟨b,0,none⟩=some (.int .i64 (xr:Int))/\wc.drew.cell? ⟨b,1,none⟩=some (.slice xsa n xsc)/\wc.drew.cell? ⟨b,2,none⟩=some (.slice xha n xhc):=⟨r0,r1,r2⟩;have hfar:∀V:World,Blk V b 40 #[.int .i64 (xr:Int),.slice xsa n xsc,.slice xha n xhc]->V.cell? ⟨b,0,none⟩=some (.int .i64 (xr:Int))/\V.cell? ⟨b,1,none⟩=some (.slice xsa n xsc)/\V.cell? ⟨b,2,none⟩=some (.slice xha n xhc):=λV hV=>⟨hV.cell 0,hV.cell 1,hV.cell 2⟩
   have HFAR:=jq hfar;have HNE:=jq (show b≠p from λe=>hpb' e.symm);have HBV:=jq hbV;have HBP:=jq hbp;have HBW:=jq hBV;have HB1C:=jq HBX.out.2.1;have HNS:=jq hns;have HPIN:=jq hpin;have HPB:=jq hpb;have HG:=jq hg;have hz1:=hBa.size;have b1:=hbV.far (p:=⟨p,2,none⟩) HNE.out (.pointer (some ⟨pp,0,none⟩));have b2:=b1.far (p:=⟨p,3,none⟩) HNE.out (.int .i64 (xr:Int));have b3:=b2.far (p:=⟨p,4,none⟩) HNE.out (.slice xsa n xsc);have b4:=b3.far (p:=⟨p,5,none⟩) HNE.out (.slice xha n xhc);have hX1:=hfar _ b1.drew;have hX2:=hfar _ b4.drew;clear b1 b2 b3 b4 hfar hpb' hbV hbp hBV hns hpin hpb hg HC2 HBX hcase
   go_wp2_with fail
   go_region_held3 (λw'=>w'.cell? ⟨b,0,none⟩=some (.int .i64 (xr:Int))/\w'.cell? ⟨b,1,none⟩=some (.slice xsa n xsc)/\w'.cell? ⟨b,2,none⟩=some (.slice xha n xhc)) (first|with_reducible exact hX0|with_reducible exact hX1|with_reducible exact hX2) (skip)
   go_wp2_with fail
   go_ret2
   refine .inl ⟨HG.out,rfl,pp,sm,hm,⟨xr,xsa,xsc,xfs,xha,xhc,xfh⟩,?_⟩;have hns:=HNS.out;have hpl:=hns.pool hn hr2 HFN.out HG.out;have hBc:Below w1.heap.size w1 wc:=HB1C.out
   have hP:∀q,allQ ⟨pp,s,stoX B s d 400 o H,sm,hm,n,xr⟩ Q (λ_=>none) q->q≠p:=λq hq e=>by
    subst e;have m1:w.heap.size<=pp:=n1;have m2:w.heap.size<=sm:=n2;have m3:w.heap.size<=hm:=n3;rcases hq with hq|hq|⟨_,_,_,hq,_⟩
    ·exact HPQ.out hq
    ·rcases hq with h|h|h
     ·have h:q=pp:=h
      omega
     ·have h:q=sm:=h
      omega
     ·have h:q=hm:=h
      omega
    ·cases hq
   have hlt1:=hpl.lt
   have hu:Upon (λq=>q=p) wc ((((wc.setCell ⟨p,2,none⟩ (.pointer (some ⟨pp,0,none⟩))).setCell ⟨p,3,none⟩ (.int .i64 (xr:Int))).setCell ⟨p,4,none⟩ (.slice xsa n xsc)).setCell ⟨p,5,none⟩ (.slice xha n xhc)).drew:=by
    refine Upon.drew ?_;exact Upon.set (P:=λq=>q=p) (Upon.set (P:=λq=>q=p) (Upon.set (P:=λq=>q=p) (Upon.set (P:=λq=>q=p) (Upon.refl _ wc) (p:=⟨p,2,none⟩) (.inl rfl) _) (p:=⟨p,3,none⟩) (.inl rfl) _) (p:=⟨p,4,none⟩) (.inl rfl) _) (p:=⟨p,5,none⟩) (.inl rfl) _
   refine⟨(hpl.later hBc).upon hu (λq hq e=>hP q hq e),⟨n1,n2,n3⟩,HPIN.out.upon hu (λq hq e=>?_),rfl,λq hq=>⟨?_,λh=>?_⟩,(((HBP.out.set 2 _).set 3 _).set 4 _).set 5 _,(Upon.of_below HBW.out).trans hu (λq hq=>.inl hq)⟩
   ·have:=(HPB.out q hq).1;have e:q=p:=e
    omega
   ·have:=(HPB.out q hq).1
    omega
   ·have:=(HPB.out q hq).1;have:=hlt1 q h
    omega
  ·obtain⟨-,hev,rfl⟩:=hcase.resolve_left (λh=>hg h.1);obtain⟨-,hxe⟩:=HC2.out.resolve_left (λh=>hg h.1);subst hev hxe;have HBW:=jq hBV;have HG:=jq hg;clear hbV hbp hBV hg HC2 HBX hcase
   go_wp2_with fail
   go_ret2
   exact .inr ⟨HG.out,rfl,HBW.out⟩
end Pool
namespace Pool
open Go.RowKit Go.Deep Mem Crc Walk Full RefF
open Store (Sto Files setF setF_same setF_other nv)
open Mani (lies_at)
theorem fl_drewN {B:Nat} {w w':World} (h:Below B w w') (n:Nat):Below B w (w'.drewN n):=⟨h.os,h.tape,h.output,h.size,h.block⟩
attribute [local go_sem] eql_str
attribute [local go_sem] Oper.semAt_some
theorem law_files {B s d j ac:Nat} {o:Option Obj} {H F:Files} {w:World} {Q:Nat->Prop} {L:List FF} {aa:Option Addr} (h: (stoX B s d 400 o H).At w Q false F j) (hL:Lies w aa (flatP L)) (hrow:IsRow L F) (hl:L.length<=100000):
  Calls Tryz.prog 13 #[.pointer (some ⟨s,0,none⟩),.slice aa L.length ac] w λe w'=>e=.returned (.bool true)/\Below w.heap.size w w':=by
 have HNM:=jq (stoX_names h);have HST:=jq h;have HL:=jq hL;have HROW:=jq hrow;obtain⟨nl,hnl⟩:=jl L.length;rw[<-hnl]at hl⊢;have HNN:=jq hnl;clear h hL hrow hnl
 go_enter Tryz.func13,Tryz.ntmps13
 go_wp2_with fail
 refine HNM.out.mono ?_;rintro e w2 ⟨v,ss,rfl,hown,hmem,hpw,_,hB2⟩;have hss:L.map Prod.fst=ss:=HROW.out.names hpw hmem;have hsn:ss.length=nl:=by rw[<-hss,jP,HNN.out]
 rw[hsn]at hown;obtain⟨an,cn,rfl,hcn,hLn,hbn,_⟩:=own_shape hown;have HLN:=jq hLn;have HB2:=jq hB2;have HSS:=jq hss;clear hown hmem hpw hss hsn hLn hbn HNM
 go_wp2_with fail
 go_loopw[6] (λi wr=>∃k:Nat,k<=nl/\i=.int .i64 (k:Int)/\Hid (Below w.heap.size w wr)/\Hid (Lies wr an (ss.map encStr))) (λi _=>nl-(intOf i).toNat)
 case atStart=>exact⟨0,Nat.zero_le _,rfl,HB2,HLN⟩
 case round=>
  clear HLN;obtain⟨k,hk,rfl,HB,HLN⟩:=hrel
  by_cases hkn:k<nl
  ·have hkd:decide (k<nl)=true:=jd hkn;obtain⟨x,hx⟩:∃x,L[k]? =some x:=⟨L[k]'(by rw[<-HNN.out];exact hkn),jg _⟩;obtain⟨sx,hsx⟩:∃s:ByteArray,nv x.1=.string s:=⟨_,rfl⟩;obtain⟨sy,hsy⟩:∃s:ByteArray,nv x.2=.string s:=⟨_,rfl⟩
   obtain⟨gn,on,rfl,c0⟩:=lies_at HLN.out (k:=k) (u:=.string sx) (by
    rw[<-HSS.out,List.map_map,List.getElem?_map,hx,<-hsx]
    rfl)
   have hxm:=jM hx;have hfx:F x.1=some x.2:=(HROW.out.mem x.1 x.2).1 hxm;have hrd:=(stoX B s d 400 o H).read_some ((stoX B s d 400 o H).later HST.out HB.out) x.1 x.2 hfx;rw[hsx]at hrd;have HRD:Hid (Calls Tryz.prog 39 #[.pointer (some ⟨s,0,none⟩),.string sx] wr λe w'=>∃v,e=.returned (.tuple #[v,.int .i64 0])/\OwnB w' wr.heap.size v x.2/\Below wr.heap.size wr w'):=jq hrd;have HX:=jq hx;have HSX:=jq hsx;have HSY:=jq hsy;clear hx hsx hsy hxm hfx hrd
   go_wp2_with fail
   refine HRD.out.mono ?_;rintro e w3 ⟨v,rfl,hO3,hB3⟩;obtain⟨ra,rc,rfl,_,hLr,_,_⟩:=own_shape hO3;obtain⟨rn,hrn⟩:=jl x.2.length;have hB03:Below w.heap.size w w3:=HB.out.trans (hB3.mono HB.out.size);have hN3:=HLN.out.later hB3
   have hcv:∀V:World,Below w3.heap.size w3 V->(convert 27 9 (.slice ra rn rc)).run Tryz.prog V=.ok (.string sy) V:=λV hV=>by
    have:=conv_any (vc:=rc) (hLr.later hV);rw[<-hrn,HSY.out]at this;exact this
   have hcv3:∀n',(convert 27 9 (.slice ra rn rc)).run Tryz.prog (w3.drewN n')=.ok (.string sy) (w3.drewN n'):=λn'=>hcv _ (fl_drewN (Below.refl _ _) _)
   have hcv4:=hcv w3 (Below.refl _ _)
   obtain⟨g7,o7,e7,c7⟩:=lies_at hN3 (k:=k) (u:=.string sx) (by
    rw[<-HSS.out,List.map_map,List.getElem?_map,HX.out,<-HSX.out]
    rfl)
   cases e7;obtain⟨g3,o3,rfl,n0,n1⟩:=cells_at (HL.out.later hB03) HX.out;rw[HSX.out]at n0;rw[HSY.out]at n1;rw[<-hrn];have HB03:=jq hB03;have HN3:=jq hN3;clear hrn hO3 hLr hB3 hB03 hN3 hcv c0
   go_wp2_with fail
   go_quiet (fail)
   go_wp2_with fail
   go_roundw
   case rel=>exact⟨k+1,by omega,by go_num,jq (fl_drewN HB03.out _),jq (HN3.out.later (fl_drewN (Below.refl _ _) _))⟩
   case measure=>simp[intOf];omega
  ·obtain rfl:nl=k:=by omega
   go_wp2_with fail
   go_ret
   exact⟨rfl,HB.out⟩
end Pool
namespace Pool
open Go.RowKit Go.Deep Mem Crc Walk Full RefF
open Store (Sto Files setF setF_same setF_other nv)
variable {B p i:Nat} {o:Option Obj} {w w':World} {Y Y':PY}
theorem PMid.cells (h:PMid B p o w Y):w.cell? ⟨p,0,none⟩=some (.pointer (some ⟨Y.d,0,none⟩))/\w.cell? ⟨p,1,none⟩=some (.pointer (some ⟨Y.s,0,none⟩))/\w.cell? ⟨p,2,none⟩=some (.pointer (some ⟨Y.pp,0,none⟩))/\w.cell? ⟨p,3,none⟩=some (.int .i64 (Y.x.rm:Int))/\w.cell? ⟨p,4,none⟩=some (.slice Y.x.sa Y.n Y.x.sc)/\w.cell? ⟨p,5,none⟩=some (.slice Y.x.ha Y.n Y.x.hc)/\w.cell? ⟨p,6,none⟩=some (.slice Y.an Y.L.length Y.nc):=
 ⟨h.blk.cell 0,h.blk.cell 1,h.blk.cell 2,h.blk.cell 3,h.blk.cell 4,h.blk.cell 5,h.blk.cell 6⟩
theorem PPlay.rowed (h:PPlay B p o i w Y) {ct:Nat} {Qs:Nat->Prop} {hv:Nat->Option Value} {S Hd:Rows} {x:PX} (hm:PMid B p o w' {Y with ct:=ct,Qs:=Qs,hv:=hv,S:=S,Hd:=Hd,x:=x,S2:=S,H2:=Hd}) (hc:ct<=Y.ct+100) (h1:many Hd Y.n<=Y.room) (h2:many Hd Y.n<=many Y.Hd Y.n+1) (h3:many S Y.n+many Hd Y.n<=many Y.S Y.n+many Y.Hd Y.n+1):PPlay B p o (i+1) w' {Y with ct:=ct,Qs:=Qs,hv:=hv,S:=S,Hd:=Hd,x:=x,S2:=S,H2:=Hd}:=by
 obtain⟨m,r,c,nr,hd,t,g,th,f⟩:=h;exact⟨hm,⟨rfl,rfl⟩,by show ct<=_;omega,nr,⟨h1,by show many Hd Y.n<=_;omega⟩,by show many S Y.n+many Hd Y.n<=_;omega,g,by show many (rdF Y.H) Y.n<=_;omega,f⟩
theorem PMid.files (h:PMid B p o w Y):∃F j,(stoX B Y.s Y.d 400 o Y.H).At w Y.Qs false F j/\Fls F Y.S Y.n/\j<=Y.ct/\Y.n<=4096/\∀k,k<Y.n->∀x∈Y.S k,ok x:=by
 obtain⟨F,j,h1,h2,h3⟩:=h.live.store;exact⟨F,j,h1,h2,h3,h.live.top.1,h.live.okS⟩
theorem rdF_fls {F:Files} {S:Rows} {n:Nat} (h:Fls F S n) (hok:∀k,k<n->∀x∈S k,ok x) (hl:∀k,k<n->(S k).length<=30000):∀k,k<n->rdF F k=S k:=by
 intro k hk;have h1:=h.2 k hk;unfold rdF;rw[h1]
 by_cases e:S k= []
 ·rw[if_pos e,e]
 ·rw[if_neg e];dsimp only;rw[rdS_all e (hok k hk) (hl k hk)]
  rfl
theorem good_fls {F:Files} {S:Rows} {n:Nat} (h:Fls F S n) (hok:∀k,k<n->∀x∈S k,ok x) (hl:∀k,k<n->(S k).length<=30000):∀k b,k<n->F (pname k)=some b->rdS b≠none:=by
 intro k b hk hb;have h1:=h.2 k hk;rw[hb]at h1
 by_cases e:S k= []
 ·rw[if_pos e]at h1;cases h1
 ·rw[if_neg e]at h1;injection h1 with h1;rw[h1,rdS_all e (hok k hk) (hl k hk)];exact λe=>by cases e
theorem many_same {f g:Rows}:∀n,(∀k,k<n->f k=g k)->many f n=many g n
 |0,_=>rfl
 |n+1,h=>by rw[many_succ,many_succ,many_same n (λk hk=>h k (by omega)),h n (by omega)]
theorem spill_any {A:Pa} {ct:Nat} {w:World} {Qs:Nat->Prop} {hv:Nat->Option Value} {S Hd:Rows} (h:Pl A ct w Qs hv S Hd) (hct:ct<90000) (j:Nat) (hj:j<A.n) (hlen: (S j).length+(Hd j).length<=30000) (hmany:many Hd A.n<=1000000):
  Calls Tryz.prog 31 #[.pointer (some ⟨A.p,0,none⟩),.int .i64 (j:Int)] w λe w'=>e=.returned (.int .i64 0)/\Went A (ct+1) (allQ A Qs hv) w w' (upd S j (S j++Hd j)) (upd Hd j []) (λ_=>False):=by
 by_cases he:Hd j= []
 ·refine(spill_nil h j hj he).mono ?_;rintro e w' ⟨rfl,rfl⟩;rw[he,List.append_nil,upd_id,show upd Hd j []=Hd by rw[<-he];exact upd_id Hd j];exact⟨rfl,went_refl (h.mono (Nat.le_succ _)) (Below.refl _ _)⟩
 ·exact spill_some h hct j hj he hlen hmany
theorem spill_counts {S Hd:Rows} {n j r:Nat} (hj:j<n) (hm:many Hd n<=r):many (upd Hd j []) n<=r/\many (upd Hd j []) n<=many Hd n+1/\many (upd S j (S j++Hd j)) n+many (upd Hd j []) n<=many S n+many Hd n+1:=by
 have h1:=many_upd Hd j [] n hj;have h2:=many_upd S j (S j++Hd j) n hj
 simp at h1 h2
 omega
theorem take_u {A:Pa} {ct:Nat} {w:World} {Qs:Nat->Prop} {hv:Nat->Option Value} {S Hd:Rows} (h:Pl A ct w Qs hv S Hd) (hct:ct<90000) (j:Nat) (hj:j<A.n) (m:Nat) (hm:m<=9223372036854775807) (hlen: (S j).length+(Hd j).length<=30000) (hmany:many Hd A.n<=1000000):
  Calls Tryz.prog 16 #[.pointer (some ⟨A.p,0,none⟩),.int .i64 (j:Int),.int .i64 (m:Int)] w λe w'=>∃v,e=.returned (.tuple #[v,.int .i64 0])/\OwnW w' w.heap.size v ((S j++Hd j).take m)/\Went A (ct+1) (allQ A Qs hv) w w' (upd S j ((S j).drop m)) (upd Hd j ((Hd j).drop (m-(S j).length))) (λk=>v.ownBlock=some k):=by
 by_cases h0:m=0
 ·subst h0;refine(take_zero h j hj).mono ?_;rintro e w' ⟨rfl,rfl⟩;refine⟨_,rfl,World.ownsRow_nil _ _ _ _,?_⟩;rw[Nat.zero_sub,List.drop_zero,List.drop_zero,upd_id,upd_id];exact⟨Qs,hv,(h.mono (Nat.le_succ _)),λk hk=>.inl hk,λk hk=>(by cases hk),Upon.refl _ _⟩
 ·exact take_any h hct j hj m (by omega) hm hlen hmany
theorem take_counts {S Hd:Rows} {n j r m:Nat} (hj:j<n) (hm:many Hd n<=r):many (upd Hd j ((Hd j).drop (m-(S j).length))) n<=r/\many (upd Hd j ((Hd j).drop (m-(S j).length))) n<=many Hd n+1/\many (upd S j ((S j).drop m)) n+many (upd Hd j ((Hd j).drop (m-(S j).length))) n<=many S n+many Hd n+1:=by
 have h1:=many_upd Hd j ((Hd j).drop (m-(S j).length)) n hj;have h2:=many_upd S j ((S j).drop m) n hj;simp only[List.length_drop]at h1 h2
 omega
theorem save_counts {S Hd:Rows} {n r:Nat} (hm:many Hd n<=r):many (outH Hd n) n<=r/\many (outH Hd n) n<=many Hd n+1/\many (outS S Hd n) n+many (outH Hd n) n<=many S n+many Hd n+1:=by
 have h0:many (outH Hd n) n=0:=by
  rw[many_same (f:=outH Hd n) (g:=no) n (λk hk=>by unfold outH;rw[if_pos hk];rfl),many_no]
 have h4:=many_add S Hd n (outS S Hd n) (outH Hd n) (λk hk=>by unfold outS outH;rw[if_pos hk,if_pos hk];simp)
 omega
theorem box_late {w3 V wA:World} {n:Nat} {x x':PX} {S' H':Rows} (hV:Below w3.heap.size w3 V) (hn:PNew n x S' H' V wA x') (ob:Obj):PNew n x S' H' w3 (wA.alloc ob) x':=
 ⟨hn.1,hn.2.1.later ((Below.refl _ wA).alloc jn ob),λk hk=>(hn.2.2.1 k hk).imp id (λh=>Nat.le_trans hV.size h),(hV.trans (hn.2.2.2.mono hV.size)).alloc (Nat.le_trans hV.size hn.2.2.2.size) ob⟩
theorem box_early {w3 V wA wx:World} {n b:Nat} {x x':PX} {S' H':Rows} (hV:Below w3.heap.size w3 V) (hb:w3.heap.size<=b) (hb2:b<V.heap.size) (hn:PNew n x S' H' V wA x') (hx:∀k,PB x n k->k<w3.heap.size) (hu:Upon (λq=>q=b) wA wx):PNew n x S' H' w3 wx x':=by
 have hB:=hV.trans (hn.2.2.2.mono hV.size);refine⟨hn.1,hn.2.1.upon hu (λk hk e=>?_),λk hk=>(hn.2.2.1 k hk).imp id (λh=>Nat.le_trans hV.size h),hB.trans (hu.below hB.size (λq hq=>by rw[hq];exact hb))⟩;have e:k=b:=e;rcases hn.2.2.1 k hk with h|h
 ·have:=hx k h
  omega
 ·omega
theorem put_counts {A:Pa} {S Hd:Rows} {j:Nat} {x:List Nat} (hj:j<A.n) (hr:1<=A.room) (hm:many Hd A.n<=A.room):many (upd (madeH A Hd) j (madeH A Hd j++ [x])) A.n<=A.room/\many (upd (madeH A Hd) j (madeH A Hd j++ [x])) A.n<=many Hd A.n+1/\many (madeS A S Hd) A.n+many (upd (madeH A Hd) j (madeH A Hd j++ [x])) A.n<=many S A.n+many Hd A.n+1:=by
 have h1:=many_upd (madeH A Hd) j (madeH A Hd j++ [x]) A.n hj;have h2:=(made_many A Hd).1;have h3:=(made_many A Hd).2 hr hm;have h4:=many_add S Hd A.n (madeS A S Hd) (madeH A Hd) (λk _=>made_len A S Hd k)
 simp at h1
 omega
theorem turn3 {w3 w4:World} {x':PX} {S' H':Rows} (h:PMid B p o w3 Y) (hn:PNew Y.n Y.x S' H' w3 w4 x') (hb:Blk w4 p 46 Y.cells):PMid B p o (((w4.setCell ⟨p,3,none⟩ (.int .i64 (x'.rm:Int))).setCell ⟨p,4,none⟩ (.slice x'.sa Y.n x'.sc)).setCell ⟨p,5,none⟩ (.slice x'.ha Y.n x'.hc)) {Y with x:=x',S2:=S',H2:=H'}/\Below B w3 (((w4.setCell ⟨p,3,none⟩ (.int .i64 (x'.rm:Int))).setCell ⟨p,4,none⟩ (.slice x'.sa Y.n x'.sc)).setCell ⟨p,5,none⟩ (.slice x'.ha Y.n x'.hc)):=
 h.turn hn (((hb.set 3 _).set 4 _).set 5 _) (Upon.set (P:=λq=>q=p) (Upon.set (P:=λq=>q=p) (Upon.set (P:=λq=>q=p) (Upon.refl _ w4) (p:=⟨p,3,none⟩) (.inl rfl) _) (p:=⟨p,4,none⟩) (.inl rfl) _) (p:=⟨p,5,none⟩) (.inl rfl) _)
end Pool
namespace Pool
open Go.RowKit Go.Deep Mem Crc Walk Full RefF
open Store (Sto Files setF setF_same setF_other nv)
variable {B p i:Nat} {o:Option Obj} {w w':World} {Y:PY}
attribute [local go_sem] Oper.semAt_some
theorem does_put (h:PPlay B p o i w Y) (h6:i<=60) (sh kn:Int) (xa xb xc xd xe xf xg:Nat) (ab:Option Addr) (bn bc:Nat) (j:Nat) (hj:j<Y.n) (hsh:sh=(j:Int)) (hx:ok [xa,xb,xc,xd,xe,xf,xg]):
  Calls Tryz.prog 8 #[.pointer (some ⟨p,0,none⟩),.agg #[.int .i64 0,.int .i64 sh,.int .i64 kn,.int .u32 (xa:Int),.int .u32 (xb:Int),.int .u32 (xc:Int),.int .u32 (xd:Int),.int .u32 (xe:Int),.int .u32 (xf:Int),.int .u32 (xg:Int),.slice ab bn bc]] w λe w'=>e=.returned (.tuple #[.bool true,.bool true])/\PStep B p o i Y w w':=by
 have hth: (decide (0<=sh)&&decide (sh<(Y.n:Int)))=true:=by rw[hsh];simp;omega
 have HSH:=jq hsh;clear hsh;obtain⟨s,d,pp,sm,hm,n,room,ct,Qs,hv,S,Hd,⟨rm,sa,sc,fs,ha,hc,fh⟩,Sr,Hr,H,L,an,nc⟩:=Y;obtain⟨W1,hW1⟩:=jl (w.alloc (.cells #[.int .i64 0,.int .i64 sh,.int .i64 kn,.int .u32 (xa:Int),.int .u32 (xb:Int),.int .u32 (xc:Int),.int .u32 (xd:Int),.int .u32 (xe:Int),.int .u32 (xf:Int),.int .u32 (xg:Int),.slice ab bn bc] 29));obtain⟨rb,hrb⟩:=jl w.heap.size;have hB1:Below w.heap.size w W1:=by rw[hW1];exact(Below.refl _ w).alloc jn _
 have hbr:Blk W1 rb 29 #[.int .i64 0,.int .i64 sh,.int .i64 kn,.int .u32 (xa:Int),.int .u32 (xb:Int),.int .u32 (xc:Int),.int .u32 (xd:Int),.int .u32 (xe:Int),.int .u32 (xf:Int),.int .u32 (xg:Int),.slice ab bn bc]:=by rw[hW1,hrb];exact Blk.new w _ _
 have hbp:Blk W1 p 46 #[.pointer (some ⟨d,0,none⟩),.pointer (some ⟨s,0,none⟩),.pointer (some ⟨pp,0,none⟩),.int .i64 (rm:Int),.slice sa n sc,.slice ha n hc,.slice an L.length nc]:=(h.later hB1).mid.blk;have HC:Hid (∀w',Below W1.heap.size W1 w'->w'.cell? ⟨p,3,none⟩=some (.int .i64 (rm:Int))/\w'.cell? ⟨p,4,none⟩=some (.slice sa n sc)/\w'.cell? ⟨p,5,none⟩=some (.slice ha n hc)/\w'.cell? ⟨rb,1,none⟩=some (.int .i64 sh)):=jq (λV hV=>⟨(hbp.below hV hbp.lt).cell 3,(hbp.below hV hbp.lt).cell 4,(hbp.below hV hbp.lt).cell 5,(hbr.below hV hbr.lt).cell 1⟩);have hpl:p<w.heap.size:=h.mid.blk.lt;have hrp:rb≠p:=by omega
 have HBP:=jq hbp;have HBR:=jq hbr;have HB1:=jq hB1;have HRB:=jq hrb;have H0:=jq h;have hS0:=HC.out W1.drew (Below.refl _ W1).drew;clear h hB1 hbr hbp
 go_enter Tryz.func8,Tryz.ntmps8
 go_wp2_with fail
 rw[<-hW1,<-hrb];clear hW1 hrb
 go_region_held3 (λw'=>w'.cell? ⟨p,3,none⟩=some (.int .i64 (rm:Int))/\w'.cell? ⟨p,4,none⟩=some (.slice sa n sc)/\w'.cell? ⟨p,5,none⟩=some (.slice ha n hc)/\w'.cell? ⟨rb,1,none⟩=some (.int .i64 sh)) (first|with_reducible exact hS0|with_reducible exact hS1) (first|(go_at_call 27;refine(there24_any (x:=⟨rm,sa,sc,fs,ha,hc,fh⟩) (n:=n) sh _).mono ?_;rintro e w2 ⟨rfl,hB2⟩;rw[hth];have HB2:Hid (Below W1.heap.size W1 w2):=jq (((Below.refl _ W1).drew).trans hB2);clear hB2;have hS1:=HC.out w2 HB2.out;dsimp only))
 rename_i hHeld
 clear hHeld hS0 hS1;have hbr2:=HBR.out.below HB2.out HBR.out.lt;have hbp2:=HBP.out.below HB2.out HBP.out.lt;have r0:=hbr2.cell 0;simp only[jt,ja]at r0;have hB02:Below w.heap.size w w2:=HB1.out.trans (HB2.out.mono HB1.out.size);have HB02:=jq hB02;have HBR2:=jq hbr2;have HBP2:=jq hbp2;have H2:=jq (H0.out.later hB02);have hrl:rb<w2.heap.size:=hbr2.lt;clear HC HB1 HBP HBR hB02 hbr2 hbp2
 (try dsimp only at hj)
 have HPUT:Hid (∀V,Below w2.heap.size w2 V->Calls Tryz.prog 15 #[.pointer (some ⟨pp,0,none⟩),.int .i64 sh,.agg #[.int .u32 (xa:Int),.int .u32 (xb:Int),.int .u32 (xc:Int),.int .u32 (xd:Int),.int .u32 (xe:Int),.int .u32 (xf:Int),.int .u32 (xg:Int)]] V λe w3=>e=.returned (.int .i64 0)/\Hid (Below w.heap.size w V)/\Hid (Went (PY.A ⟨s,d,pp,sm,hm,n,room,ct,Qs,hv,S,Hd,⟨rm,sa,sc,fs,ha,hc,fh⟩,Sr,Hr,H,L,an,nc⟩ B o) (ct+1) (PY.D ⟨s,d,pp,sm,hm,n,room,ct,Qs,hv,S,Hd,⟨rm,sa,sc,fs,ha,hc,fh⟩,Sr,Hr,H,L,an,nc⟩ B o) V w3 (madeS (PY.A ⟨s,d,pp,sm,hm,n,room,ct,Qs,hv,S,Hd,⟨rm,sa,sc,fs,ha,hc,fh⟩,Sr,Hr,H,L,an,nc⟩ B o) S Hd) (upd (madeH (PY.A ⟨s,d,pp,sm,hm,n,room,ct,Qs,hv,S,Hd,⟨rm,sa,sc,fs,ha,hc,fh⟩,Sr,Hr,H,L,an,nc⟩ B o) Hd) j (madeH (PY.A ⟨s,d,pp,sm,hm,n,room,ct,Qs,hv,S,Hd,⟨rm,sa,sc,fs,ha,hc,fh⟩,Sr,Hr,H,L,an,nc⟩ B o) Hd j++ [[xa,xb,xc,xd,xe,xf,xg]])) (λ_=>False))):=jq (λV hV=>by
  have h:=H2.out.later hV;obtain⟨l1,l2,l3⟩:=h.len h6;have hc:=h.ct;have hz:=HB02.out.trans (hV.mono HB02.out.size);rw[HSH.out];exact(put_any h.mid.live (by show ct<_;dsimp only at hc;omega) j hj [xa,xb,xc,xd,xe,xf,xg] hx h.nr.2.1 (λk hk=>by have:=l1 k hk;omega) (by show many Hd n<=_;dsimp only at l2;omega)).mono (λe w3 h3=>⟨h3.1,jq hz,jq h3.2⟩))
 have HC4:Hid (∀w',Blk w' p 46 #[.pointer (some ⟨d,0,none⟩),.pointer (some ⟨s,0,none⟩),.pointer (some ⟨pp,0,none⟩),.int .i64 (rm:Int),.slice sa n sc,.slice ha n hc,.slice an L.length nc]->Blk w' rb 29 #[.int .i64 0,.int .i64 sh,.int .i64 kn,.int .u32 (xa:Int),.int .u32 (xb:Int),.int .u32 (xc:Int),.int .u32 (xd:Int),.int .u32 (xe:Int),.int .u32 (xf:Int),.int .u32 (xg:Int),.slice ab bn bc]->w'.cell? ⟨p,2,none⟩=some (.pointer (some ⟨pp,0,none⟩))/\w'.cell? ⟨rb,1,none⟩=some (.int .i64 sh)/\w'.cell? ⟨rb,3,none⟩=some (.int .u32 (xa:Int))/\w'.cell? ⟨rb,4,none⟩=some (.int .u32 (xb:Int))/\w'.cell? ⟨rb,5,none⟩=some (.int .u32 (xc:Int))/\w'.cell? ⟨rb,6,none⟩=some (.int .u32 (xd:Int))/\w'.cell? ⟨rb,7,none⟩=some (.int .u32 (xe:Int))/\w'.cell? ⟨rb,8,none⟩=some (.int .u32 (xf:Int))/\w'.cell? ⟨rb,9,none⟩=some (.int .u32 (xg:Int))):=jq (λV hp hb=>⟨hp.cell 2,hb.cell 1,hb.cell 3,hb.cell 4,hb.cell 5,hb.cell 6,hb.cell 7,hb.cell 8,hb.cell 9⟩);have hS0:=HC4.out w2.drew HBP2.out.drew HBR2.out.drew
 go_wp2_with fail
 go_region_held3 (λw'=>w'.cell? ⟨p,2,none⟩=some (.pointer (some ⟨pp,0,none⟩))/\w'.cell? ⟨rb,1,none⟩=some (.int .i64 sh)/\w'.cell? ⟨rb,3,none⟩=some (.int .u32 (xa:Int))/\w'.cell? ⟨rb,4,none⟩=some (.int .u32 (xb:Int))/\w'.cell? ⟨rb,5,none⟩=some (.int .u32 (xc:Int))/\w'.cell? ⟨rb,6,none⟩=some (.int .u32 (xd:Int))/\w'.cell? ⟨rb,7,none⟩=some (.int .u32 (xe:Int))/\w'.cell? ⟨rb,8,none⟩=some (.int .u32 (xf:Int))/\w'.cell? ⟨rb,9,none⟩=some (.int .u32 (xg:Int))) (first|with_reducible exact hS0|with_reducible exact hS1) (first|(go_at_call 15;refine(HPUT.out _ ((Below.refl _ w2).drew)).mono ?_;rintro e w3 ⟨rfl,HZ,HW⟩;obtain⟨Qs',hv',hm3,hB3,-⟩:=PMid.went (H2.out.later ((Below.refl _ w2).drew)).mid HW.out;have hu3:Upon (PY.D ⟨s,d,pp,sm,hm,n,room,ct,Qs,hv,S,Hd,⟨rm,sa,sc,fs,ha,hc,fh⟩,Sr,Hr,H,L,an,nc⟩ B o) w2.drew w3:=(by obtain⟨_,_,_,_,_,hu⟩:=HW.out;exact hu);have hbr3:Blk w3 rb 29 #[.int .i64 0,.int .i64 sh,.int .i64 kn,.int .u32 (xa:Int),.int .u32 (xb:Int),.int .u32 (xc:Int),.int .u32 (xd:Int),.int .u32 (xe:Int),.int .u32 (xf:Int),.int .u32 (xg:Int),.slice ab bn bc]:=HBR2.out.drew.upon hu3 (λhq=>Nat.lt_irrefl rb (by have:=H0.out.mid.live.lt rb hq;have:=HRB.out;omega));have hS1:=HC4.out w3 hm3.blk hbr3;dsimp only))
 rename_i hHeld
 clear hHeld hS0 hS1 HC4 HPUT;have HM3:=jq hm3;have HB3:=jq hB3;have HBR3:=jq hbr3;have HBP3:Hid (Blk w3 p 46 #[.pointer (some ⟨d,0,none⟩),.pointer (some ⟨s,0,none⟩),.pointer (some ⟨pp,0,none⟩),.int .i64 (rm:Int),.slice sa n sc,.slice ha n hc,.slice an L.length nc]):=jq hm3.blk;clear hm3 hB3 hbr3 hu3
 have HMP:Hid (∀V,Below w3.heap.size w3 V->Calls Tryz.prog 28 #[.agg #[.int .i64 (rm:Int),.slice sa n sc,.slice ha n hc],.int .i64 sh,.agg #[.int .u32 (xa:Int),.int .u32 (xb:Int),.int .u32 (xc:Int),.int .u32 (xd:Int),.int .u32 (xe:Int),.int .u32 (xf:Int),.int .u32 (xg:Int)]] V λe w4=>∃x':PX,e=.returned (.agg #[.int .i64 (x'.rm:Int),.slice x'.sa n x'.sc,.slice x'.ha n x'.hc])/\Hid (PNew n ⟨rm,sa,sc,fs,ha,hc,fh⟩ (madeS (PY.A ⟨s,d,pp,sm,hm,n,room,ct,Qs,hv,S,Hd,⟨rm,sa,sc,fs,ha,hc,fh⟩,Sr,Hr,H,L,an,nc⟩ B o) S Hd) (upd (madeH (PY.A ⟨s,d,pp,sm,hm,n,room,ct,Qs,hv,S,Hd,⟨rm,sa,sc,fs,ha,hc,fh⟩,Sr,Hr,H,L,an,nc⟩ B o) Hd) j (madeH (PY.A ⟨s,d,pp,sm,hm,n,room,ct,Qs,hv,S,Hd,⟨rm,sa,sc,fs,ha,hc,fh⟩,Sr,Hr,H,L,an,nc⟩ B o) Hd j++ [[xa,xb,xc,xd,xe,xf,xg]])) w3 w4 x')/\Hid (Blk w4 p 46 #[.pointer (some ⟨d,0,none⟩),.pointer (some ⟨s,0,none⟩),.pointer (some ⟨pp,0,none⟩),.int .i64 (rm:Int),.slice sa n sc,.slice ha n hc,.slice an L.length nc])):=jq (λV hV=>by
  have h:=HM3.out.later hV;have h2:=H2.out;obtain⟨l1,l2,l3⟩:=h2.len h6;have hrr:=h2.rows;have hrm:=h2.mid.rm;have hh:=h2.held.1;dsimp only at hrr hrm hh l1 l2 l3;obtain⟨rfl,rfl⟩:=hrr;subst hrm;obtain⟨q1,q2⟩:=made_ful (A:=PY.A ⟨s,d,pp,sm,hm,n,rm,ct,Qs,hv,Sr,Hr,⟨rm,sa,sc,fs,ha,hc,fh⟩,Sr,Hr,H,L,an,nc⟩ B o) (S:=Sr) (Hd:=Hr) (by show 0<n;omega) (by show many Hr n<=_;exact hh);rw[HSH.out,q1,q2];refine(put24_any (n:=n) (S:=Sr) (H:=Hr) (x:=⟨rm,sa,sc,fs,ha,hc,fh⟩) h.ref j hj h2.nr.1 [xa,xb,xc,xd,xe,xf,xg] hx (λk hk=>by have:=l1 k hk;omega) (by show many Hr n<=_;omega)).mono ?_;rintro e w4 ⟨x',rfl,n1,n2,n3,n4⟩;exact⟨x',rfl,jq ⟨n1,n2,λk hk=>(n3 k hk).imp id (λh5=>Nat.le_trans hV.size h5),hV.trans (n4.mono hV.size)⟩,jq ((HBP3.out.below hV HBP3.out.lt).below n4 (Nat.lt_of_lt_of_le HBP3.out.lt hV.size))⟩)
 have hbp:=HBP3.out;have hbr:=HBR3.out;have p3:=hbp.cell 3;have p4:=hbp.cell 4;have p5:=hbp.cell 5;have b1:=hbr.cell 1;have b3:=hbr.cell 3;have b4:=hbr.cell 4;have b5:=hbr.cell 5;have b6:=hbr.cell 6;have b7:=hbr.cell 7;have b8:=hbr.cell 8;have b9:=hbr.cell 9;simp only[jt,ja,jb]at p3 p4 p5 b1 b3 b4 b5 b6 b7 b8 b9;clear hbp hbr
 go_wp2_with fail
 go_region_law ((first|(go_simp;go_at_call 28;refine(HMP.out _ (by first|exact(Below.refl _ _).drew|exact Below.refl _ _)).mono ?_;rintro e w4 ⟨x',rfl,HN,HB4⟩;have e3:=HB4.out.cell 3;have e4:=HB4.out.cell 4;have e5:=HB4.out.cell 5;have g3:=HB4.out.frozen 3;have g4:=HB4.out.frozen 4;have g5:=HB4.out.frozen 5;simp only[jt,ja,jb]at e3 e4 e5;dsimp only)))
 all_goals go_wp2_with fail
 all_goals go_ret2
 all_goals(refine⟨rfl,?_⟩)
 all_goals(obtain⟨f1,f2⟩:=turn3 HM3.out HN.out HB4.out)
 all_goals(obtain⟨q1,q2,q3⟩:=put_counts (A:=PY.A ⟨s,d,pp,sm,hm,n,room,ct,Qs,hv,S,Hd,⟨rm,sa,sc,fs,ha,hc,fh⟩,Sr,Hr,H,L,an,nc⟩ B o) (S:=S) (Hd:=Hd) (x:=[xa,xb,xc,xd,xe,xf,xg]) hj H2.out.nr.2.1 H2.out.held.1)
 all_goals(exact⟨_,H2.out.rowed f1 (Nat.add_le_add_left (by decide) _) q1 q2 q3,⟨rfl,rfl⟩,(HB02.out.mono H0.out.mid.low.2.1).trans (((Below.refl _ w2).drew.trans HB3.out).trans f2)⟩)
end Pool
namespace Pool
open Go.RowKit Go.Deep Mem Crc Walk Full RefF
open Store (Sto Files setF setF_same setF_other nv)
variable {B p i:Nat} {o:Option Obj} {w w':World} {Y:PY}
attribute [local go_sem] Oper.semAt_some
theorem does_spill (h:PPlay B p o i w Y) (h6:i<=60) (sh kn:Int) (xa xb xc xd xe xf xg:Nat) (ab:Option Addr) (bn bc:Nat) (j:Nat) (hj:j<Y.n) (hsh:sh=(j:Int)):
  Calls Tryz.prog 8 #[.pointer (some ⟨p,0,none⟩),.agg #[.int .i64 2,.int .i64 sh,.int .i64 kn,.int .u32 (xa:Int),.int .u32 (xb:Int),.int .u32 (xc:Int),.int .u32 (xd:Int),.int .u32 (xe:Int),.int .u32 (xf:Int),.int .u32 (xg:Int),.slice ab bn bc]] w λe w'=>e=.returned (.tuple #[.bool true,.bool true])/\PStep B p o i Y w w':=by
 have hth: (decide (0<=sh)&&decide (sh<(Y.n:Int)))=true:=by rw[hsh];simp;omega
 have HSH:=jq hsh;clear hsh;obtain⟨s,d,pp,sm,hm,n,room,ct,Qs,hv,S,Hd,⟨rm,sa,sc,fs,ha,hc,fh⟩,Sr,Hr,H,L,an,nc⟩:=Y;obtain⟨W1,hW1⟩:=jl (w.alloc (.cells #[.int .i64 2,.int .i64 sh,.int .i64 kn,.int .u32 (xa:Int),.int .u32 (xb:Int),.int .u32 (xc:Int),.int .u32 (xd:Int),.int .u32 (xe:Int),.int .u32 (xf:Int),.int .u32 (xg:Int),.slice ab bn bc] 29));obtain⟨rb,hrb⟩:=jl w.heap.size;have hB1:Below w.heap.size w W1:=by rw[hW1];exact(Below.refl _ w).alloc jn _
 have hbr:Blk W1 rb 29 #[.int .i64 2,.int .i64 sh,.int .i64 kn,.int .u32 (xa:Int),.int .u32 (xb:Int),.int .u32 (xc:Int),.int .u32 (xd:Int),.int .u32 (xe:Int),.int .u32 (xf:Int),.int .u32 (xg:Int),.slice ab bn bc]:=by rw[hW1,hrb];exact Blk.new w _ _
 have hbp:Blk W1 p 46 #[.pointer (some ⟨d,0,none⟩),.pointer (some ⟨s,0,none⟩),.pointer (some ⟨pp,0,none⟩),.int .i64 (rm:Int),.slice sa n sc,.slice ha n hc,.slice an L.length nc]:=(h.later hB1).mid.blk;have HC:Hid (∀w',Below W1.heap.size W1 w'->w'.cell? ⟨p,3,none⟩=some (.int .i64 (rm:Int))/\w'.cell? ⟨p,4,none⟩=some (.slice sa n sc)/\w'.cell? ⟨p,5,none⟩=some (.slice ha n hc)/\w'.cell? ⟨rb,1,none⟩=some (.int .i64 sh)):=jq (λV hV=>⟨(hbp.below hV hbp.lt).cell 3,(hbp.below hV hbp.lt).cell 4,(hbp.below hV hbp.lt).cell 5,(hbr.below hV hbr.lt).cell 1⟩);have hpl:p<w.heap.size:=h.mid.blk.lt;have hrp:rb≠p:=by omega
 have HBP:=jq hbp;have HBR:=jq hbr;have HB1:=jq hB1;have HRB:=jq hrb;have H0:=jq h;have hS0:=HC.out W1.drew (Below.refl _ W1).drew;clear h hB1 hbr hbp
 go_enter Tryz.func8,Tryz.ntmps8
 go_wp2_with fail
 rw[<-hW1,<-hrb];clear hW1 hrb
 go_region_held3 (λw'=>w'.cell? ⟨p,3,none⟩=some (.int .i64 (rm:Int))/\w'.cell? ⟨p,4,none⟩=some (.slice sa n sc)/\w'.cell? ⟨p,5,none⟩=some (.slice ha n hc)/\w'.cell? ⟨rb,1,none⟩=some (.int .i64 sh)) (first|with_reducible exact hS0|with_reducible exact hS1) (first|(go_at_call 27;refine(there24_any (x:=⟨rm,sa,sc,fs,ha,hc,fh⟩) (n:=n) sh _).mono ?_;rintro e w2 ⟨rfl,hB2⟩;rw[hth];have HB2:Hid (Below W1.heap.size W1 w2):=jq (((Below.refl _ W1).drew).trans hB2);clear hB2;have hS1:=HC.out w2 HB2.out;dsimp only))
 rename_i hHeld
 clear hHeld hS0 hS1;have hbr2:=HBR.out.below HB2.out HBR.out.lt;have hbp2:=HBP.out.below HB2.out HBP.out.lt;have r0:=hbr2.cell 0;simp only[jt,ja]at r0;have hB02:Below w.heap.size w w2:=HB1.out.trans (HB2.out.mono HB1.out.size);have HB02:=jq hB02;have HBR2:=jq hbr2;have HBP2:=jq hbp2;have H2:=jq (H0.out.later hB02);have hrl:rb<w2.heap.size:=hbr2.lt;clear HC HB1 HBP HBR hB02 hbr2 hbp2
 try dsimp only at hj
 have HPUT:Hid (∀V,Below w2.heap.size w2 V->Calls Tryz.prog 31 #[.pointer (some ⟨pp,0,none⟩),.int .i64 sh] V λe w3=>e=.returned (.int .i64 0)/\Hid (Below w.heap.size w V)/\Hid (Went (PY.A ⟨s,d,pp,sm,hm,n,room,ct,Qs,hv,S,Hd,⟨rm,sa,sc,fs,ha,hc,fh⟩,Sr,Hr,H,L,an,nc⟩ B o) (ct+1) (PY.D ⟨s,d,pp,sm,hm,n,room,ct,Qs,hv,S,Hd,⟨rm,sa,sc,fs,ha,hc,fh⟩,Sr,Hr,H,L,an,nc⟩ B o) V w3 (upd S j (S j++Hd j)) (upd Hd j []) (λ_=>False))):=jq (λV hV=>by
  have h:=H2.out.later hV;obtain⟨l1,l2,l3⟩:=h.len h6;have hc:=h.ct;have hz:=HB02.out.trans (hV.mono HB02.out.size);rw[HSH.out];exact(spill_any h.mid.live (by show ct<_;dsimp only at hc;omega) j hj (by have:=l1 j hj;omega) (by show many Hd n<=_;dsimp only at l2;omega)).mono (λe w3 h3=>⟨h3.1,jq hz,jq h3.2⟩))
 have HC4:Hid (∀w',Blk w' p 46 #[.pointer (some ⟨d,0,none⟩),.pointer (some ⟨s,0,none⟩),.pointer (some ⟨pp,0,none⟩),.int .i64 (rm:Int),.slice sa n sc,.slice ha n hc,.slice an L.length nc]->Blk w' rb 29 #[.int .i64 2,.int .i64 sh,.int .i64 kn,.int .u32 (xa:Int),.int .u32 (xb:Int),.int .u32 (xc:Int),.int .u32 (xd:Int),.int .u32 (xe:Int),.int .u32 (xf:Int),.int .u32 (xg:Int),.slice ab bn bc]->w'.cell? ⟨p,2,none⟩=some (.pointer (some ⟨pp,0,none⟩))/\w'.cell? ⟨rb,1,none⟩=some (.int .i64 sh)):=jq (λV hp hb=>⟨hp.cell 2,hb.cell 1⟩);have hS0:=HC4.out w2.drew HBP2.out.drew HBR2.out.drew
 go_wp2_with fail
 go_region_held3 (λw'=>w'.cell? ⟨p,2,none⟩=some (.pointer (some ⟨pp,0,none⟩))/\w'.cell? ⟨rb,1,none⟩=some (.int .i64 sh)) (first|with_reducible exact hS0|with_reducible exact hS1) (first|(go_at_call 31;refine(HPUT.out _ ((Below.refl _ w2).drew)).mono ?_;rintro e w3 ⟨rfl,HZ,HW⟩;obtain⟨Qs',hv',hm3,hB3,-⟩:=PMid.went (H2.out.later ((Below.refl _ w2).drew)).mid HW.out;have hu3:Upon (PY.D ⟨s,d,pp,sm,hm,n,room,ct,Qs,hv,S,Hd,⟨rm,sa,sc,fs,ha,hc,fh⟩,Sr,Hr,H,L,an,nc⟩ B o) w2.drew w3:=(by obtain⟨_,_,_,_,_,hu⟩:=HW.out;exact hu);have hbr3:Blk w3 rb 29 #[.int .i64 2,.int .i64 sh,.int .i64 kn,.int .u32 (xa:Int),.int .u32 (xb:Int),.int .u32 (xc:Int),.int .u32 (xd:Int),.int .u32 (xe:Int),.int .u32 (xf:Int),.int .u32 (xg:Int),.slice ab bn bc]:=HBR2.out.drew.upon hu3 (λhq=>Nat.lt_irrefl rb (by have:=H0.out.mid.live.lt rb hq;have:=HRB.out;omega));have hS1:=HC4.out w3 hm3.blk hbr3;dsimp only))
 rename_i hHeld
 clear hHeld hS0 hS1 HC4 HPUT;have HM3:=jq hm3;have HB3:=jq hB3;have HBR3:=jq hbr3;have HBP3:Hid (Blk w3 p 46 #[.pointer (some ⟨d,0,none⟩),.pointer (some ⟨s,0,none⟩),.pointer (some ⟨pp,0,none⟩),.int .i64 (rm:Int),.slice sa n sc,.slice ha n hc,.slice an L.length nc]):=jq hm3.blk;clear hm3 hB3 hbr3 hu3
 have HMP:Hid (∀V,Below w3.heap.size w3 V->Calls Tryz.prog 32 #[.agg #[.int .i64 (rm:Int),.slice sa n sc,.slice ha n hc],.int .i64 sh] V λe w4=>∃x':PX,e=.returned (.agg #[.int .i64 (x'.rm:Int),.slice x'.sa n x'.sc,.slice x'.ha n x'.hc])/\Hid (PNew n ⟨rm,sa,sc,fs,ha,hc,fh⟩ (upd S j (S j++Hd j)) (upd Hd j []) w3 w4 x')/\Hid (Blk w4 p 46 #[.pointer (some ⟨d,0,none⟩),.pointer (some ⟨s,0,none⟩),.pointer (some ⟨pp,0,none⟩),.int .i64 (rm:Int),.slice sa n sc,.slice ha n hc,.slice an L.length nc])):=jq (λV hV=>by
  have h:=HM3.out.later hV;have h2:=H2.out;obtain⟨l1,l2,l3⟩:=h2.len h6;have hrr:=h2.rows;have hrm:=h2.mid.rm;have hh:=h2.held.1;dsimp only at hrr hrm hh l1 l2 l3;obtain⟨rfl,rfl⟩:=hrr;subst hrm;rw[HSH.out];refine(out24_any (n:=n) (S:=Sr) (Hd:=Hr) (x:=⟨rm,sa,sc,fs,ha,hc,fh⟩) h.ref j hj h2.nr.1 (by have:=l1 j hj;omega)).mono ?_;rintro e w4 ⟨x',rfl,n1,n2,n3,n4⟩;exact⟨x',rfl,jq ⟨n1,n2,λk hk=>(n3 k hk).imp id (λh5=>Nat.le_trans hV.size h5),hV.trans (n4.mono hV.size)⟩,jq ((HBP3.out.below hV HBP3.out.lt).below n4 (Nat.lt_of_lt_of_le HBP3.out.lt hV.size))⟩)
 have hbp:=HBP3.out;have hbr:=HBR3.out;have p3:=hbp.cell 3;have p4:=hbp.cell 4;have p5:=hbp.cell 5;have b1:=hbr.cell 1;simp only[jt,ja,jb]at p3 p4 p5 b1;clear hbp hbr
 go_wp2_with fail
 go_region_law ((first|(go_simp;go_at_call 32;refine(HMP.out _ (by first|exact(Below.refl _ _).drew|exact Below.refl _ _)).mono ?_;rintro e w4 ⟨x',rfl,HN,HB4⟩;have e3:=HB4.out.cell 3;have e4:=HB4.out.cell 4;have e5:=HB4.out.cell 5;have g3:=HB4.out.frozen 3;have g4:=HB4.out.frozen 4;have g5:=HB4.out.frozen 5;simp only[jt,ja,jb]at e3 e4 e5;dsimp only)))
 all_goals go_wp2_with fail
 all_goals go_ret2
 all_goals(refine⟨rfl,?_⟩)
 all_goals(obtain⟨f1,f2⟩:=turn3 HM3.out HN.out HB4.out)
 all_goals(obtain⟨q1,q2,q3⟩:=spill_counts (S:=S) (Hd:=Hd) (r:=room) hj H2.out.held.1)
 all_goals(exact⟨_,H2.out.rowed f1 (Nat.add_le_add_left (by decide) _) q1 q2 q3,⟨rfl,rfl⟩,(HB02.out.mono H0.out.mid.low.2.1).trans (((Below.refl _ w2).drew.trans HB3.out).trans f2)⟩)
end Pool
namespace Pool
open Go.RowKit Go.Deep Mem Crc Walk Full RefF
open Store (Sto Files setF setF_same setF_other nv)
variable {B p i:Nat} {o:Option Obj} {w w':World} {Y:PY}
attribute [local go_sem] Oper.semAt_some
theorem does_putbad (h:PPlay B p o i w Y) (_:i<=60) (sh kn:Int) (xa xb xc xd xe xf xg:Nat) (ab:Option Addr) (bn bc:Nat) (hsh:¬(0<=sh/\sh<(Y.n:Int))) (hx:ok [xa,xb,xc,xd,xe,xf,xg]):
  Calls Tryz.prog 8 #[.pointer (some ⟨p,0,none⟩),.agg #[.int .i64 0,.int .i64 sh,.int .i64 kn,.int .u32 (xa:Int),.int .u32 (xb:Int),.int .u32 (xc:Int),.int .u32 (xd:Int),.int .u32 (xe:Int),.int .u32 (xf:Int),.int .u32 (xg:Int),.slice ab bn bc]] w λe w'=>e=.returned (.tuple #[.bool true,.bool true])/\PStep B p o i Y w w':=by
 have hth: (decide (0<=sh)&&decide (sh<(Y.n:Int)))=false:=by
  cases hc: (decide (0<=sh)&&decide (sh<(Y.n:Int)))with
  |false=>rfl
  |true=>simp at hc;exact absurd hc hsh
 have HSH:=jq hsh;clear hsh;obtain⟨s,d,pp,sm,hm,n,room,ct,Qs,hv,S,Hd,⟨rm,sa,sc,fs,ha,hc,fh⟩,Sr,Hr,H,L,an,nc⟩:=Y;obtain⟨W1,hW1⟩:=jl (w.alloc (.cells #[.int .i64 0,.int .i64 sh,.int .i64 kn,.int .u32 (xa:Int),.int .u32 (xb:Int),.int .u32 (xc:Int),.int .u32 (xd:Int),.int .u32 (xe:Int),.int .u32 (xf:Int),.int .u32 (xg:Int),.slice ab bn bc] 29));obtain⟨rb,hrb⟩:=jl w.heap.size;have hB1:Below w.heap.size w W1:=by rw[hW1];exact(Below.refl _ w).alloc jn _
 have hbr:Blk W1 rb 29 #[.int .i64 0,.int .i64 sh,.int .i64 kn,.int .u32 (xa:Int),.int .u32 (xb:Int),.int .u32 (xc:Int),.int .u32 (xd:Int),.int .u32 (xe:Int),.int .u32 (xf:Int),.int .u32 (xg:Int),.slice ab bn bc]:=by rw[hW1,hrb];exact Blk.new w _ _
 have hbp:Blk W1 p 46 #[.pointer (some ⟨d,0,none⟩),.pointer (some ⟨s,0,none⟩),.pointer (some ⟨pp,0,none⟩),.int .i64 (rm:Int),.slice sa n sc,.slice ha n hc,.slice an L.length nc]:=(h.later hB1).mid.blk;have HC:Hid (∀w',Below W1.heap.size W1 w'->w'.cell? ⟨p,3,none⟩=some (.int .i64 (rm:Int))/\w'.cell? ⟨p,4,none⟩=some (.slice sa n sc)/\w'.cell? ⟨p,5,none⟩=some (.slice ha n hc)/\w'.cell? ⟨rb,1,none⟩=some (.int .i64 sh)):=jq (λV hV=>⟨(hbp.below hV hbp.lt).cell 3,(hbp.below hV hbp.lt).cell 4,(hbp.below hV hbp.lt).cell 5,(hbr.below hV hbr.lt).cell 1⟩);have hpl:p<w.heap.size:=h.mid.blk.lt;have hrp:rb≠p:=by omega
 have HBP:=jq hbp;have HBR:=jq hbr;have HB1:=jq hB1;have HRB:=jq hrb;have H0:=jq h;have hS0:=HC.out W1.drew (Below.refl _ W1).drew;clear h hB1 hbr hbp
 go_enter Tryz.func8,Tryz.ntmps8
 go_wp2_with fail
 rw[<-hW1,<-hrb];clear hW1 hrb
 go_region_held3 (λw'=>w'.cell? ⟨p,3,none⟩=some (.int .i64 (rm:Int))/\w'.cell? ⟨p,4,none⟩=some (.slice sa n sc)/\w'.cell? ⟨p,5,none⟩=some (.slice ha n hc)/\w'.cell? ⟨rb,1,none⟩=some (.int .i64 sh)) (first|with_reducible exact hS0|with_reducible exact hS1) (first|(go_at_call 27;refine(there24_any (x:=⟨rm,sa,sc,fs,ha,hc,fh⟩) (n:=n) sh _).mono ?_;rintro e w2 ⟨rfl,hB2⟩;rw[hth];have HB2:Hid (Below W1.heap.size W1 w2):=jq (((Below.refl _ W1).drew).trans hB2);clear hB2;have hS1:=HC.out w2 HB2.out;dsimp only))
 rename_i hHeld
 clear hHeld hS0 hS1;have hbr2:=HBR.out.below HB2.out HBR.out.lt;have hbp2:=HBP.out.below HB2.out HBP.out.lt;have r0:=hbr2.cell 0;simp only[jt,ja]at r0;have hB02:Below w.heap.size w w2:=HB1.out.trans (HB2.out.mono HB1.out.size);have HB02:=jq hB02;have HBR2:=jq hbr2;have HBP2:=jq hbp2;have H2:=jq (H0.out.later hB02);have hrl:rb<w2.heap.size:=hbr2.lt;clear HC HB1 HBP HBR hB02 hbr2 hbp2;have HPUT:Hid (∀V,Below w2.heap.size w2 V->Calls Tryz.prog 15 #[.pointer (some ⟨pp,0,none⟩),.int .i64 sh,.agg #[.int .u32 (xa:Int),.int .u32 (xb:Int),.int .u32 (xc:Int),.int .u32 (xd:Int),.int .u32 (xe:Int),.int .u32 (xf:Int),.int .u32 (xg:Int)]] V λe w3=>e=.returned (.int .i64 9)/\Below V.heap.size V w3):=jq (λV hV=>put_out (H2.out.later hV).mid.live sh HSH.out [xa,xb,xc,xd,xe,xf,xg] hx);have HC4:Hid (∀w',Blk w' p 46 #[.pointer (some ⟨d,0,none⟩),.pointer (some ⟨s,0,none⟩),.pointer (some ⟨pp,0,none⟩),.int .i64 (rm:Int),.slice sa n sc,.slice ha n hc,.slice an L.length nc]->Blk w' rb 29 #[.int .i64 0,.int .i64 sh,.int .i64 kn,.int .u32 (xa:Int),.int .u32 (xb:Int),.int .u32 (xc:Int),.int .u32 (xd:Int),.int .u32 (xe:Int),.int .u32 (xf:Int),.int .u32 (xg:Int),.slice ab bn bc]->w'.cell? ⟨p,2,none⟩=some (.pointer (some ⟨pp,0,none⟩))/\w'.cell? ⟨rb,1,none⟩=some (.int .i64 sh)/\w'.cell? ⟨rb,3,none⟩=some (.int .u32 (xa:Int))/\w'.cell? ⟨rb,4,none⟩=some (.int .u32 (xb:Int))/\w'.cell? ⟨rb,5,none⟩=some (.int .u32 (xc:Int))/\w'.cell? ⟨rb,6,none⟩=some (.int .u32 (xd:Int))/\w'.cell? ⟨rb,7,none⟩=some (.int .u32 (xe:Int))/\w'.cell? ⟨rb,8,none⟩=some (.int .u32 (xf:Int))/\w'.cell? ⟨rb,9,none⟩=some (.int .u32 (xg:Int))):=jq (λV hp hb=>⟨hp.cell 2,hb.cell 1,hb.cell 3,hb.cell 4,hb.cell 5,hb.cell 6,hb.cell 7,hb.cell 8,hb.cell 9⟩);have hS0:=HC4.out w2.drew HBP2.out.drew HBR2.out.drew
 go_wp2_with fail
 go_region_held3 (λw'=>w'.cell? ⟨p,2,none⟩=some (.pointer (some ⟨pp,0,none⟩))/\w'.cell? ⟨rb,1,none⟩=some (.int .i64 sh)/\w'.cell? ⟨rb,3,none⟩=some (.int .u32 (xa:Int))/\w'.cell? ⟨rb,4,none⟩=some (.int .u32 (xb:Int))/\w'.cell? ⟨rb,5,none⟩=some (.int .u32 (xc:Int))/\w'.cell? ⟨rb,6,none⟩=some (.int .u32 (xd:Int))/\w'.cell? ⟨rb,7,none⟩=some (.int .u32 (xe:Int))/\w'.cell? ⟨rb,8,none⟩=some (.int .u32 (xf:Int))/\w'.cell? ⟨rb,9,none⟩=some (.int .u32 (xg:Int))) (first|with_reducible exact hS0|with_reducible exact hS1) (first|(go_at_call 15;refine(HPUT.out _ ((Below.refl _ w2).drew)).mono ?_;rintro e w3 ⟨rfl,hB3⟩;have hB23:Below w2.heap.size w2 w3:=((Below.refl _ w2).drew).trans hB3;have hS1:=HC4.out w3 (HBP2.out.below hB23 HBP2.out.lt) (HBR2.out.below hB23 HBR2.out.lt);dsimp only))
 go_wp2_with fail
 go_ret2
 exact⟨rfl,H0.out.same (HB02.out.trans (hB23.mono HB02.out.size))⟩
theorem does_takebad (h:PPlay B p o i w Y) (_:i<=60) (sh kn:Int) (xa xb xc xd xe xf xg:Nat) (ab:Option Addr) (bn bc:Nat) (hsh:¬(0<=sh/\sh<(Y.n:Int))):
  Calls Tryz.prog 8 #[.pointer (some ⟨p,0,none⟩),.agg #[.int .i64 1,.int .i64 sh,.int .i64 kn,.int .u32 (xa:Int),.int .u32 (xb:Int),.int .u32 (xc:Int),.int .u32 (xd:Int),.int .u32 (xe:Int),.int .u32 (xf:Int),.int .u32 (xg:Int),.slice ab bn bc]] w λe w'=>e=.returned (.tuple #[.bool true,.bool true])/\PStep B p o i Y w w':=by
 have hth: (decide (0<=sh)&&decide (sh<(Y.n:Int)))=false:=by
  cases hc: (decide (0<=sh)&&decide (sh<(Y.n:Int)))with
  |false=>rfl
  |true=>simp at hc;exact absurd hc hsh
 have HSH:=jq hsh;clear hsh;obtain⟨s,d,pp,sm,hm,n,room,ct,Qs,hv,S,Hd,⟨rm,sa,sc,fs,ha,hc,fh⟩,Sr,Hr,H,L,an,nc⟩:=Y;obtain⟨W1,hW1⟩:=jl (w.alloc (.cells #[.int .i64 1,.int .i64 sh,.int .i64 kn,.int .u32 (xa:Int),.int .u32 (xb:Int),.int .u32 (xc:Int),.int .u32 (xd:Int),.int .u32 (xe:Int),.int .u32 (xf:Int),.int .u32 (xg:Int),.slice ab bn bc] 29));obtain⟨rb,hrb⟩:=jl w.heap.size;have hB1:Below w.heap.size w W1:=by rw[hW1];exact(Below.refl _ w).alloc jn _
 have hbr:Blk W1 rb 29 #[.int .i64 1,.int .i64 sh,.int .i64 kn,.int .u32 (xa:Int),.int .u32 (xb:Int),.int .u32 (xc:Int),.int .u32 (xd:Int),.int .u32 (xe:Int),.int .u32 (xf:Int),.int .u32 (xg:Int),.slice ab bn bc]:=by rw[hW1,hrb];exact Blk.new w _ _
 have hbp:Blk W1 p 46 #[.pointer (some ⟨d,0,none⟩),.pointer (some ⟨s,0,none⟩),.pointer (some ⟨pp,0,none⟩),.int .i64 (rm:Int),.slice sa n sc,.slice ha n hc,.slice an L.length nc]:=(h.later hB1).mid.blk;have HC:Hid (∀w',Below W1.heap.size W1 w'->w'.cell? ⟨p,3,none⟩=some (.int .i64 (rm:Int))/\w'.cell? ⟨p,4,none⟩=some (.slice sa n sc)/\w'.cell? ⟨p,5,none⟩=some (.slice ha n hc)/\w'.cell? ⟨rb,1,none⟩=some (.int .i64 sh)):=jq (λV hV=>⟨(hbp.below hV hbp.lt).cell 3,(hbp.below hV hbp.lt).cell 4,(hbp.below hV hbp.lt).cell 5,(hbr.below hV hbr.lt).cell 1⟩);have hpl:p<w.heap.size:=h.mid.blk.lt;have hrp:rb≠p:=by omega
 have HBP:=jq hbp;have HBR:=jq hbr;have HB1:=jq hB1;have HRB:=jq hrb;have H0:=jq h;have hS0:=HC.out W1.drew (Below.refl _ W1).drew;clear h hB1 hbr hbp
 go_enter Tryz.func8,Tryz.ntmps8
 go_wp2_with fail
 rw[<-hW1,<-hrb];clear hW1 hrb
 go_region_held3 (λw'=>w'.cell? ⟨p,3,none⟩=some (.int .i64 (rm:Int))/\w'.cell? ⟨p,4,none⟩=some (.slice sa n sc)/\w'.cell? ⟨p,5,none⟩=some (.slice ha n hc)/\w'.cell? ⟨rb,1,none⟩=some (.int .i64 sh)) (first|with_reducible exact hS0|with_reducible exact hS1) (first|(go_at_call 27;refine(there24_any (x:=⟨rm,sa,sc,fs,ha,hc,fh⟩) (n:=n) sh _).mono ?_;rintro e w2 ⟨rfl,hB2⟩;rw[hth];have HB2:Hid (Below W1.heap.size W1 w2):=jq (((Below.refl _ W1).drew).trans hB2);clear hB2;have hS1:=HC.out w2 HB2.out;dsimp only))
 rename_i hHeld
 clear hHeld hS0 hS1;have hbr2:=HBR.out.below HB2.out HBR.out.lt;have hbp2:=HBP.out.below HB2.out HBP.out.lt;have r0:=hbr2.cell 0;simp only[jt,ja]at r0;have hB02:Below w.heap.size w w2:=HB1.out.trans (HB2.out.mono HB1.out.size);have HB02:=jq hB02;have HBR2:=jq hbr2;have HBP2:=jq hbp2;have H2:=jq (H0.out.later hB02);have hrl:rb<w2.heap.size:=hbr2.lt;clear HC HB1 HBP HBR hB02 hbr2 hbp2;have HPUT:Hid (∀V,Below w2.heap.size w2 V->Calls Tryz.prog 16 #[.pointer (some ⟨pp,0,none⟩),.int .i64 sh,.int .i64 kn] V λe w3=>e=.returned (.tuple #[.slice none 0 0,.int .i64 9])/\Below V.heap.size V w3):=jq (λV hV=>(take_out (H2.out.later hV).mid.live sh kn HSH.out).mono (λe w3 h3=>⟨h3.1,by rw[h3.2];exact Below.refl _ _⟩));have HC4:Hid (∀w',Blk w' p 46 #[.pointer (some ⟨d,0,none⟩),.pointer (some ⟨s,0,none⟩),.pointer (some ⟨pp,0,none⟩),.int .i64 (rm:Int),.slice sa n sc,.slice ha n hc,.slice an L.length nc]->Blk w' rb 29 #[.int .i64 1,.int .i64 sh,.int .i64 kn,.int .u32 (xa:Int),.int .u32 (xb:Int),.int .u32 (xc:Int),.int .u32 (xd:Int),.int .u32 (xe:Int),.int .u32 (xf:Int),.int .u32 (xg:Int),.slice ab bn bc]->w'.cell? ⟨p,2,none⟩=some (.pointer (some ⟨pp,0,none⟩))/\w'.cell? ⟨rb,1,none⟩=some (.int .i64 sh)/\w'.cell? ⟨rb,2,none⟩=some (.int .i64 kn)):=jq (λV hp hb=>⟨hp.cell 2,hb.cell 1,hb.cell 2⟩);have hS0:=HC4.out w2.drew HBP2.out.drew HBR2.out.drew
 go_wp2_with fail
 go_region_held3 (λw'=>w'.cell? ⟨p,2,none⟩=some (.pointer (some ⟨pp,0,none⟩))/\w'.cell? ⟨rb,1,none⟩=some (.int .i64 sh)/\w'.cell? ⟨rb,2,none⟩=some (.int .i64 kn)) (first|with_reducible exact hS0|with_reducible exact hS1) (first|(go_at_call 16;refine(HPUT.out _ ((Below.refl _ w2).drew)).mono ?_;rintro e w3 ⟨rfl,hB3⟩;have hB23:Below w2.heap.size w2 w3:=((Below.refl _ w2).drew).trans hB3;have hS1:=HC4.out w3 (HBP2.out.below hB23 HBP2.out.lt) (HBR2.out.below hB23 HBR2.out.lt);dsimp only))
 go_wp2_with fail
 go_ret2
 exact⟨rfl,H0.out.same (HB02.out.trans (hB23.mono HB02.out.size))⟩
theorem does_spillbad (h:PPlay B p o i w Y) (_:i<=60) (sh kn:Int) (xa xb xc xd xe xf xg:Nat) (ab:Option Addr) (bn bc:Nat) (hsh:¬(0<=sh/\sh<(Y.n:Int))):
  Calls Tryz.prog 8 #[.pointer (some ⟨p,0,none⟩),.agg #[.int .i64 2,.int .i64 sh,.int .i64 kn,.int .u32 (xa:Int),.int .u32 (xb:Int),.int .u32 (xc:Int),.int .u32 (xd:Int),.int .u32 (xe:Int),.int .u32 (xf:Int),.int .u32 (xg:Int),.slice ab bn bc]] w λe w'=>e=.returned (.tuple #[.bool true,.bool true])/\PStep B p o i Y w w':=by
 have hth: (decide (0<=sh)&&decide (sh<(Y.n:Int)))=false:=by
  cases hc: (decide (0<=sh)&&decide (sh<(Y.n:Int)))with
  |false=>rfl
  |true=>simp at hc;exact absurd hc hsh
 have HSH:=jq hsh;clear hsh;obtain⟨s,d,pp,sm,hm,n,room,ct,Qs,hv,S,Hd,⟨rm,sa,sc,fs,ha,hc,fh⟩,Sr,Hr,H,L,an,nc⟩:=Y;obtain⟨W1,hW1⟩:=jl (w.alloc (.cells #[.int .i64 2,.int .i64 sh,.int .i64 kn,.int .u32 (xa:Int),.int .u32 (xb:Int),.int .u32 (xc:Int),.int .u32 (xd:Int),.int .u32 (xe:Int),.int .u32 (xf:Int),.int .u32 (xg:Int),.slice ab bn bc] 29));obtain⟨rb,hrb⟩:=jl w.heap.size;have hB1:Below w.heap.size w W1:=by rw[hW1];exact(Below.refl _ w).alloc jn _
 have hbr:Blk W1 rb 29 #[.int .i64 2,.int .i64 sh,.int .i64 kn,.int .u32 (xa:Int),.int .u32 (xb:Int),.int .u32 (xc:Int),.int .u32 (xd:Int),.int .u32 (xe:Int),.int .u32 (xf:Int),.int .u32 (xg:Int),.slice ab bn bc]:=by rw[hW1,hrb];exact Blk.new w _ _
 have hbp:Blk W1 p 46 #[.pointer (some ⟨d,0,none⟩),.pointer (some ⟨s,0,none⟩),.pointer (some ⟨pp,0,none⟩),.int .i64 (rm:Int),.slice sa n sc,.slice ha n hc,.slice an L.length nc]:=(h.later hB1).mid.blk;have HC:Hid (∀w',Below W1.heap.size W1 w'->w'.cell? ⟨p,3,none⟩=some (.int .i64 (rm:Int))/\w'.cell? ⟨p,4,none⟩=some (.slice sa n sc)/\w'.cell? ⟨p,5,none⟩=some (.slice ha n hc)/\w'.cell? ⟨rb,1,none⟩=some (.int .i64 sh)):=jq (λV hV=>⟨(hbp.below hV hbp.lt).cell 3,(hbp.below hV hbp.lt).cell 4,(hbp.below hV hbp.lt).cell 5,(hbr.below hV hbr.lt).cell 1⟩);have hpl:p<w.heap.size:=h.mid.blk.lt;have hrp:rb≠p:=by omega
 have HBP:=jq hbp;have HBR:=jq hbr;have HB1:=jq hB1;have HRB:=jq hrb;have H0:=jq h;have hS0:=HC.out W1.drew (Below.refl _ W1).drew;clear h hB1 hbr hbp
 go_enter Tryz.func8,Tryz.ntmps8
 go_wp2_with fail
 rw[<-hW1,<-hrb];clear hW1 hrb
 go_region_held3 (λw'=>w'.cell? ⟨p,3,none⟩=some (.int .i64 (rm:Int))/\w'.cell? ⟨p,4,none⟩=some (.slice sa n sc)/\w'.cell? ⟨p,5,none⟩=some (.slice ha n hc)/\w'.cell? ⟨rb,1,none⟩=some (.int .i64 sh)) (first|with_reducible exact hS0|with_reducible exact hS1) (first|(go_at_call 27;refine(there24_any (x:=⟨rm,sa,sc,fs,ha,hc,fh⟩) (n:=n) sh _).mono ?_;rintro e w2 ⟨rfl,hB2⟩;rw[hth];have HB2:Hid (Below W1.heap.size W1 w2):=jq (((Below.refl _ W1).drew).trans hB2);clear hB2;have hS1:=HC.out w2 HB2.out;dsimp only))
 rename_i hHeld
 clear hHeld hS0 hS1;have hbr2:=HBR.out.below HB2.out HBR.out.lt;have hbp2:=HBP.out.below HB2.out HBP.out.lt;have r0:=hbr2.cell 0;simp only[jt,ja]at r0;have hB02:Below w.heap.size w w2:=HB1.out.trans (HB2.out.mono HB1.out.size);have HB02:=jq hB02;have HBR2:=jq hbr2;have HBP2:=jq hbp2;have H2:=jq (H0.out.later hB02);have hrl:rb<w2.heap.size:=hbr2.lt;clear HC HB1 HBP HBR hB02 hbr2 hbp2;have HPUT:Hid (∀V,Below w2.heap.size w2 V->Calls Tryz.prog 31 #[.pointer (some ⟨pp,0,none⟩),.int .i64 sh] V λe w3=>e=.returned (.int .i64 9)/\Below V.heap.size V w3):=jq (λV hV=>(spill_out (H2.out.later hV).mid.live sh HSH.out).mono (λe w3 h3=>⟨h3.1,by rw[h3.2];exact Below.refl _ _⟩));have HC4:Hid (∀w',Blk w' p 46 #[.pointer (some ⟨d,0,none⟩),.pointer (some ⟨s,0,none⟩),.pointer (some ⟨pp,0,none⟩),.int .i64 (rm:Int),.slice sa n sc,.slice ha n hc,.slice an L.length nc]->Blk w' rb 29 #[.int .i64 2,.int .i64 sh,.int .i64 kn,.int .u32 (xa:Int),.int .u32 (xb:Int),.int .u32 (xc:Int),.int .u32 (xd:Int),.int .u32 (xe:Int),.int .u32 (xf:Int),.int .u32 (xg:Int),.slice ab bn bc]->w'.cell? ⟨p,2,none⟩=some (.pointer (some ⟨pp,0,none⟩))/\w'.cell? ⟨rb,1,none⟩=some (.int .i64 sh)):=jq (λV hp hb=>⟨hp.cell 2,hb.cell 1⟩);have hS0:=HC4.out w2.drew HBP2.out.drew HBR2.out.drew
 go_wp2_with fail
 go_region_held3 (λw'=>w'.cell? ⟨p,2,none⟩=some (.pointer (some ⟨pp,0,none⟩))/\w'.cell? ⟨rb,1,none⟩=some (.int .i64 sh)) (first|with_reducible exact hS0|with_reducible exact hS1) (first|(go_at_call 31;refine(HPUT.out _ ((Below.refl _ w2).drew)).mono ?_;rintro e w3 ⟨rfl,hB3⟩;have hB23:Below w2.heap.size w2 w3:=((Below.refl _ w2).drew).trans hB3;have hS1:=HC4.out w3 (HBP2.out.below hB23 HBP2.out.lt) (HBR2.out.below hB23 HBR2.out.lt);dsimp only))
 go_wp2_with fail
 go_ret2
 exact⟨rfl,H0.out.same (HB02.out.trans (hB23.mono HB02.out.size))⟩
theorem does_writebad (h:PPlay B p o i w Y) (_:i<=60) (sh kn:Int) (xa xb xc xd xe xf xg:Nat) (ab:Option Addr) (bn bc:Nat) (hsh:¬(0<=sh/\sh<(Y.n:Int))):
  Calls Tryz.prog 8 #[.pointer (some ⟨p,0,none⟩),.agg #[.int .i64 6,.int .i64 sh,.int .i64 kn,.int .u32 (xa:Int),.int .u32 (xb:Int),.int .u32 (xc:Int),.int .u32 (xd:Int),.int .u32 (xe:Int),.int .u32 (xf:Int),.int .u32 (xg:Int),.slice ab bn bc]] w λe w'=>e=.returned (.tuple #[.bool true,.bool true])/\PStep B p o i Y w w':=by
 have hth: (decide (0<=sh)&&decide (sh<(Y.n:Int)))=false:=by
  cases hc: (decide (0<=sh)&&decide (sh<(Y.n:Int)))with
  |false=>rfl
  |true=>simp at hc;exact absurd hc hsh
 have HSH:=jq hsh;clear hsh;obtain⟨s,d,pp,sm,hm,n,room,ct,Qs,hv,S,Hd,⟨rm,sa,sc,fs,ha,hc,fh⟩,Sr,Hr,H,L,an,nc⟩:=Y;obtain⟨W1,hW1⟩:=jl (w.alloc (.cells #[.int .i64 6,.int .i64 sh,.int .i64 kn,.int .u32 (xa:Int),.int .u32 (xb:Int),.int .u32 (xc:Int),.int .u32 (xd:Int),.int .u32 (xe:Int),.int .u32 (xf:Int),.int .u32 (xg:Int),.slice ab bn bc] 29));obtain⟨rb,hrb⟩:=jl w.heap.size;have hB1:Below w.heap.size w W1:=by rw[hW1];exact(Below.refl _ w).alloc jn _
 have hbr:Blk W1 rb 29 #[.int .i64 6,.int .i64 sh,.int .i64 kn,.int .u32 (xa:Int),.int .u32 (xb:Int),.int .u32 (xc:Int),.int .u32 (xd:Int),.int .u32 (xe:Int),.int .u32 (xf:Int),.int .u32 (xg:Int),.slice ab bn bc]:=by rw[hW1,hrb];exact Blk.new w _ _
 have hbp:Blk W1 p 46 #[.pointer (some ⟨d,0,none⟩),.pointer (some ⟨s,0,none⟩),.pointer (some ⟨pp,0,none⟩),.int .i64 (rm:Int),.slice sa n sc,.slice ha n hc,.slice an L.length nc]:=(h.later hB1).mid.blk;have HC:Hid (∀w',Below W1.heap.size W1 w'->w'.cell? ⟨p,3,none⟩=some (.int .i64 (rm:Int))/\w'.cell? ⟨p,4,none⟩=some (.slice sa n sc)/\w'.cell? ⟨p,5,none⟩=some (.slice ha n hc)/\w'.cell? ⟨rb,1,none⟩=some (.int .i64 sh)):=jq (λV hV=>⟨(hbp.below hV hbp.lt).cell 3,(hbp.below hV hbp.lt).cell 4,(hbp.below hV hbp.lt).cell 5,(hbr.below hV hbr.lt).cell 1⟩);have hpl:p<w.heap.size:=h.mid.blk.lt;have hrp:rb≠p:=by omega
 have HBP:=jq hbp;have HBR:=jq hbr;have HB1:=jq hB1;have HRB:=jq hrb;have H0:=jq h;have hS0:=HC.out W1.drew (Below.refl _ W1).drew;clear h hB1 hbr hbp
 go_enter Tryz.func8,Tryz.ntmps8
 go_wp2_with fail
 rw[<-hW1,<-hrb];clear hW1 hrb
 go_region_held3 (λw'=>w'.cell? ⟨p,3,none⟩=some (.int .i64 (rm:Int))/\w'.cell? ⟨p,4,none⟩=some (.slice sa n sc)/\w'.cell? ⟨p,5,none⟩=some (.slice ha n hc)/\w'.cell? ⟨rb,1,none⟩=some (.int .i64 sh)) (first|with_reducible exact hS0|with_reducible exact hS1) (first|(go_at_call 27;refine(there24_any (x:=⟨rm,sa,sc,fs,ha,hc,fh⟩) (n:=n) sh _).mono ?_;rintro e w2 ⟨rfl,hB2⟩;rw[hth];have HB2:Hid (Below W1.heap.size W1 w2):=jq (((Below.refl _ W1).drew).trans hB2);clear hB2;have hS1:=HC.out w2 HB2.out;dsimp only))
 rename_i hHeld
 clear hHeld hS0 hS1;have hbr2:=HBR.out.below HB2.out HBR.out.lt;have hbp2:=HBP.out.below HB2.out HBP.out.lt;have r0:=hbr2.cell 0;simp only[jt,ja]at r0;have hB02:Below w.heap.size w w2:=HB1.out.trans (HB2.out.mono HB1.out.size);have HB02:=jq hB02;have HBR2:=jq hbr2;have HBP2:=jq hbp2;have H2:=jq (H0.out.later hB02);have hrl:rb<w2.heap.size:=hbr2.lt;clear HC HB1 HBP HBR hB02 hbr2 hbp2
 go_wp2_with fail
 go_ret2
 exact⟨rfl,H0.out.same HB02.out⟩
theorem does_takeneg (h:PPlay B p o i w Y) (_:i<=60) (sh kn:Int) (xa xb xc xd xe xf xg:Nat) (ab:Option Addr) (bn bc:Nat) (j:Nat) (hj:j<Y.n) (hsh:sh=(j:Int)) (hkn:kn<0):
  Calls Tryz.prog 8 #[.pointer (some ⟨p,0,none⟩),.agg #[.int .i64 1,.int .i64 sh,.int .i64 kn,.int .u32 (xa:Int),.int .u32 (xb:Int),.int .u32 (xc:Int),.int .u32 (xd:Int),.int .u32 (xe:Int),.int .u32 (xf:Int),.int .u32 (xg:Int),.slice ab bn bc]] w λe w'=>e=.returned (.tuple #[.bool true,.bool true])/\PStep B p o i Y w w':=by
 have hth: (decide (0<=sh)&&decide (sh<(Y.n:Int)))=true:=by rw[hsh];simp;omega
 have HSH:=jq hsh;clear hsh;have HKN:=jq hkn;have hk0:decide (kn<0)=true:=jd hkn;clear hkn;obtain⟨s,d,pp,sm,hm,n,room,ct,Qs,hv,S,Hd,⟨rm,sa,sc,fs,ha,hc,fh⟩,Sr,Hr,H,L,an,nc⟩:=Y;obtain⟨W1,hW1⟩:=jl (w.alloc (.cells #[.int .i64 1,.int .i64 sh,.int .i64 kn,.int .u32 (xa:Int),.int .u32 (xb:Int),.int .u32 (xc:Int),.int .u32 (xd:Int),.int .u32 (xe:Int),.int .u32 (xf:Int),.int .u32 (xg:Int),.slice ab bn bc] 29));obtain⟨rb,hrb⟩:=jl w.heap.size;have hB1:Below w.heap.size w W1:=by rw[hW1];exact(Below.refl _ w).alloc jn _
 have hbr:Blk W1 rb 29 #[.int .i64 1,.int .i64 sh,.int .i64 kn,.int .u32 (xa:Int),.int .u32 (xb:Int),.int .u32 (xc:Int),.int .u32 (xd:Int),.int .u32 (xe:Int),.int .u32 (xf:Int),.int .u32 (xg:Int),.slice ab bn bc]:=by rw[hW1,hrb];exact Blk.new w _ _
 have hbp:Blk W1 p 46 #[.pointer (some ⟨d,0,none⟩),.pointer (some ⟨s,0,none⟩),.pointer (some ⟨pp,0,none⟩),.int .i64 (rm:Int),.slice sa n sc,.slice ha n hc,.slice an L.length nc]:=(h.later hB1).mid.blk;have HC:Hid (∀w',Below W1.heap.size W1 w'->w'.cell? ⟨p,3,none⟩=some (.int .i64 (rm:Int))/\w'.cell? ⟨p,4,none⟩=some (.slice sa n sc)/\w'.cell? ⟨p,5,none⟩=some (.slice ha n hc)/\w'.cell? ⟨rb,1,none⟩=some (.int .i64 sh)):=jq (λV hV=>⟨(hbp.below hV hbp.lt).cell 3,(hbp.below hV hbp.lt).cell 4,(hbp.below hV hbp.lt).cell 5,(hbr.below hV hbr.lt).cell 1⟩);have hpl:p<w.heap.size:=h.mid.blk.lt;have hrp:rb≠p:=by omega
 have HBP:=jq hbp;have HBR:=jq hbr;have HB1:=jq hB1;have HRB:=jq hrb;have H0:=jq h;have hS0:=HC.out W1.drew (Below.refl _ W1).drew;clear h hB1 hbr hbp
 go_enter Tryz.func8,Tryz.ntmps8
 go_wp2_with fail
 rw[<-hW1,<-hrb];clear hW1 hrb
 go_region_held3 (λw'=>w'.cell? ⟨p,3,none⟩=some (.int .i64 (rm:Int))/\w'.cell? ⟨p,4,none⟩=some (.slice sa n sc)/\w'.cell? ⟨p,5,none⟩=some (.slice ha n hc)/\w'.cell? ⟨rb,1,none⟩=some (.int .i64 sh)) (first|with_reducible exact hS0|with_reducible exact hS1) (first|(go_at_call 27;refine(there24_any (x:=⟨rm,sa,sc,fs,ha,hc,fh⟩) (n:=n) sh _).mono ?_;rintro e w2 ⟨rfl,hB2⟩;rw[hth];have HB2:Hid (Below W1.heap.size W1 w2):=jq (((Below.refl _ W1).drew).trans hB2);clear hB2;have hS1:=HC.out w2 HB2.out;dsimp only))
 rename_i hHeld
 clear hHeld hS0 hS1;have hbr2:=HBR.out.below HB2.out HBR.out.lt;have hbp2:=HBP.out.below HB2.out HBP.out.lt;have r0:=hbr2.cell 0;simp only[jt,ja]at r0;have hB02:Below w.heap.size w w2:=HB1.out.trans (HB2.out.mono HB1.out.size);have HB02:=jq hB02;have HBR2:=jq hbr2;have HBP2:=jq hbp2;have H2:=jq (H0.out.later hB02);have hrl:rb<w2.heap.size:=hbr2.lt;clear HC HB1 HBP HBR hB02 hbr2 hbp2
 try dsimp only at hj
 have HPUT:Hid (∀V,Below w2.heap.size w2 V->Calls Tryz.prog 16 #[.pointer (some ⟨pp,0,none⟩),.int .i64 sh,.int .i64 kn] V λe w3=>e=.returned (.tuple #[.slice none 0 0,.int .i64 1])/\Below V.heap.size V w3):=jq (λV hV=>by
  rw[HSH.out];exact(take_neg (H2.out.later hV).mid.live j hj kn HKN.out).mono (λe w3 h3=>⟨h3.1,by rw[h3.2];exact Below.refl _ _⟩))
 have HC4:Hid (∀w',Below w2.heap.size w2 w'->w'.cell? ⟨p,2,none⟩=some (.pointer (some ⟨pp,0,none⟩))/\w'.cell? ⟨rb,1,none⟩=some (.int .i64 sh)/\w'.cell? ⟨rb,2,none⟩=some (.int .i64 kn)):=jq (λV hV=>⟨(HBP2.out.below hV HBP2.out.lt).cell 2,(HBR2.out.below hV HBR2.out.lt).cell 1,(HBR2.out.below hV HBR2.out.lt).cell 2⟩);have hS0:=HC4.out w2.drew (Below.refl _ _).drew
 go_wp2_with fail
 go_region_held3 (λw'=>w'.cell? ⟨p,2,none⟩=some (.pointer (some ⟨pp,0,none⟩))/\w'.cell? ⟨rb,1,none⟩=some (.int .i64 sh)/\w'.cell? ⟨rb,2,none⟩=some (.int .i64 kn)) (first|with_reducible exact hS0|with_reducible exact hS1) (first|(go_at_call 16;refine(HPUT.out _ ((Below.refl _ w2).drew)).mono ?_;rintro e w3 ⟨rfl,hB3⟩;have hB23:Below w2.heap.size w2 w3:=((Below.refl _ w2).drew).trans hB3;have hS1:=HC4.out w3 hB23;dsimp only))
 have b2:w3.cell? ⟨rb,2,none⟩=some (.int .i64 kn):=(HBR2.out.below hB23 HBR2.out.lt).cell 2
 go_wp2_with fail
 go_ret2
 exact⟨rfl,H0.out.same (HB02.out.trans (hB23.mono HB02.out.size))⟩
end Pool
namespace Pool
open Go.RowKit Go.Deep Mem Crc Walk Full RefF
open Store (Sto Files setF setF_same setF_other nv)
variable {B p i:Nat} {o:Option Obj} {w w':World} {Y:PY}
attribute [local go_sem] Oper.semAt_some
theorem does_save (h:PPlay B p o i w Y) (h6:i<=60) (sh kn:Int) (xa xb xc xd xe xf xg:Nat) (ab:Option Addr) (bn bc:Nat):
  Calls Tryz.prog 8 #[.pointer (some ⟨p,0,none⟩),.agg #[.int .i64 3,.int .i64 sh,.int .i64 kn,.int .u32 (xa:Int),.int .u32 (xb:Int),.int .u32 (xc:Int),.int .u32 (xd:Int),.int .u32 (xe:Int),.int .u32 (xf:Int),.int .u32 (xg:Int),.slice ab bn bc]] w λe w'=>e=.returned (.tuple #[.bool true,.bool true])/\PStep B p o i Y w w':=by
 obtain⟨bt,hbt⟩:∃b,(decide (0<=sh)&&decide (sh<(Y.n:Int)))=b:=⟨_,rfl⟩;obtain⟨s,d,pp,sm,hm,n,room,ct,Qs,hv,S,Hd,⟨rm,sa,sc,fs,ha,hc,fh⟩,Sr,Hr,H,L,an,nc⟩:=Y;obtain⟨W1,hW1⟩:=jl (w.alloc (.cells #[.int .i64 3,.int .i64 sh,.int .i64 kn,.int .u32 (xa:Int),.int .u32 (xb:Int),.int .u32 (xc:Int),.int .u32 (xd:Int),.int .u32 (xe:Int),.int .u32 (xf:Int),.int .u32 (xg:Int),.slice ab bn bc] 29));obtain⟨rb,hrb⟩:=jl w.heap.size;have hB1:Below w.heap.size w W1:=by rw[hW1];exact(Below.refl _ w).alloc jn _
 have hbr:Blk W1 rb 29 #[.int .i64 3,.int .i64 sh,.int .i64 kn,.int .u32 (xa:Int),.int .u32 (xb:Int),.int .u32 (xc:Int),.int .u32 (xd:Int),.int .u32 (xe:Int),.int .u32 (xf:Int),.int .u32 (xg:Int),.slice ab bn bc]:=by rw[hW1,hrb];exact Blk.new w _ _
 have hbp:Blk W1 p 46 #[.pointer (some ⟨d,0,none⟩),.pointer (some ⟨s,0,none⟩),.pointer (some ⟨pp,0,none⟩),.int .i64 (rm:Int),.slice sa n sc,.slice ha n hc,.slice an L.length nc]:=(h.later hB1).mid.blk;have HC:Hid (∀w',Below W1.heap.size W1 w'->w'.cell? ⟨p,3,none⟩=some (.int .i64 (rm:Int))/\w'.cell? ⟨p,4,none⟩=some (.slice sa n sc)/\w'.cell? ⟨p,5,none⟩=some (.slice ha n hc)/\w'.cell? ⟨rb,1,none⟩=some (.int .i64 sh)):=jq (λV hV=>⟨(hbp.below hV hbp.lt).cell 3,(hbp.below hV hbp.lt).cell 4,(hbp.below hV hbp.lt).cell 5,(hbr.below hV hbr.lt).cell 1⟩);have hpl:p<w.heap.size:=h.mid.blk.lt;have hrp:rb≠p:=by omega
 have HBP:=jq hbp;have HBR:=jq hbr;have HB1:=jq hB1;have HRB:=jq hrb;have H0:=jq h;have hS0:=HC.out W1.drew (Below.refl _ W1).drew;clear h hB1 hbr hbp
 go_enter Tryz.func8,Tryz.ntmps8
 go_wp2_with fail
 rw[<-hW1,<-hrb];clear hW1 hrb
 go_region_held3 (λw'=>w'.cell? ⟨p,3,none⟩=some (.int .i64 (rm:Int))/\w'.cell? ⟨p,4,none⟩=some (.slice sa n sc)/\w'.cell? ⟨p,5,none⟩=some (.slice ha n hc)/\w'.cell? ⟨rb,1,none⟩=some (.int .i64 sh)) (first|with_reducible exact hS0|with_reducible exact hS1) (first|(go_at_call 27;refine(there24_any (x:=⟨rm,sa,sc,fs,ha,hc,fh⟩) (n:=n) sh _).mono ?_;rintro e w2 ⟨rfl,hB2⟩;rw[hbt];have HB2:Hid (Below W1.heap.size W1 w2):=jq (((Below.refl _ W1).drew).trans hB2);clear hB2;have hS1:=HC.out w2 HB2.out;dsimp only))
 rename_i hHeld
 clear hHeld hS0 hS1;have hbr2:=HBR.out.below HB2.out HBR.out.lt;have hbp2:=HBP.out.below HB2.out HBP.out.lt;have r0:=hbr2.cell 0;simp only[jt,ja]at r0;have hB02:Below w.heap.size w w2:=HB1.out.trans (HB2.out.mono HB1.out.size);have HB02:=jq hB02;have HBR2:=jq hbr2;have HBP2:=jq hbp2;have H2:=jq (H0.out.later hB02);have hrl:rb<w2.heap.size:=hbr2.lt;clear HC HB1 HBP HBR hB02 hbr2 hbp2;clear hbt
 have HMP:Hid (Calls Tryz.prog 33 #[.agg #[.int .i64 (rm:Int),.slice sa n sc,.slice ha n hc]] w2 λe w4=>∃x':PX,e=.returned (.agg #[.int .i64 (x'.rm:Int),.slice x'.sa n x'.sc,.slice x'.ha n x'.hc])/\Hid (PNew n ⟨rm,sa,sc,fs,ha,hc,fh⟩ (outS S Hd n) (outH Hd n) w2 w4 x')/\Hid (Blk w4 p 46 #[.pointer (some ⟨d,0,none⟩),.pointer (some ⟨s,0,none⟩),.pointer (some ⟨pp,0,none⟩),.int .i64 (rm:Int),.slice sa n sc,.slice ha n hc,.slice an L.length nc])):=jq (by
  have h2:=H2.out;obtain⟨l1,l2,l3⟩:=h2.len h6;have hrr:=h2.rows;dsimp only at hrr l1 l2 l3;obtain⟨rfl,rfl⟩:=hrr;refine(save24_any (n:=n) (S:=Sr) (H:=Hr) (x:=⟨rm,sa,sc,fs,ha,hc,fh⟩) h2.mid.ref h2.nr.1 (λk hk=>by have:=l1 k hk;omega)).mono ?_;rintro e w4 ⟨x',rfl,n1,n2,n3,n4⟩;exact⟨x',rfl,jq ⟨n1,n2,n3,n4⟩,jq (HBP2.out.below n4 HBP2.out.lt)⟩)
 have p3:=HBP2.out.cell 3;have p4:=HBP2.out.cell 4;have p5:=HBP2.out.cell 5;simp only[jt,ja,jb]at p3 p4 p5
 go_wp2_with fail
 refine HMP.out.mono ?_;rintro e w4 ⟨x',rfl,HN,HB4⟩;have e2:=HB4.out.cell 2;have e3:=HB4.out.cell 3;have e4:=HB4.out.cell 4;have e5:=HB4.out.cell 5;have g3:=HB4.out.frozen 3;have g4:=HB4.out.frozen 4;have g5:=HB4.out.frozen 5;simp only[jt,ja,jb]at e2 e3 e4 e5;have hpt:=turn3 H2.out.mid HN.out HB4.out;obtain⟨f1,f2⟩:=hpt;have HF1:=jq f1;have HF2:=jq f2;clear f1 f2
 go_wp2_with fail
 obtain⟨w5,hw5⟩:=jl (((w4.setCell ⟨p,3,none⟩ (.int .i64 (x'.rm:Int))).setCell ⟨p,4,none⟩ (.slice x'.sa n x'.sc)).setCell ⟨p,5,none⟩ (.slice x'.ha n x'.hc));have HM5:=HF1;have HB5:=HF2
 try dsimp only at HM5 HB5
 rw[<-hw5]at HM5 HB5;rw[<-hw5];clear hw5 HF1 HF2 e2 e3 e4 e5 g3 g4 g5
 have HSV:Hid (Calls Tryz.prog 34 #[.pointer (some ⟨pp,0,none⟩)] w5 λe w'=>e=.returned (.int .i64 0)/\Hid (Went (PY.A ⟨s,d,pp,sm,hm,n,room,ct,Qs,hv,S,Hd,⟨rm,sa,sc,fs,ha,hc,fh⟩,Sr,Hr,H,L,an,nc⟩ B o) (ct+many Hd n) (PY.D ⟨s,d,pp,sm,hm,n,room,ct,Qs,hv,S,Hd,⟨rm,sa,sc,fs,ha,hc,fh⟩,Sr,Hr,H,L,an,nc⟩ B o) w5 w' (outS S Hd n) (outH Hd n) (λ_=>False))):=jq (by
  obtain⟨l1,l2,l3⟩:=H2.out.len h6;have hc:=H2.out.ct;dsimp only at l1 l2 l3 hc;have:=save_any HM5.out.live (by show ct+many Hd n<=_;omega) (λk hk=>by have:=l1 k hk;show(S k).length+(Hd k).length<=_;omega) (by show many Hd n<=_;omega);refine this.mono ?_;rintro e w' ⟨rfl,h1⟩;have q1:=(saved_out S Hd n).1;have q2:=(saved_out S Hd n).2;refine⟨rfl,jq ?_⟩;rw[<-q1,<-q2];exact h1)
 refine HSV.out.mono ?_;rintro e w6 ⟨rfl,HW⟩
 go_wp2_with fail
 go_ret2
 refine⟨rfl,?_⟩;obtain⟨Qs',hv',hm6,hB6,-⟩:=PMid.went HM5.out HW.out;obtain⟨q1,q2,q3⟩:=save_counts (S:=S) (Hd:=Hd) (n:=n) H2.out.held.1;obtain⟨l1,l2,l3⟩:=H2.out.len h6;exact⟨_,H2.out.rowed hm6 (Nat.add_le_add_left (by have:=H2.out.held.2;dsimp only at this;omega) _) q1 q2 q3,⟨rfl,rfl⟩,(HB02.out.mono H0.out.mid.low.2.1).trans (HB5.out.trans hB6)⟩
end Pool
namespace Pool
open Go.RowKit Go.Deep Mem Crc Walk Full RefF
open Store (Sto Files setF setF_same setF_other nv)
variable {B p i:Nat} {o:Option Obj} {w w':World} {Y:PY}
attribute [local go_sem] Oper.semAt_some
theorem does_take (h:PPlay B p o i w Y) (h6:i<=60) (sh kn:Int) (xa xb xc xd xe xf xg:Nat) (ab:Option Addr) (bn bc:Nat) (j:Nat) (hj:j<Y.n) (hsh:sh=(j:Int)) (m:Nat) (hkn:kn=(m:Int)) (hmm:m<=9223372036854775807):
  Calls Tryz.prog 8 #[.pointer (some ⟨p,0,none⟩),.agg #[.int .i64 1,.int .i64 sh,.int .i64 kn,.int .u32 (xa:Int),.int .u32 (xb:Int),.int .u32 (xc:Int),.int .u32 (xd:Int),.int .u32 (xe:Int),.int .u32 (xf:Int),.int .u32 (xg:Int),.slice ab bn bc]] w λe w'=>e=.returned (.tuple #[.bool true,.bool true])/\PStep B p o i Y w w':=by
 have hth: (decide (0<=sh)&&decide (sh<(Y.n:Int)))=true:=by rw[hsh];simp;omega
 have HSH:=jq hsh;clear hsh;have HKN:=jq hkn;have hk0:decide (kn<0)=false:=by rw[hkn];simp
 clear hkn;obtain⟨s,d,pp,sm,hm,n,room,ct,Qs,hv,S,Hd,⟨rm,sa,sc,fs,ha,hc,fh⟩,Sr,Hr,H,L,an,nc⟩:=Y;obtain⟨W1,hW1⟩:=jl (w.alloc (.cells #[.int .i64 1,.int .i64 sh,.int .i64 kn,.int .u32 (xa:Int),.int .u32 (xb:Int),.int .u32 (xc:Int),.int .u32 (xd:Int),.int .u32 (xe:Int),.int .u32 (xf:Int),.int .u32 (xg:Int),.slice ab bn bc] 29));obtain⟨rb,hrb⟩:=jl w.heap.size;have hB1:Below w.heap.size w W1:=by rw[hW1];exact(Below.refl _ w).alloc jn _
 have hbr:Blk W1 rb 29 #[.int .i64 1,.int .i64 sh,.int .i64 kn,.int .u32 (xa:Int),.int .u32 (xb:Int),.int .u32 (xc:Int),.int .u32 (xd:Int),.int .u32 (xe:Int),.int .u32 (xf:Int),.int .u32 (xg:Int),.slice ab bn bc]:=by rw[hW1,hrb];exact Blk.new w _ _
 have hbp:Blk W1 p 46 #[.pointer (some ⟨d,0,none⟩),.pointer (some ⟨s,0,none⟩),.pointer (some ⟨pp,0,none⟩),.int .i64 (rm:Int),.slice sa n sc,.slice ha n hc,.slice an L.length nc]:=(h.later hB1).mid.blk;have HC:Hid (∀w',Below W1.heap.size W1 w'->w'.cell? ⟨p,3,none⟩=some (.int .i64 (rm:Int))/\w'.cell? ⟨p,4,none⟩=some (.slice sa n sc)/\w'.cell? ⟨p,5,none⟩=some (.slice ha n hc)/\w'.cell? ⟨rb,1,none⟩=some (.int .i64 sh)):=jq (λV hV=>⟨(hbp.below hV hbp.lt).cell 3,(hbp.below hV hbp.lt).cell 4,(hbp.below hV hbp.lt).cell 5,(hbr.below hV hbr.lt).cell 1⟩);have hpl:p<w.heap.size:=h.mid.blk.lt;have hrp:rb≠p:=by omega
 have HBP:=jq hbp;have HBR:=jq hbr;have HB1:=jq hB1;have HRB:=jq hrb;have H0:=jq h;have hS0:=HC.out W1.drew (Below.refl _ W1).drew;clear h hB1 hbr hbp
 go_enter Tryz.func8,Tryz.ntmps8
 go_wp2_with fail
 rw[<-hW1,<-hrb];clear hW1 hrb
 go_region_held3 (λw'=>w'.cell? ⟨p,3,none⟩=some (.int .i64 (rm:Int))/\w'.cell? ⟨p,4,none⟩=some (.slice sa n sc)/\w'.cell? ⟨p,5,none⟩=some (.slice ha n hc)/\w'.cell? ⟨rb,1,none⟩=some (.int .i64 sh)) (first|with_reducible exact hS0|with_reducible exact hS1) (first|(go_at_call 27;refine(there24_any (x:=⟨rm,sa,sc,fs,ha,hc,fh⟩) (n:=n) sh _).mono ?_;rintro e w2 ⟨rfl,hB2⟩;rw[hth];have HB2:Hid (Below W1.heap.size W1 w2):=jq (((Below.refl _ W1).drew).trans hB2);clear hB2;have hS1:=HC.out w2 HB2.out;dsimp only))
 rename_i hHeld
 clear hHeld hS0 hS1;have hbr2:=HBR.out.below HB2.out HBR.out.lt;have hbp2:=HBP.out.below HB2.out HBP.out.lt;have r0:=hbr2.cell 0;simp only[jt,ja]at r0;have hB02:Below w.heap.size w w2:=HB1.out.trans (HB2.out.mono HB1.out.size);have HB02:=jq hB02;have HBR2:=jq hbr2;have HBP2:=jq hbp2;have H2:=jq (H0.out.later hB02);have hrl:rb<w2.heap.size:=hbr2.lt;clear HC HB1 HBP HBR hB02 hbr2 hbp2
 try dsimp only at hj
 obtain⟨mt,hmt⟩:=jl (((S j++Hd j).take m).length);have HMT:=jq hmt;clear hmt
 have HPUT:Hid (∀V,Below w2.heap.size w2 V->Calls Tryz.prog 16 #[.pointer (some ⟨pp,0,none⟩),.int .i64 sh,.int .i64 kn] V λe w3=>∃ta tc,e=.returned (.tuple #[.slice ta mt tc,.int .i64 0])/\Hid (OwnW w3 V.heap.size (.slice ta mt tc) ((S j++Hd j).take m))/\Hid (Went (PY.A ⟨s,d,pp,sm,hm,n,room,ct,Qs,hv,S,Hd,⟨rm,sa,sc,fs,ha,hc,fh⟩,Sr,Hr,H,L,an,nc⟩ B o) (ct+1) (PY.D ⟨s,d,pp,sm,hm,n,room,ct,Qs,hv,S,Hd,⟨rm,sa,sc,fs,ha,hc,fh⟩,Sr,Hr,H,L,an,nc⟩ B o) V w3 (upd S j ((S j).drop m)) (upd Hd j ((Hd j).drop (m-(S j).length))) (λk=>(Value.slice ta mt tc).ownBlock=some k))):=jq (λV hV=>by
  have h:=H2.out.later hV;obtain⟨l1,l2,l3⟩:=h.len h6;have hc:=h.ct;rw[HSH.out,HKN.out];refine(take_u h.mid.live (by show ct<_;dsimp only at hc;omega) j hj m hmm (by have:=l1 j hj;show(S j).length+(Hd j).length<=_;dsimp only at this;omega) (by show many Hd n<=_;dsimp only at l2;omega)).mono ?_;rintro e w3 ⟨v,rfl,h1,h2⟩;obtain⟨va,vc,rfl,-⟩:=own_shape h1;rw[<-HMT.out]at h1 h2⊢;exact⟨va,vc,rfl,jq h1,jq h2⟩)
 have HC4:Hid (∀w',Blk w' p 46 #[.pointer (some ⟨d,0,none⟩),.pointer (some ⟨s,0,none⟩),.pointer (some ⟨pp,0,none⟩),.int .i64 (rm:Int),.slice sa n sc,.slice ha n hc,.slice an L.length nc]->Blk w' rb 29 #[.int .i64 1,.int .i64 sh,.int .i64 kn,.int .u32 (xa:Int),.int .u32 (xb:Int),.int .u32 (xc:Int),.int .u32 (xd:Int),.int .u32 (xe:Int),.int .u32 (xf:Int),.int .u32 (xg:Int),.slice ab bn bc]->w'.cell? ⟨p,2,none⟩=some (.pointer (some ⟨pp,0,none⟩))/\w'.cell? ⟨rb,1,none⟩=some (.int .i64 sh)/\w'.cell? ⟨rb,2,none⟩=some (.int .i64 kn)):=jq (λV hp hb=>⟨hp.cell 2,hb.cell 1,hb.cell 2⟩);have hS0:=HC4.out w2.drew HBP2.out.drew HBR2.out.drew
 go_wp2_with fail
 go_region_held3 (λw'=>w'.cell? ⟨p,2,none⟩=some (.pointer (some ⟨pp,0,none⟩))/\w'.cell? ⟨rb,1,none⟩=some (.int .i64 sh)/\w'.cell? ⟨rb,2,none⟩=some (.int .i64 kn)) (first|with_reducible exact hS0|with_reducible exact hS1) (first|(go_at_call 16;refine(HPUT.out _ ((Below.refl _ w2).drew)).mono ?_;rintro e w3 ⟨ta,tc,rfl,HT,HW⟩;obtain⟨Qs',hv',hm3,hB3,-⟩:=PMid.went (H2.out.later ((Below.refl _ w2).drew)).mid HW.out;have hu3:Upon (PY.D ⟨s,d,pp,sm,hm,n,room,ct,Qs,hv,S,Hd,⟨rm,sa,sc,fs,ha,hc,fh⟩,Sr,Hr,H,L,an,nc⟩ B o) w2.drew w3:=(by obtain⟨_,_,_,_,_,hu⟩:=HW.out;exact hu);have hbr3:Blk w3 rb 29 #[.int .i64 1,.int .i64 sh,.int .i64 kn,.int .u32 (xa:Int),.int .u32 (xb:Int),.int .u32 (xc:Int),.int .u32 (xd:Int),.int .u32 (xe:Int),.int .u32 (xf:Int),.int .u32 (xg:Int),.slice ab bn bc]:=HBR2.out.drew.upon hu3 (λhq=>Nat.lt_irrefl rb (by have:=H0.out.mid.live.lt rb hq;have:=HRB.out;omega));have hS1:=HC4.out w3 hm3.blk hbr3;dsimp only))
 rename_i hHeld
 clear hHeld hS0 hS1 HC4 HPUT;have HM3:=jq hm3;have HB3:=jq hB3;have HBR3:=jq hbr3;have HBP3:Hid (Blk w3 p 46 #[.pointer (some ⟨d,0,none⟩),.pointer (some ⟨s,0,none⟩),.pointer (some ⟨pp,0,none⟩),.int .i64 (rm:Int),.slice sa n sc,.slice ha n hc,.slice an L.length nc]):=jq hm3.blk;clear hm3 hB3 hbr3 hu3;have HCL:Hid (∀w',Below w3.heap.size w3 w'->w'.cell? ⟨p,3,none⟩=some (.int .i64 (rm:Int))/\w'.cell? ⟨p,4,none⟩=some (.slice sa n sc)/\w'.cell? ⟨p,5,none⟩=some (.slice ha n hc)/\w'.cell? ⟨rb,1,none⟩=some (.int .i64 sh)/\w'.cell? ⟨rb,2,none⟩=some (.int .i64 kn)):=jq (λV hV=>⟨(HBP3.out.below hV HBP3.out.lt).cell 3,(HBP3.out.below hV HBP3.out.lt).cell 4,(HBP3.out.below hV HBP3.out.lt).cell 5,(HBR3.out.below hV HBR3.out.lt).cell 1,(HBR3.out.below hV HBR3.out.lt).cell 2⟩)
 have HMP:Hid (∀V,Below w3.heap.size w3 V->Calls Tryz.prog 29 #[.agg #[.int .i64 (rm:Int),.slice sa n sc,.slice ha n hc],.int .i64 sh,.int .i64 kn] V λe w4=>∃(xr:Nat) (xsa:Option Addr) (xsc:Nat) (xfs:Loc) (xha:Option Addr) (xhc:Nat) (xfh:Loc) (va:Option Addr) (vc:Nat),e=.returned (.tuple #[.agg #[.int .i64 (xr:Int),.slice xsa n xsc,.slice xha n xhc],.slice va mt vc])/\Hid (PNew n ⟨rm,sa,sc,fs,ha,hc,fh⟩ (upd S j ((S j).drop m)) (upd Hd j ((Hd j).drop (m-(S j).length))) V w4 ⟨xr,xsa,xsc,xfs,xha,xhc,xfh⟩)/\Hid (OwnW w4 V.heap.size (.slice va mt vc) ((S j++Hd j).take m))):=jq (λV hV=>by
  have h:=HM3.out.later hV;have h2:=H2.out;obtain⟨l1,l2,l3⟩:=h2.len h6;have hrr:=h2.rows;dsimp only at hrr l1 l2 l3;obtain⟨rfl,rfl⟩:=hrr;rw[HSH.out,HKN.out];refine(take24_any (n:=n) (S:=Sr) (H:=Hr) (x:=⟨rm,sa,sc,fs,ha,hc,fh⟩) h.ref j hj h2.nr.1 m hmm (by have:=l1 j hj;omega)).mono ?_;rintro e w4 ⟨⟨xr,xsa,xsc,xfs,xha,xhc,xfh⟩,v,rfl,n1,n2⟩;obtain⟨va,vc,rfl,-⟩:=own_shape n2;rw[<-HMT.out]at n2;exact⟨xr,xsa,xsc,xfs,xha,xhc,xfh,va,vc,by rw[HMT.out];rfl,jq n1,jq n2⟩)
 have b2:=HBR3.out.cell 2;simp only[jt,ja,jb]at b2;have hS2:=HCL.out w3.drew (Below.refl _ w3).drew
 go_wp2_with fail
 go_cut[10,11] (λs10 s11 wx=>∃(b xr:Nat) (xsa:Option Addr) (xsc:Nat) (xfs:Loc) (xha:Option Addr) (xhc:Nat) (xfh:Loc) (va:Option Addr) (vc:Nat),s10=.pointer (some ⟨b,0,none⟩)/\s11=.slice va mt vc/\Hid (Blk wx b 40 #[.int .i64 (xr:Int),.slice xsa n xsc,.slice xha n xhc])/\Hid (w3.heap.size<=b)/\Hid (PNew n ⟨rm,sa,sc,fs,ha,hc,fh⟩ (upd S j ((S j).drop m)) (upd Hd j ((Hd j).drop (m-(S j).length))) w3 wx ⟨xr,xsa,xsc,xfs,xha,xhc,xfh⟩)/\Hid (Lies wx va (flatW ((S j++Hd j).take m)))/\Hid (∀q,Mem.blk va=some q->w3.heap.size<=q))
 case first=>
  go_region_held3 (λw'=>w'.cell? ⟨p,3,none⟩=some (.int .i64 (rm:Int))/\w'.cell? ⟨p,4,none⟩=some (.slice sa n sc)/\w'.cell? ⟨p,5,none⟩=some (.slice ha n hc)/\w'.cell? ⟨rb,1,none⟩=some (.int .i64 sh)/\w'.cell? ⟨rb,2,none⟩=some (.int .i64 kn)) (first|with_reducible exact hS2|with_reducible exact hS3|exact HCL.out _ (hBd.alloc hBd.size _)|exact HCL.out _ (((Below.refl _ w3).drew).alloc jn _)|exact HCL.out _ (((hBd.setCell jn _).setCell jn _).setCell jn _)) (first|(go_at_call 29;refine(HMP.out _ (by first|exact(Below.refl _ _).drew|exact((Below.refl _ _).drew).alloc jn _)).mono ?_;rintro e wA ⟨xr,xsa,xsc,xfs,xha,xhc,xfh,va,vc,rfl,HN,HO⟩;have hBA:=HN.out.2.2.2;have hbx:=(Blk.new w3.drew 40 #[.int .i64 0,.slice none 0 0,.slice none 0 0]).below hBA (Blk.new w3.drew 40 _).lt;have hBd:Below w3.heap.size w3 wA:=((Below.refl _ w3).drew.alloc jn (.cells #[.int .i64 0,.slice none 0 0,.slice none 0 0] 40)).trans (hBA.mono (by simp));have hS3:=HCL.out wA hBd;have r0:=hbx.cell 0;have r1:=hbx.cell 1;have r2:=hbx.cell 2;have u0:=hbx.frozen 0;have u1:=hbx.frozen 1;have u2:=hbx.frozen 2;simp at r0 r1 r2 u0 u1 u2;dsimp only)|(go_at_call 29;refine(HMP.out _ (by first|exact(Below.refl _ _).drew|exact((Below.refl _ _).drew).alloc jn _)).mono ?_;rintro e wA ⟨xr,xsa,xsc,xfs,xha,xhc,xfh,va,vc,rfl,HN,HO⟩;have hBA:=HN.out.2.2.2;have hBd:Below w3.heap.size w3 wA:=(Below.refl _ w3).drew.trans (hBA.mono jn);have hS3:=HCL.out wA hBd;dsimp only))
  ·go_wp2_with fail
   go_meet
   obtain⟨_,_,e1,_,hLw,hLb,_⟩:=own_shape HO.out;injection e1 with e1 _ _;subst e1;exact⟨_,xr,xsa,xsc,xfs,xha,xhc,xfh,va,vc,rfl,rfl,jq (Blk.new wA _ _),jq hBd.size,jq (box_late (Below.refl _ w3).drew HN.out _),jq (hLw.later ((Below.refl _ wA).alloc jn _)),jq (λq hq=>(hLb q hq).1)⟩
  ·go_wp2_with fail
   go_meet
   obtain⟨_,_,e1,_,hLw,hLb,_⟩:=own_shape HO.out;injection e1 with e1 _ _;subst e1;obtain⟨s1,s2⟩:=box3_set hbx (.int .i64 (xr:Int)) (.slice xsa n xsc) (.slice xha n xhc)
   exact⟨_,xr,xsa,xsc,xfs,xha,xhc,xfh,va,vc,rfl,rfl,jq s1,jq jn,jq (box_early ((Below.refl _ w3).drew.alloc jn _) jn (by simp) HN.out (λk hk=>HM3.out.ltP k hk) s2),jq (hLw.upon s2 (λq hq e=>by
    have h1:=(hLb q hq).1;have e:q=w3.heap.size:=e
    simp at h1
    omega)),jq (λq hq=>Nat.le_trans (by simp) (hLb q hq).1)⟩
 case rest=>
  obtain⟨b,xr,xsa,xsc,xfs,xha,xhc,xfh,va,vc,rfl,rfl,HBX,HBL,HN,HLW,HLQ⟩:=hcut;have hB3c:=HN.out.2.2.2;have hbpc:=HBP3.out.below hB3c HBP3.out.lt;have r0:=HBX.out.cell 0;have r1:=HBX.out.cell 1;have r2:=HBX.out.cell 2;have e3:=hbpc.cell 3;have e4:=hbpc.cell 4;have e5:=hbpc.cell 5;have g3:=hbpc.frozen 3;have g4:=hbpc.frozen 4;have g5:=hbpc.frozen 5;simp only[jt,ja,jb]at r0 r1 r2 e3 e4 e5;have hpt:=turn3 (x':=⟨xr,xsa,xsc,xfs,xha,xhc,xfh⟩) HM3.out HN.out hbpc;obtain⟨f1,f2⟩:=hpt
  try dsimp only at f1 f2
  obtain⟨w5,hw5⟩:=jl (((wc.setCell ⟨p,3,none⟩ (.int .i64 (xr:Int))).setCell ⟨p,4,none⟩ (.slice xsa n xsc)).setCell ⟨p,5,none⟩ (.slice xha n xhc));rw[<-hw5]at f1 f2;have HM5:=jq f1;have HB5:=jq f2;have hu5:Upon (λq=>q=p) wc w5:=by rw[hw5];exact Upon.set (P:=λq=>q=p) (Upon.set (P:=λq=>q=p) (Upon.set (P:=λq=>q=p) (Upon.refl _ wc) (p:=⟨p,3,none⟩) (.inl rfl) _) (p:=⟨p,4,none⟩) (.inl rfl) _) (p:=⟨p,5,none⟩) (.inl rfl) _
  have HSM:Hid (Calls Tryz.prog 30 #[.slice ta mt tc,.slice va mt vc] w5 λe w'=>e=.returned (.bool true)/\Below w5.heap.size w5 w'):=jq (by
   obtain⟨l1,l2,l3⟩:=H2.out.len h6;have h1:=l1 j hj;have hok:∀x∈(S j++Hd j).take m,ok x:=λx hx=>(List.mem_append.1 (List.mem_of_mem_take hx)).elim (H2.out.mid.live.okS j hj x) (H2.out.mid.live.okH j hj x)
   obtain⟨_,_,e1,_,hLt,hLtb,_⟩:=own_shape HT.out;injection e1 with e1 _ _;subst e1;have hpl2:p<w2.heap.size:=by have:=HB02.out.size;omega
   have t1:=((hLt.later hB3c).upon hu5 (λq hq e=>by
    have h1:=(hLtb q hq).1;have e:q=p:=e;have h1:w2.heap.size<=q:=h1
    omega))
   have t2:Lies w5 va (flatW ((S j++Hd j).take m)):=by
    refine HLW.out.upon hu5 (λq hq e=>?_);have e:q=p:=e;have:=HLQ.out q hq;have:=HBP3.out.lt
    omega
   have:=same_eq ta va tc vc ((S j++Hd j).take m) w5 t1 t2 hok (by rw[jT,jL];dsimp only at h1;omega)
   rwa [<-HMT.out]at this)
  clear f1 f2 hbpc hB3c hu5
  go_wp2_with fail
  rw[<-hw5];clear hw5;refine HSM.out.mono ?_;rintro e w6 ⟨rfl,hB6⟩
  go_wp2_with fail
  go_ret2
  refine⟨rfl,?_⟩;obtain⟨q1,q2,q3⟩:=take_counts (S:=S) (Hd:=Hd) (m:=m) hj H2.out.held.1;exact⟨_,H2.out.rowed (HM5.out.later hB6) (Nat.add_le_add_left (by decide) _) q1 q2 q3,⟨rfl,rfl⟩,(HB02.out.mono H0.out.mid.low.2.1).trans ((((Below.refl _ w2).drew.trans HB3.out).trans HB5.out).trans (hB6.mono HM5.out.low.2.1))⟩
end Pool
namespace Pool
open Go.RowKit Go.Deep Mem Crc Walk Full RefF
open Store (Sto Files setF setF_same setF_other nv)
variable {B p i:Nat} {o:Option Obj} {w w':World} {Y:PY}
attribute [local go_sem] Oper.semAt_some
theorem does_wait (h:PPlay B p o i w Y) (h6:i<=60) (kn:Int) (xa xb xc xd xe xf xg:Nat) (ab:Option Addr) (bn bc:Nat) (j:Nat) (hj:j<Y.n) (kd:Int) (hk0: (kd==0)=false) (hk1: (kd==1)=false) (hk2: (kd==2)=false) (hk3: (kd==3)=false) (hk4: (kd==4)=false) (hk5: (kd==5)=false) (hk6: (kd==6)=false):
  Calls Tryz.prog 8 #[.pointer (some ⟨p,0,none⟩),.agg #[.int .i64 kd,.int .i64 (j:Int),.int .i64 kn,.int .u32 (xa:Int),.int .u32 (xb:Int),.int .u32 (xc:Int),.int .u32 (xd:Int),.int .u32 (xe:Int),.int .u32 (xf:Int),.int .u32 (xg:Int),.slice ab bn bc]] w λe w'=>e=.returned (.tuple #[.bool true,.bool true])/\PStep B p o i Y w w':=by
 have hth: (decide (0<=(j:Int))&&decide ((j:Int) <(Y.n:Int)))=true:=by simp;omega
 obtain⟨s,d,pp,sm,hm,n,room,ct,Qs,hv,S,Hd,⟨rm,sa,sc,fs,ha,hc,fh⟩,Sr,Hr,H,L,an,nc⟩:=Y;obtain⟨W1,hW1⟩:=jl (w.alloc (.cells #[.int .i64 kd,.int .i64 (j:Int),.int .i64 kn,.int .u32 (xa:Int),.int .u32 (xb:Int),.int .u32 (xc:Int),.int .u32 (xd:Int),.int .u32 (xe:Int),.int .u32 (xf:Int),.int .u32 (xg:Int),.slice ab bn bc] 29));obtain⟨rb,hrb⟩:=jl w.heap.size;have hB1:Below w.heap.size w W1:=by rw[hW1];exact(Below.refl _ w).alloc jn _
 have hbr:Blk W1 rb 29 #[.int .i64 kd,.int .i64 (j:Int),.int .i64 kn,.int .u32 (xa:Int),.int .u32 (xb:Int),.int .u32 (xc:Int),.int .u32 (xd:Int),.int .u32 (xe:Int),.int .u32 (xf:Int),.int .u32 (xg:Int),.slice ab bn bc]:=by rw[hW1,hrb];exact Blk.new w _ _
 have hbp:Blk W1 p 46 #[.pointer (some ⟨d,0,none⟩),.pointer (some ⟨s,0,none⟩),.pointer (some ⟨pp,0,none⟩),.int .i64 (rm:Int),.slice sa n sc,.slice ha n hc,.slice an L.length nc]:=(h.later hB1).mid.blk;have HC:Hid (∀w',Below W1.heap.size W1 w'->w'.cell? ⟨p,3,none⟩=some (.int .i64 (rm:Int))/\w'.cell? ⟨p,4,none⟩=some (.slice sa n sc)/\w'.cell? ⟨p,5,none⟩=some (.slice ha n hc)/\w'.cell? ⟨rb,1,none⟩=some (.int .i64 (j:Int))):=jq (λV hV=>⟨(hbp.below hV hbp.lt).cell 3,(hbp.below hV hbp.lt).cell 4,(hbp.below hV hbp.lt).cell 5,(hbr.below hV hbr.lt).cell 1⟩);have hpl:p<w.heap.size:=h.mid.blk.lt;have hrp:rb≠p:=by omega
 have HBP:=jq hbp;have HBR:=jq hbr;have HB1:=jq hB1;have HRB:=jq hrb;have H0:=jq h;have hS0:=HC.out W1.drew (Below.refl _ W1).drew;clear h hB1 hbr hbp
 go_enter Tryz.func8,Tryz.ntmps8
 go_wp2_with fail
 rw[<-hW1,<-hrb];clear hW1 hrb
 go_region_held3 (λw'=>w'.cell? ⟨p,3,none⟩=some (.int .i64 (rm:Int))/\w'.cell? ⟨p,4,none⟩=some (.slice sa n sc)/\w'.cell? ⟨p,5,none⟩=some (.slice ha n hc)/\w'.cell? ⟨rb,1,none⟩=some (.int .i64 (j:Int))) (first|with_reducible exact hS0|with_reducible exact hS1) (first|(go_at_call 27;refine(there24_any (x:=⟨rm,sa,sc,fs,ha,hc,fh⟩) (n:=n) (j:Int) _).mono ?_;rintro e w2 ⟨rfl,hB2⟩;rw[hth];have HB2:Hid (Below W1.heap.size W1 w2):=jq (((Below.refl _ W1).drew).trans hB2);clear hB2;have hS1:=HC.out w2 HB2.out;dsimp only))
 rename_i hHeld
 clear hHeld hS0 hS1;have hbr2:=HBR.out.below HB2.out HBR.out.lt;have hbp2:=HBP.out.below HB2.out HBP.out.lt;have r0:=hbr2.cell 0;simp only[jt,ja]at r0;have hB02:Below w.heap.size w w2:=HB1.out.trans (HB2.out.mono HB1.out.size);have HB02:=jq hB02;have HBR2:=jq hbr2;have HBP2:=jq hbp2;have H2:=jq (H0.out.later hB02);have hrl:rb<w2.heap.size:=hbr2.lt;clear HC HB1 HBP HBR hB02 hbr2 hbp2
 try dsimp only at hj
 have hrr:=H2.out.rows
 try dsimp only at hrr
 obtain⟨rfl,rfl⟩:=hrr;obtain⟨g1,o1,e1,-,-⟩:=H2.out.mid.ref.s.at hj;obtain⟨g2,o2,e2,-,-⟩:=H2.out.mid.ref.h.at hj
 try dsimp only at e1 e2
 subst e1 e2;obtain⟨m1,hm1⟩:=jl ((Sr j).length);obtain⟨m2,hm2⟩:=jl ((Hr j).length)
 have c1:w2.cell? ⟨g1,o1+j,none⟩=some (.slice (fs j).1 m1 (fs j).2):=by
  obtain⟨g,o',e,_,c⟩:=H2.out.mid.ref.s.at hj;injection e with e;injection e with e1 e2;subst e1 e2;rw[hm1];exact c
 have c2:w2.cell? ⟨g2,o2+j,none⟩=some (.slice (fh j).1 m2 (fh j).2):=by
  obtain⟨g,o',e,_,c⟩:=H2.out.mid.ref.h.at hj;injection e with e;injection e with e1 e2;subst e1 e2;rw[hm2];exact c
 obtain⟨l1,l2,l3⟩:=H2.out.len h6;have hmm:m1+m2<=1200:=by have:=l1 j hj;dsimp only at this;omega
 have hw:IntKind.i64.wrap ((m1:Int)+(m2:Int))=(m1:Int)+m2:=IntWalk.i64_in _ (by omega);have hjd:decide (j<n)=true:=jd hj;have b1:=HBR2.out.cell 1;have p4:=HBP2.out.cell 4;have p5:=HBP2.out.cell 5;simp only[jt,ja,jb]at b1 p4 p5
 have HWT:Hid (∀V,Below w2.heap.size w2 V->Calls Tryz.prog 17 #[.pointer (some ⟨pp,0,none⟩),.int .i64 (j:Int)] V λe w3=>e=.returned (.int .i64 ((m1:Int)+m2))/\Below V.heap.size V w3):=jq (λV hV=>by
  refine(waiting_any (H2.out.later hV).mid.live j hj (by show(Sr j).length<=_;omega) (by show(Hr j).length<=_;omega)).mono ?_;rintro e w3 ⟨rfl,rfl⟩;exact⟨by rw[hm1,hm2];push_cast;rfl,(Below.refl _ _).drew⟩)
 clear hm1 hm2 l1 l2 l3;have HCW:Hid (∀w',Below w2.heap.size w2 w'->w'.cell? ⟨p,2,none⟩=some (.pointer (some ⟨pp,0,none⟩))/\w'.cell? ⟨rb,1,none⟩=some (.int .i64 (j:Int))):=jq (λV hV=>⟨(HBP2.out.below hV HBP2.out.lt).cell 2,(HBR2.out.below hV HBR2.out.lt).cell 1⟩)
 go_wp2_with fail
 go_quiet (fail)
 obtain⟨w3,hw3⟩:=jl (w2.drewN nq);have HB3:Hid (Below w2.heap.size w2 w3):=jq (by rw[hw3];exact fl_drewN (Below.refl _ _) _);rw[<-hw3];clear hw3 c1 c2 b1 p4 p5;have hS0:=HCW.out w3.drew HB3.out.drew
 go_wp2_with fail
 go_region_held3 (λw'=>w'.cell? ⟨p,2,none⟩=some (.pointer (some ⟨pp,0,none⟩))/\w'.cell? ⟨rb,1,none⟩=some (.int .i64 (j:Int))) (first|with_reducible exact hS0|with_reducible exact hS1) (first|(go_at_call 17;refine(HWT.out _ HB3.out.drew).mono ?_;rintro e w4 ⟨rfl,hB4⟩;have hB24:Below w2.heap.size w2 w4:=HB3.out.drew.trans (hB4.mono HB3.out.size);have hS1:=HCW.out w4 hB24;dsimp only))
 go_wp2_with fail
 go_ret2
 exact⟨rfl,H0.out.same (HB02.out.trans (hB24.mono HB02.out.size))⟩
theorem does_waitbad (h:PPlay B p o i w Y) (_:i<=60) (sh kn:Int) (xa xb xc xd xe xf xg:Nat) (ab:Option Addr) (bn bc:Nat) (hsh:¬(0<=sh/\sh<(Y.n:Int))) (kd:Int) (hk0: (kd==0)=false) (hk1: (kd==1)=false) (hk2: (kd==2)=false) (hk3: (kd==3)=false) (hk4: (kd==4)=false) (hk5: (kd==5)=false) (hk6: (kd==6)=false):
  Calls Tryz.prog 8 #[.pointer (some ⟨p,0,none⟩),.agg #[.int .i64 kd,.int .i64 sh,.int .i64 kn,.int .u32 (xa:Int),.int .u32 (xb:Int),.int .u32 (xc:Int),.int .u32 (xd:Int),.int .u32 (xe:Int),.int .u32 (xf:Int),.int .u32 (xg:Int),.slice ab bn bc]] w λe w'=>e=.returned (.tuple #[.bool true,.bool true])/\PStep B p o i Y w w':=by
 have hth: (decide (0<=sh)&&decide (sh<(Y.n:Int)))=false:=by
  cases hc: (decide (0<=sh)&&decide (sh<(Y.n:Int)))with
  |false=>rfl
  |true=>simp at hc;exact absurd hc hsh
 have HSH:=jq hsh;clear hsh;obtain⟨s,d,pp,sm,hm,n,room,ct,Qs,hv,S,Hd,⟨rm,sa,sc,fs,ha,hc,fh⟩,Sr,Hr,H,L,an,nc⟩:=Y;obtain⟨W1,hW1⟩:=jl (w.alloc (.cells #[.int .i64 kd,.int .i64 sh,.int .i64 kn,.int .u32 (xa:Int),.int .u32 (xb:Int),.int .u32 (xc:Int),.int .u32 (xd:Int),.int .u32 (xe:Int),.int .u32 (xf:Int),.int .u32 (xg:Int),.slice ab bn bc] 29));obtain⟨rb,hrb⟩:=jl w.heap.size;have hB1:Below w.heap.size w W1:=by rw[hW1];exact(Below.refl _ w).alloc jn _
 have hbr:Blk W1 rb 29 #[.int .i64 kd,.int .i64 sh,.int .i64 kn,.int .u32 (xa:Int),.int .u32 (xb:Int),.int .u32 (xc:Int),.int .u32 (xd:Int),.int .u32 (xe:Int),.int .u32 (xf:Int),.int .u32 (xg:Int),.slice ab bn bc]:=by rw[hW1,hrb];exact Blk.new w _ _
 have hbp:Blk W1 p 46 #[.pointer (some ⟨d,0,none⟩),.pointer (some ⟨s,0,none⟩),.pointer (some ⟨pp,0,none⟩),.int .i64 (rm:Int),.slice sa n sc,.slice ha n hc,.slice an L.length nc]:=(h.later hB1).mid.blk;have HC:Hid (∀w',Below W1.heap.size W1 w'->w'.cell? ⟨p,3,none⟩=some (.int .i64 (rm:Int))/\w'.cell? ⟨p,4,none⟩=some (.slice sa n sc)/\w'.cell? ⟨p,5,none⟩=some (.slice ha n hc)/\w'.cell? ⟨rb,1,none⟩=some (.int .i64 sh)):=jq (λV hV=>⟨(hbp.below hV hbp.lt).cell 3,(hbp.below hV hbp.lt).cell 4,(hbp.below hV hbp.lt).cell 5,(hbr.below hV hbr.lt).cell 1⟩);have hpl:p<w.heap.size:=h.mid.blk.lt;have hrp:rb≠p:=by omega
 have HBP:=jq hbp;have HBR:=jq hbr;have HB1:=jq hB1;have HRB:=jq hrb;have H0:=jq h;have hS0:=HC.out W1.drew (Below.refl _ W1).drew;clear h hB1 hbr hbp
 go_enter Tryz.func8,Tryz.ntmps8
 go_wp2_with fail
 rw[<-hW1,<-hrb];clear hW1 hrb
 go_region_held3 (λw'=>w'.cell? ⟨p,3,none⟩=some (.int .i64 (rm:Int))/\w'.cell? ⟨p,4,none⟩=some (.slice sa n sc)/\w'.cell? ⟨p,5,none⟩=some (.slice ha n hc)/\w'.cell? ⟨rb,1,none⟩=some (.int .i64 sh)) (first|with_reducible exact hS0|with_reducible exact hS1) (first|(go_at_call 27;refine(there24_any (x:=⟨rm,sa,sc,fs,ha,hc,fh⟩) (n:=n) sh _).mono ?_;rintro e w2 ⟨rfl,hB2⟩;rw[hth];have HB2:Hid (Below W1.heap.size W1 w2):=jq (((Below.refl _ W1).drew).trans hB2);clear hB2;have hS1:=HC.out w2 HB2.out;dsimp only))
 rename_i hHeld
 clear hHeld hS0 hS1;have hbr2:=HBR.out.below HB2.out HBR.out.lt;have hbp2:=HBP.out.below HB2.out HBP.out.lt;have r0:=hbr2.cell 0;simp only[jt,ja]at r0;have hB02:Below w.heap.size w w2:=HB1.out.trans (HB2.out.mono HB1.out.size);have HB02:=jq hB02;have HBR2:=jq hbr2;have HBP2:=jq hbp2;have H2:=jq (H0.out.later hB02);have hrl:rb<w2.heap.size:=hbr2.lt;clear HC HB1 HBP HBR hB02 hbr2 hbp2
 have HWT:Hid (∀V,Below w2.heap.size w2 V->Calls Tryz.prog 17 #[.pointer (some ⟨pp,0,none⟩),.int .i64 sh] V λe w3=>e=.returned (.int .i64 0)/\Below V.heap.size V w3):=jq (λV hV=>by
  refine(waiting_out (H2.out.later hV).mid.live sh HSH.out).mono ?_;rintro e w3 ⟨rfl,rfl⟩;exact⟨rfl,Below.refl _ _⟩)
 have HCW:Hid (∀w',Below w2.heap.size w2 w'->w'.cell? ⟨p,2,none⟩=some (.pointer (some ⟨pp,0,none⟩))/\w'.cell? ⟨rb,1,none⟩=some (.int .i64 sh)):=jq (λV hV=>⟨(HBP2.out.below hV HBP2.out.lt).cell 2,(HBR2.out.below hV HBR2.out.lt).cell 1⟩);have hS0:=HCW.out w2.drew ((Below.refl _ _).drew)
 go_wp2_with fail
 go_region_held3 (λw'=>w'.cell? ⟨p,2,none⟩=some (.pointer (some ⟨pp,0,none⟩))/\w'.cell? ⟨rb,1,none⟩=some (.int .i64 sh)) (first|with_reducible exact hS0|with_reducible exact hS1) (first|(go_at_call 17;refine(HWT.out _ ((Below.refl _ _).drew)).mono ?_;rintro e w4 ⟨rfl,hB4⟩;have hB24:Below w2.heap.size w2 w4:=(Below.refl _ w2).drew.trans hB4;have hS1:=HCW.out w4 hB24;dsimp only))
 go_wp2_with fail
 go_ret2
 exact⟨rfl,H0.out.same (HB02.out.trans (hB24.mono HB02.out.size))⟩
end Pool
namespace Pool
open Go.RowKit Go.Deep Mem Crc Walk Full RefF
open Store (Sto Files setF setF_same setF_other nv)
variable {B p i:Nat} {o:Option Obj} {w w':World} {Y Y':PY}
def PDone (B p:Nat) (o:Option Obj) (i:Nat) (Y:PY) (w:World) (e:Ending) (w':World):Prop:=(e=.returned (.tuple #[.bool true,.bool true])/\PStep B p o i Y w w')\/(e=.returned (.tuple #[.bool true,.bool false])/\Below B w w')
theorem PStep.from {w2:World} (h:PStep B p o i Y w2 w') (hB:Below B w w2):PStep B p o i Y w w':=by
 obtain⟨Y',a,b,c⟩:=h;exact⟨Y',a,b,hB.trans c⟩
theorem PDone.from {w2:World} {e:Ending} (h:PDone B p o i Y w2 e w') (hB:Below B w w2):PDone B p o i Y w e w':=h.imp (λh=>⟨h.1,h.2.from hB⟩) (λh=>⟨h.1,hB.trans h.2⟩)
theorem anew_val {s d n room j ln nc:Nat} {H F:Files} {Q:Nat->Prop} {an:Option Addr} {e:Ending} (h:Anew B p o s d n room j H F Q an ln nc w e w'):∃bg:Bool,e=.returned (.tuple #[.bool true,.bool bg]):=by
 rcases h with h|h
 ·exact⟨true,h.2.1⟩
 ·exact⟨false,h.2.1⟩
theorem anew_upon {s d n room j ln nc:Nat} {H F:Files} {Q:Nat->Prop} {an:Option Addr} {e:Ending} (h:Anew B p o s d n room j H F Q an ln nc w e w'):Upon (λq=>q=p) w w':=by
 rcases h with⟨-,-,pp,sm,hm,x,-,-,-,-,-,-,hu⟩|h
 ·exact hu
 ·exact Upon.of_below h.2.2
theorem pool_commit (h:PPlay B p o i w Y) (h6:i<=60):
  Calls Tryz.prog 35 #[.pointer (some ⟨Y.s,0,none⟩)] w λe w'=>∃z:Int,e=.returned (.int .i64 z)/\((z=0/\∃F Q',Pl ⟨Y.pp,Y.s,stoX B Y.s Y.d 400 o F,Y.sm,Y.hm,Y.n,Y.room⟩ 20000 w' Q' Y.hv Y.S Y.Hd/\Fls F Y.S Y.n/\(∀k,Q' k->Y.Qs k\/w.heap.size<=k)/\Upon Y.Qs w w')\/(z=7/\Below w.heap.size w w')):=by
 obtain⟨F,j,h1,h2,h3,-,-⟩:=h.mid.files;have hc:=h.ct;refine(stoX_commit h1 (by omega)).mono ?_;rintro e w' (⟨rfl,Q',hs,hq,hu⟩|⟨rfl,hB⟩)
 ·exact⟨0,rfl,.inl ⟨rfl,F,Q',h.mid.live.swap hs h2 hq hu,h2,hq,hu⟩⟩
 ·exact⟨7,rfl,.inr ⟨rfl,hB⟩⟩
theorem PPlay.committed (h:PPlay B p o i w Y) (h6:i<=60) {F:Files} {Q':Nat->Prop} {w3 w4:World} {an':Option Addr} {nc':Nat} {L':List FF} (hp:Pl ⟨Y.pp,Y.s,stoX B Y.s Y.d 400 o F,Y.sm,Y.hm,Y.n,Y.room⟩ 20000 w3 Q' Y.hv Y.S Y.Hd) (hf:Fls F Y.S Y.n) (hq:∀k,Q' k->Y.Qs k\/w.heap.size<=k) (hu:Upon Y.Qs w w3) (hB:Below w3.heap.size w3 w4)
  (hL:Lies w4 an' (flatP L')) (hLb:∀q,Mem.blk an'=some q->w3.heap.size<=q/\q<w4.heap.size) (hr:IsRow L' F) (hl:L'.length<=Y.n):PStep B p o i Y w (w4.setCell ⟨p,6,none⟩ (.slice an' L'.length nc')):=by
 obtain⟨z1,z2,z3⟩:=h.mid.low;have hpl:=h.mid.blk.lt;have hpD:=h.mid.pD;have hpB:=h.mid.pB;have hqp:¬Y.Qs p:=λhk=>hpD (.inl hk)
 have hu5:Upon (λq=>q=p) w4 (w4.setCell ⟨p,6,none⟩ (.slice an' L'.length nc')):=Upon.set (P:=λq=>q=p) (Upon.refl _ w4) (p:=⟨p,6,none⟩) (.inl rfl) _
 have hD:∀k,allQ ⟨Y.pp,Y.s,stoX B Y.s Y.d 400 o F,Y.sm,Y.hm,Y.n,Y.room⟩ Q' Y.hv k->Y.D B o k\/w.heap.size<=k:=λk hk=>by
  rcases hk with hk|hk|hk
  ·exact(hq k hk).imp (λh1=>.inl h1) id
  ·exact .inl (.inr (.inl hk))
  ·exact .inl (.inr (.inr hk))
 have hpD':¬allQ ⟨Y.pp,Y.s,stoX B Y.s Y.d 400 o F,Y.sm,Y.hm,Y.n,Y.room⟩ Q' Y.hv p:=λhk=>(hD p hk).elim hpD (λh1=>by omega)
 have hnD:∀k,¬Y.D B o k->k<w.heap.size->¬allQ ⟨Y.pp,Y.s,stoX B Y.s Y.d 400 o F,Y.sm,Y.hm,Y.n,Y.room⟩ Q' Y.hv k:=λk h1 h2 h3=>(hD k h3).elim h1 (λh=>by omega)
 have hs1:=hu.size;have hs2:=hB.size;have hs3:=hu5.size;have hlive:=(hp.later hB).upon hu5 (λk hk e=>hpD' (by rw[<-e];exact hk));obtain⟨y1,y2,y3⟩:=pl_low hlive;have hb5:=(((h.mid.blk.upon hu hqp).below hB (Nat.lt_of_lt_of_le hpl hs1)).set 6 (.slice an' L'.length nc'));have href:=((h.mid.ref.upon hu (λk hk hq=>(h.mid.refB k hk).2.1 (.inl hq))).later hB).upon hu5 (λk hk e=>(h.mid.refB k hk).2.2 e)
 have hwn:Below B w (w4.setCell ⟨p,6,none⟩ (.slice an' L'.length nc')):=by
  have a1:Below B w w3:=below_of hu (λk hk=>h.mid.base k (.inl hk)) z2 (by
   obtain⟨_,_,x3⟩:=pl_low hp;rw[x3,z3])
  exact(a1.trans (hB.mono (Nat.le_trans z2 hs1))).trans (hu5.below (by omega) (λq hq=>by rw[hq];exact hpB))
 obtain⟨l1,l2,l3⟩:=h.len h6;refine⟨{Y with ct:=20000,Qs:=Q',H:=F,L:=L',an:=an',nc:=nc'},⟨⟨hlive,λk hk=>(hD k hk).elim (h.mid.base k) (λh1=>.inl (by omega)),hb5,hpD',hpB,h.mid.rm,href,λk hk=>⟨(h.mid.refB k hk).1,hnD k (h.mid.refB k hk).2.1 (h.mid.ltP k hk),(h.mid.refB k hk).2.2⟩,hL.upon hu5 (λq hq e=>?_),λq hq=>?_,hr,y1,y2,y3⟩,h.rows,Nat.le_add_right _ _,h.nr,h.next.held,h.next.tot,⟨good_fls hf h.mid.live.okS (λk hk=>by have:=l1 k hk;omega),hf.1⟩,?_,Nat.le_trans hl (by have:=h.nr.1;omega)⟩,⟨rfl,rfl⟩,hwn⟩
 ·have:=(hLb q hq).1;have e:q=p:=e
  omega
 ·have h1:=hLb q hq;refine⟨by omega,λhk=>?_,by omega,by omega⟩;have:=hp.lt q hk
  omega
 ·have:=h.next.tot;have e:=many_same (f:=rdF F) (g:=Y.S) Y.n (rdF_fls hf h.mid.live.okS (λk hk=>by have:=l1 k hk;omega));show many (rdF F) Y.n<=_;rw[e]
  omega
theorem PPlay.anewed (h:PPlay B p o i w Y) {s' j:Nat} {F:Files} {Q':Nat->Prop} {w5:World} {e:Ending} (hq:∀k,Q' k->Y.Qs k\/w.heap.size<=k) (hu:Upon (λk=>Y.Qs k\/k=p) w w5) (hz:w5.heap[0]? =o) (hcnt:AllGood F Y.n->many (rdF F) Y.n<=20*(i+1)) (hj:j<=20000+100*(i+1)) (ha:Anew B p o s' Y.d Y.n Y.room j Y.H F Q' Y.an Y.L.length Y.nc w5 e w'):PDone B p o i Y w e w':=by
 obtain⟨z1,z2,z3⟩:=h.mid.low;have hpl:=h.mid.blk.lt;have hpD:=h.mid.pD;have hpB:=h.mid.pB;have hs1:=hu.size;have h05:Below B w w5:=below_of hu (λk hk=>hk.elim (λh1=>h.mid.base k (.inl h1)) (λe=>.inl (by rw[e];exact hpB))) z2 (by rw[hz,z3]);rcases ha with⟨hg,rfl,pp,sm,hm,x,hp,⟨n1,n2,n3⟩,hpin,hxr,hpb,hbk,hu2⟩|⟨-,rfl,hB⟩
 ·have hs2:=hu2.size
  have hD:∀k,allQ ⟨pp,s',stoX B s' Y.d 400 o Y.H,sm,hm,Y.n,Y.room⟩ Q' (λ_=>none) k->Y.D B o k\/w.heap.size<=k:=λk hk=>by
   rcases hk with hk|hk|⟨_,_,_,hk,_⟩
   ·exact(hq k hk).imp (λh1=>.inl h1) id
   ·rcases hk with hk|hk|hk
    ·have hk:k=pp:=hk;exact .inr (by omega)
    ·have hk:k=sm:=hk;exact .inr (by omega)
    ·have hk:k=hm:=hk;exact .inr (by omega)
   ·cases hk
  have hpD':¬allQ ⟨pp,s',stoX B s' Y.d 400 o Y.H,sm,hm,Y.n,Y.room⟩ Q' (λ_=>none) p:=λhk=>(hD p hk).elim hpD (λh1=>by omega)
  have hnD:∀k,¬Y.D B o k->k<w.heap.size->¬allQ ⟨pp,s',stoX B s' Y.d 400 o Y.H,sm,hm,Y.n,Y.room⟩ Q' (λ_=>none) k:=λk h1 h2 h3=>(hD k h3).elim h1 (λh=>by omega)
  obtain⟨y1,y2,y3⟩:=pl_low hp;have hu05:Upon (λk=>Y.Qs k\/k=p) w w':=hu.trans hu2 (λq hq=>.inl (.inr hq));refine .inl ⟨rfl,{Y with s:=s',pp:=pp,sm:=sm,hm:=hm,ct:=j,Qs:=Q',hv:=λ_=>none,S:=rdF F,Hd:=no,x:=x,S2:=rdF F,H2:=no},⟨⟨hp,λk hk=>(hD k hk).elim (h.mid.base k) (λh1=>.inl (by omega)),hbk,hpD',hpB,hxr,hpin,λq hq=>⟨by have:=(hpb q hq).1;omega,(hpb q hq).2,by have:=(hpb q hq).1;omega⟩,h.mid.lies.upon hu05 (λq hq hk=>?_),λq hq=>?_,h.mid.row,y1,y2,y3⟩,⟨rfl,rfl⟩,hj,h.nr,?_,?_,h.good,h.next.totH,h.few⟩,⟨rfl,rfl⟩,h05.trans (hu2.below (by omega) (λq hq=>by rw[hq];exact hpB))⟩
  ·obtain⟨a,b,c,d⟩:=h.mid.liesB q hq;exact hk.elim (λh1=>b (.inl h1)) c
  ·obtain⟨a,b,c,d⟩:=h.mid.liesB q hq;exact⟨a,hnD q b d,c,by omega⟩
  ·show many no Y.n<=_/\many no Y.n<=_;rw[many_no];exact⟨Nat.zero_le _,Nat.zero_le _⟩
  ·show many (rdF F) Y.n+many no Y.n<=_;rw[many_no];exact hcnt hg
 ·exact .inr ⟨rfl,h05.trans (hB.mono (by omega))⟩
end Pool
namespace Pool
open Go.RowKit Go.Deep Mem Crc Walk Full RefF
open Store (Sto Files setF setF_same setF_other nv)
variable {B p i:Nat} {o:Option Obj} {w w':World} {Y:PY}
attribute [local go_sem] Oper.semAt_some
theorem does_commit (h:PPlay B p o i w Y) (h6:i<=60) (sh kn:Int) (xa xb xc xd xe xf xg:Nat) (ab:Option Addr) (bn bc:Nat):
  Calls Tryz.prog 8 #[.pointer (some ⟨p,0,none⟩),.agg #[.int .i64 4,.int .i64 sh,.int .i64 kn,.int .u32 (xa:Int),.int .u32 (xb:Int),.int .u32 (xc:Int),.int .u32 (xd:Int),.int .u32 (xe:Int),.int .u32 (xf:Int),.int .u32 (xg:Int),.slice ab bn bc]] w (PDone B p o i Y w):=by
 obtain⟨bt,hbt⟩:∃b,(decide (0<=sh)&&decide (sh<(Y.n:Int)))=b:=⟨_,rfl⟩;obtain⟨s,d,pp,sm,hm,n,room,ct,Qs,hv,S,Hd,⟨rm,sa,sc,fs,ha,hc,fh⟩,Sr,Hr,H,L,an,nc⟩:=Y;obtain⟨W1,hW1⟩:=jl (w.alloc (.cells #[.int .i64 4,.int .i64 sh,.int .i64 kn,.int .u32 (xa:Int),.int .u32 (xb:Int),.int .u32 (xc:Int),.int .u32 (xd:Int),.int .u32 (xe:Int),.int .u32 (xf:Int),.int .u32 (xg:Int),.slice ab bn bc] 29));obtain⟨rb,hrb⟩:=jl w.heap.size;have hB1:Below w.heap.size w W1:=by rw[hW1];exact(Below.refl _ w).alloc jn _
 have hbr:Blk W1 rb 29 #[.int .i64 4,.int .i64 sh,.int .i64 kn,.int .u32 (xa:Int),.int .u32 (xb:Int),.int .u32 (xc:Int),.int .u32 (xd:Int),.int .u32 (xe:Int),.int .u32 (xf:Int),.int .u32 (xg:Int),.slice ab bn bc]:=by rw[hW1,hrb];exact Blk.new w _ _
 have hbp:Blk W1 p 46 #[.pointer (some ⟨d,0,none⟩),.pointer (some ⟨s,0,none⟩),.pointer (some ⟨pp,0,none⟩),.int .i64 (rm:Int),.slice sa n sc,.slice ha n hc,.slice an L.length nc]:=(h.later hB1).mid.blk;have HC:Hid (∀w',Below W1.heap.size W1 w'->w'.cell? ⟨p,3,none⟩=some (.int .i64 (rm:Int))/\w'.cell? ⟨p,4,none⟩=some (.slice sa n sc)/\w'.cell? ⟨p,5,none⟩=some (.slice ha n hc)/\w'.cell? ⟨rb,1,none⟩=some (.int .i64 sh)):=jq (λV hV=>⟨(hbp.below hV hbp.lt).cell 3,(hbp.below hV hbp.lt).cell 4,(hbp.below hV hbp.lt).cell 5,(hbr.below hV hbr.lt).cell 1⟩);have hpl:p<w.heap.size:=h.mid.blk.lt;have hrp:rb≠p:=by omega
 have HBP:=jq hbp;have HBR:=jq hbr;have HB1:=jq hB1;have HRB:=jq hrb;have H0:=jq h;have hS0:=HC.out W1.drew (Below.refl _ W1).drew;clear h hB1 hbr hbp
 go_enter Tryz.func8,Tryz.ntmps8
 go_wp2_with fail
 rw[<-hW1,<-hrb];clear hW1 hrb
 go_region_held3 (λw'=>w'.cell? ⟨p,3,none⟩=some (.int .i64 (rm:Int))/\w'.cell? ⟨p,4,none⟩=some (.slice sa n sc)/\w'.cell? ⟨p,5,none⟩=some (.slice ha n hc)/\w'.cell? ⟨rb,1,none⟩=some (.int .i64 sh)) (first|with_reducible exact hS0|with_reducible exact hS1) (first|(go_at_call 27;refine(there24_any (x:=⟨rm,sa,sc,fs,ha,hc,fh⟩) (n:=n) sh _).mono ?_;rintro e w2 ⟨rfl,hB2⟩;rw[hbt];have HB2:Hid (Below W1.heap.size W1 w2):=jq (((Below.refl _ W1).drew).trans hB2);clear hB2;have hS1:=HC.out w2 HB2.out;dsimp only))
 rename_i hHeld
 clear hHeld hS0 hS1;have hbr2:=HBR.out.below HB2.out HBR.out.lt;have hbp2:=HBP.out.below HB2.out HBP.out.lt;have r0:=hbr2.cell 0;simp only[jt,ja]at r0;have hB02:Below w.heap.size w w2:=HB1.out.trans (HB2.out.mono HB1.out.size);have HB02:=jq hB02;have HBR2:=jq hbr2;have HBP2:=jq hbp2;have H2:=jq (H0.out.later hB02);have hrl:rb<w2.heap.size:=hbr2.lt;clear HC HB1 HBP HBR hB02 hbr2 hbp2;clear hbt;have HCM:Hid (Calls Tryz.prog 35 #[.pointer (some ⟨s,0,none⟩)] w2 λe w'=>∃z:Int,e=.returned (.int .i64 z)/\((z=0/\∃F Q',Pl ⟨pp,s,stoX B s d 400 o F,sm,hm,n,room⟩ 20000 w' Q' hv S Hd/\Fls F S n/\(∀k,Q' k->Qs k\/w2.heap.size<=k)/\Upon Qs w2 w')\/(z=7/\Below w2.heap.size w2 w'))):=jq (pool_commit H2.out h6)
 have HFI:Hid (∀w3,PIn w3 ⟨rm,sa,sc,fs,ha,hc,fh⟩ n Sr Hr->Calls Tryz.prog 14 #[.agg #[.int .i64 (rm:Int),.slice sa n sc,.slice ha n hc]] w3 λe w4=>∃(va:Option Addr) (vc:Nat) (L':List FF),e=.returned (.slice va L'.length vc)/\Hid (Lies w4 va (flatP L'))/\Hid (∀q,Mem.blk va=some q->w3.heap.size<=q/\q<w4.heap.size)/\Hid (IsRow L' (FlK S n))/\Hid (L'.length<=n)/\Hid (Below w3.heap.size w3 w4)):=jq (λw3 hp=>by
  obtain⟨l1,l2,l3⟩:=H2.out.len h6;have hrr:=H2.out.rows;dsimp only at hrr l1 l2 l3;obtain⟨rfl,rfl⟩:=hrr;refine(files24_any (x:=⟨rm,sa,sc,fs,ha,hc,fh⟩) hp H2.out.nr.1 (λk hk=>by have:=l1 k hk;omega)).mono ?_;rintro e w4 ⟨v,L',rfl,h1,h2,h3,h4⟩;obtain⟨va,vc,rfl,_,h5,h6,_⟩:=own_shape h1;exact⟨va,vc,L',rfl,jq h5,jq h6,jq h2,jq h3,jq h4⟩)
 have p1:=HBP2.out.cell 1;simp only[jt,ja,jb]at p1
 go_wp2_with fail
 refine HCM.out.mono ?_;rintro e w3 ⟨z,rfl,hz⟩;have hup:Upon Qs w2 w3:=hz.elim (λh=>by obtain⟨_,_,_,_,_,_,hu⟩:=h;exact hu) (λh=>Upon.of_below h.2);have hbp3:Blk w3 p 46 #[.pointer (some ⟨d,0,none⟩),.pointer (some ⟨s,0,none⟩),.pointer (some ⟨pp,0,none⟩),.int .i64 (rm:Int),.slice sa n sc,.slice ha n hc,.slice an L.length nc]:=HBP2.out.upon hup (λhq=>H2.out.mid.pD (.inl hq));have HP3:Hid (PIn w3 ⟨rm,sa,sc,fs,ha,hc,fh⟩ n Sr Hr):=jq (H2.out.mid.ref.upon hup (λk hk hq=>(H2.out.mid.refB k hk).2.1 (.inl hq)));have e3:=hbp3.cell 3;have e4:=hbp3.cell 4;have e5:=hbp3.cell 5;simp only[jt,ja,jb]at e3 e4 e5;have HZ:=jq hz;have HBP3:=jq hbp3;clear hz hup hbp3 p1
 go_wp2_with fail
 refine(HFI.out _ HP3.out).mono ?_;rintro e w4 ⟨va,vc,L',rfl,HL4,HLB,HR4,HLN,HB4⟩;have hbp4:=HBP3.out.below HB4.out HBP3.out.lt;have q6:=hbp4.cell 6;have g6:=hbp4.frozen 6;simp only[jt,ja,jb]at q6;obtain⟨ln,hln⟩:=jl L'.length;rw[<-hln];have HLL:=jq hln;clear hbp4 hln;rcases HZ.out with⟨rfl,F,Q',hp,hf,hq,hu⟩|⟨rfl,hB⟩
 ·have HA:=jq hp;have HF:=jq hf;have HQ:=jq hq;have HU:=jq hu;clear hp hf hq hu
  go_wp2_with fail
  go_ret2
  rw[HLL.out];have hfe:=flk_eq HF.out H2.out.nr.1;have hr:=HR4.out;rw[hfe]at hr;exact .inl ⟨rfl,(H2.out.committed h6 HA.out HF.out HQ.out HU.out HB4.out HL4.out HLB.out hr HLN.out).from (HB02.out.mono H0.out.mid.low.2.1)⟩
 ·have HB:=jq hB;clear hB
  go_wp2_with fail
  go_ret2
  refine .inr ⟨rfl,?_⟩;obtain⟨z1,z2,z3⟩:=H0.out.mid.low;have h04:Below w.heap.size w w4:=(HB02.out.trans (HB.out.mono HB02.out.size)).trans (HB4.out.mono (by have:=HB02.out.size;have:=HB.out.size;omega));exact(Upon.set (P:=λq=>q=p) (Upon.of_below h04) (p:=⟨p,6,none⟩) (.inl rfl) _).below z2 (λq hq=>by rw[hq];exact H0.out.mid.pB)
end Pool
namespace Pool
open Go.RowKit Go.Deep Mem Crc Walk Full RefF
open Store (Sto Files setF setF_same setF_other nv)
variable {B p i:Nat} {o:Option Obj} {w w':World} {Y:PY}
attribute [local go_sem] Oper.semAt_some
theorem does_open (h:PPlay B p o i w Y) (h6:i<=60) (sh kn:Int) (xa xb xc xd xe xf xg:Nat) (ab:Option Addr) (bn bc:Nat):
  Calls Tryz.prog 8 #[.pointer (some ⟨p,0,none⟩),.agg #[.int .i64 5,.int .i64 sh,.int .i64 kn,.int .u32 (xa:Int),.int .u32 (xb:Int),.int .u32 (xc:Int),.int .u32 (xd:Int),.int .u32 (xe:Int),.int .u32 (xf:Int),.int .u32 (xg:Int),.slice ab bn bc]] w (PDone B p o i Y w):=by
 obtain⟨bt,hbt⟩:∃b,(decide (0<=sh)&&decide (sh<(Y.n:Int)))=b:=⟨_,rfl⟩;obtain⟨s,d,pp,sm,hm,n,room,ct,Qs,hv,S,Hd,⟨rm,sa,sc,fs,ha,hc,fh⟩,Sr,Hr,H,L,an,nc⟩:=Y;obtain⟨W1,hW1⟩:=jl (w.alloc (.cells #[.int .i64 5,.int .i64 sh,.int .i64 kn,.int .u32 (xa:Int),.int .u32 (xb:Int),.int .u32 (xc:Int),.int .u32 (xd:Int),.int .u32 (xe:Int),.int .u32 (xf:Int),.int .u32 (xg:Int),.slice ab bn bc] 29));obtain⟨rb,hrb⟩:=jl w.heap.size;have hB1:Below w.heap.size w W1:=by rw[hW1];exact(Below.refl _ w).alloc jn _
 have hbr:Blk W1 rb 29 #[.int .i64 5,.int .i64 sh,.int .i64 kn,.int .u32 (xa:Int),.int .u32 (xb:Int),.int .u32 (xc:Int),.int .u32 (xd:Int),.int .u32 (xe:Int),.int .u32 (xf:Int),.int .u32 (xg:Int),.slice ab bn bc]:=by rw[hW1,hrb];exact Blk.new w _ _
 have hbp:Blk W1 p 46 #[.pointer (some ⟨d,0,none⟩),.pointer (some ⟨s,0,none⟩),.pointer (some ⟨pp,0,none⟩),.int .i64 (rm:Int),.slice sa n sc,.slice ha n hc,.slice an L.length nc]:=(h.later hB1).mid.blk;have HC:Hid (∀w',Below W1.heap.size W1 w'->w'.cell? ⟨p,3,none⟩=some (.int .i64 (rm:Int))/\w'.cell? ⟨p,4,none⟩=some (.slice sa n sc)/\w'.cell? ⟨p,5,none⟩=some (.slice ha n hc)/\w'.cell? ⟨rb,1,none⟩=some (.int .i64 sh)):=jq (λV hV=>⟨(hbp.below hV hbp.lt).cell 3,(hbp.below hV hbp.lt).cell 4,(hbp.below hV hbp.lt).cell 5,(hbr.below hV hbr.lt).cell 1⟩);have hpl:p<w.heap.size:=h.mid.blk.lt;have hrp:rb≠p:=by omega
 have HBP:=jq hbp;have HBR:=jq hbr;have HB1:=jq hB1;have HRB:=jq hrb;have H0:=jq h;have hS0:=HC.out W1.drew (Below.refl _ W1).drew;clear h hB1 hbr hbp
 go_enter Tryz.func8,Tryz.ntmps8
 go_wp2_with fail
 rw[<-hW1,<-hrb];clear hW1 hrb
 go_region_held3 (λw'=>w'.cell? ⟨p,3,none⟩=some (.int .i64 (rm:Int))/\w'.cell? ⟨p,4,none⟩=some (.slice sa n sc)/\w'.cell? ⟨p,5,none⟩=some (.slice ha n hc)/\w'.cell? ⟨rb,1,none⟩=some (.int .i64 sh)) (first|with_reducible exact hS0|with_reducible exact hS1) (first|(go_at_call 27;refine(there24_any (x:=⟨rm,sa,sc,fs,ha,hc,fh⟩) (n:=n) sh _).mono ?_;rintro e w2 ⟨rfl,hB2⟩;rw[hbt];have HB2:Hid (Below W1.heap.size W1 w2):=jq (((Below.refl _ W1).drew).trans hB2);clear hB2;have hS1:=HC.out w2 HB2.out;dsimp only))
 rename_i hHeld
 clear hHeld hS0 hS1;have hbr2:=HBR.out.below HB2.out HBR.out.lt;have hbp2:=HBP.out.below HB2.out HBP.out.lt;have r0:=hbr2.cell 0;simp only[jt,ja]at r0;have hB02:Below w.heap.size w w2:=HB1.out.trans (HB2.out.mono HB1.out.size);have HB02:=jq hB02;have HBR2:=jq hbr2;have HBP2:=jq hbp2;have H2:=jq (H0.out.later hB02);have hrl:rb<w2.heap.size:=hbr2.lt;clear HC HB1 HBP HBR hB02 hbr2 hbp2;clear hbt
 have HOP:Hid (Calls Tryz.prog 19 #[.pointer (some ⟨d,0,none⟩)] w2 λe w'=>∃s' Q',e=.returned (.tuple #[.pointer (some ⟨s',0,none⟩),.int .i64 0])/\Hid ((stoX B s' d 400 o H).At w' Q' false H 20000)/\Hid (∀k,Q' k->Qs k\/w2.heap.size<=k)/\Hid (Upon Qs w2 w')):=jq (by
  obtain⟨F,j,h1,h2,h3,-,-⟩:=H2.out.mid.files;refine(stoX_open h1).mono ?_;rintro e w' ⟨s',Q',rfl,a,b,c⟩;exact⟨s',Q',rfl,jq a,jq b,jq c⟩)
 have p0:=HBP2.out.cell 0;simp only[jt,ja]at p0;obtain⟨ln,hln⟩:=jl L.length;have HLL:=jq hln;rw[<-hln]at HBP2;clear hln
 go_wp2_with fail
 refine HOP.out.mono ?_;rintro e w3 ⟨s',Q',rfl,HA,HQ,HU⟩;have hbp3:=HBP2.out.upon HU.out (λhq=>H2.out.mid.pD (.inl hq));have e1:=hbp3.cell 1;have e6:=hbp3.cell 6;have g1:=hbp3.frozen 1;simp only[jt,ja,jb]at e1 e6;have HBP3:=jq hbp3;clear hbp3 p0
 go_wp2_with fail
 obtain⟨w5,hw5⟩:=jl (w3.setCell ⟨p,1,none⟩ (.pointer (some ⟨s',0,none⟩)));rw[<-hw5];have hb5:Blk w5 p 46 #[.pointer (some ⟨d,0,none⟩),.pointer (some ⟨s',0,none⟩),.pointer (some ⟨pp,0,none⟩),.int .i64 (rm:Int),.slice sa n sc,.slice ha n hc,.slice an ln nc]:=by rw[hw5];exact HBP3.out.set 1 _
 have hu5:Upon (λq=>q=p) w3 w5:=by rw[hw5];exact Upon.set (P:=λq=>q=p) (Upon.refl _ w3) (p:=⟨p,1,none⟩) (.inl rfl) _
 have hpQ:¬Q' p:=λhk=>(HQ.out p hk).elim (λh=>H2.out.mid.pD (.inl h)) (λh=>by have:=H2.out.mid.blk.lt;omega)
 have ha5: (stoX B s' d 400 o H).At w5 Q' false H 20000:=(stoX B s' d 400 o H).upon HA.out hu5 (λk hk hq=>hpQ (by have hk:k=p:=hk;rw[<-hk];exact hq));have hu25:Upon (λk=>Qs k\/k=p) w2 w5:=(HU.out.mono (λk hk=>.inl hk)).trans hu5 (λq hq=>.inl (.inr hq));have hl5:Lies w5 an (flatP L):=H2.out.mid.lies.upon hu25 (λq hq hk=>hk.elim (λh=>(H2.out.mid.liesB q hq).2.1 (.inl h)) (H2.out.mid.liesB q hq).2.2.1);have hrm:rm=room:=H2.out.mid.rm
 have HAN:Hid (Calls Tryz.prog 36 #[.pointer (some ⟨p,0,none⟩),.slice an ln nc] w5 λe w'=>Anew B p o s' d n room 20000 H H Q' an L.length nc w5 e w'):=jq (by
  rw[HLL.out]at hb5⊢;rw[hrm]at hb5;exact anew_any ha5 hb5 hpQ hl5 H2.out.mid.row (by have:=H2.out.few;dsimp only at this;omega) H2.out.nr.1 H2.out.nr.2.1 H2.out.nr.2.2 H2.out.good.2)
 have HU25:=jq hu25;have HZ5:Hid (w5.heap[0]? =o):=jq (stoX_base ha5).2.2.2.2;clear hw5 hb5 hu5 hpQ ha5 hu25 hl5 hrm e1 e6 g1;refine HAN.out.mono ?_;rintro e w6 ha;obtain⟨bg,rfl⟩:=anew_val ha;have HA6:=jq ha;clear ha
 go_wp2_with fail
 go_ret2
 exact(H2.out.anewed HQ.out HU25.out HZ5.out (λ_=>H2.out.next.totH) (by omega) HA6.out).from (HB02.out.mono H0.out.mid.low.2.1)
end Pool
namespace Pool
open Go.RowKit Go.Deep Mem Crc Walk Full RefF
open Store (Sto Files setF setF_same setF_other nv)
variable {B p i:Nat} {o:Option Obj} {w w':World} {Y:PY}
attribute [local go_sem] Oper.semAt_some
theorem jX {α:Type} (a0 a1 a2 a3 a4 a5 a6 a7 a8 a9 a10 a11 a12 a13 a14 a15 a16 a17 a18 a19 a20 a21 a22 a23 a24 a25 a26 a27 a28 a29 a30 a31 a32 a33 a34 a35 a36 a37 a38 a39 a40 a41 a42 a43 a44 a45 a46 a47:α) (l:List α) (n:Nat) (v:α): (a0::a1::a2::a3::a4::a5::a6::a7::a8::a9::a10::a11::a12::a13::a14::a15::a16::a17::a18::a19::a20::a21::a22::a23::a24::a25::a26::a27::a28::a29::a30::a31::a32::a33::a34::a35::a36::a37::a38::a39::a40::a41::a42::a43::a44::a45::a46::a47::l).set (n+48) v=a0::a1::a2::a3::a4::a5::a6::a7::a8::a9::a10::a11::a12::a13::a14::a15::a16::a17::a18::a19::a20::a21::a22::a23::a24::a25::a26::a27::a28::a29::a30::a31::a32::a33::a34::a35::a36::a37::a38::a39::a40::a41::a42::a43::a44::a45::a46::a47::l.set n v:=rfl
theorem jY {α:Type} (a0 a1 a2 a3 a4 a5 a6 a7:α) (l:List α) (n:Nat) (v:α): (a0::a1::a2::a3::a4::a5::a6::a7::l).set (n+8) v=a0::a1::a2::a3::a4::a5::a6::a7::l.set n v:=rfl
theorem isRowF {L:List FF} {F:Files} (h:IsRow L F) (nm b:List UInt8):IsRow (putP L nm b) (setF F nm (some b)):=by
 have:=h.put nm b
 have e:setF F nm (some b)=λx=>if x=nm then some b else F x:=by
  funext x
  by_cases hx:x=nm
  ·rw[hx,setF_same,if_pos rfl]
  ·rw[setF_other _ hx,if_neg hx]
 rw[e];exact this
theorem put_len (l:List FF) (nm b:List UInt8): (putP l nm b).length<=l.length+1:=by
 have h:∀(l:List FF) (s:List FF×Bool),(l.foldl (stepP nm b) s).1.length+(if(l.foldl (stepP nm b) s).2 then 0 else 1)<=s.1.length+(if s.2 then 0 else 1)+l.length:=by
  intro l
  induction l with
  |nil=>intro s;exact Nat.le_refl _
  |cons x r ih=>
   intro s;have h1:=ih (stepP nm b s x)
   have h2: (stepP nm b s x).1.length+(if(stepP nm b s x).2 then 0 else 1)<=s.1.length+(if s.2 then 0 else 1)+1:=by
    unfold stepP
    split
    ·omega
    ·split
     ·rename_i h3 h4
      rw[h4.1]
      simp
     ·dsimp only;rw[jL,List.length_singleton]
      omega
   rw[List.foldl_cons,List.length_cons]
   omega
 have hh:=h l ([],false)
 simp at hh
 unfold RefF.putP foldP
 split
 ·omega
 ·rename_i hd
  rw[if_neg hd]at hh;rw[jL,List.length_singleton]
  omega
theorem write_counts {F:Files} {S:Rows} {n j i:Nat} {b:List UInt8} (hf:Fls F S n) (hn:n<=4096) (hj:j<n) (hok:∀k,k<n->∀x∈S k,ok x) (hl:∀k,k<n->(S k).length<=30000) (ht:many S n<=20*i) (hb:b.length<=300) (hg:AllGood (setF F (pname j) (some b)) n):many (rdF (setF F (pname j) (some b))) n<=20*(i+1):=by
 obtain⟨l,hlb⟩:∃l,rdS b=some l:=by
  cases hr:rdS b with
  |none=>exact absurd hr (hg j b hj (setF_same _ _ _))
  |some l=>exact⟨l,rfl⟩
 have h1:=(rdS_file hlb).2.2.2
 have hsame:∀k,k<n->rdF (setF F (pname j) (some b)) k=upd S j l k:=λk hk=>by
  by_cases e:k=j
  ·subst e;unfold rdF;rw[setF_same,upd_same];show(rdS b).getD []=l;rw[hlb]
   rfl
  ·rw[upd_other _ e,<-rdF_fls hf hok hl k hk];unfold rdF;rw[setF_other _ (λe2=>e (pname_one (by omega) (by omega) e2))]
 rw[many_same n hsame];have:=many_upd S j l n hj
 omega
theorem does_write (h:PPlay B p o i w Y) (h6:i<=60) (sh kn:Int) (xa xb xc xd xe xf xg:Nat) (ab:Option Addr) (bn bc:Nat) (j:Nat) (hj:j<Y.n) (hsh:sh=(j:Int)) (bs:List UInt8) (hbn:bn=bs.length) (hbs:∀V,Below B w V->Lies V ab (bs.map bv)) (hbl:bs.length<=300):
  Calls Tryz.prog 8 #[.pointer (some ⟨p,0,none⟩),.agg #[.int .i64 6,.int .i64 sh,.int .i64 kn,.int .u32 (xa:Int),.int .u32 (xb:Int),.int .u32 (xc:Int),.int .u32 (xd:Int),.int .u32 (xe:Int),.int .u32 (xf:Int),.int .u32 (xg:Int),.slice ab bn bc]] w (PDone B p o i Y w):=by
 have hth: (decide (0<=sh)&&decide (sh<(Y.n:Int)))=true:=by rw[hsh];simp;omega
 have HSH:=jq hsh;clear hsh;have HBN:=jq hbn;have HBS:=jq hbs;have HBL:=jq hbl;clear hbn hbs hbl;obtain⟨s,d,pp,sm,hm,n,room,ct,Qs,hv,S,Hd,⟨rm,sa,sc,fs,ha,hc,fh⟩,Sr,Hr,H,L,an,nc⟩:=Y;obtain⟨W1,hW1⟩:=jl (w.alloc (.cells #[.int .i64 6,.int .i64 sh,.int .i64 kn,.int .u32 (xa:Int),.int .u32 (xb:Int),.int .u32 (xc:Int),.int .u32 (xd:Int),.int .u32 (xe:Int),.int .u32 (xf:Int),.int .u32 (xg:Int),.slice ab bn bc] 29));obtain⟨rb,hrb⟩:=jl w.heap.size;have hB1:Below w.heap.size w W1:=by rw[hW1];exact(Below.refl _ w).alloc jn _
 have hbr:Blk W1 rb 29 #[.int .i64 6,.int .i64 sh,.int .i64 kn,.int .u32 (xa:Int),.int .u32 (xb:Int),.int .u32 (xc:Int),.int .u32 (xd:Int),.int .u32 (xe:Int),.int .u32 (xf:Int),.int .u32 (xg:Int),.slice ab bn bc]:=by rw[hW1,hrb];exact Blk.new w _ _
 have hbp:Blk W1 p 46 #[.pointer (some ⟨d,0,none⟩),.pointer (some ⟨s,0,none⟩),.pointer (some ⟨pp,0,none⟩),.int .i64 (rm:Int),.slice sa n sc,.slice ha n hc,.slice an L.length nc]:=(h.later hB1).mid.blk;have HC:Hid (∀w',Below W1.heap.size W1 w'->w'.cell? ⟨p,3,none⟩=some (.int .i64 (rm:Int))/\w'.cell? ⟨p,4,none⟩=some (.slice sa n sc)/\w'.cell? ⟨p,5,none⟩=some (.slice ha n hc)/\w'.cell? ⟨rb,1,none⟩=some (.int .i64 sh)):=jq (λV hV=>⟨(hbp.below hV hbp.lt).cell 3,(hbp.below hV hbp.lt).cell 4,(hbp.below hV hbp.lt).cell 5,(hbr.below hV hbr.lt).cell 1⟩);have hpl:p<w.heap.size:=h.mid.blk.lt;have hrp:rb≠p:=by omega
 have HBP:=jq hbp;have HBR:=jq hbr;have HB1:=jq hB1;have HRB:=jq hrb;have H0:=jq h;have hS0:=HC.out W1.drew (Below.refl _ W1).drew;clear h hB1 hbr hbp
 go_enter Tryz.func8,Tryz.ntmps8
 go_wp2_with fail
 rw[<-hW1,<-hrb];clear hW1 hrb
 go_region_held3 (λw'=>w'.cell? ⟨p,3,none⟩=some (.int .i64 (rm:Int))/\w'.cell? ⟨p,4,none⟩=some (.slice sa n sc)/\w'.cell? ⟨p,5,none⟩=some (.slice ha n hc)/\w'.cell? ⟨rb,1,none⟩=some (.int .i64 sh)) (first|with_reducible exact hS0|with_reducible exact hS1) (first|(go_at_call 27;refine(there24_any (x:=⟨rm,sa,sc,fs,ha,hc,fh⟩) (n:=n) sh _).mono ?_;rintro e w2 ⟨rfl,hB2⟩;rw[hth];have HB2:Hid (Below W1.heap.size W1 w2):=jq (((Below.refl _ W1).drew).trans hB2);clear hB2;have hS1:=HC.out w2 HB2.out;dsimp only))
 rename_i hHeld
 clear hHeld hS0 hS1;have hbr2:=HBR.out.below HB2.out HBR.out.lt;have hbp2:=HBP.out.below HB2.out HBP.out.lt;have r0:=hbr2.cell 0;simp only[jt,ja]at r0;have hB02:Below w.heap.size w w2:=HB1.out.trans (HB2.out.mono HB1.out.size);have HB02:=jq hB02;have HBR2:=jq hbr2;have HBP2:=jq hbp2;have H2:=jq (H0.out.later hB02);have hrl:rb<w2.heap.size:=hbr2.lt;clear HC HB1 HBP HBR hB02 hbr2 hbp2
 try dsimp only at hj
 obtain⟨F,jj,hat,hfl,hjj,hn4,hokS⟩:=H2.out.mid.files;obtain⟨sn,hsn⟩:∃x:ByteArray,nv (pname j)=.string x:=⟨_,rfl⟩;obtain⟨sb,hsb⟩:∃x:ByteArray,nv bs=.string x:=⟨_,rfl⟩
 have HNM:Hid (∀V,Calls Tryz.prog 25 #[.int .i64 sh] V λe w'=>e=.returned (.string sn)/\Hid (Below V.heap.size V w')):=jq (λV=>by
  rw[HSH.out];refine(name24_any j (Nat.lt_of_lt_of_le hj hn4) V).mono ?_;rintro e w' ⟨rfl,h1⟩;exact⟨by rw[hsn],jq h1⟩)
 have hZ0:=H0.out.mid.low.2.1
 have HWR:Hid (∀V,Below w2.heap.size w2 V->Calls Tryz.prog 37 #[.pointer (some ⟨s,0,none⟩),.string sn,.slice ab bn bc] V λe w3=>e=.returned (.int .i64 0)/\Hid (∃Q',(stoX B s d 400 o H).At w3 Q' false (setF F (pname j) (some bs)) (jj+1)/\(∀k,Q' k->Qs k\/w2.heap.size<=k)/\Upon Qs w2 w3)):=jq (λV hV=>by
  have hc:=H2.out.ct;dsimp only at hc hjj;have hL:=HBS.out V ((HB02.out.mono hZ0).trans (hV.mono (Nat.le_trans hZ0 HB02.out.size)));have hpl:=pname_len j;have:=(stoX B s d 400 o H).write ((stoX B s d 400 o H).later hat hV) (by omega) (pname j) (by omega) (by omega) ab bc bs hL (by have:=HBL.out;omega);rw[hsn,<-HBN.out]at this;refine this.mono ?_;rintro e w3 ⟨rfl,Q',a,b,c⟩;exact⟨rfl,jq ⟨Q',a,λk hk=>(b k hk).imp id (λh=>Nat.le_trans hV.size h),(Upon.of_below hV).trans c (λq hq=>.inl hq)⟩⟩)
 have HCW:Hid (∀w',Below w2.heap.size w2 w'->w'.cell? ⟨p,1,none⟩=some (.pointer (some ⟨s,0,none⟩))/\w'.cell? ⟨rb,1,none⟩=some (.int .i64 sh)/\w'.cell? ⟨rb,10,none⟩=some (.slice ab bn bc)):=jq (λV hV=>⟨(HBP2.out.below hV HBP2.out.lt).cell 1,(HBR2.out.below hV HBR2.out.lt).cell 1,(HBR2.out.below hV HBR2.out.lt).cell 10⟩);have HFL:=jq (And.intro hfl (And.intro hn4 hokS));have HSN:=jq hsn;have HSB:=jq hsb;have hS0:=HCW.out w2.drew (Below.refl _ _).drew;have HJJ:Hid (jj<=ct):=jq hjj;clear hat hfl hn4 hokS hsn hsb hjj
 go_wp2_with fail
 go_region_held3 (λw'=>w'.cell? ⟨p,1,none⟩=some (.pointer (some ⟨s,0,none⟩))/\w'.cell? ⟨rb,1,none⟩=some (.int .i64 sh)/\w'.cell? ⟨rb,10,none⟩=some (.slice ab bn bc)) (first|with_reducible exact hS0|with_reducible exact hS1|with_reducible exact hS2) (first|(go_at_call 25;refine(HNM.out _).mono ?_;rintro e w21 ⟨rfl,HB21⟩;have hB21:Below w2.heap.size w2 w21:=(Below.refl _ w2).drew.trans HB21.out;have hS1:=HCW.out w21 hB21;dsimp only)|(go_at_call 37;refine(HWR.out _ hB21).mono ?_;rintro e w3 ⟨rfl,HW⟩;have hu3:Upon Qs w2 w3:=(by obtain⟨_,_,_,hu⟩:=HW.out;exact hu);have hbp3:Blk w3 p 46 #[.pointer (some ⟨d,0,none⟩),.pointer (some ⟨s,0,none⟩),.pointer (some ⟨pp,0,none⟩),.int .i64 (rm:Int),.slice sa n sc,.slice ha n hc,.slice an L.length nc]:=HBP2.out.upon hu3 (λhq=>H2.out.mid.pD (.inl hq));have hbr3:Blk w3 rb 29 #[.int .i64 6,.int .i64 sh,.int .i64 kn,.int .u32 (xa:Int),.int .u32 (xb:Int),.int .u32 (xc:Int),.int .u32 (xd:Int),.int .u32 (xe:Int),.int .u32 (xf:Int),.int .u32 (xg:Int),.slice ab bn bc]:=HBR2.out.upon hu3 (λhq=>Nat.lt_irrefl rb (by have:=H0.out.mid.live.lt rb (.inl hq);have:=HRB.out;omega));have hS2:w3.cell? ⟨p,1,none⟩=some (.pointer (some ⟨s,0,none⟩))/\w3.cell? ⟨rb,1,none⟩=some (.int .i64 sh)/\w3.cell? ⟨rb,10,none⟩=some (.slice ab bn bc):=⟨hbp3.cell 1,hbr3.cell 1,hbr3.cell 10⟩;dsimp only))
 rename_i hHeld
 clear hHeld hS0 hS1 hS2;have hz23:=hu3.size
 have hB03:Below B w w3:=(HB02.out.mono hZ0).trans (below_of hu3 (λk hk=>H2.out.mid.base k (.inl hk)) H2.out.mid.low.2.1 (by
  obtain⟨Q',ha,_,_⟩:=HW.out;rw[(stoX_base ha).2.2.2.2,H2.out.mid.low.2.2]))
 have HS:Hid (∀w',Upon (λq=>q=p) w3 w'->w'.cell? ⟨rb,1,none⟩=some (.int .i64 sh)/\w'.cell? ⟨rb,10,none⟩=some (.slice ab bn bc)/\(convert 27 9 (.slice ab bn bc)).run Tryz.prog w'=.ok (.string sb) w'):=jq (λV hV=>by
  have hb:=hbr3.upon hV hrp;refine⟨hb.cell 1,hb.cell 10,?_⟩;have hL:=HBS.out V (hB03.trans (hV.below (Nat.le_trans hZ0 (by have:=HB02.out.size;omega)) (λq hq=>by rw[hq];exact H0.out.mid.pB)));have:=conv_any (vc:=bc) hL;rw[<-HBN.out,HSB.out]at this;exact this)
 have hrp3:PIn w3 ⟨rm,sa,sc,fs,ha,hc,fh⟩ n Sr Hr:=H2.out.mid.ref.upon hu3 (λk hk hq=>(H2.out.mid.refB k hk).2.1 (.inl hq))
 have HFI:Hid (∀V,Below w3.heap.size w3 V->Calls Tryz.prog 14 #[.agg #[.int .i64 (rm:Int),.slice sa n sc,.slice ha n hc]] V λe w4=>∃(va:Option Addr) (vc:Nat) (L':List FF),e=.returned (.slice va L'.length vc)/\Hid (Lies w4 va (flatP L'))/\Hid (IsRow L' F)/\Hid (L'.length<=n)/\Hid (Below w3.heap.size w3 w4)):=jq (λV hV=>by
  obtain⟨l1,l2,l3⟩:=H2.out.len h6;have hrr:=H2.out.rows;dsimp only at hrr l1 l2 l3;obtain⟨rfl,rfl⟩:=hrr;refine(files24_any (x:=⟨rm,sa,sc,fs,ha,hc,fh⟩) (hrp3.later hV) H2.out.nr.1 (λk hk=>by have:=l1 k hk;omega)).mono ?_;rintro e w4 ⟨v,L',rfl,h1,h2,h3,h4⟩;obtain⟨va,vc,rfl,_,h5,h6,_⟩:=own_shape h1;rw[flk_eq HFL.out.1 H2.out.nr.1]at h2;exact⟨va,vc,L',rfl,jq h5,jq h2,jq h3,jq (hV.trans (h4.mono hV.size))⟩)
 have HPU:Hid (∀V va vc L',Lies V va (flatP L')->L'.length<=n->Calls Tryz.prog 38 #[.slice va L'.length vc,.string sn,.string sb] V λe w'=>∃(a:Option Addr) (c:Nat) (L2:List FF),e=.returned (.slice a L2.length c)/\Hid (L2=putP L' (pname j) bs)/\Hid (Lies w' a (flatP L2))/\Hid (Below V.heap.size V w')):=jq (λV va vc L' hL hl=>by
  have hn:=H2.out.nr.1;dsimp only at hn;have:=RefF.put_any va vc L' (pname j) bs V hL (by omega);rw[HSN.out,HSB.out]at this;refine this.mono ?_;rintro e w' ⟨v,rfl,h1,h2⟩;obtain⟨a,c,rfl,_,h5,_,_⟩:=own_shape h1;exact⟨a,c,_,rfl,jq rfl,jq h5,jq h2⟩)
 have HAN:Hid (∀V,Below w3.heap.size w3 V->∀a c (L2:List FF),Lies V a (flatP L2)->IsRow L2 (setF F (pname j) (some bs))->L2.length<=100000->Calls Tryz.prog 36 #[.pointer (some ⟨p,0,none⟩),.slice a L2.length c] V λe w'=>∃bg,e=.returned (.tuple #[.bool true,.bool bg])/\Hid (PDone B p o i ⟨s,d,pp,sm,hm,n,room,ct,Qs,hv,S,Hd,⟨rm,sa,sc,fs,ha,hc,fh⟩,Sr,Hr,H,L,an,nc⟩ w e w')/\Hid (Upon (λq=>q=p) w3 w')):=jq (λV hV a c L2 hL hr hl=>by
  obtain⟨Q',ha,hq,hu⟩:=HW.out;have hpQ:¬Q' p:=λhk=>(hq p hk).elim (λh=>H2.out.mid.pD (.inl h)) (λh=>by have:=H2.out.mid.blk.lt;omega)
  have haV:=(stoX B s d 400 o H).later ha hV;have hrm:rm=room:=H2.out.mid.rm;have hbV:=hbp3.below hV hbp3.lt;rw[hrm]at hbV;refine(anew_any haV hbV hpQ hL hr hl H2.out.nr.1 H2.out.nr.2.1 H2.out.nr.2.2 (λnm hn=>?_)).mono ?_
  ·by_cases e:nm=pname j
   ·exact⟨j,hj,e⟩
   ·rw[setF_other _ e]at hn;exact HFL.out.1.1 nm hn
  ·intro e w' hA;obtain⟨bg,rfl⟩:=anew_val hA;have hu2:Upon (λk=>Qs k\/k=p) w2 V:=(hu.mono (λk hk=>.inl hk)).trans (Upon.of_below hV) (λq hq=>hq);have hct:=H2.out.ct;obtain⟨_,_,l3⟩:=H2.out.len h6;have htot:=H2.out.tot;dsimp only at hct htot;have hj1:jj<=ct:=HJJ.out;exact⟨bg,rfl,jq ((H2.out.anewed hq hu2 (stoX_base haV).2.2.2.2 (λhg=>write_counts (S:=S) (i:=i) HFL.out.1 H2.out.nr.1 hj HFL.out.2.2 (λk hk=>by have:=(H2.out.len h6).1 k hk;dsimp only at this;omega) (by show many S n<=_;omega) HBL.out hg) (by omega) hA).from (HB02.out.mono hZ0)),jq ((Upon.of_below hV).trans (anew_upon hA) (λq hq=>.inl hq))⟩)
 have HB23:=jq hz23;have p3:=hbp3.cell 3;have p4:=hbp3.cell 4;have p5:=hbp3.cell 5;simp only[jt,ja,jb]at p3 p4 p5;have hS3:=HS.out w3.drew (Upon.refl _ w3).drew;clear hbp3 hbr3 hu3 hB03 hrp3 hz23
 go_wp2_with fail
 refine wp_region_noPanic ?_;refine wp_region_held_drew (S:=λw'=>w'.cell? ⟨rb,1,none⟩=some (.int .i64 sh)/\w'.cell? ⟨rb,10,none⟩=some (.slice ab bn bc)/\(convert 27 9 (.slice ab bn bc)).run Tryz.prog w'=.ok (.string sb) w') (by kernel_rfl) hS3 (λhHeld=>?_);refine' Tk.tk1 0 ?_
 try(simp only[Act.put,ji];(try simp only[jX]);(try simp only[jY]);try simp only[js,ju])
 refine' Tk.tk1 1 ?_
 try(simp only[Act.put,ji];(try simp only[jX]);(try simp only[jY]);try simp only[js,ju])
 refine' Tk.tk1 2 ?_
 try(simp only[Act.put,ji];(try simp only[jX]);(try simp only[jY]);try simp only[js,ju])
 refine' Tk.tk1 3 ?_
 try(simp only[Act.put,ji];(try simp only[jX]);(try simp only[jY]);try simp only[js,ju])
 refine' Tk.tk1 6 ?_
 try(simp only[Act.put,ji];(try simp only[jX]);(try simp only[jY]);try simp only[js])
 refine' Tk.tk1 7 ?_
 try(simp only[Act.put,ji];(try simp only[jX]);(try simp only[jY]);try simp only[js,ju])
 refine' Tk.tk1 9 ?_
 try(simp only[Act.put,ji];(try simp only[jX]);(try simp only[jY]);try simp only[js,ju])
 refine' Tk.tk1 10 ?_
 try(simp only[Act.put,ji];(try simp only[jX]);(try simp only[jY]);try simp only[js,ju])
 refine' Tk.tk1 11 ?_
 try(simp only[Act.put,ji];(try simp only[jX]);(try simp only[jY]);try simp only[js,ju])
 refine wpAnyH_ready (rs:=[4]) (by kernel_rfl) (by simp) ?_;refine AllReadyH.cons (by(simp only[jt,jb,ja];rfl)) (λK hK=>?_) AllReadyH.nil;go_simp;refine hK.out _ _ ?_ (λhHeld=>?_)
 ·exact hS3
 clear hK K
 try(simp only[Act.put,ji];(try simp only[jX]);(try simp only[jY]);try simp only[js,ju])
 refine wpAnyH_ready (rs:=[5]) (by kernel_rfl) (by simp) ?_;refine AllReadyH.cons (by(simp only[jt,jb,ja];rfl)) (λK hK=>?_) AllReadyH.nil;go_simp
 go_at_call 14
 refine(HFI.out _ ((Below.refl _ w3).drew)).mono ?_;rintro e w4 ⟨va,vc,L',rfl,HL4,HR4,HLN,HB4⟩;have hS4:=HS.out w4 (Upon.of_below HB4.out);dsimp only;refine hK.out _ _ ?_ (λhHeld=>?_)
 ·exact hS4
 clear hK K
 try(simp only[Act.put,ji];(try simp only[jX]);(try simp only[jY]);try simp only[js,ju])
 refine wpAnyH_ready (rs:=[8]) (by kernel_rfl) (by simp) ?_;refine AllReadyH.cons (by(simp only[jt,jb,ja];rfl)) (λK hK=>?_) AllReadyH.nil;go_simp
 go_at_call 25
 refine(HNM.out _).mono ?_;rintro e w5 ⟨rfl,HB5⟩;have hB35:Below w3.heap.size w3 w5:=HB4.out.trans (HB5.out.mono HB4.out.size);have hS5:=HS.out w5 (Upon.of_below hB35);dsimp only;refine hK.out _ _ ?_ (λhHeld=>?_)
 ·exact hS5
 clear hK K
 try(simp only[Act.put,ji];(try simp only[jX]);(try simp only[jY]);try simp only[js,ju])
 refine wpAnyH_ready (rs:=[12]) (by kernel_rfl) (by simp) ?_;refine AllReadyH.cons (by(simp only[jt,jb,ja];rfl)) (λK hK=>?_) AllReadyH.nil;go_simp
 go_at_call 38
 refine(HPU.out _ va vc L' (HL4.out.later HB5.out) HLN.out).mono ?_;rintro e w6 ⟨a6,c6,L2,rfl,HE6,HL6,HB6⟩;have hB36:Below w3.heap.size w3 w6:=hB35.trans (HB6.out.mono hB35.size);have hS6:=HS.out w6 (Upon.of_below hB36);dsimp only;refine hK.out _ _ ?_ (λhHeld=>?_)
 ·exact hS6
 clear hK K
 try(simp only[Act.put,ji];(try simp only[jX]);(try simp only[jY]);try simp only[js,ju])
 refine wpAnyH_ready (rs:=[13]) (by kernel_rfl) (by simp) ?_;refine AllReadyH.cons (by(simp only[jt,jb,ja];rfl)) (λK hK=>?_) AllReadyH.nil;go_simp
 go_at_call 36
 refine(HAN.out _ hB36 a6 c6 L2 HL6.out (by rw[HE6.out];exact isRowF HR4.out _ _) (by rw[HE6.out];have:=put_len L' (pname j) bs;have:=HLN.out;have:=H2.out.nr.1;dsimp only at this;omega)).mono ?_;rintro e w7 ⟨bg,rfl,HPD,HU7⟩;have hS7:=HS.out w7 HU7.out;dsimp only;refine hK.out _ _ ?_ (λhHeld=>?_)
 ·exact hS7
 clear hK K
 try(simp only[Act.put,ji];(try simp only[jX]);(try simp only[jY]);try simp only[js,ju])
 refine' Tk.tk1 14 ?_
 try(simp only[Act.put,ji];(try simp only[jX]);(try simp only[jY]);try simp only[js])
 refine' Tk.tk1 15 ?_
 try(simp only[Act.put,ji];(try simp only[jX]);(try simp only[jY]);try simp only[js,ju])
 refine' Tk.tk1 16 ?_
 try(simp only[Act.put,ji];(try simp only[jX]);(try simp only[jY]);try simp only[js,ju])
 refine' Tk.tk1 17 ?_
 try(simp only[Act.put,ji];(try simp only[jX]);(try simp only[jY]);try simp only[js,ju])
 refine wpAnyH_done (by kernel_rfl) ?_ _;refine NoPanic.normal ?_;clear hHeld
 go_wp2_with fail
 go_ret2
 exact HPD.out
end Pool
namespace Pool
open Go.RowKit Go.Deep Mem Crc Walk Full RefF
open Store (Sto Files setF setF_same setF_other nv)
structure AR where
 kd:Int
 sh:Int
 kn:Int
 x:List Nat
 ab:Option Addr
 bs:List UInt8
 bc:Nat
def AR.vs (a:AR):List Value:=[.int .i64 a.kd,.int .i64 a.sh,.int .i64 a.kn]++vals a.x++ [.slice a.ab a.bs.length a.bc]
structure ActIn (w:World) (a:AR):Prop where
 x:ok a.x
 row:Lies w a.ab (a.bs.map bv)
 kn:a.kn<=9223372036854775807
variable {B p i:Nat} {o:Option Obj} {w w0 w':World} {Y:PY}
theorem does_any (h:PPlay B p o i w Y) (h6:i<=60) (h0:Below w0.heap.size w0 w) (hB0:w0.heap.size<=B) {a:AR} (ha:ActIn w0 a) (hb:a.bs.length<=300):
  Calls Tryz.prog 8 #[.pointer (some ⟨p,0,none⟩),.agg a.vs.toArray] w (PDone B p o i Y w):=by
 obtain⟨kd,sh,kn,x,ab,bs,bc⟩:=a;obtain⟨hx,hrow,hkn⟩:=ha;dsimp only at hx hrow hkn hb;have hx':=hx;obtain⟨xa,xb,xc,xd,xe,xf,xg,rfl⟩:=ok_seven hx;unfold AR.vs
 by_cases hs:0<=sh/\sh<(Y.n:Int)
 ·obtain⟨j,rfl⟩:∃j:Nat,sh=(j:Int):=⟨sh.toNat,by omega⟩;have hj:j<Y.n:=by omega
  by_cases k0:kd=0
  ·subst k0;exact(does_put h h6 _ kn _ _ _ _ _ _ _ ab bs.length bc j hj rfl hx').mono (λe w' hr=>.inl hr)
  by_cases k1:kd=1
  ·subst k1
   by_cases hn:kn<0
   ·exact(does_takeneg h h6 _ kn _ _ _ _ _ _ _ ab bs.length bc j hj rfl hn).mono (λe w' hr=>.inl hr)
   ·obtain⟨m,rfl⟩:∃m:Nat,kn=(m:Int):=⟨kn.toNat,by omega⟩;exact(does_take h h6 _ _ _ _ _ _ _ _ _ ab bs.length bc j hj rfl m rfl (by omega)).mono (λe w' hr=>.inl hr)
  by_cases k2:kd=2
  ·subst k2;exact(does_spill h h6 _ kn _ _ _ _ _ _ _ ab bs.length bc j hj rfl).mono (λe w' hr=>.inl hr)
  by_cases k3:kd=3
  ·subst k3;exact(does_save h h6 _ kn _ _ _ _ _ _ _ ab bs.length bc).mono (λe w' hr=>.inl hr)
  by_cases k4:kd=4
  ·subst k4;exact does_commit h h6 _ kn _ _ _ _ _ _ _ ab bs.length bc
  by_cases k5:kd=5
  ·subst k5;exact does_open h h6 _ kn _ _ _ _ _ _ _ ab bs.length bc
  by_cases k6:kd=6
  ·subst k6;exact does_write h h6 _ kn _ _ _ _ _ _ _ ab bs.length bc j hj rfl bs rfl (λV hV=>hrow.later (h0.trans (hV.mono hB0))) hb
  exact(does_wait h h6 kn _ _ _ _ _ _ _ ab bs.length bc j hj kd (by simpa using k0) (by simpa using k1) (by simpa using k2) (by simpa using k3) (by simpa using k4) (by simpa using k5) (by simpa using k6)).mono (λe w' hr=>.inl hr)
 ·by_cases k0:kd=0
  ·subst k0;exact(does_putbad h h6 sh kn _ _ _ _ _ _ _ ab bs.length bc hs hx').mono (λe w' hr=>.inl hr)
  by_cases k1:kd=1
  ·subst k1;exact(does_takebad h h6 sh kn _ _ _ _ _ _ _ ab bs.length bc hs).mono (λe w' hr=>.inl hr)
  by_cases k2:kd=2
  ·subst k2;exact(does_spillbad h h6 sh kn _ _ _ _ _ _ _ ab bs.length bc hs).mono (λe w' hr=>.inl hr)
  by_cases k3:kd=3
  ·subst k3;exact(does_save h h6 sh kn _ _ _ _ _ _ _ ab bs.length bc).mono (λe w' hr=>.inl hr)
  by_cases k4:kd=4
  ·subst k4;exact does_commit h h6 sh kn _ _ _ _ _ _ _ ab bs.length bc
  by_cases k5:kd=5
  ·subst k5;exact does_open h h6 sh kn _ _ _ _ _ _ _ ab bs.length bc
  by_cases k6:kd=6
  ·subst k6;exact(does_writebad h h6 sh kn _ _ _ _ _ _ _ ab bs.length bc hs).mono (λe w' hr=>.inl hr)
  exact(does_waitbad h h6 sh kn _ _ _ _ _ _ _ ab bs.length bc hs kd (by simpa using k0) (by simpa using k1) (by simpa using k2) (by simpa using k3) (by simpa using k4) (by simpa using k5) (by simpa using k6)).mono (λe w' hr=>.inl hr)
end Pool
namespace Pool
open Go.RowKit Go.Deep Mem Crc Walk Full RefF
open Store (Sto Files setF setF_same setF_other nv)
open Ext (Tab)
def flatA (l:List AR):List Value:=l.flatMap AR.vs
theorem vs_len {a:AR} (h:ok a.x):a.vs.length=11:=by
 obtain⟨kd,sh,kn,x,ab,bs,bc⟩:=a;obtain⟨xa,xb,xc,xd,xe,xf,xg,rfl⟩:=ok_seven h
 rfl
theorem flatA_at:∀{l:List AR},(∀x∈l,ok x.x)->∀{k:Nat} {x:AR},l[k]? =some x->∀{j:Nat} {u:Value},x.vs[j]? =some u->(flatA l)[k*11+j]? =some u
 | [],_,k,x,hx,_,_,_=>by simp at hx
 |y ::r,h,0,x,hx,j,u,hu=>by
  simp at hx
  subst hx;unfold flatA;rw[jC,List.getElem?_append_left (by have:=(jS.1 hu).1;omega)]
  simpa using hu
 |y ::r,h,k+1,x,hx,j,u,hu=>by
  have:=flatA_at (l:=r) (λz hz=>h z (List.mem_cons_of_mem _ hz)) (k:=k) (x:=x) (by simpa using hx) hu;have e:y.vs.length=11:=vs_len (h y List.mem_cons_self);unfold flatA at this⊢;rw[jC,List.getElem?_append_right (by rw[e];omega),<-this]
  congr 1
  rw[e]
  omega
structure ActsIn (w:World) (a:Option Addr) (l:List AR):Prop where
 row:Lies w a (flatA l)
 acts:∀x∈l,ActIn w x
theorem ActsIn.cells {w w':World} {a:Option Addr} {l:List AR} (h:ActsIn w a l) (hB:Below w.heap.size w w') {k:Nat} {x:AR} (hx:l[k]? =some x):∃g o,a=some ⟨g,o,none⟩/\∀j u,x.vs[j]? =some u->w'.cell? ⟨g,o+k*11+j,none⟩=some u:=by
 have hok:∀x∈l,ok x.x:=λx hx=>(h.acts x hx).x
 have hr:=h.row.later hB;have h0:=flatA_at hok hx (j:=0) (u:=.int .i64 x.kd) rfl;obtain⟨g,o,rfl,_,hc⟩:=hr.resolve_left (λe=>by rw[e]at h0;simp at h0);refine⟨g,o,rfl,λj u hu=>?_⟩;have:=hc _ _ (flatA_at hok hx hu)
 rwa [<-Nat.add_assoc]at this
variable {p:Nat} {w:World}
theorem play_new {B s d pp sm hm n room:Nat} {o:Option Obj} {Q:Nat->Prop} {x:PX} (h:Pl ⟨pp,s,stoX B s d 400 o noF,sm,hm,n,room⟩ 20000 w Q (λ_=>none) no no) (hn:n<=4096) (hr1:1<=room) (hr2:room<=65536) (hb:∀k,allQ ⟨pp,s,stoX B s d 400 o noF,sm,hm,n,room⟩ Q (λ_=>none) k->(B<=k\/k=0)/\k≠p) (hx:x.rm=room) (hr:PIn w x n no no) (hrb:∀q,PB x n q->B<=q/\¬allQ ⟨pp,s,stoX B s d 400 o noF,sm,hm,n,room⟩ Q (λ_=>none) q/\q≠p)
  (hp:Blk w p 46 #[.pointer (some ⟨d,0,none⟩),.pointer (some ⟨s,0,none⟩),.pointer (some ⟨pp,0,none⟩),.int .i64 (x.rm:Int),.slice x.sa n x.sc,.slice x.ha n x.hc,.slice none 0 0]) (hpB:B<=p):
  PPlay B p o 0 w ⟨s,d,pp,sm,hm,n,room,20000,Q,λ_=>none,no,no,x,no,no,noF,[],none,0⟩:=
 ⟨⟨h,λk hk=>(hb k hk).1,hp,λhk=>(hb p hk).2 rfl,hpB,hx,hr,hrb,.inl rfl,(λq hq=>by cases hq),⟨.nil,λnm b=>by simp[noF]⟩,pl_low h⟩,⟨rfl,rfl⟩,Nat.le_refl _,⟨hn,hr1,hr2⟩,by show many no n<=room/\many no n<=0;rw[many_no];exact⟨Nat.zero_le _,Nat.le_refl _⟩,by show many no n+many no n<=_;rw[many_no];exact Nat.le_refl _,⟨(λj b _ hb=>by cases hb),λnm hn=>absurd rfl hn⟩,by show many (rdF noF) n<=_;rw[rdF_no,many_no];exact Nat.zero_le _,Nat.zero_le _⟩
attribute [local go_sem] Oper.semAt_some
theorem plays_law (sh rm:Int) (a:Option Addr) (c:Nat) (l:List AR) (w:World) (h:ActsIn w a l) (hT:Tab w):
  Calls Tryz.prog 3 #[.int .i64 sh,.int .i64 rm,.slice a l.length c] w λe w'=>e=.returned (.bool true)/\Below w.heap.size w w':=by
 have HAW:Hid (∀V,Calls Tryz.prog 4 #[] V λe w'=>e=.returned (.bool true)/\Below V.heap.size V w'):=jq awake_any;obtain⟨n,hn⟩:=jl l.length;have H:=jq h;have HT:=jq hT;rw[<-hn];have HN:=jq hn;clear h hT hn
 by_cases hbig:60<n
 ·have hd:decide (60<n)=true:=jd hbig
  go_enter Tryz.func3,Tryz.ntmps3
  go_wp2_with fail
  refine(HAW.out _).mono ?_;rintro e w2 ⟨rfl,hB⟩;have HB:=jq hB;clear hB
  go_wp2_with fail
  go_ret
  exact⟨rfl,HB.out⟩
 ·have hd:decide (60<n)=false:=jf hbig;have hn60:n<=60:=by omega
  clear hbig
  go_enter Tryz.func3,Tryz.ntmps3
  go_wp2_with fail
  go_loopw[7] (λu wr=>∃k:Nat,k<=n/\u=.int .i64 (k:Int)/\wr=w/\Hid (∀x∈l.take k,x.bs.length<=300)) (λu _=>n-(intOf u).toNat)
  case atStart=>exact⟨0,Nat.zero_le _,rfl,rfl,jq (λx hx=>by simp at hx)⟩
  case round=>
   obtain⟨k,hk,rfl,hwr,HF⟩:=hrel;have hwr:=hwr.symm;subst hwr
   by_cases hlt:k<n
   ·have hkd:decide (k<n)=true:=jd hlt;obtain⟨x,hx⟩:∃x,l[k]? =some x:=⟨l[k]'(by rw[<-HN.out];exact hlt),jg _⟩;have htk:l.take (k+1)=l.take k++ [x]:=by rw[List.take_add_one,hx];rfl
    obtain⟨gl,ol,rfl,hc⟩:=H.out.cells (Below.refl _ _) hx;have hxo:=(H.out.acts x (jM hx)).x
    have c10:w.cell? ⟨gl,ol+k*11+10,none⟩=some (.slice x.ab x.bs.length x.bc):=by
     refine hc 10 _ ?_;obtain⟨kd,sh',kn,xx,ab,bs,bc⟩:=x;obtain⟨xa,xb,xc,xd,xe,xf,xg,rfl⟩:=ok_seven hxo
     rfl
    obtain⟨bn,hbn⟩:=jl x.bs.length;obtain⟨xab,hxab⟩:=jl x.ab;obtain⟨xbc,hxbc⟩:=jl x.bc;rw[<-hbn,<-hxab,<-hxbc]at c10;have HX:=jq (And.intro hx (And.intro htk hbn));clear hx htk hbn hxab hxbc hc hxo
    by_cases hb1:300<bn
    ·have hd3:decide (300<bn)=true:=jd hb1
     go_wp2_with fail
     refine(HAW.out _).mono ?_;rintro e w2 ⟨rfl,hB⟩;have HB2:=jq hB;clear hB
     go_wp2_with fail
     go_ret
     exact⟨rfl,HB2.out⟩
    ·have hd3:decide (300<bn)=false:=jf hb1
     have HF2:Hid (∀z∈l.take (k+1),z.bs.length<=300):=jq (λz hz=>by
      rw[HX.out.2.1]at hz;rcases List.mem_append.1 hz with hz|hz
      ·exact HF.out z hz
      ·rw[jE.1 hz,<-HX.out.2.2];omega)
     go_wp2_with fail
     go_roundw
     case rel=>exact⟨k+1,by omega,by go_num,by trivial,HF2⟩
     case measure=>simp[intOf];omega
   ·obtain rfl:k=n:=by omega
    have hkd:decide (k<k)=false:=jf (by omega)
    have HFEW:Hid (∀x∈l,x.bs.length<=300):=jq (by
     have:=HF.out
     rwa [jW (by rw[<-HN.out];exact Nat.le_refl _)]at this)
    have HBG:=jq (begin_any w);clear HF
    go_wp2_with fail
    refine HBG.out.mono ?_;rintro e w1 ⟨d,s,g,cm,Q,rfl,hst,hQ,hB1⟩
    by_cases hok:0<=sh/\sh<=4096/\1<=rm/\rm<=65536
    ·obtain⟨sn,rfl⟩:∃q:Nat,sh=q:=⟨sh.toNat,by omega⟩;obtain⟨rn,rfl⟩:∃q:Nat,rm=q:=⟨rm.toNat,by omega⟩;obtain⟨o,ho⟩:=jl (w1.heap[0]?);have htb:0<w.heap.size:=HT.out.lt;have hsto:=stoX_new hst (by decide) (by decide) (HT.out.below hB1 htb) htb hB1.size hQ;rw[<-ho]at hsto;have hsn:sn<=4096/\1<=rn/\rn<=65536:=by omega
     have HNG:Hid (∀V,Below w1.heap.size w1 V->Calls Tryz.prog 6 #[.pointer (some ⟨s,0,none⟩),.int .i64 (sn:Int),.int .i64 (rn:Int)] V λe w'=>∃pp sm hm,e=.returned (.tuple #[.pointer (some ⟨pp,0,none⟩),.int .i64 0])/\Hid (Pl ⟨pp,s,stoX w.heap.size s d 400 o noF,sm,hm,sn,rn⟩ 20000 w' (λk=>Q k\/k=0) (λ_=>none) no no)/\Hid (V.heap.size<=pp/\V.heap.size<=sm/\V.heap.size<=hm)/\Below V.heap.size V w'):=jq (λV hV=>by
      refine(new_none (stoX w.heap.size s d 400 o noF) ((stoX w.heap.size s d 400 o noF).later hsto hV) sn rn hsn.1 hsn.2.1 hsn.2.2).mono ?_;rintro e w' ⟨pp,sm,hm,rfl,h1,h2,h3⟩;exact⟨pp,sm,hm,rfl,jq h1,jq h2,h3⟩)
     have HRG:Hid (∀(an:Option Addr) (nc:Nat) (V:World),Calls Tryz.prog 7 #[.slice an 0 nc,.int .i64 (sn:Int),.int .i64 (rn:Int)] V λe w'=>∃(xsa:Option Addr) (xsc:Nat) (xfs:Loc) (xha:Option Addr) (xhc:Nat) (xfh:Loc),e=.returned (.tuple #[.agg #[.int .i64 (rn:Int),.slice xsa sn xsc,.slice xha sn xhc],.int .i64 0])/\Hid (PIn w' ⟨rn,xsa,xsc,xfs,xha,xhc,xfh⟩ sn no no)/\Hid (∀q,PB ⟨rn,xsa,xsc,xfs,xha,xhc,xfh⟩ sn q->V.heap.size<=q)/\Below V.heap.size V w'):=jq (λan nc V=>by
      refine(new24_any an nc [] noF sn rn V (.inl rfl) ⟨.nil,λnm b=>by simp[noF]⟩ (Nat.zero_le _) hsn.1 hsn.2.1 hsn.2.2 (λnm b hb=>by cases hb)).mono ?_;rintro e w' ⟨⟨-,⟨xr,xsa,xsc,xfs,xha,xhc,xfh⟩,rfl,h1,h2,h3⟩|⟨⟨i,b,_,hb,_⟩,_⟩,hB⟩
      ·dsimp only at h1;subst h1;rw[rdF_no]at h2;exact⟨xsa,xsc,xfs,xha,xhc,xfh,rfl,jq h2,jq h3,hB⟩
      ·cases hb)
     have HQ:Hid (∀k,(Q k\/k=0)->(w.heap.size<=k\/k=0)/\k<w1.heap.size):=jq (λk hk=>⟨hk.imp (λh1=>hQ k h1) id,(stoX w.heap.size s d 400 o noF).lt hsto k hk⟩);have HTB:Hid (0<w.heap.size):=jq htb;have HSN:=jq hsn;have HB1:=jq hB1;clear hst hQ hB1 hsto ho htb hok HBG hsn
     go_wp2_with fail
     refine(HNG.out _ (by first|exact Below.refl _ _|exact(Below.refl _ _).drew)).mono ?_;rintro e w2 ⟨pp,sm,hm,rfl,HL2,HP2,hB2⟩;have HB12:Hid (Below w1.heap.size w1 w2):=jq hB2;have HB2:=jq (HB1.out.trans (hB2.mono HB1.out.size));clear hB2 HNG
     go_wp2_with fail
     refine(HRG.out _ _ _).mono ?_;rintro e w3 ⟨xsa,xsc,xfs,xha,xhc,xfh,rfl,HX3,HXB,hB3⟩;have hB23:Below w2.heap.size w2 w3:=((Below.refl _ w2).alloc jn _).trans (hB3.mono (by simp));have HB3:=jq hB23;have HXB2:Hid (∀q,PB ⟨rn,xsa,xsc,xfs,xha,xhc,xfh⟩ sn q->w2.heap.size<=q):=jq (λq hq=>Nat.le_trans (by simp) (HXB.out q hq));clear hB3 hB23 HXB HRG
     go_wp2_with fail
     obtain⟨W5,hW5⟩:=jl ((w3.alloc (.cells #[.int .i64 (rn:Int),.slice xsa sn xsc,.slice xha sn xhc] 40)).alloc (.cells #[.pointer (some ⟨d,0,none⟩),.pointer (some ⟨s,0,none⟩),.pointer (some ⟨pp,0,none⟩),.int .i64 (rn:Int),.slice xsa sn xsc,.slice xha sn xhc,.slice none 0 0] 46));obtain⟨p,hp⟩:=jl (w3.heap.size+1);have hB35:Below w3.heap.size w3 W5:=by rw[hW5];exact((Below.refl _ w3).alloc jn _).alloc (by simp) _
     have hbp:Blk W5 p 46 #[.pointer (some ⟨d,0,none⟩),.pointer (some ⟨s,0,none⟩),.pointer (some ⟨pp,0,none⟩),.int .i64 (rn:Int),.slice xsa sn xsc,.slice xha sn xhc,.slice none 0 0]:=by
      rw[hW5,hp];have:=Blk.new (w3.alloc (.cells #[.int .i64 (rn:Int),.slice xsa sn xsc,.slice xha sn xhc] 40)) 46 #[.pointer (some ⟨d,0,none⟩),.pointer (some ⟨s,0,none⟩),.pointer (some ⟨pp,0,none⟩),.int .i64 (rn:Int),.slice xsa sn xsc,.slice xha sn xhc,.slice none 0 0];rw[World.size_alloc]at this;exact this
     rw[<-hW5,<-hp];have z2:=HB2.out.size;have z3:=HB3.out.size;have z1:=HB1.out.size;have z12:=HB12.out.size;have hlt2:=HL2.out.lt;obtain⟨np,ns,nh⟩:=HP2.out;have hxlt:∀q,PB ⟨rn,xsa,xsc,xfs,xha,xhc,xfh⟩ sn q->q<w3.heap.size:=λq hq=>hq.elim (HX3.out.s.lt q) (HX3.out.h.lt q)
     have HPL:=jq (play_new (B:=w.heap.size) ((HL2.out.later HB3.out).later hB35) HSN.out.1 HSN.out.2.1 HSN.out.2.2 (λq hq=>⟨by
      rcases hq with hq|hq|⟨_,_,_,hq,_⟩
      ·exact(HQ.out q hq).1
      ·rcases hq with hq|hq|hq
       ·have hq:q=pp:=hq;exact .inl (by omega)
       ·have hq:q=sm:=hq;exact .inl (by omega)
       ·have hq:q=hm:=hq;exact .inl (by omega)
      ·exact absurd hq (λe=>by cases e),by have:=hlt2 q hq;omega⟩) rfl (HX3.out.later hB35) (λq hq=>⟨by have:=HXB2.out q hq;omega,λh=>by have:=HXB2.out q hq;have:=hlt2 q h;omega,by have:=hxlt q hq;omega⟩) hbp (by omega))
     have HW5:Hid (Below w.heap.size w W5):=jq ((HB2.out.trans (HB3.out.mono z2)).trans (hB35.mono (Nat.le_trans z2 z3)));clear hW5 hp hB35 hbp z1 z2 z3 z12 hlt2 np ns nh hxlt HL2 HB2 HB3 HB12 HQ HB1 HX3 HXB2 HP2;obtain⟨B0,hB0⟩:=jl w.heap.size;rw[<-hB0]at HPL;have HB0:=jq hB0;clear hB0
     go_loopw[16] (λu wr=>∃(j:Nat) (Y:PY),j<=k/\u=.int .i64 (j:Int)/\Hid (PPlay B0 p o j wr Y)/\Hid (Below w.heap.size w wr)) (λu _=>k-(intOf u).toNat)
     case atStart=>exact⟨0,_,Nat.zero_le _,rfl,HPL,HW5⟩
     case round=>
      clear HPL HW5;obtain⟨j,Y,hj,rfl,HP,HBr⟩:=hrel
      by_cases hjk:j<k
      ·have hjd:decide (j<k)=true:=jd hjk;obtain⟨y,hy⟩:∃y,l[j]? =some y:=⟨l[j]'(by rw[<-HN.out];exact hjk),jg _⟩;have hym:=jM hy;have hact:=H.out.acts y hym;have hfew:=HFEW.out y hym;obtain⟨gl,ol,rfl,hc⟩:=H.out.cells HBr.out hy;obtain⟨kd,shy,kn,yx,yb,bs,bc⟩:=y;obtain⟨xa,xb,xc,xd,xe,xf,xg,rfl⟩:=ok_seven hact.x;have hD0:=does_any HP.out (show j<=60 by omega) HBr.out (Nat.le_of_eq HB0.out.symm) hact hfew
       have hD:Calls Tryz.prog 8 #[.pointer (some ⟨p,0,none⟩),.agg #[.int .i64 kd,.int .i64 shy,.int .i64 kn,.int .u32 (xa:Int),.int .u32 (xb:Int),.int .u32 (xc:Int),.int .u32 (xd:Int),.int .u32 (xe:Int),.int .u32 (xf:Int),.int .u32 (xg:Int),.slice yb bs.length bc]] wr (PDone B0 p o j Y wr):=by
        unfold AR.vs vals at hD0;simp only[List.map_cons,List.map_nil,List.cons_append,List.nil_append]at hD0;exact hD0
       clear hD0;have c0:=hc 0 _ rfl;have c1:=hc 1 _ rfl;have c2:=hc 2 _ rfl;have c3:=hc 3 _ rfl;have c4:=hc 4 _ rfl;have c5:=hc 5 _ rfl;have c6:=hc 6 _ rfl;have c7:=hc 7 _ rfl;have c8:=hc 8 _ rfl;have c9:=hc 9 _ rfl;have c10:=hc 10 _ rfl;dsimp only at c0 c1 c2 c3 c4 c5 c6 c7 c8 c9 c10;simp only[Nat.add_zero]at c0;obtain⟨bn,hbn⟩:=jl bs.length;rw[<-hbn]at c10 hD;have HD:=jq hD;clear hD hbn hc hact hfew hym hy
       go_wp2_with fail
       refine HD.out.mono ?_;rintro e w5 (⟨rfl,Y5,hP5,-,hB5⟩|⟨rfl,hB5⟩)
       ·clear c0 c1 c2 c3 c4 c5 c6 c7 c8 c9 c10 HD;have hB05:Below w.heap.size w w5:=HBr.out.trans (by rw[<-HB0.out];exact hB5);have HY5:=jq hP5;obtain⟨s5,d5,pp5,sm5,hm5,n5,room5,ct5,Q5,hv5,S5,Hd5,⟨rm5,sa5,sc5,fs5,ha5,hc5,fh5⟩,Sr5,Hr5,H5,L5,an5,nc5⟩:=Y5;obtain⟨F5,j5,hat,hfl,-,hn4,-⟩:=hP5.mid.files;have hrr:=hP5.rows;dsimp only at hrr hat hfl hn4;obtain⟨rfl,rfl⟩:=hrr;obtain⟨l1,l2,l3⟩:=hP5.len (by omega);dsimp only at l1 l2 l3;obtain⟨t1,ht1⟩:=jl (many Hr5 n5);obtain⟨t2,ht2⟩:=jl (many Hr5 n5+many Sr5 n5);have HP5:=jq hP5
        have HHE:Hid (∀V,Below w5.heap.size w5 V->Calls Tryz.prog 9 #[.pointer (some ⟨pp5,0,none⟩)] V λe w'=>e=.returned (.int .i64 (t1:Int))/\Hid (Below w5.heap.size w5 w')):=jq (λV hV=>by
         refine(held_any (HP5.out.later hV).mid.live).mono ?_;rintro e w' ⟨rfl,rfl⟩;exact⟨by rw[ht1];rfl,jq hV⟩)
        have HMA:Hid (∀V,Below w5.heap.size w5 V->Calls Tryz.prog 10 #[.agg #[.int .i64 (rm5:Int),.slice sa5 n5 sc5,.slice ha5 n5 hc5]] V λe w'=>e=.returned (.int .i64 (t1:Int))/\Hid (Below w5.heap.size w5 w')):=jq (λV hV=>by
         refine(many24_any (x:=⟨rm5,sa5,sc5,fs5,ha5,hc5,fh5⟩) (HP5.out.later hV).mid.ref hn4 (by show many Hr5 n5<=_;omega)).mono ?_;rintro e w' ⟨rfl,h1⟩;exact⟨by rw[ht1],jq (hV.trans (h1.mono hV.size))⟩)
        have HAL:Hid (∀V,Below w5.heap.size w5 V->Calls Tryz.prog 11 #[.pointer (some ⟨pp5,0,none⟩)] V λe w'=>e=.returned (.int .i64 (t2:Int))/\Hid (Below w5.heap.size w5 w')):=jq (λV hV=>by
         refine(all_any (HP5.out.later hV).mid.live (by show many Hr5 n5+many Sr5 n5<=_;omega)).mono ?_;rintro e w' ⟨rfl,h1⟩;exact⟨by rw[ht2];rfl,jq (hV.trans (h1.mono hV.size))⟩)
        have HRA:Hid (∀V,Below w5.heap.size w5 V->Calls Tryz.prog 12 #[.agg #[.int .i64 (rm5:Int),.slice sa5 n5 sc5,.slice ha5 n5 hc5]] V λe w'=>e=.returned (.int .i64 (t2:Int))/\Hid (Below w5.heap.size w5 w')):=jq (λV hV=>by
         refine(all24_any (x:=⟨rm5,sa5,sc5,fs5,ha5,hc5,fh5⟩) (HP5.out.later hV).mid.ref hn4 (by show many Hr5 n5+many Sr5 n5<=_;omega)).mono ?_;rintro e w' ⟨rfl,h1⟩;exact⟨by rw[ht2],jq (hV.trans (h1.mono hV.size))⟩)
        have HFI:Hid (∀V,Below w5.heap.size w5 V->Calls Tryz.prog 14 #[.agg #[.int .i64 (rm5:Int),.slice sa5 n5 sc5,.slice ha5 n5 hc5]] V λe w'=>∃(va:Option Addr) (vc:Nat) (L':List FF),e=.returned (.slice va L'.length vc)/\Hid (Lies w' va (flatP L')/\IsRow L' F5/\L'.length<=n5)/\Hid (Below w5.heap.size w5 w')):=jq (λV hV=>by
         refine(files24_any (x:=⟨rm5,sa5,sc5,fs5,ha5,hc5,fh5⟩) (HP5.out.later hV).mid.ref hn4 (λq hq=>by dsimp only at hq⊢;have:=l1 q hq;omega)).mono ?_;rintro e w' ⟨v,L',rfl,h1,h2,h3,h4⟩;obtain⟨va,vc,rfl,_,h5,_,_⟩:=own_shape h1;rw[flk_eq hfl hn4]at h2;exact⟨va,vc,L',rfl,jq ⟨h5,h2,h3⟩,jq (hV.trans (h4.mono hV.size))⟩)
        have HFS:Hid (∀V va vc (L':List FF),Below w5.heap.size w5 V->(Lies V va (flatP L')/\IsRow L' F5/\L'.length<=n5)->Calls Tryz.prog 13 #[.pointer (some ⟨s5,0,none⟩),.slice va L'.length vc] V λe w'=>e=.returned (.bool true)/\Hid (Below w5.heap.size w5 w')):=jq (λV va vc L' hV hL=>by
         refine(law_files ((stoX B0 s5 d5 400 o H5).later hat hV) hL.1 hL.2.1 (by have:=hL.2.2;omega)).mono ?_;rintro e w' ⟨rfl,h1⟩;exact⟨rfl,jq (hV.trans (h1.mono hV.size))⟩)
        have HCS:Hid (∀w',Below w5.heap.size w5 w'->w'.cell? ⟨p,1,none⟩=some (.pointer (some ⟨s5,0,none⟩))/\w'.cell? ⟨p,2,none⟩=some (.pointer (some ⟨pp5,0,none⟩))/\w'.cell? ⟨p,3,none⟩=some (.int .i64 (rm5:Int))/\w'.cell? ⟨p,4,none⟩=some (.slice sa5 n5 sc5)/\w'.cell? ⟨p,5,none⟩=some (.slice ha5 n5 hc5)):=jq (λV hV=>by
         obtain⟨-,a1,a2,a3,a4,a5,-⟩:=(HP5.out.later hV).mid.cells;exact⟨a1,a2,a3,a4,a5⟩)
        have HB05:=jq hB05;have hS0:=HCS.out w5.drew (Below.refl _ _).drew;clear hP5 hB5 hB05 hat hfl hn4 l1 l2 l3 ht1 ht2 HP5
        go_wp2_with fail
        go_region_held3 (λw'=>w'.cell? ⟨p,1,none⟩=some (.pointer (some ⟨s5,0,none⟩))/\w'.cell? ⟨p,2,none⟩=some (.pointer (some ⟨pp5,0,none⟩))/\w'.cell? ⟨p,3,none⟩=some (.int .i64 (rm5:Int))/\w'.cell? ⟨p,4,none⟩=some (.slice sa5 n5 sc5)/\w'.cell? ⟨p,5,none⟩=some (.slice ha5 n5 hc5)) (first|with_reducible exact hS0|with_reducible exact hS1|with_reducible exact hS2|with_reducible exact hS3|with_reducible exact hS4|with_reducible exact hS5|with_reducible exact hS6) (first|(go_at_call 9;refine(HHE.out _ ((Below.refl _ _).drew)).mono ?_;rintro e v1 ⟨rfl,HV1⟩;have hS1:=HCS.out v1 HV1.out;dsimp only)|(go_at_call 10;refine(HMA.out _ HV1.out).mono ?_;rintro e v2 ⟨rfl,HV2⟩;have hS2:=HCS.out v2 HV2.out;dsimp only)|(go_at_call 11;refine(HAL.out _ HV2.out).mono ?_;rintro e v3 ⟨rfl,HV3⟩;have hS3:=HCS.out v3 HV3.out;dsimp only)|(go_at_call 12;refine(HRA.out _ HV3.out).mono ?_;rintro e v4 ⟨rfl,HV4⟩;have hS4:=HCS.out v4 HV4.out;dsimp only)|(go_at_call 14;refine(HFI.out _ HV4.out).mono ?_;rintro e v5 ⟨va,vc,L',rfl,HL',HV5⟩;have hS5:=HCS.out v5 HV5.out;dsimp only)|(go_at_call 13;refine(HFS.out _ va vc L' HV5.out HL'.out).mono ?_;rintro e v6 ⟨rfl,HV6⟩;have hS6:=HCS.out v6 HV6.out;dsimp only))
        go_wp2_with fail
        go_roundw
        case rel=>exact⟨j+1,_,by omega,by go_num,jq (HY5.out.later HV6.out),jq (HB05.out.trans (HV6.out.mono HB05.out.size))⟩
        case measure=>simp[intOf];omega
       ·have HB5:Hid (Below w.heap.size w w5):=jq (HBr.out.trans (by rw[<-HB0.out];exact hB5));clear hB5 HD
        go_wp2_with fail
        refine(HAW.out _).mono ?_;rintro e w6 ⟨rfl,hB⟩;have HB6:=jq hB;clear hB
        go_wp2_with fail
        go_ret
        exact⟨rfl,HB5.out.trans (HB6.out.mono HB5.out.size)⟩
      ·obtain rfl:j=k:=by omega
       have hjd:decide (j<j)=false:=jf (by omega)
       go_wp2_with fail
       refine(HAW.out _).mono ?_;rintro e w6 ⟨rfl,hB⟩;have HB6:=jq hB;clear hB
       go_wp2_with fail
       go_ret
       exact⟨rfl,HBr.out.trans (HB6.out.mono HBr.out.size)⟩
    ·have HNB:=jq (new_bad s sh rm w1 hok);have HRB:Hid (∀(v:Value) (V:World),Calls Tryz.prog 7 #[v,.int .i64 sh,.int .i64 rm] V λe w'=>e=.returned (.tuple #[.agg #[.int .i64 0,.slice none 0 0,.slice none 0 0],.int .i64 1])/\Below V.heap.size V w'):=jq (λv V=>new24_bad v sh rm (by unfold BadNew;omega) V);have HB1:=jq hB1;clear hst hQ hB1 hok HBG
     go_wp2_with fail
     refine HNB.out.mono ?_;rintro e w2 ⟨rfl,rfl⟩
     go_wp2_with fail
     refine(HRB.out _ _).mono ?_;rintro e w3 ⟨rfl,hB3⟩;have hB23:Below w2.heap.size w2 w3:=((Below.refl _ w2).alloc jn _).trans (hB3.mono (by simp));have HB3:=jq (HB1.out.trans (hB23.mono HB1.out.size));clear hB3 hB23
     go_wp2_with fail
     refine(HAW.out _).mono ?_;rintro e w6 ⟨rfl,hB⟩;have HB6:=jq hB;clear hB
     go_wp2_with fail
     go_ret
     have h2:=HB3.out.alloc HB3.out.size (.cells #[.int .i64 0,.slice none 0 0,.slice none 0 0] 40);exact⟨rfl,h2.trans (HB6.out.mono h2.size)⟩
end Pool
end Go.Proofs.YtfgjnpbffppocaaGreatDoor
