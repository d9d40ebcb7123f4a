/- Part. -/
import Derived.Test.YtfgjnpbffppocaaGreatDoorF0
import Derived.Test.YtfgjnpbffppocaaGreatDoorF0Q
import Derived.Test.YtfgjnpbffppocaaGreatDoorF12
import Derived.Test.YtfgjnpbffppocaaGreatDoorF21
import Derived.Deep.QuietTactic
import Derived.BigQuiet
set_option maxHeartbeats 2000000
set_option maxRecDepth 100000
namespace Go.Proofs.YtfgjnpbffppocaaGreatDoor
namespace Mani
open Go.RowKit Go.Deep Mem Crc Varint Go.Maps
def many (size:Nat):Nat:=if size=0 then 0 else(size-1)/112+1
theorem many_any (size:Nat) (hs:size<=4294967296) (w:World):Calls Tryz.prog 95 #[.int .i64 (size:Int)] w λe w'=>e=.returned (.int .i64 (many size:Int))/\w'=w:=by
 unfold many
 by_cases h0:size=0
 ·subst h0;rw[if_pos rfl]
  go_enter Tryz.func95,Tryz.ntmps95
  go_wp2_with fail
  go_ret
  exact⟨rfl,rfl⟩
 ·rw[if_neg h0];have hd:decide ((size:Int)<=0)=false:=by simp;omega
  obtain⟨k,rfl⟩:∃k,size=k+1:=⟨size-1,by omega⟩;have e: ((k+1:Nat):Int)-1=(k:Int):=by omega
  have e2: (k+1-1)/112+1=k/112+1:=by omega
  rw[e2]
  go_enter Tryz.func95,Tryz.ntmps95
  go_wp2_with fail
  go_ret
  exact⟨by simp,rfl⟩
def SetIs (w:World) (t:TypeId) (k:IntKind) (b:Nat) (L:List Nat):Prop:=∃f,MapIs w t b f/\(∀x,f x≠none->∃n∈L,x=.int k (n:Int))/\∀n∈L,f (.int k (n:Int))=some (.agg #[])
theorem SetIs.keep {w w':World} {t:TypeId} {k:IntKind} {b:Nat} {L:List Nat} (h:SetIs w t k b L) (hb:w'.heap[b]? =w.heap[b]?):SetIs w' t k b L:=by
 obtain⟨f,h1,h2,h3⟩:=h;exact⟨f,h1.keep hb,h2,h3⟩
theorem SetIs.lt {w:World} {t:TypeId} {k:IntKind} {b:Nat} {L:List Nat} (h:SetIs w t k b L):b<w.heap.size:=by
 obtain⟨f,h1,_⟩:=h;exact h1.lt
theorem SetIs.ne_blk {w:World} {t t2:TypeId} {k:IntKind} {b g:Nat} {L:List Nat} {cs:Array Value} (h:SetIs w t k b L) (hb:Blk w g t2 cs):g≠b:=λe=>by
 obtain⟨f,⟨D,n,⟨es,cl,hm,_⟩,_⟩,_⟩:=h;unfold Blk at hb;rw[e,hm]at hb;cases hb
theorem SetIs.far {w:World} {t:TypeId} {k:IntKind} {b:Nat} {L:List Nat} (h:SetIs w t k b L) {a:Option Addr} {xs:List Value} (hL:Lies w a xs) (h0:xs≠[]):Mem.blk a≠some b:=λe=>by
 obtain⟨f,⟨D,n,⟨es,cl,hm,_⟩,_⟩,_⟩:=h;obtain⟨g,o,rfl,_,hc⟩:=hL.resolve_left h0;have e2:g=b:=by simpa[Mem.blk]using e
 subst e2
 cases xs with
 |nil=>exact h0 rfl
 |cons x r=>
  have:=hc 0 x (by simp)
  simp[World.cell?,hm]at this
theorem SetIs.made (w:World) (t:TypeId) (k:IntKind):SetIs (w.alloc (.map #[] 0)) t k w.heap.size []:=⟨_,MapIs.made w t,λ_ h=>absurd rfl h,λ_ h=>by cases h⟩
theorem SetIs.is {k:IntKind} {L:List Nat} {f:Lit->Option Value} (h2:∀x,f x≠none->∃n∈L,x=.int k (n:Int)) (h3:∀n∈L,f (.int k (n:Int))=some (.agg #[])) (n:Nat): (f (.int k (n:Int))).isSome=L.contains n/\(f (.int k (n:Int))).getD (.agg #[])=.agg #[]:=by
 cases hc:f (.int k (n:Int))with
 |none=>
  refine⟨?_,rfl⟩
  symm
  rw[Option.isSome_none,Bool.eq_false_iff];intro hm;have:=h3 n (by simpa using hm);rw[hc]at this;cases this
 |some v=>
  obtain⟨m,hm,he⟩:=h2 _ (by rw[hc];simp);have e:m=n:=by injection he with _ he;omega
  subst e;have h4:=h3 m hm;rw[hc]at h4;injection h4 with h4;exact⟨by simpa using hm,by rw[h4];rfl⟩
theorem zeroNone (w:World): (zeroValue 234).run Tryz.prog w=.ok (.agg #[]) w:=by kernel_rfl
theorem SetIs.look {w:World} {t m:TypeId} {k:IntKind} {b:Nat} {L:List Nat} (h:SetIs w t k b L) (K:Keyed Tryz.prog t) (hm:Tryz.prog.underlying m=some (.map t 234)) (n:Nat) (hk:keyOf Tryz.prog t (.int k (n:Int))=some (.int k (n:Int))):
  (Instr.lookup m (.map (some b)) (.int k (n:Int)) true).run Tryz.prog w=.ok (.tuple #[.agg #[],.bool (L.contains n)]) w:=by
 obtain⟨f,h1,h2,h3⟩:=h;have:=h1.look_ok K hm zeroNone hk;obtain⟨e1,e2⟩:=SetIs.is h2 h3 n;rw[e1,e2]at this;exact this
theorem SetIs.put {w:World} {t m:TypeId} {k:IntKind} {b:Nat} {L:List Nat} (h:SetIs w t k b L) (K:Keyed Tryz.prog t) (hm:Tryz.prog.underlying m=some (.map t 234)) (n:Nat) (hk:keyOf Tryz.prog t (.int k (n:Int))=some (.int k (n:Int))) (hL:L.length<=1000000):
  ∃w',(Instr.mapUpdate m (.map (some b)) (.int k (n:Int)) (.agg #[])).run Tryz.prog w=.ok () w'/\SetIs w' t k b (n ::L)/\w.grownBy w' (some b)/\w'.heap.size=w.heap.size:=by
 obtain⟨f,h1,h2,h3⟩:=h
 obtain⟨w',hr,h4,h5,h6⟩:=h1.update K hm (L.map (λn:Nat=>Lit.int k (n:Int))) (λx hx=>by
  obtain⟨q,hq,rfl⟩:=h2 x hx;exact List.mem_map.2 ⟨q,hq,rfl⟩) (by rw[jP];unfold maxLen;omega) hk (.agg #[])
 refine⟨w',hr,⟨_,h4,λx hx=>?_,λq hq=>?_⟩,h5,h6⟩
 ·by_cases e:x=.int k (n:Int)
  ·exact⟨n,by simp,e⟩
  ·rw[setK_other _ e]at hx;obtain⟨q,hq,he⟩:=h2 x hx;exact⟨q,by simp[hq],he⟩
 ·by_cases e: (Lit.int k (q:Int))=.int k (n:Int)
  ·rw[e,setK_same]
  ·rw[setK_other _ e];rcases List.mem_cons.1 hq with rfl|hq
   ·exact absurd rfl e
   ·exact h3 q hq
theorem keyI (n:Nat) (h:n<9223372036854775808):keyOf Tryz.prog 3 (.int .i64 (n:Int))=some (.int .i64 (n:Int)):=keyOf_int_mk Tryz.underlying3 (by simp[Lit.wf,IntKind.min,IntKind.max,IntKind.signed,IntKind.bits];omega)
theorem keyU (n:Nat) (h:n<4294967296):keyOf Tryz.prog 24 (.int .u32 (n:Int))=some (.int .u32 (n:Int)):=keyOf_int_mk Tryz.underlying24 (by simp[Lit.wf,IntKind.min,IntKind.max,IntKind.signed,IntKind.bits];omega)
theorem keyedI:Keyed Tryz.prog 3:=int_keyed Tryz.underlying3
theorem keyedU:Keyed Tryz.prog 24:=int_keyed Tryz.underlying24
def blkB (bks:List Nat):List Nat->Bool
 | []=>true
 |i ::r=> !(bks.contains i)&&decide (32<=i)&&decide (i<65536)&&blkB (i ::bks) r
def headB (f:Fil) (next:Nat):Bool:=decide (1<=f.name.length)&&decide (f.name.length<=32)&&decide (f.id<next)&&decide (many f.size=f.blocks.length)
def rightB (f:Fil) (next:Nat) (ids bks:List Nat):Bool:=headB f next&& !(ids.contains f.id)&&blkB bks f.blocks
theorem blkB_step {bks bl:List Nat} {j i:Nat} (h:bl[j]? =some i):blkB ((bl.take j).reverse++bks) (bl.drop j)=(!(((bl.take j).reverse++bks).contains i)&&decide (32<=i)&&decide (i<65536)&&blkB ((bl.take (j+1)).reverse++bks) (bl.drop (j+1))):=by
 have hd:bl.drop j=i ::bl.drop (j+1):=by
  rw[List.drop_eq_getElem_cons (jS.1 h).1,(jS.1 h).2]
 rw[hd,List.take_add_one,h]
 simp[blkB]
theorem right_any (nm:List UInt8) (id sz:Nat) (bl:List Nat) (ba:Option Addr) (bc next ib kb:Nat) (ids bks:List Nat) (w:World) (hL:Lies w ba (bl.map iv)) (hcb:bl.length<=bc) (hid:id<4294967296) (hsz:sz<4294967296) (hbl:∀i∈bl,i<4294967296) (_:next<4294967296)
  (hi:SetIs w 24 .u32 ib ids) (hk:SetIs w 3 .i64 kb bks) (hne:ib≠kb) (hnm:nm.length<=1000000) (hids:ids.length<=1000000) (hbks:bks.length+bl.length<=1000000):
  Calls Tryz.prog 128 #[.agg #[sv nm,.int .u32 (id:Int),.int .i64 (sz:Int),.slice ba bl.length bc],.int .u32 (next:Int),.map (some ib),.map (some kb)] w λe w'=>e=.returned (.bool (rightB ⟨nm,id,sz,bl⟩ next ids bks))/\(rightB ⟨nm,id,sz,bl⟩ next ids bks=true->SetIs w' 24 .u32 ib (id ::ids)/\SetIs w' 3 .i64 kb (bl.reverse++bks))/\Upon (λq=>q=ib\/q=kb) w w':=by
 obtain⟨sb,hsb⟩:∃sb:ByteArray,.string sb=sv nm:=⟨_,rfl⟩
 have hsz2:sb.size=nm.length:=by
  have e:sb=⟨nm.toArray⟩:=by unfold sv at hsb;injection hsb
  rw[e];show nm.toArray.size=_
  simp
 obtain⟨bn,hbn⟩:=jl bl.length;obtain⟨W,hW⟩:=jl (w.alloc (.cells #[.string sb,.int .u32 (id:Int),.int .i64 (sz:Int),.slice ba bn bc] 106));have hBW:Below w.heap.size w W:=by rw[hW];exact(Below.refl _ w).alloc jn _
 have hbx:Blk W w.heap.size 106 #[.string sb,.int .u32 (id:Int),.int .i64 (sz:Int),.slice ba bn bc]:=by rw[hW];exact Blk.new w _ _
 obtain⟨fb,hfb⟩:=jl w.heap.size;rw[<-hsb,<-hbn];rw[<-hfb]at hbx;obtain⟨res,hres⟩:=jl (rightB ⟨nm,id,sz,bl⟩ next ids bks);rw[<-hres];have c0:W.cell? ⟨fb,0,none⟩=some (.string sb):=hbx.cell 0;have c1:W.cell? ⟨fb,1,none⟩=some (.int .u32 (id:Int)):=hbx.cell 1;have c2:W.cell? ⟨fb,2,none⟩=some (.int .i64 (sz:Int)):=hbx.cell 2;have c3:W.cell? ⟨fb,3,none⟩=some (.slice ba bn bc):=hbx.cell 3;have HMN:=jq (λm=>many_any sz (by omega) (W.drewN m));have HHB:=jq (show headB ⟨nm,id,sz,bl⟩ next=(decide (1<=sb.size)&&decide (sb.size<=32)&&decide (id<next)&&decide (many sz=bn))from by unfold headB;rw[hsz2,hbn]);have HRES:=jq hres;have HBX:=jq hbx;have HBW:=jq hBW;have HI:=jq (hi.keep (hBW.block ib hi.lt));have HK:=jq (hk.keep (hBW.block kb hk.lt));have HL:=jq (hL.later hBW);have HBL:=jq hbl;have HBN:=jq hbn;have HU0:Hid (Upon (λq=>q=ib\/q=kb) w W):=jq (Upon.of_below hBW);have hs9:sb.size<=1000000:=by omega
 have hbn9:bn<=1000000:=by omega
 have hcb2:bn<=bc:=by omega
 have HNE:=jq hne;have HBK:Hid (bks.length+bn<=1000000):=jq (by omega);clear hL hcb hbl hi hk hne hnm hbks hsb hsz2 hbn hbx hres hBW
 by_cases g0:sb.size=0
 ·have hr:res=false:=by rw[HRES.out];unfold rightB;rw[HHB.out];simp[g0]
  have hd0: ((sb.size:Int)==0)=true:=by simp[g0]
  subst hr
  go_enter Tryz.func128,Tryz.ntmps128
  go_wp2_with fail
  rw[<-hW,<-hfb];clear hW hfb
  go_quiet (fail)
  go_wp2_with fail
  go_ret
  exact⟨rfl,λh=>(by cases h),HU0.out.drewN _⟩
 have hd0: ((sb.size:Int)==0)=false:=by simp[g0]
 by_cases g1:32<sb.size
 ·have hr:res=false:=by rw[HRES.out];unfold rightB;rw[HHB.out];simp;omega
  have hd1:decide ((32:Int) <(sb.size:Int))=true:=by simp;omega
  have hd1b:decide (32<sb.size)=true:=by simp;omega
  subst hr
  go_enter Tryz.func128,Tryz.ntmps128
  go_wp2_with fail
  rw[<-hW,<-hfb];clear hW hfb
  go_quiet (fail)
  go_wp2_with fail
  go_ret
  exact⟨rfl,λh=>(by cases h),HU0.out.drewN _⟩
 have hd1:decide ((32:Int) <(sb.size:Int))=false:=by simp;omega
 have hd1b:decide (32<sb.size)=false:=by simp;omega
 by_cases g2:next<=id
 ·have hr:res=false:=by rw[HRES.out];unfold rightB;rw[HHB.out];simp;omega
  have hd2:decide ((next:Int)<=(id:Int))=true:=by simp;omega
  have hd2b:decide (next<=id)=true:=by simp;omega
  subst hr
  go_enter Tryz.func128,Tryz.ntmps128
  go_wp2_with fail
  rw[<-hW,<-hfb];clear hW hfb
  go_quiet (fail)
  go_wp2_with fail
  go_ret
  exact⟨rfl,λh=>(by cases h),HU0.out.drewN _⟩
 have hd2:decide ((next:Int)<=(id:Int))=false:=by simp;omega
 have hd2b:decide (next<=id)=false:=by simp;omega
 have hd3:decide ((sz:Int) <0)=false:=by simp
 by_cases g3:many sz≠bn
 ·have hr:res=false:=by rw[HRES.out];unfold rightB;rw[HHB.out];simp;omega
  have hd4: ((many sz:Int)==(bn:Int))=false:=by simp;omega
  have hd4b: (many sz==bn)=false:=by simp;omega
  subst hr
  go_enter Tryz.func128,Tryz.ntmps128
  go_wp2_with fail
  rw[<-hW,<-hfb];clear hW hfb
  go_quiet ((go_at_call 95;refine Calls.quiet_of_same (HMN.out _)))
  go_wp2_with fail
  go_ret
  exact⟨rfl,λh=>(by cases h),HU0.out.drewN _⟩
 have g3':many sz=bn:=by omega
 have hd4: ((many sz:Int)==(bn:Int))=true:=by simp;omega
 have hd4b: (many sz==bn)=true:=by simp;omega
 have hr:res=(!(ids.contains id)&&blkB bks bl):=by
  rw[HRES.out];unfold rightB;rw[HHB.out];have e1:decide (1<=sb.size)=true:=by simp;omega
  have e2:decide (sb.size<=32)=true:=by simp;omega
  have e3:decide (id<next)=true:=by simp;omega
  have e4:decide (many sz=bn)=true:=by simp[g3']
  rw[e1,e2,e3,e4]
  rfl
 have HR:=jq hr;clear hr HRES
 go_enter Tryz.func128,Tryz.ntmps128
 go_wp2_with fail
 rw[<-hW,<-hfb];clear hW hfb
 go_quiet ((go_at_call 95;refine Calls.quiet_of_same (HMN.out _)))
 obtain⟨V,hV⟩:=jl (W.drewN nq);have hBV:Below W.heap.size W V:=by rw[hV];exact⟨rfl,rfl,rfl,Nat.le_refl _,λ_ _=>rfl⟩
 have hUV:Upon (λq=>q=ib\/q=kb) w V:=by rw[hV];exact HU0.out.drewN _
 rw[<-hV];have hbV:Blk V fb 106 #[.string sb,.int .u32 (id:Int),.int .i64 (sz:Int),.slice ba bn bc]:=HBX.out.below hBV HBX.out.lt;have hIV:SetIs V 24 .u32 ib ids:=HI.out.keep (hBV.block ib HI.out.lt);have hKV:SetIs V 3 .i64 kb bks:=HK.out.keep (hBV.block kb HK.out.lt);have hLV:=HL.out.later hBV;have k1:V.cell? ⟨fb,1,none⟩=some (.int .u32 (id:Int)):=hbV.cell 1;have hlk:=hIV.look keyedU Tryz.underlying209 id (keyU id hid);have HBV:=jq hbV;have HIV:=jq hIV;have HKV:=jq hKV;have HLV:=jq hLV;have HUV:=jq hUV;clear hV hBV hUV hbV hIV hKV hLV c0 c1 c2 c3 hd0 hd1 hd1b hd2 hd2b hd3 hd4 hd4b g0 g1 g2 g3 g3' HMN HHB HI HK HL HBX HBW HU0;have hne0:∀q,Mem.blk ba=some q->bl≠[]->q≠ib/\q≠kb:=λq hq h0=>⟨λe=>HIV.out.far HLV.out (by simpa using h0) (by rw[hq,e]),λe=>HKV.out.far HLV.out (by simpa using h0) (by rw[hq,e])⟩
 have HNE0:=jq hne0;clear hne0
 cases hcon:ids.contains id with
 |true=>
  rw[hcon]at hlk HR;clear hcon;have hr:=HR.out
  simp at hr
  subst hr
  go_wp2_with fail
  go_ret
  exact⟨rfl,λh=>(by cases h),HUV.out.alloc _⟩
 |false=>
  rw[hcon]at hlk HR;clear hcon;have hres:res=blkB bks bl:=by rw[HR.out];rfl
  have HRES:=jq hres;clear hres HR;obtain⟨V1,hV1⟩:=jl (V.alloc (.cells #[] 234));have hB1:Below V.heap.size V V1:=by rw[hV1];exact(Below.refl _ V).alloc jn _
  have hb1:=HBV.out.below hB1 HBV.out.lt;have k11:V1.cell? ⟨fb,1,none⟩=some (.int .u32 (id:Int)):=hb1.cell 1;have hi1:=HIV.out.keep (hB1.block ib HIV.out.lt);have hk1:=HKV.out.keep (hB1.block kb HKV.out.lt);obtain⟨V2,hup,hi2,hg2,hs2⟩:=hi1.put keyedU Tryz.underlying209 id (keyU id hid) hids
  have hb2:Blk V2 fb 106 _:=hb1.grown hg2 (λe=>by
   injection e with e;exact hi1.ne_blk hb1 e)
  have k3:V2.cell? ⟨fb,3,none⟩=some (.slice ba bn bc):=hb2.cell 3;have hk2:=hk1.keep (hg2.block kb hk1.lt (λe=>HNE.out (by injection e with e;exact e.symm)));have hU2:Upon (λq=>q=ib\/q=kb) V V2:=(Upon.of_below hB1).trans (Upon.of_grown (P:=λq=>q=ib) hg2 (λq e=>.inl (by injection e with e;exact e.symm))) (λq hq=>.inl (.inl hq));rw[hV1]at hup k11;have HI2:=jq hi2;have HK2:=jq hk2;have HU2:=jq hU2;clear hV1 hB1 hb1 hi1 hk1 hb2 hg2 hs2 hi2 hk2 hU2
  go_wp2_with fail
  go_loopw[60] (λi wr=>∃j,j<=bn/\i=.int .i64 j/\SetIs wr 24 .u32 ib (id ::ids)/\SetIs wr 3 .i64 kb ((bl.take j).reverse++bks)/\Upon (λq=>q=ib\/q=kb) V wr/\res=blkB ((bl.take j).reverse++bks) (bl.drop j)) (λi _=>bn-(intOf i).toNat)
  case atStart=>exact⟨0,Nat.zero_le _,rfl,HI2.out,by simpa using HK2.out,HU2.out,by simpa using HRES.out⟩
  case round=>
   obtain⟨j,hj,rfl,hIr,hKr,hUr,hinv⟩:=hrel;have HIR:=jq hIr;have HUR:=jq (HUV.out.trans hUr (λq hq=>.inl hq));have HUR2:=jq hUr
   by_cases hjlt:j<bn
   ·obtain⟨q,hq⟩:∃q,bl[j]? =some q:=⟨bl[j]'(by rw[<-HBN.out];exact hjlt),jg _⟩;have hq32:=HBL.out q (jM hq);have hq2:=blkB_step (bks:=bks) hq;have hnx2: (bl.take (j+1)).reverse++bks=q ::((bl.take j).reverse++bks):=by rw[List.take_add_one,hq];simp
    have hlen: ((bl.take j).reverse++bks).length<=1000000:=by
     have:=HBK.out;rw[jL,List.length_reverse,jT]
     omega
    obtain⟨acc,hacc⟩:=jl ((bl.take j).reverse++bks);rw[<-hacc]at hKr hinv hq2 hnx2 hlen
    obtain⟨bg,bo,rfl,cq⟩:=lies_at (HLV.out.upon hUr (λg hg hp=>by
     have:=HNE0.out g hg (λe=>by rw[e]at hq;simp at hq);rcases hp with hp|hp
     ·exact this.1 hp
     ·exact this.2 hp)) (k:=j) (u:=.int .i64 (q:Int)) (by simp[hq,iv])
    have hlk2:=hKr.look keyedI Tryz.underlying210 q (keyI q (by omega));have HINV:=jq hinv;have HKR:=jq hKr;have HNX:=jq hnx2;have HLEN:=jq hlen;clear hIr hKr hUr hinv hnx2 hlen hq hacc hlk hup k3 k11 k1
    cases hc2:acc.contains q with
    |true=>
     rw[hc2]at hlk2;have hr:res=false:=by rw[HINV.out,hq2,hc2];rfl
     subst hr
     go_wp2_with fail
     go_ret
     exact⟨rfl,λh=>(by cases h),HUR.out.alloc _⟩
    |false=>
     rw[hc2]at hlk2
     by_cases h32:q<32
     ·have hd1:decide ((q:Int) <32)=true:=by simp;omega
      have hd1b:decide (q<32)=true:=by simp;omega
      have hr:res=false:=by
       have e:decide (32<=q)=false:=by simp;omega
       rw[HINV.out,hq2,e]
       simp
      subst hr
      go_wp2_with fail
      go_ret
      exact⟨rfl,λh=>(by cases h),HUR.out.alloc _⟩
     have hd1:decide ((q:Int) <32)=false:=by simp;omega
     have hd1b:decide (q<32)=false:=by simp;omega
     by_cases h65:65536<=q
     ·have hd2:decide ((65536:Int)<=(q:Int))=true:=by simp;omega
      have hd2b:decide (65536<=q)=true:=by simp;omega
      have hr:res=false:=by
       have e:decide (q<65536)=false:=by simp;omega
       rw[HINV.out,hq2,e]
       simp
      subst hr
      go_wp2_with fail
      go_ret
      exact⟨rfl,λh=>(by cases h),HUR.out.alloc _⟩
     have hd2:decide ((65536:Int)<=(q:Int))=false:=by simp;omega
     have hd2b:decide (65536<=q)=false:=by simp;omega
     obtain⟨V3,hV3⟩:=jl (wr.alloc (.cells #[] 234));have hB3:Below wr.heap.size wr V3:=by rw[hV3];exact(Below.refl _ wr).alloc jn _
     have hk3:=HKR.out.keep (hB3.block kb HKR.out.lt);have hi3:=HIR.out.keep (hB3.block ib HIR.out.lt);obtain⟨V4,hup4,hk4,hg4,hs4⟩:=hk3.put keyedI Tryz.underlying210 q (keyI q (by omega)) HLEN.out;have hi4:=hi3.keep (hg4.block ib hi3.lt (λe=>HNE.out (by injection e with e)));have hU4:Upon (λq=>q=ib\/q=kb) V V4:=(HUR2.out.trans (Upon.of_below (P:=λ_=>False) hB3) (λ_ h=>h.elim)).trans (Upon.of_grown (P:=λq=>q=kb) hg4 (λq e=>.inl (by injection e with e;exact e.symm))) (λq hq=>.inl (.inr hq));have hinv4:res=blkB (q ::acc) (bl.drop (j+1)):=by rw[HINV.out,hq2,HNX.out,hc2];simp;omega
     rw[hV3]at hup4;rw[<-HNX.out]at hk4 hinv4;have HK4:=jq hk4;have HI4:=jq hi4;have HU4:=jq hU4;have HINV4:=jq hinv4;clear hV3 hB3 hk3 hi3 hk4 hg4 hs4 hi4 hU4 hinv4 hq2 hc2 h32 h65
     go_wp2_with fail
     go_roundw
     case rel=>exact⟨j+1,by omega,by simp,HI4.out,HK4.out,HU4.out,HINV4.out⟩
     case measure=>simp[intOf];omega
   ·obtain rfl:j=bn:=by omega
    have htk:bl.take j=bl:=by rw[HBN.out,List.take_length]
    have hdr:bl.drop j= []:=by rw[HBN.out,List.drop_length]
    rw[htk]at hKr hinv;rw[hdr]at hinv;have hr:res=true:=hinv;subst hr;have HKR:=jq hKr;clear hIr hKr hUr hinv htk hdr hlk hup k3 k11 k1
    go_wp2_with fail
    go_ret
    exact⟨rfl,⟨HIR.out,HKR.out⟩,HUR.out⟩
end Mani
end Go.Proofs.YtfgjnpbffppocaaGreatDoor
