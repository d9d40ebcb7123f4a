/- A part of the proof. -/
import Derived.Test.YtbfochdoeibofaaGreatDoorG0
import Derived.Test.YtbfochdoeibofaaGreatDoorG0Q
import Derived.Test.YtbfochdoeibofaaGreatDoorG5
import Derived.Test.YtbfochdoeibofaaGreatDoorG10
import Derived.Test.YtbfochdoeibofaaGreatDoorG13
import Derived.Test.YtbfochdoeibofaaGreatDoorG22
import Derived.Test.YtbfochdoeibofaaGreatDoorG29
import Derived.StillTailTactics
import Derived.Laws.StructEq
set_option maxHeartbeats 8000000
set_option maxRecDepth 200000
namespace Go.Proofs.YtbfochdoeibofaaGreatDoor
namespace Full
open Go.RowKit Go.Deep Mem Crc Go.Maps Dk Mani
open Store (Chg chgV isChg none' nv nv_key strKeyed zero_chg)
attribute [local go_sem] Oper.semAt_some
theorem writes_any {w:World} {Q:Nat->Prop} {s d g cm:Nat} {wv:Value} {m:DM} {ver next:Nat} {a:Option Addr} {c:Nat} {l:List FR} {bad:Bool} {C:Chg} (h:Fu w Q s d g cm wv m ver next a c l bad C) (hoff:m.off=false) (hwt:m.wt.length<=100000) (h33:33<=m.bl.length)
  (v1 nx:Nat) (a':Option Addr) (c':Nat) (l':List FR) (hF:FilesIn w a' l') (ha:∀k,Mem.blk a'=some k->¬Has d g wv k) (hx:∀x∈l',∀k,Mem.blk x.a=some k->¬Has d g wv k) (hxlt:∀x∈l',∀k,Mem.blk x.a=some k->k<w.heap.size) (hnew:∀x∈l',C x.f.name=none\/∃b,C x.f.name=some (some b)/\IsNew m.bl.length b x.f)
  (hl:∀x∈l',x.f.name.length<=32/\x.f.fits) (hlen:l'.length<=11100) (hbk: (bksL (l'.map FR.f)).length<=70000) (hCb:∀nm b,C nm=some (some b)->b.length<=1048576) (hv:v1<18446744073709551616) (hn:nx<4294967296) (hmay:mayB v1 nx (l'.map FR.f)=true):
  Calls Tryz.prog 43 #[.pointer (some ⟨s,0,none⟩),.agg #[.int .u64 (v1:Int),.int .u32 (nx:Int),.slice a' l'.length c']] w λe w'=>e=.returned (.int .i64 (commitD m C (l'.map FR.f) v1 (manL v1 nx (l'.map FR.f))).2)/\∃wv',WS w d g wv (commitD m C (l'.map FR.f) v1 (manL v1 nx (l'.map FR.f))).1 wv' w':=by
 obtain⟨has,hac⟩:=h.away;obtain⟨n,hnl⟩:=jl l'.length;rw[<-hnl]at hlen⊢;obtain⟨W0,hW0⟩:=jl (w.alloc (.cells #[.int .u64 (v1:Int),.int .u32 (nx:Int),.slice a' n c'] 34));obtain⟨b3,hb3⟩:=jl w.heap.size;have hB0:Below w.heap.size w W0:=by rw[hW0];exact(Below.refl _ w).alloc jn _
 have hbm:Blk W0 b3 34 #[.int .u64 (v1:Int),.int .u32 (nx:Int),.slice a' n c']:=by rw[hW0,hb3];exact Blk.new w _ _
 have h0:=h.later hB0;have hF0:=hF.later hB0;have hb3h:¬Has d g wv b3:=λhk=>by have:=h.disk.lt b3 hk;omega
 obtain⟨c0,_,_,_,c4,_⟩:=h0.cells;have hsl:=h0.store.lt;have hcl:=h0.lt cm h0.qm;have H:=jq h0;have HFI:=jq hF0;have HA:=jq ha;have HX:=jq hx;have HXL:=jq hxlt;have HNEW:=jq hnew;have HLL:=jq hl;have HCB:=jq hCb;have HMAY:=jq hmay;have HNL:=jq hnl;have HBK:=jq hbk;have HAS:=jq has;have HAC:=jq hac;have HB3:=jq hb3h;have HBM:=jq hbm;have HB0:=jq hB0;have hws:WS W0 d g wv (m.writes (chW C ((l'.map FR.f).take 0))).1 wv W0:=⟨h0.disk,Upon.refl _ _,λk hk=>.inl hk⟩;have hok: (m.writes (chW C ((l'.map FR.f).take 0))).2=0:=rfl;have HWS:=jq hws;have HOK:=jq hok;have HW0:=jq hW0;have hb3e:b3=w.heap.size:=hb3;have HBE:=jq hb3e;have m2:=hbm.cell 2
 simp at m2
 clear h h0 hF hF0 ha hx hxlt hnew hl hCb hmay hnl hbk has hac hws hok hb3 hb3e hb3h hbm hB0 hW0
 go_enter Tryz.func43,Tryz.ntmps43
 go_wp2_with fail
 rw[<-HW0.out,<-HBE.out]
 go_wp2_with fail
 go_loopw[14] (λi wr=>∃(j:Nat) (wv':Value),j<=n/\i=.int .i64 j/\Hid ((m.writes (chW C ((l'.map FR.f).take j))).2=0)/\Hid (WS W0 d g wv (m.writes (chW C ((l'.map FR.f).take j))).1 wv' wr)) (λi _=>n-(intOf i).toNat)
 case atStart=>exact⟨0,wv,Nat.zero_le _,rfl,HOK,HWS⟩
 case round=>
  obtain⟨j,wv',hj,rfl,hok,hws⟩:=hrel
  by_cases hlt:j<n
  ·have hjd:decide ((j:Int) <(n:Int))=true:=jd (by omega);obtain⟨x,hx⟩:∃x,l'[j]? =some x:=⟨l'[j]'(by rw[<-HNL.out];exact hlt),jg _⟩;have hxm:=jM hx;have hFr:=hws.out.files HFI.out HA.out HX.out;obtain⟨ga,oa,rfl,f0,f1,f2,f3⟩:=hFr.cells hx;obtain⟨sb,hnm⟩:∃sb:ByteArray,sv x.f.name=.string sb:=⟨_,rfl⟩;have hnm2:nv x.f.name=.string sb:=hnm;obtain⟨sz,hsz⟩:=jl x.f.size;obtain⟨id,hid⟩:=jl x.f.id;obtain⟨bn,hbn⟩:=jl x.f.blocks.length;obtain⟨ch,hch⟩:=jl ((C x.f.name).isSome);unfold iv at f2;rw[hnm]at f0;rw[<-hid]at f1;rw[<-hsz]at f2;rw[<-hbn]at f3;obtain⟨W5,hW5⟩:=jl (wr.alloc (.cells #[.string sb,.int .u32 (id:Int),.int .i64 (sz:Int),.slice x.a bn x.c] 96));have hB5:Below wr.heap.size wr W5:=by rw[hW5];exact(Below.refl _ wr).alloc jn _
   have hb5:Blk W5 wr.heap.size 96 #[.string sb,.int .u32 (id:Int),.int .i64 (sz:Int),.slice x.a bn x.c]:=by rw[hW5];exact Blk.new wr _ _
   obtain⟨bx,hbx⟩:=jl wr.heap.size;rw[<-hbx]at hb5;obtain⟨W6,hW6⟩:=jl ((W5.alloc (.cells #[.slice none 0 0,.bool false] 87)).drew);have hB6:Below wr.heap.size wr W6:=by rw[hW6];exact(hB5.alloc hB5.size _).drew
   have hcm:wr.heap[cm]? =W0.heap[cm]?:=hws.out.upon.block cm hcl HAC.out;have hcw:cm<wr.heap.size:=Nat.lt_of_lt_of_le hcl hws.out.upon.size;obtain⟨a1,n1,cp1,gn,hlo,hlk⟩:=H.out.look x.f.name (by have:=(HLL.out x hxm).1;omega);have hlk5:=(hlk W5.drew ((hB5.drew.block cm hcw).trans hcm)).1;have hlk6:=(hlk W6 ((hB6.block cm hcw).trans hcm)).1;rw[hnm2,<-hch]at hlk5 hlk6;have hsw:s<wr.heap.size:=Nat.lt_of_lt_of_le hsl hws.out.upon.size;have k0:=(hws.out.cell (p:=⟨s,4,none⟩) hsl HAS.out).trans c4;have k6:=(hB6.cell (p:=⟨s,4,none⟩) hsw).trans k0;have k4:=(hB5.cell (p:=⟨s,4,none⟩) hsw).trans k0
   have b6:W6.cell? ⟨bx,0,none⟩=some (.string sb):=by
    rw[hW6];exact(hb5.alloc _).cell 0
   rw[hW6]at hlk6 k6 b6;have b0:=hb5.cell 0
   simp at b0
   have HW5:=jq hW5;have HBX:=jq hbx;have HXJ:=jq hx;have HNM:=jq hnm;have HSZ:=jq hsz;have HID:=jq hid;have HBN:=jq hbn;have HCH:=jq hch;have HB5:=jq hB5;have HBK5:=jq hb5;have HLO:=jq hlo;clear hW6 hB6 hlk hcw hsw hcm hFr hxm hx hnm hnm2 hsz hid hbn hch hB5 hb5 hlo k0
   go_wp2_with fail
   rw[<-HW5.out,<-HBX.out];clear hW5 hbx
   go_wp2_with fail
   go_region
   all_goals
    obtain⟨W7,hW7⟩:=jl ((W5.alloc (.cells #[.slice a1 n1 cp1,.bool gn] 87)).drew);have hB57:Below W5.heap.size W5 W7:=by rw[hW7];exact((Below.refl _ W5).alloc jn _).drew
    rw[<-hW7];have hws7:=hws.out.later (HB5.out.trans (hB57.mono HB5.out.size));have hb7:=HBK5.out.below hB57 HBK5.out.lt;have hc7:Blk W7 W5.heap.size 87 #[.slice a1 n1 cp1,.bool gn]:=by rw[hW7];exact Blk.new W5 _ _
    have HWS7:=jq hws7;have b0:=hb7.cell 0;have b1:=hb7.cell 1;have b2:=hb7.cell 2;have b3:=hb7.cell 3;have d0:=hc7.cell 0
    simp at b0 b1 b2 b3 d0
    clear hW7 hB57 hws7 hb7 hc7 hlk5 hlk6 k4 k6 b6;cases ch
    ·have hcn:C x.f.name=none:=by
      have:=HCH.out
      cases hc:C x.f.name with
      |none=>rfl
      |some c=>rw[hc]at this;cases this
     have hks:chW C ((l'.map FR.f).take (j+1))=chW C ((l'.map FR.f).take j):=by
      rw[chW_snoc C (f:=x.f) (by rw[List.getElem?_map,HXJ.out];rfl)];unfold fileW;rw[hcn]
      simp
     have hok2:=hok.out;have hws2:=HWS7.out;rw[<-hks]at hok2 hws2;have HOK2:=jq hok2;have HWS2:=jq hws2;clear hks hcn hok2 hws2
     go_wp2_with fail
     exact⟨⟨j+1,wv',by omega,by simp,HOK2,HWS2⟩,by simp[intOf];omega⟩
    ·have hxm:=jM HXJ.out
     obtain⟨b,hcc,hin⟩:∃b,C x.f.name=some (some b)/\IsNew m.bl.length b x.f:=by
      rcases HNEW.out x hxm with h1|h1
      ·have:=HCH.out;rw[h1]at this;cases this
      ·exact h1
     have hlo:=HLO.out;rw[hcc]at hlo;obtain⟨rfl,rfl,hcp,hLb,hOb⟩:=hlo;obtain⟨hs1,hs2,hs3⟩:=chW_state hok.out HBK.out hwt;have hst:=H.out.store.upon HWS7.out.upon HAS.out;have hfw:fileW C x.f=Pages.pagesW x.f.id x.f.blocks b:=by unfold fileW;rw[hcc]
     have hpg:=file_any HWS7.out.disk (by rw[hs2];exact hoff) (by omega) hst rfl sb x.f.id x.f.size b x.f.blocks a1 x.a cp1 x.c (HWS7.out.lies hLb (λk hk=>(hOb k hk).2.2.2)) (λk hk hh=>by
      rcases hh with e|e|e
      ·exact(hOb k hk).2.2.2 (.inl e)
      ·exact(hOb k hk).2.2.2 (.inr (.inl e))
      ·rcases HWS7.out.own k e with h1|h1
       ·exact(hOb k hk).2.2.2 (.inr (.inr h1))
       ·have:=H.out.lt k (hOb k hk).1;omega) hcp (HCB.out _ b hcc) (HWS7.out.lies (HFI.out.blocks x hxm).1 (HX.out x hxm)) (λk hk hh=>by
      rcases hh with e|e|e
      ·exact HX.out x hxm k hk (.inl e)
      ·exact HX.out x hxm k hk (.inr (.inl e))
      ·rcases HWS7.out.own k e with h1|h1
       ·exact HX.out x hxm k hk (.inr (.inr h1))
       ·have h2:=HXL.out x hxm k hk;have h3:=HB0.out.size
        omega) hin.many (λi hi=>by rw[hs1];exact hin.in_ i hi) (HLL.out x hxm).2.id
     rw[<-HID.out,<-HSZ.out,<-HBN.out]at hpg;have hsn:=chW_snoc C (fs:=l'.map FR.f) (j:=j) (f:=x.f) (by rw[List.getElem?_map,HXJ.out];rfl);rw[hfw]at hsn;have happ:=writes_append _ (Pages.pagesW x.f.id x.f.blocks b) m hok.out;rw[<-hsn,<-HID.out]at happ;have HPG:=jq hpg;have HAPP:=jq happ;clear hpg happ hsn hfw hst hs1 hs2 hs3 hcc hin hcp hLb hOb hxm
     go_wp2_with fail
     refine HPG.out.mono ?_;rintro e w8 ⟨rfl,wv2,hd8,hu8,ho8⟩;have hws8:=HWS7.out.step hd8 hu8 ho8;rw[<-HAPP.out]at hws8⊢;obtain⟨E,hE⟩:=jl ((m.writes (chW C ((l'.map FR.f).take (j+1)))).2);rw[<-hE];have HWS8:=jq hws8
     by_cases hz:E=0
     ·have hok2: (m.writes (chW C ((l'.map FR.f).take (j+1)))).2=0:=by rw[<-hE];exact hz
      have HOK2:=jq hok2;subst hz;clear hE hok2 hws8 hd8 hu8 ho8 HPG
      go_wp2_with fail
      exact⟨⟨j+1,wv2,by omega,by simp,HOK2,HWS8⟩,by simp[intOf];omega⟩
     ·have hEb: (E==0)=false:=by simpa using hz
      have hst2:=chW_stop (C:=C) (fs:=l'.map FR.f) (j:=j+1) (m:=m) (by rw[<-hE];exact hz)
      have hcm2:commitD m C (l'.map FR.f) v1 (manL v1 nx (l'.map FR.f))=m.writes (chW C ((l'.map FR.f).take (j+1))):=by
       unfold commitD;rw[hst2,if_neg (by rw[<-hE];exact hz)]
      have HCM:=jq hcm2;have HE:=jq hE;clear hE hst2 hcm2 hws8 hd8 hu8 ho8 HPG
      go_wp2_with fail
      go_ret
      rw[HCM.out];exact⟨by rw[<-HE.out];rfl,wv2,HWS8.out.base HB0.out⟩
  ·obtain rfl:j=n:=by omega
   have hjd:decide ((j:Int) <(j:Int))=false:=jf (by omega);have htk: (l'.map FR.f).take j=l'.map FR.f:=jW (by rw[jP,HNL.out];exact Nat.le_refl _);rw[htk]at hok hws;obtain⟨hs1,hs2,hs3⟩:=chW_state (C:=C) (fs:=l'.map FR.f) (j:=j) (m:=m) (by rw[htk];exact hok.out) HBK.out hwt;rw[htk]at hs1 hs2 hs3;have k0:=(hws.out.cell (p:=⟨s,0,none⟩) hsl HAS.out).trans c0;have HSY:=jq (sync_on hws.out.disk (by rw[hs2];exact hoff) (by omega));clear htk hs1 hs2 hs3
   go_wp2_with fail
   refine HSY.out.mono ?_;rintro e w8 ⟨rfl,wv2,hd8,hu8,ho8⟩;have hws8:=hws.out.step hd8 (hu8.mono (λk hk=>hk.elim .inl (λh=>.inr (.inl h)))) (λk hk=>.inl (ho8 k hk));obtain⟨m1,hm1⟩:=jl ((m.writes (chW C (l'.map FR.f))).1);rw[<-hm1]at hws8⊢;obtain⟨E,hE⟩:=jl m1.sync.2;rw[<-hE];have HWS8:=jq hws8
   by_cases hz:E=0
   ·have hcm2:commitD m C (l'.map FR.f) v1 (manL v1 nx (l'.map FR.f))=m1.sync.1.mani v1 (manL v1 nx (l'.map FR.f)):=by
     unfold commitD;rw[if_pos hok.out,<-hm1,if_pos (by rw[<-hE];exact hz)]
    have HCM:=jq hcm2;subst hz;have HE:=jq hE;have HM1:=jq hm1;have hk0:=(hws8.cell (p:=⟨s,0,none⟩) hsl HAS.out).trans c0;have hb3:=HBM.out.upon hws8.upon HB3.out;have b0:=hb3.cell 0;have b1:=hb3.cell 1;have b2:=hb3.cell 2
    simp at b0 b1 b2
    obtain⟨o1,o2,o3⟩:=sync_ok hE.symm;obtain⟨w1',w2',w3'⟩:=writes_ok hok.out;have hof:m1.sync.1.off=false:=by rw[o1,hm1,w2'];exact hoff
    have hbl:33<=m1.sync.1.bl.length:=by rw[o2,puts_length,hm1,w1'];exact h33
    have hwl:m1.sync.1.wt.length<=900000:=by rw[o3];exact Nat.zero_le _
    have hw9:WS W0 d g wv m1.sync.1 wv2 w8.drew:=hws8.later (Below.refl _ w8).drew;have hwr:=write_any v1 nx a' c' l' w8.drew hw9.disk hof hbl hwl (hw9.files HFI.out HA.out HX.out) hv hn (λx hx=>(HLL.out x hx).2) HMAY.out;rw[<-HNL.out]at hwr;have HWR:=jq hwr;have HW9:=jq hw9;clear hE hm1 hcm2 hws8 hd8 hu8 ho8 hb3 k0 o1 o2 o3 w1' w2' w3' hof hbl hwl hw9 hwr
    go_wp2_with fail
    go_still_tail 5,(by kernel_rfl)
    change wpList _ _ _ _ _ w8.drew
    obtain⟨w9,hw9e⟩:=jl w8.drew;rw[<-hw9e]at HWR HW9⊢;clear hw9e
    go_wp2_with fail
    refine HWR.out.mono ?_;rintro e wA ⟨rfl,wvA,hdA,huA,hoA⟩;have hwsA:=(HW9.out.step hdA huA hoA).base HB0.out;have HWSA:=jq hwsA;clear hwsA hdA huA hoA HWR
    go_wp2_with fail
    go_ret
    rw[HCM.out];exact⟨rfl,wvA,HWSA.out⟩
   ·have hEb: (E==0)=false:=by simpa using hz
    have hcm2:commitD m C (l'.map FR.f) v1 (manL v1 nx (l'.map FR.f))=m1.sync:=by
     unfold commitD;rw[if_pos hok.out,<-hm1,if_neg (by rw[<-hE];exact hz)]
    have HCM:=jq hcm2;have HE:=jq hE;clear hE hm1 hcm2 hws8 hd8 hu8 ho8
    go_wp2_with fail
    go_ret
    rw[HCM.out];exact⟨by rw[<-HE.out];rfl,wv2,HWS8.out.base HB0.out⟩
end Full
namespace Mem
open Go.RowKit Go.Deep
open Go.Maps (Keyed)
open Go.MapKept Go.ChangeMaps
theorem MapIs.count {w:World} {k:TypeId} {b:Nat} {f:Lit->Option Value} {t e:TypeId} (h:MapIs w k b f) (K:Keyed Tryz.prog k) (ht:Tryz.prog.underlying t=some (.map k e)):∃n:Nat,(∀ty,(Builtin.len_ #[t] ty #[.map (some b)]).run Tryz.prog w=.ok (.int .i64 (n:Int)) w)/\(n=0↔∀x,f x=none):=by
 obtain⟨D,n,h,hd⟩:=h;refine⟨Maps.size D,λty=>h.len ht ty,?_⟩;obtain⟨es,rfl,hp,hk⟩:=h.entries K
 cases es with
 |nil=>
  refine⟨λ_ x=>?_,λ_=>rfl⟩;have h1:=(hd x).1
  cases hf:f x with
  |none=>rfl
  |some v=>rw[hf]at h1;cases h1
 |cons p r=>
  refine⟨λh0=>?_,λhn=>?_⟩
  ·simp[Maps.size]at h0
  ·have h2:Maps.has (.map (p ::r)) p.1=true:=List.any_eq_true.2 ⟨p,by simp,WideAt.sameKey_self (hk p (by simp))⟩;rw[(hd p.1).1,hn p.1]at h2;cases h2
theorem MapIs.clear {w:World} {k:TypeId} {b:Nat} {f:Lit->Option Value} {t e:TypeId} (h:MapIs w k b f) (ht:Tryz.prog.underlying t=some (.map k e)) (ty:TypeId):∃w',(Builtin.clear_ #[t] ty #[.map (some b)]).run Tryz.prog w=.ok (.tuple #[]) w'/\MapIs w' k b (λ_=>none)/\w.grownBy w' (some b)/\w'.heap.size=w.heap.size:=by
 obtain⟨D,n,⟨es,clock,hb,hF,_⟩,hd⟩:=h;refine⟨setBlock w b (.map #[] clock),by simp[Builtin.clear_,run_underlying ht,MapKept.run_getObj_map hb,MapKept.run_setObj_map _ hb,Result.andThen,setBlock],?_,?_,?_⟩
 ·exact⟨.map [],0,⟨#[],clock,heap_setBlock_same hb _,⟨by simp,stamped_empty clock,by simp⟩,Nat.le_refl _,rfl⟩,desc_empty⟩
 ·exact⟨rfl,rfl,rfl,by simp[setBlock],λi _ hi=>heap_setBlock_other hb _ (λe=>hi (by rw[e]))⟩
 ·simp[setBlock]
end Mem
namespace Full
open Go.RowKit Go.Deep Mem Crc Go.Maps Dk Mani
open Store (Chg chgV isChg none' nv nv_key strKeyed zero_chg)
variable {w:World} {Q:Nat->Prop} {s d g cm:Nat} {wv:Value} {m:DM} {ver next:Nat} {a:Option Addr} {c:Nat} {l:List FR} {bad:Bool} {C:Chg}
theorem Fu.count (h:Fu w Q s d g cm wv m ver next a c l bad C):∃n:Nat,(∀ty,(Builtin.len_ #[88] ty #[.map (some cm)]).run Tryz.prog w=.ok (.int .i64 (n:Int)) w)/\(n=0↔∀nm,C nm=none):=by
 obtain⟨f,hm,hk,hf⟩:=h.map;obtain⟨n,h1,h2⟩:=hm.count strKeyed Tryz.underlying88;refine⟨n,h1,h2.trans ⟨λhx nm=>?_,λhx x=>?_⟩⟩
 ·have:=hf nm;unfold isChg at this
  cases hc:C nm with
  |none=>rfl
  |some y=>
   rw[hc]at this;obtain⟨v,hv,_⟩:=this;rw[hx]at hv;cases hv
 ·cases hfx:f x with
  |none=>rfl
  |some v=>
   obtain⟨nm,rfl⟩:=hk x (by rw[hfx];exact λh=>by cases h);have:=hf nm;unfold isChg at this;rw[hx nm]at this;rw[hfx]at this;cases this
theorem Fu.map_ne (h:Fu w Q s d g cm wv m ver next a c l bad C) {b:Nat} {t:TypeId} {cs:Array Value} (hb:Blk w b t cs):b≠cm:=λe=>by
 obtain⟨f,⟨D,n,⟨es,cl,hm,_⟩,_⟩,_⟩:=h.map;unfold Blk at hb;rw[e,hm]at hb;cases hb
theorem Fu.clear (h:Fu w Q s d g cm wv m ver next a c l bad C):∃w',(∀ty,(Builtin.clear_ #[88] ty #[.map (some cm)]).run Tryz.prog w=.ok (.tuple #[]) w')/\Fu w' Q s d g cm wv m ver next a c l bad none'/\w'.heap.size=w.heap.size/\Only [cm] w w':=by
 obtain⟨f,hm,hk,hf⟩:=h.map;obtain⟨D,n,⟨es,clock,hb,hF,_⟩,hd⟩:=hm;have hm2:MapIs w 9 cm f:=⟨D,n,⟨es,clock,hb,hF,by assumption⟩,hd⟩;obtain⟨w',h1,h2,h3,h4⟩:=hm2.clear Tryz.underlying88 0;have ho:Only [cm] w w':=Only.of_grown h3 (λg hg=>by cases hg;exact .inl (by simp));have hkk:∀k,k<w.heap.size->k≠cm->w'.heap[k]? =w.heap[k]?:=λk hk hne=>ho.block k hk (by simpa using hne)
 have haw:=h.away;refine⟨w',λty=>h1,⟨(hkk s h.store.lt (h.map_ne h.store)).trans h.store,h.disk.keep ho.size (λk hq=>hkk k (h.disk.lt k hq) (λe=>haw.2 (e▸hq))),h.files.keep ho.size (λk e=>hkk k (h.lt k (h.fr k e).1) (h.fr k e).2.1) (λx hx k e=>hkk k (h.lt k (h.br x hx k e).1) (h.br x hx k e).2.1),h.fr,h.br,⟨_,h2,λx h=>absurd rfl h,λnm=>rfl⟩,h.qs,h.qm,h.qd,λk hq=>by rw[h4];exact h.lt k hq⟩,h4,ho⟩
theorem Fu.wrote {w':World} {wv':Value} {m':DM} (h:Fu w Q s d g cm wv m ver next a c l bad C) (hw:WS w d g wv m' wv' w'):Fu w' (λk=>Q k\/(w.heap.size<=k/\k<w'.heap.size)) s d g cm wv' m' ver next a c l bad C:=by
 have haw:=h.away;have hkk:∀k,Own Q s d g cm wv k->w'.heap[k]? =w.heap[k]?:=λk hk=>hw.upon.block k (h.lt k hk.1) hk.2.2.2
 have hown:∀k,Own Q s d g cm wv k->Own (λk=>Q k\/(w.heap.size<=k/\k<w'.heap.size)) s d g cm wv' k:=λk hk=>⟨.inl hk.1,hk.2.1,hk.2.2.1,λe=>by
  rcases e with e|e|e
  ·exact hk.2.2.2 (.inl e)
  ·exact hk.2.2.2 (.inr (.inl e))
  ·rcases hw.own k e with h1|h1
   ·exact hk.2.2.2 (.inr (.inr h1))
   ·have:=h.lt k hk.1;omega⟩
 obtain⟨f,h1,h2,h3⟩:=h.map;refine⟨(hw.upon.block s h.store.lt haw.1).trans h.store,hw.disk,h.files.keep hw.upon.size (λk e=>hkk k (h.fr k e)) (λx hx k e=>hkk k (h.br x hx k e)),λk e=>hown k (h.fr k e),λx hx k e=>hown k (h.br x hx k e),⟨f,h1.keep (hw.upon.block cm (h.lt cm h.qm) haw.2),h2,λnm=>(h3 nm).keep hw.upon.size hkk hown⟩,.inl h.qs,.inl h.qm,λk hk=>?_,λk hk=>?_⟩
 ·rcases hk with e|e|e
  ·exact .inl (h.qd k (.inl e))
  ·exact .inl (h.qd k (.inr (.inl e)))
  ·rcases hw.own k e with h4|h4
   ·exact .inl (h.qd k (.inr (.inr h4)))
   ·exact .inr ⟨h4,hw.disk.lt k (.inr (.inr e))⟩
 ·rcases hk with hk|hk
  ·exact Nat.lt_of_lt_of_le (h.lt k hk) hw.upon.size
  ·exact hk.2
theorem Fu.set {w':World} {ver' next':Nat} {a':Option Addr} {c':Nat} {l':List FR} {bad':Bool} {Q':Nat->Prop} (h:Fu w Q s d g cm wv m ver next a c l bad C) (hQ:∀k,Q k->Q' k) (hs:w'.heap.size=w.heap.size) (hQ2:∀k,Q' k->k<w.heap.size) (ho:∀k,k≠s->w'.heap[k]? =w.heap[k]?)
  (hb:Blk w' s 90 #[.pointer (some ⟨d,0,none⟩),.int .u64 (ver':Int),.int .u32 (next':Int),.slice a' l'.length c',.map (some cm),.bool bad']) (hF:FilesIn w a' l') (ha:∀k,Mem.blk a'=some k->Own Q' s d g cm wv k) (hx:∀x∈l',∀k,Mem.blk x.a=some k->Own Q' s d g cm wv k):Fu w' Q' s d g cm wv m ver' next' a' c' l' bad' C:=by
 have haw:=h.away;have hown:∀k,Own Q s d g cm wv k->Own Q' s d g cm wv k:=λk hk=>⟨hQ k hk.1,hk.2⟩
 obtain⟨f,h1,h2,h3⟩:=h.map;exact⟨hb,h.disk.keep (by omega) (λk hk=>ho k (λe=>haw.1 (e▸hk))),hF.keep (by omega) (λk e=>ho k (ha k e).2.2.1) (λx hx2 k e=>ho k (hx x hx2 k e).2.2.1),ha,hx,⟨f,h1.keep (ho cm (Ne.symm (h.map_ne h.store))),h2,λnm=>(h3 nm).keep (by omega) (λk hk=>ho k hk.2.2.1) hown⟩,hQ s h.qs,hQ cm h.qm,λk hk=>hQ k (h.qd k hk),λk hk=>by rw[hs];exact hQ2 k hk⟩
end Full
namespace Full
open Go.RowKit Go.Deep Mem Crc Go.Maps Dk Mani
open Store (Chg chgV isChg none' nv nv_key strKeyed zero_chg)
open Ext (Tab)
variable {w:World} {Q:Nat->Prop} {s d g cm:Nat} {wv:Value} {m:DM} {ver next:Nat} {a:Option Addr} {c:Nat} {l:List FR} {bad:Bool} {C:Chg}
def Planned (w:World) (l:List FR) (ver:Nat) (o:Option (Nat×List Fil)) (e:Ending) (w':World):Prop:=
 match o with
 |none=>∃(x y:Int) (a0:Option Addr) (k0 c0:Nat),e=.returned (.tuple #[.agg #[.int .u64 x,.int .u32 y,.slice a0 k0 c0],.bool false])
 |some p=>∃a' c' l',e=.returned (.tuple #[.agg #[.int .u64 ((ver+1:Nat):Int),.int .u32 (p.1:Int),.slice a' (l':List FR).length c'],.bool true])/\l'.map FR.f=p.2/\FilesIn w' a' l'/\(∀b,Mem.blk a'=some b->w.heap.size<=b/\b<w'.heap.size)/\∀x∈l',x∈l\/∀b,Mem.blk x.a=some b->w.heap.size<=b/\b<w'.heap.size
theorem plan_sum (h:Fu w Q s d g cm wv m ver next a c l bad C) (hT:Tab w) (L:List (List UInt8)) (hL:∀x,C x≠none->x∈L) (hLn:L.length<=9000) (hLs:∀x∈L,x.length<=32) (hCb:∀nm b,C nm=some (some b)->b.length<=1048576) (hok:Okm m.bl.length ver next (l.map FR.f)) {ss:List (List UInt8)} (hK:Keys C ss):
  Calls Tryz.prog 42 #[.pointer (some ⟨s,0,none⟩)] w λe w'=>Below w.heap.size w w'/\Planned w l ver (planM C ss m.bl.length ver next (l.map FR.f)) e w':=by
 have hfew:=hok.few;rw[jP]at hfew;refine(plan_any h hT L hL hLn hLs hCb hok.ver hok.next hok.ok.rise (λx hx=>hok.fit x.f (List.mem_map.2 ⟨x,hx,rfl⟩)) (by omega) (by omega)).mono ?_;rintro e w' ⟨mv,room,rfl,⟨x,y,a0,k0,c0,rfl⟩,hB,hr⟩;refine⟨hB,?_⟩;rcases hr with⟨rfl,hv⟩|⟨hv,ss',h1,h2,hr⟩
 ·unfold planM;rw[if_pos hv];exact⟨x,y,a0,k0,c0,rfl⟩
 ·obtain rfl:ss'=ss:=Keys.same ⟨h1,h2⟩ hK;unfold planM;rw[if_neg (by omega)];rcases hr with⟨rfl,hn|⟨p,hp,hm⟩⟩|⟨rfl,p,a',c',l',hp,hm,he,hf,hF,hg,hb⟩
  ·rw[hn];exact⟨x,y,a0,k0,c0,rfl⟩
  ·rw[hp];dsimp only;rw[if_neg (by rw[hm];decide)];exact⟨x,y,a0,k0,c0,rfl⟩
  ·rw[hp];dsimp only;rw[if_pos hm];exact⟨a',c',l',by rw[he],hf,hF,hg,hb⟩
theorem down_yes (h:Fu w Q s d g cm wv m ver next a c l bad C) (hb: (bad||m.off)=false):Calls Tryz.prog 38 #[.pointer (some ⟨s,0,none⟩)] w λe w'=>e=.returned (.bool false)/\w'=w:=by
 have:=down_any h
 rwa [hb]at this
theorem commit_none (h:Fu w Q s d g cm wv m ver next a c l bad C) (hb: (bad||m.off)=false) (hC:∀nm,C nm=none):Calls Tryz.prog 13 #[.pointer (some ⟨s,0,none⟩)] w λe w'=>e=.returned (.int .i64 0)/\w'=w:=by
 have HD:=jq (down_yes h hb);obtain⟨n,hlen,hn0⟩:=h.count;obtain rfl:n=0:=hn0.2 hC;obtain⟨_,_,_,_,c4,_⟩:=h.cells;clear h hb hn0
 go_enter Tryz.func13,Tryz.ntmps13
 go_wp2_with fail
 refine HD.out.mono ?_;rintro e w1 ⟨rfl,rfl⟩
 go_wp2_with fail
 go_ret
 exact⟨rfl,rfl⟩
def Committed (w:World) (Q:Nat->Prop) (s d g cm:Nat) (m:DM) (ver next:Nat) (a:Option Addr) (c:Nat) (l:List FR) (C:Chg) (o:Option (Nat×List Fil)) (e:Ending) (w':World):Prop:=
 match o with
 |none=>e=.returned (.int .i64 7)/\Below w.heap.size w w'
 |some p=>e=.returned (.int .i64 (commitD m C p.2 (ver+1) (manL (ver+1) p.1 p.2)).2)/\Upon Q w w'/\∃Q' wv',(∀k,Q' k->Q k\/w.heap.size<=k)/\
  if(commitD m C p.2 (ver+1) (manL (ver+1) p.1 p.2)).2=0 then∃a' c' l',l'.map FR.f=p.2/\Fu w' Q' s d g cm wv' (commitD m C p.2 (ver+1) (manL (ver+1) p.1 p.2)).1 (ver+1) p.1 a' c' l' false none' else Fu w' Q' s d g cm wv' (commitD m C p.2 (ver+1) (manL (ver+1) p.1 p.2)).1 ver next a c l true C
attribute [local go_sem] Oper.semAt_some
theorem commit_any (h:Fu w Q s d g cm wv m ver next a c l false C) (hT:Tab w) (L:List (List UInt8)) (hL:∀x,C x≠none->x∈L) (hLn:L.length<=9000) (hLs:∀x∈L,x.length<=32) (hCb:∀nm b,C nm=some (some b)->b.length<=1048576) (hok:Okm m.bl.length ver next (l.map FR.f)) {ss:List (List UInt8)} (hK:Keys C ss)
  (hoff:m.off=false) (hwt:m.wt.length<=100000) (h33:33<=m.bl.length) (hne:¬∀nm,C nm=none):
  Calls Tryz.prog 13 #[.pointer (some ⟨s,0,none⟩)] w (Committed w Q s d g cm m ver next a c l C (planM C ss m.bl.length ver next (l.map FR.f))):=by
 have HD:=jq (down_yes h (by rw[hoff];rfl));obtain⟨n,hlen,hn0⟩:=h.count
 have hnz: ((n:Int)==0)=false:=by
  have:n≠0:=λe=>hne (hn0.1 e)
  simp
  omega
 obtain⟨_,_,_,_,c4,_⟩:=h.cells;have HP:=jq (plan_sum h hT L hL hLn hLs hCb hok hK);have hsm:=h.disk.small;have hpo:∀p,planM C ss m.bl.length ver next (l.map FR.f)=some p->Okm m.bl.length (ver+1) p.1 p.2/\∀f∈p.2,C f.name=none\/∃b,C f.name=some (some b)/\IsNew m.bl.length b f:=λp hp=>plan_okm hok hsm hCb hK (λnm hnm=>hLs nm (hL nm ((hK.mem nm).1 hnm))) hp
 have HPO:=jq hpo;have H:=jq h;have HCB:=jq hCb;clear h hn0 hok hK hT hL hLs hCb hne hpo;obtain⟨o,ho⟩:=jl (planM C ss m.bl.length ver next (l.map FR.f));rw[<-ho]at HP HPO⊢;clear ho
 go_enter Tryz.func13,Tryz.ntmps13
 go_wp2_with fail
 refine HD.out.mono ?_;rintro e w1 ⟨rfl,rfl⟩
 go_wp2_with fail
 refine HP.out.mono ?_;rintro e w2 ⟨hB2,hpl⟩
 cases o with
 |none=>
  obtain⟨x,y,a0,k0,c0,rfl⟩:=hpl;have HB2:=jq hB2;clear hB2 HP HPO
  go_wp2_with fail
  go_ret
  exact⟨rfl,HB2.out.alloc HB2.out.size _⟩
 |some p=>
  obtain⟨a',c',l',rfl,hf,hF,hg,hb⟩:=hpl;obtain⟨hko,hknew⟩:=HPO.out p rfl;obtain⟨nx,fs⟩:=p;dsimp only at hf hko hknew⊢;have hz2:=hB2.size;have hlt:=H.out.disk.lt;obtain⟨W3,hW3⟩:=jl (w2.alloc (.cells #[.int .u64 ((ver+1:Nat):Int),.int .u32 (nx:Int),.slice a' l'.length c'] 34));obtain⟨b3,hb3⟩:=jl w2.heap.size;have hB3:Below w1.heap.size w1 W3:=by rw[hW3];exact hB2.alloc hz2 _
  have hbm:Blk W3 b3 34 #[.int .u64 ((ver+1:Nat):Int),.int .u32 (nx:Int),.slice a' l'.length c']:=by rw[hW3,hb3];exact Blk.new w2 _ _
  have h3:=H.out.later hB3;have hF3:FilesIn W3 a' l':=by rw[hW3];exact hF.later ((Below.refl _ w2).alloc jn _)
  have hz3:W3.heap.size=w2.heap.size+1:=by rw[hW3];simp
  subst hf;have hfew:=hko.few;rw[jP]at hfew
  have hWR:=writes_any h3 hoff hwt h33 (ver+1) nx a' c' l' hF3 (λk e hk=>by have:=(hg k e).1;have:=hlt k hk;omega) (λx hx k e hk=>by
   rcases hb x hx with h5|h5
   ·exact(H.out.br x h5 k e).2.2.2 hk
   ·have:=(h5 k e).1;have:=hlt k hk;omega) (λx hx k e=>by
   rcases hb x hx with h5|h5
   ·have:=H.out.lt k (H.out.br x h5 k e).1;omega
   ·have:=(h5 k e).2;omega) (λx hx=>hknew x.f (List.mem_map.2 ⟨x,hx,rfl⟩)) (λx hx=>by
   have:=hko.fit x.f (List.mem_map.2 ⟨x,hx,rfl⟩);exact⟨this.1,this.2.1⟩) (by omega) (by omega) HCB.out hko.ver hko.next hko.may
  have m0:=hbm.cell 0;have m1:=hbm.cell 1;have m2:=hbm.cell 2
  simp at m0 m1 m2
  have HWR:=jq hWR;have H3:=jq h3;have HBM:=jq hbm;have HB3:=jq hB3;have HF3:=jq hF3;have HG:=jq hg;have HB:=jq hb;obtain⟨N,hN⟩:=jl l'.length;rw[<-hN]at HWR HBM m2;rw[<-hN];clear hWR h3 hbm hB3 hF3 hg hb hknew hko hfew HPO HP hF hB2;rw[<-hN]at hW3;rw[hb3]at m0 m1 m2;rw[hW3]at m0 m1 m2;have HN:=jq hN;clear hN
  go_wp2_with fail
  rw[hW3]at HWR;refine HWR.out.mono ?_;rw[<-hW3,<-hb3];rintro e w4 ⟨rfl,wv',hws⟩;have hsl:s<W3.heap.size:=H3.out.store.lt;have hns:=H3.out.away.1;have hnb:¬Has d g wv b3:=λhk=>by have:=hlt b3 hk;omega
  have hcell:=H3.out.cells;have k0:=(hws.cell (p:=⟨s,0,none⟩) hsl hns).trans hcell.1;have k1:=(hws.cell (p:=⟨s,1,none⟩) hsl hns).trans hcell.2.1;have k2:=(hws.cell (p:=⟨s,2,none⟩) hsl hns).trans hcell.2.2.1;have k3:=(hws.cell (p:=⟨s,3,none⟩) hsl hns).trans hcell.2.2.2.1;have k4:=(hws.cell (p:=⟨s,4,none⟩) hsl hns).trans hcell.2.2.2.2.1;have k5:=(hws.cell (p:=⟨s,5,none⟩) hsl hns).trans hcell.2.2.2.2.2;have z0:=(hws.upon.block s hsl hns);have hbm4:=HBM.out.upon hws.upon hnb;have b0:=hbm4.cell 0;have b1:=hbm4.cell 1;have b2:=hbm4.cell 2
  simp at b0 b1 b2
  have hf4:=H3.out.wrote hws;have hst4:=hf4.store;have y1:=hst4.frozen 1;have y2:=hst4.frozen 2;have y3:=hst4.frozen 3;have y5:=hst4.frozen 5;have HWS:=jq hws;have HF4:=jq hf4;obtain⟨M,hM⟩:=jl ((commitD m C (l'.map FR.f) (ver+1) (manL (ver+1) nx (l'.map FR.f))).1);obtain⟨E,hE⟩:=jl ((commitD m C (l'.map FR.f) (ver+1) (manL (ver+1) nx (l'.map FR.f))).2);rw[<-hM]at HWS HF4;rw[<-hE];have HM:=jq hM;have HE:=jq hE;have HBE:=jq hb3;clear hws hf4 hst4 hbm4 z0 hM hE HWR hcell hW3 m0 m1 m2 HBM hb3;have hzz:W3.heap.size<=w4.heap.size:=HWS.out.upon.size;have hq4:∀k,(Q k\/(w1.heap.size<=k/\k<w4.heap.size))->k<w4.heap.size:=λk hk=>hk.elim (λh=>by have:=H.out.lt k h;omega) (λh=>h.2)
  have hqm:∀k,(Q k\/(W3.heap.size<=k/\k<w4.heap.size))->Q k\/(w1.heap.size<=k/\k<w4.heap.size):=λk hk=>hk.imp id (λh=>⟨by omega,h.2⟩)
  have HQ4:=jq hq4;have HQM:=jq hqm;clear hq4 hqm;have hup:Upon Q w1 w4:=(Upon.of_below (P:=Q) HB3.out).trans (HWS.out.upon.mono (λk hk=>H.out.qd k hk)) (λk hk=>.inl hk);have HUP:=jq hup;have hst4:=HF4.out.store
  by_cases hz:E=0
  ·subst hz;obtain⟨W5,hW5⟩:=jl (((w4.setCell ⟨s,1,none⟩ (.int .u64 ((ver:Int)+1))).setCell ⟨s,2,none⟩ (.int .u32 (nx:Int))).setCell ⟨s,3,none⟩ (.slice a' N c'));have hs5:W5.heap.size=w4.heap.size:=by rw[hW5];simp[World.setCell]
   have ho5:∀k,k≠s->W5.heap[k]? =w4.heap[k]?:=λk hk=>by
    rw[hW5];exact(Below.heap_setCell _ _ _ k hk).trans ((Below.heap_setCell _ _ _ k hk).trans (Below.heap_setCell _ _ _ k hk))
   have hb5:Blk W5 s 90 #[.pointer (some ⟨d,0,none⟩),.int .u64 ((ver+1:Nat):Int),.int .u32 (nx:Int),.slice a' l'.length c',.map (some cm),.bool false]:=by
    rw[hW5,<-HN.out];exact((hst4.set 1 (.int .u64 ((ver:Int)+1))).set 2 (.int .u32 (nx:Int))).set 3 (.slice a' N c')
   have hown:∀k,(w1.heap.size<=k/\k<w2.heap.size)->Own (λk=>Q k\/(w1.heap.size<=k/\k<w4.heap.size)) s d g cm wv' k:=λk hk=>⟨.inr ⟨hk.1,by omega⟩,λe=>by have:=H.out.lt cm H.out.qm;omega,λe=>by have:=H.out.lt s H.out.qs;omega,λe=>by
    rcases e with e|e|e
    ·have:=hlt k (.inl e);omega
    ·have:=hlt k (.inr (.inl e));omega
    ·rcases HWS.out.own k e with h1|h1
     ·have:=hlt k (.inr (.inr h1));omega
     ·omega⟩
   have hF4:FilesIn w4 a' l':=HWS.out.files HF3.out (λk e hk=>by have:=HG.out k e;have:=hlt k hk;omega) (λx hx k e hk=>by
    rcases HB.out x hx with h5|h5
    ·exact(H.out.br x h5 k e).2.2.2 hk
    ·have:=h5 k e;have:=hlt k hk;omega)
   have hf5:=HF4.out.set (w':=W5) (Q':=λk=>Q k\/(w1.heap.size<=k/\k<w4.heap.size)) HQM.out hs5 HQ4.out ho5 hb5 hF4 (λk e=>hown k (HG.out k e)) (λx hx k e=>by
    rcases HB.out x hx with h5|h5
    ·obtain⟨o1,o2,o3,o4⟩:=H.out.br x h5 k e;refine⟨.inl o1,o2,o3,λe2=>?_⟩;rcases e2 with e2|e2|e2
     ·exact o4 (.inl e2)
     ·exact o4 (.inr (.inl e2))
     ·rcases HWS.out.own k e2 with h1|h1
      ·exact o4 (.inr (.inr h1))
      ·have:=H.out.lt k o1;omega
    ·exact hown k (h5 k e))
   obtain⟨W6,hcl,hf6,hs6,ho6⟩:=hf5.clear
   have hu6:Upon Q w1 W6:=by
    refine Upon.trans (Q:=Q) (Upon.trans (Q:=Q) HUP.out ⟨by rw[hW5];rfl,by rw[hW5];rfl,by rw[hW5];rfl,by omega,λk hk hn=>ho5 k (λe=>hn (e▸H.out.qs))⟩ (λk hk=>.inl hk)) (Upon.of_only ho6 (λk hk=>.inl (by rw[jE.1 hk];exact H.out.qm))) (λk hk=>.inl hk)
   have HF6:=jq hf6;have HU6:=jq hu6;rw[hW5]at hcl;clear hf6 hu6 hs6 ho6 hf5 hF4 hown hb5 ho5 hs5 hW5 hst4 hup
   go_wp2_with fail
   go_ret
   refine⟨by rw[<-HE.out];rfl,HU6.out,(λk=>Q k\/(w1.heap.size<=k/\k<w4.heap.size)),wv',λk hk=>hk.imp id And.left,?_⟩;rw[<-HE.out,if_pos rfl];rw[<-HM.out];exact⟨a',c',l',rfl,HF6.out⟩
  ·have hEb: (E==0)=false:=by simpa using hz
   have hf5:=HF4.out.set (w':=w4.setCell ⟨s,5,none⟩ (.bool true)) (Q':=λk=>Q k\/(w1.heap.size<=k/\k<w4.heap.size)) (ver':=ver) (next':=next) (a':=a) (c':=c) (l':=l) (bad':=true) HQM.out (by simp[World.setCell]) HQ4.out (λk hk=>Below.heap_setCell _ _ _ k hk) (hst4.set 5 (.bool true)) HF4.out.files (λk e=>⟨HQM.out k (HF4.out.fr k e).1,(HF4.out.fr k e).2⟩) (λx hx k e=>⟨HQM.out k (HF4.out.br x hx k e).1,(HF4.out.br x hx k e).2⟩);have hu5:Upon Q w1 (w4.setCell ⟨s,5,none⟩ (.bool true)):=HUP.out.set (.inl H.out.qs) _;have HF5:=jq hf5;have HU5:=jq hu5;clear hf5 hu5 hst4 hup
   go_wp2_with fail
   go_ret
   refine⟨by rw[<-HE.out];rfl,HU5.out,(λk=>Q k\/(w1.heap.size<=k/\k<w4.heap.size)),wv',λk hk=>hk.imp id And.left,?_⟩;rw[<-HE.out,if_neg hz];rw[<-HM.out];exact HF5.out
end Full
namespace Full
open Go.RowKit Go.Deep Mem Crc Go.Maps Dk Mani
open Page (pageL pageB pageE pageN pageB_length)
def loadG (bl:List (List UInt8)) (id size:Nat):Nat->List UInt8->List Nat->List UInt8×Int
 |_,out,[]=>(out,0)
 |n,out,i ::r=>if pageE (bl.getD i []) id n=0/\((pageB (bl.getD i [])).length:Int)=min 112 ((size:Int)-out.length)then loadG bl id size (n+1) (out++pageB (bl.getD i [])) r else([],5)
def loadF (bl:List (List UInt8)) (f:Fil):List UInt8×Int:=loadG bl f.id f.size 0 [] f.blocks
theorem pageN_le (b:List UInt8):pageN b<=112:=by unfold Page.pageN;omega
theorem load_any {w:World} {d g s:Nat} {wv:Value} {m:DM} (hs:s<w.heap.size) (hst:w.cell? ⟨s,0,none⟩=some (.pointer (some ⟨d,0,none⟩))) (hd:Dk w d g wv m) (hoff:m.off=false) (hwt:m.wt= []) (sb:ByteArray) (f:Fil) (a:Option Addr) (c:Nat) (hid:f.id<4294967296) (hsz:f.size<=90000000) (hL:Lies w a (f.blocks.map iv)) (hin:∀i∈f.blocks,i<m.bl.length) (hn:f.blocks.length<=70000):
  Calls Tryz.prog 41 #[.pointer (some ⟨s,0,none⟩),.agg #[.string sb,.int .u32 (f.id:Int),.int .i64 (f.size:Int),.slice a f.blocks.length c]] w λe w'=>∃v,e=.returned (.tuple #[v,.int .i64 (loadF m.bl f).2])/\OwnB w' w.heap.size v (loadF m.bl f).1/\Below w.heap.size w w':=by
 have hwv:=hd.nil hwt;subst hwv;obtain⟨n,hnn⟩:=jl f.blocks.length;obtain⟨id,hidd⟩:=jl f.id;obtain⟨sz,hszz⟩:=jl f.size;obtain⟨bks,hbks⟩:=jl f.blocks;obtain⟨res,hres⟩:=jl (loadF m.bl f);have hres0:loadG m.bl id sz 0 [] (bks.drop 0)=res:=by rw[hres,hidd,hszz,hbks];rfl
 rw[<-hnn]at hn⊢;rw[<-hidd]at hid⊢;rw[<-hszz]at hsz⊢;rw[<-hbks]at hL hin hnn;rw[<-hres];clear hidd hszz hbks hres;obtain⟨W,hW⟩:=jl (w.alloc (.cells #[.string sb,.int .u32 (id:Int),.int .i64 (sz:Int),.slice a n c] 96));obtain⟨bx,hbx⟩:=jl w.heap.size;have hBW:Below w.heap.size w W:=by rw[hW];exact(Below.refl _ w).alloc jn _
 have hbox:Blk W bx 96 #[.string sb,.int .u32 (id:Int),.int .i64 (sz:Int),.slice a n c]:=by rw[hW,hbx];exact Blk.new w _ _
 have hWs:W.heap.size=w.heap.size+1:=by rw[hW];simp
 have hdW:=hd.later hBW;have hLW:=hL.later hBW;have x3:=hbox.cell 3
 simp at x3
 have HST:=jq ((hBW.cell (p:=⟨s,0,none⟩) hs).trans hst);have HSL:Hid (s<W.heap.size):=jq (by omega);have HDW:=jq hdW;have HLW:=jq hLW;have HBX:=jq hbox;have HIN:=jq hin;have HNN:=jq hnn;have HR0:=jq hres0;have HBW:=jq hBW;have HWS:=jq hWs;have HBE:=jq hbx;clear hd hst hL hin hnn hres0 hBW hWs hdW hLW hbox
 go_enter Tryz.func41,Tryz.ntmps41
 rw[hbx,hW]at x3
 go_wp2_with fail
 rw[<-hW,<-hbx];clear hW x3 hbx
 go_loopw[6,15] (λo i wr=>∃(j:Nat) (v:Value) (out:List UInt8),j<=n/\i=.int .i64 j/\v=o/\out.length<=sz/\Hid (OwnB wr W.heap.size v out)/\Hid (Below W.heap.size W wr)/\Hid (loadG m.bl id sz j out (bks.drop j)=res)) (λ_ i _=>n-(intOf i).toNat)
 case atStart=>exact⟨0,_,[],Nat.zero_le _,rfl,rfl,Nat.zero_le _,jq (World.ownsRow_nil _ _ _ _),jq (Below.refl _ _),HR0⟩
 case round=>
  obtain⟨j,v,out,hj,rfl,rfl,hol,hO,hB,hG⟩:=hrel
  by_cases hlt:j<n
  ·have hjd:decide ((j:Int) <(n:Int))=true:=jd (by omega);obtain⟨i,hi⟩:∃i,bks[j]? =some i:=⟨bks[j]'(by rw[<-HNN.out];exact hlt),jg _⟩;have him:=HIN.out i (jM hi);obtain⟨blk,hblk⟩:∃b,m.bl[i]? =some b:=⟨m.bl[i],jg him⟩;have h128:blk.length=128:=HDW.out.len blk (jM hblk);have hgd:m.bl.getD i []=blk:=by rw[List.getD_eq_getElem?_getD,hblk];rfl
   obtain⟨ga,oa,rfl,hca⟩:=lies_at (HLW.out.later hB.out) (k:=j) (u:=iv i) (by rw[List.getElem?_map,hi];rfl);unfold iv at hca;have hdr:=HDW.out.later hB.out;have hRD:=read_on i hdr hoff hblk;have s0:=(hB.out.cell (p:=⟨s,0,none⟩) HSL.out).trans HST.out;have hbr:=HBX.out.below hB.out HBX.out.lt;have f3:=hbr.cell 3
   simp at f3
   have hstep:bks.drop j=i ::bks.drop (j+1):=by
    rw[List.drop_eq_getElem_cons (jS.1 hi).1,(jS.1 hi).2]
   have hg2:=hG.out;rw[hstep]at hg2;unfold loadG at hg2;rw[hgd]at hg2;have HGS:=jq hg2;have HRD:=jq hRD;have HBR:=jq hbr;have H128:=jq h128;have hjw:IntKind.u32.wrap (j:Int)=(j:Int):=by rw[IntKind.wrap_u32];omega
   clear hRD hbr hg2 hstep hgd hblk h128 hdr hi him
   go_wp2_with fail
   refine HRD.out.mono ?_;rintro e w1 ⟨ab,rfl,hLb,hB1⟩;have hbr1:=HBR.out.below hB1 HBR.out.lt;have f1:=hbr1.cell 1;have f2:=hbr1.cell 2
   simp at f1 f2
   have hGT:=Page.get_any id j hid (by omega) ab 128 blk w1 hLb H128.out jn;obtain⟨E,hE⟩:=jl (pageE blk id j);rw[<-hE]at hGT HGS;have HGT:=jq hGT;have HB1:=jq hB1;have HBR1:=jq hbr1;clear hGT hB1 hbr1 hLb hE
   go_wp2_with fail
   refine HGT.out.mono ?_;rintro e w2 ⟨v2,rfl,hO2,hB2⟩;have hbr2:=HBR1.out.below hB2 HBR1.out.lt;have f2':=hbr2.cell 2
   simp at f2'
   have hB02:Below W.heap.size W w2:=(hB.out.trans (HB1.out.mono hB.out.size)).trans (hB2.mono (Nat.le_trans hB.out.size HB1.out.size));have hO12:OwnB w2 W.heap.size v out:=own_later (own_later hO.out HB1.out) hB2
   by_cases hz:E=0
   ·subst hz;rw[if_pos rfl]at hO2;obtain⟨pb,hpb⟩:=jl (pageB blk);rw[<-hpb]at hO2 HGS;obtain⟨a2,c2,rfl,hc2,hL2,hg2,_⟩:=own_shape hO2;obtain⟨oa,oc,rfl,hoc,hoL,hog,_⟩:=own_shape hO12;obtain⟨k,hk⟩:=jl pb.length;obtain⟨q,hq⟩:=jl out.length;have hk112:k<=112:=by rw[hk,hpb,pageB_length H128.out];exact pageN_le _
    rw[<-hk]at hc2 HGS;rw[<-hq]at hoc hol HGS;rw[<-hk,<-hq];have HO12:=jq hO12;have HL2:=jq hL2;have HPB:=jq hpb;have HK:=jq hk;have HQ:=jq hq;have HBB:=jq hB02
    by_cases hck: (k:Int)=min 112 ((sz:Int)-(q:Int))
    ·have hm1:min (112:Int) ((sz:Int)-(q:Int))=(k:Int):=hck.symm;have hg3:=HGS.out;rw[if_pos ⟨rfl,hck⟩]at hg3;have hol2:q+k<=sz:=by omega
     have HG3:=jq hg3;obtain⟨v3,w3,hr3,hO3,hg3'⟩:=run_append_bytes w2 22 _ out HO12.out a2 c2 pb HL2.out (by rw[<-HQ.out,<-HK.out];omega) HBB.out.size;rw[<-HK.out,<-HQ.out]at hr3;have hB3:Below W.heap.size W w3:=HBB.out.grown hg3' HBB.out.size (λg hg=>(HO12.out.lt g hg).1);have HO3:=jq hO3;have HB3:=jq hB3;have HOL:=jq hol2;clear hO2 hL2 hO12 hB02 hB2 hbr2 hpb hk hq hG hO hB hck hg3 hB3 hO3 hg3' hol2
     go_wp2_with (first|(at_builtin;refine Lib.wpList_append_run _ rfl _ _ _ _ rfl _ _ rfl rfl _ _ hr3 ?_))
     exact⟨⟨j+1,_,out++pb,by omega,by simp,rfl,by rw[jL,<-HQ.out,<-HK.out];exact HOL.out,HO3,HB3,HG3⟩,by simp[intOf];omega⟩
    ·have hnb: ((k:Int)==min (112:Int) ((sz:Int)-(q:Int)))=false:=by simpa using hck
     have hrs:res=([],5):=by
      have:=HGS.out;rw[if_neg (λh=>hck h.2)]at this;exact this.symm
     have HRS:=jq hrs;clear hO2 hL2 hO12 hB02 hB2 hbr2 hpb hk hq hG hO hB hck hrs
     go_wp2_with fail
     go_ret2
     refine⟨_,by rw[HRS.out];rfl,?_,HBW.out.trans (HBB.out.mono HBW.out.size)⟩;rw[HRS.out];exact World.ownsRow_nil _ _ _ _
   ·have hEb: (E==0)=false:=by simpa using hz
    have hrs:res=([],5):=by
     have:=HGS.out;rw[if_neg (λh=>hz h.1)]at this;exact this.symm
    have HRS:=jq hrs;have HBB:=jq hB02;clear hO2 hB2 hbr2 hO12 hB02 hrs
    go_wp2_with fail
    go_ret2
    refine⟨_,by rw[HRS.out];rfl,?_,HBW.out.trans (HBB.out.mono HBW.out.size)⟩;rw[HRS.out];exact World.ownsRow_nil _ _ _ _
  ·obtain rfl:j=n:=by omega
   have hjd:decide ((j:Int) <(j:Int))=false:=jf (by omega);have hg2:=hG.out;rw[List.drop_of_length_le (by rw[<-HNN.out];exact Nat.le_refl _)]at hg2;have hrs:res=(out,0):=hg2.symm;have HRS:=jq hrs;clear hg2 hrs
   go_wp2_with fail
   go_ret2
   refine⟨_,by rw[HRS.out];rfl,?_,HBW.out.trans (hB.out.mono HBW.out.size)⟩;rw[HRS.out];exact own_mono hO.out HBW.out.size
end Full
namespace Full
open Go.RowKit Go.Deep Mem Crc Go.Maps Dk Mani
open Store (nv)
theorem cmp_eq {b c:List UInt8} {sb sc:ByteArray} (hb:sv b=.string sb) (hc:sv c=.string sc):cmpI sb sc=0↔b=c:=by
 have h1:=cmp_lt hb hc;have h2:=cmp_lt hc hb;have e1:sb=⟨b.toArray⟩:=by unfold sv at hb;injection hb with h;exact h.symm
 have e2:sc=⟨c.toArray⟩:=by unfold sv at hc;injection hc with h;exact h.symm
 constructor
 ·intro h0;have h3:¬b<c:=λh=>by have:=h1.2 h;omega
  unfold Mani.cmpI at h0
  split at h0
  ·omega
  ·split at h0
   ·omega
   ·rename_i _ h4
    have h5: (sb.toList==sc.toList)=true:=by simpa using h4
    have h6:sb.toList=sc.toList:=by simpa using h5
    rw[Lib.toList_data,Lib.toList_data,e1,e2]at h6;exact h6
 ·rintro rfl;have e:sb=sc:=by rw[e1,e2]
  subst e;have h3:¬cmpI sb sb<0:=λh=>List.lt_irrefl b (h1.1 h)
  unfold Mani.cmpI at h3⊢
  split at h3
  ·omega
  ·rw[if_neg (by assumption),if_neg (by simp)]
theorem find_sum {w:World} (ver next:Nat) {a:Option Addr} (c:Nat) {l:List FR} (h:FilesIn w a l) (hn:l.length<=100000) (hr:rises (l.map FR.f)) (nm:List UInt8):
  Calls Tryz.prog 40 #[.agg #[.int .u64 (ver:Int),.int .u32 (next:Int),.slice a l.length c],nv nm] w λe w'=>Below w.heap.size w w'/\((∃(i:Nat) (x:FR),l[i]? =some x/\x.f.name=nm/\e=.returned (.tuple #[.int .i64 (i:Int),.bool true]))\/((∀x∈l,x.f.name≠nm)/\∃i:Nat,e=.returned (.tuple #[.int .i64 (i:Int),.bool false]))):=by
 obtain⟨nb,hnb0⟩:∃nb:Nat->ByteArray,nb=λk=>⟨((l[k]?.map (λy=>y.f.name)).getD []).toArray⟩:=⟨_,rfl⟩
 have hnb:∀(k:Nat) (y:FR),l[k]? =some y->sv y.f.name=.string (nb k):=λk y hy=>by rw[hnb0];simp[hy,sv]
 have hnm:sv nm=.string ⟨nm.toArray⟩:=rfl;have hcl:∀(k:Nat) (y:FR),l[k]? =some y->(cmpI (nb k) ⟨nm.toArray⟩ <0↔y.f.name<nm):=λk y hy=>cmp_lt (hnb k y hy) hnm
 have hrs:∀(k k':Nat) (y y':FR),k<k'->l[k]? =some y->l[k']? =some y'->y.f.name<y'.f.name:=λk k' y y' hk hy hy'=>by
  have h2:=List.pairwise_map.1 hr;obtain⟨i1,e1⟩:=jS.1 hy;obtain⟨i2,e2⟩:=jS.1 hy';have:=List.pairwise_iff_getElem.1 h2 k k' i1 i2 hk
  rwa [e1,e2]at this
 have hmono:∀k k',k<=k'->k'<l.length->cmpI (nb k') ⟨nm.toArray⟩ <0->cmpI (nb k) ⟨nm.toArray⟩ <0:=λk k' hk hk' hc=>by
  rcases Nat.lt_or_eq_of_le hk with h1|h1
  ·have g1:=List.getElem?_eq_getElem (l:=l) (i:=k) (by omega);have g2:=List.getElem?_eq_getElem (l:=l) (i:=k') hk';exact(hcl k _ g1).2 (List.lt_trans (hrs k k' _ _ h1 g1 g2) ((hcl k' _ g2).1 hc))
  ·rw[h1];exact hc
 refine(find_any ver next l nb a c ⟨nm.toArray⟩ w h hn hnb hmono).mono ?_;rintro e w' ⟨i,hi,hi1,hi2,rfl,hB⟩;refine⟨hB,?_⟩
 by_cases hlt:i<l.length
 ·have g1:=List.getElem?_eq_getElem (l:=l) (i:=i) hlt;have h0:=cmp_eq (hnb i _ g1) hnm
  by_cases hz:cmpI (nb i) ⟨nm.toArray⟩=0
  ·refine .inl ⟨i,_,g1,h0.1 hz,?_⟩
   simp[hlt,hz]
  ·refine .inr ⟨λx hx hxn=>?_,i,by simp[hz]⟩;obtain⟨k,hk⟩:=List.getElem?_of_mem hx;have hkl:=(jS.1 hk).1;have hk0:=(cmp_eq (hnb k _ hk) hnm).2 hxn;rcases Nat.lt_trichotomy k i with h1|h1|h1
   ·have:=hi1 k h1;omega
   ·rw[h1]at hk0;exact hz hk0
   ·have h3:=hrs i k _ _ h1 g1 hk;rw[hxn]at h3;have h4:=(hcl i _ g1).2 h3;have:=hi2 i jn hlt
    omega
 ·refine .inr ⟨λx hx hxn=>?_,i,by simp[hlt]⟩;obtain⟨k,hk⟩:=List.getElem?_of_mem hx;have hkl:=(jS.1 hk).1;have hk0:=(cmp_eq (hnb k _ hk) hnm).2 hxn;have:=hi1 k (by omega)
  omega
end Full
namespace Full
open Go.RowKit Go.Deep Mem Crc Go.Maps Dk Mani
open Store (Chg chgV isChg none' nv nv_key strKeyed zero_chg)
variable {w:World} {Q:Nat->Prop} {s d g cm:Nat} {wv:Value} {m:DM} {ver next:Nat} {a:Option Addr} {c:Nat} {l:List FR} {bad:Bool} {C:Chg}
def heldF (bl:List (List UInt8)) (fs:List Fil) (nm:List UInt8):List UInt8×Int:=
 match fs.find? (λf=>f.name==nm)with
 |some f=>loadF bl f
 |none=>([],8)
def readF (bl:List (List UInt8)) (C:Chg) (fs:List Fil) (nm:List UInt8):List UInt8×Int:=
 match C nm with
 |some (some b)=>(b,0)
 |some none=>([],8)
 |none=>heldF bl fs nm
theorem find_named {fs:List Fil} (hr:rises fs) {f:Fil} (hf:f∈fs):fs.find? (λx=>x.name==f.name)=some f:=by
 induction fs with
 |nil=>cases hf
 |cons x r ih=>
  obtain⟨h1,h2⟩:=List.pairwise_cons.1 hr;rcases List.mem_cons.1 hf with rfl|hf
  ·rw[List.find?_cons_of_pos (by simp)]
  ·have hlt:=h1 f hf
   rw[List.find?_cons_of_neg (by
    simp only[beq_iff_eq];intro e;rw[e]at hlt;exact List.lt_irrefl _ hlt)]
   exact ih h2 hf
theorem find_none_named {fs:List Fil} {nm:List UInt8} (h:∀f∈fs,f.name≠nm):fs.find? (λx=>x.name==nm)=none:=List.find?_eq_none.2 (λx hx=>by simpa using h x hx)
attribute [local go_sem] Oper.semAt_some
theorem fread_any (h:Fu w Q s d g cm wv m ver next a c l bad C) (hok:Okm m.bl.length ver next (l.map FR.f)) (hbad: (bad||m.off)=false) (hwt:m.wt= []) (nm:List UInt8) (hn:nm.length<=1000000) (hb:∀b,C nm=some (some b)->b.length<=4000000):
  Calls Tryz.prog 12 #[.pointer (some ⟨s,0,none⟩),nv nm] w λe w'=>∃v,e=.returned (.tuple #[v,.int .i64 (readF m.bl C (l.map FR.f) nm).2])/\OwnB w' w.heap.size v (readF m.bl C (l.map FR.f) nm).1/\Below w.heap.size w w':=by
 have HD:=jq (down_yes h hbad);obtain⟨c0,c1,c2,c3,c4,_⟩:=h.cells
 have hoff:m.off=false:=by cases hm:m.off with
  |false=>rfl
  |true=>rw[hm]at hbad;simp at hbad
 obtain⟨a1,n1,cp1,gn,hLk,hrun⟩:=h.look nm hn;have hlk:=(hrun w rfl).1;have hcl:=h.lt cm h.qm;have H:=jq h;have HOK:=jq hok;obtain⟨x,hx⟩:=jl (nv nm);obtain⟨N,hN⟩:=jl l.length;have hal:=(Below.refl w.heap.size w).alloc jn (.cells #[.slice a1 n1 cp1,.bool gn] 87);have HA:=jq hal
 cases hC:C nm with
 |some y=>
  rw[hC]at hlk hLk
  cases y with
  |none=>
   obtain⟨rfl,rfl,rfl,rfl⟩:=hLk;have er:readF m.bl C (l.map FR.f) nm=([],8):=by unfold readF;rw[hC]
   rw[er,<-hx];rw[<-hx]at hlk;clear h hb hok hC er hrun hx hN hal c3
   go_enter Tryz.func12,Tryz.ntmps12
   go_wp2_with fail
   refine HD.out.mono ?_;rintro e w1 ⟨rfl,rfl⟩
   go_wp2_with fail
   go_ret2
   exact⟨_,rfl,World.ownsRow_nil _ _ _ _,HA.out⟩
  |some b=>
   obtain⟨rfl,rfl,hcp,hL,_⟩:=hLk;have er:readF m.bl C (l.map FR.f) nm=(b,0):=by unfold readF;rw[hC]
   rw[er,<-hx];rw[<-hx]at hlk;have HC:=jq (clone_any a1 cp1 b _ (hL.later hal) (by have:=hb b hC;omega));clear h hb hok hC er hrun hx hN hal c3 hL
   go_enter Tryz.func12,Tryz.ntmps12
   go_wp2_with fail
   refine HD.out.mono ?_;rintro e w1 ⟨rfl,rfl⟩
   go_wp2_with fail
   refine HC.out.mono ?_;rintro e w2 ⟨v,rfl,hO,hB2⟩;have HO:=jq (own_mono hO (show w1.heap.size<=_ by simp));have HB2:=jq (HA.out.trans (hB2.mono (by simp)));clear hO hB2
   go_wp2_with fail
   go_ret2
   exact⟨_,rfl,HO.out,HB2.out⟩
 |none=>
  rw[hC]at hlk hLk;obtain⟨rfl,rfl,rfl,rfl⟩:=hLk;have er:readF m.bl C (l.map FR.f) nm=heldF m.bl (l.map FR.f) nm:=by unfold readF;rw[hC]
  rw[er];obtain⟨R,hR⟩:=jl (heldF m.bl (l.map FR.f) nm);rw[<-hR];have HR:=jq hR;have hfew:=hok.few;rw[jP]at hfew;have hfs:=find_sum ver next c (h.files.later hal) (by omega) hok.ok.rise nm;rw[<-hx,<-hN]at hfs;rw[<-hx];rw[<-hx]at hlk;have hA:=h.store.alloc (.cells #[.slice none 0 0,.bool false] 87);have k0:=hA.cell 0;have k1:=hA.cell 1;have k2:=hA.cell 2;have k3:=hA.cell 3
  simp at k0 k1 k2 k3
  rw[<-hN]at k3;have HFS:=jq hfs;have HN:=jq hN;have HCN:=jq hC;clear h hb hok er hrun hx hal c3 hA hfs hC hN hR
  go_enter Tryz.func12,Tryz.ntmps12
  go_wp2_with fail
  refine HD.out.mono ?_;rintro e w1 ⟨rfl,rfl⟩
  go_wp2_with fail
  refine HFS.out.mono ?_;rintro e w2 ⟨hB2,hr⟩;have hBB:=HA.out.trans (hB2.mono (by simp));have hF2:=H.out.later hBB;have HBB:=jq hBB;obtain⟨d0,d1,d2,d3,d4,d5⟩:=hF2.cells;rw[<-HN.out]at d3;rcases hr with⟨i,y,hy,hyn,rfl⟩|⟨hnone,i,rfl⟩
  ·have hym:y∈l:=jM hy;have hyf:y.f∈l.map FR.f:=List.mem_map.2 ⟨y,hym,rfl⟩;obtain⟨ga,oa,rfl,f0,f1,f2,f3⟩:=hF2.files.cells hy;have hin:=(jS.1 hy).1;rw[<-HN.out]at hin
   have er2:heldF m.bl (l.map FR.f) nm=loadF m.bl y.f:=by
    unfold heldF;rw[<-hyn,find_named HOK.out.ok.rise hyf]
   have hsz:=HOK.out.size y.f hyf;have hft:=HOK.out.fit y.f hyf;obtain⟨sb,hsb⟩:∃sb:ByteArray,sv y.f.name=.string sb:=⟨_,rfl⟩;have hld:=load_any hF2.store.lt d0 hF2.disk hoff hwt sb y.f y.a y.c hft.2.1.id (by omega) (hF2.files.blocks y hym).1 (HOK.out.in_ y.f hyf) (by omega);rw[hsb]at f0;obtain⟨id,hid⟩:=jl y.f.id;obtain⟨sz,hszz⟩:=jl y.f.size;obtain⟨bn,hbn⟩:=jl y.f.blocks.length;unfold iv at f2;rw[<-hid]at f1 hld;rw[<-hszz]at f2 hld;rw[<-hbn]at f3 hld;have HE:=jq (HR.out.trans er2);have HLD:=jq hld;clear hF2 hB2 hBB hld hid hszz hbn hsb hyn hy er2 hsz hft HFS
   go_wp2_with fail
   refine HLD.out.mono ?_;rintro e w3 ⟨v,rfl,hO,hB3⟩;have HO:=jq (own_mono hO HBB.out.size);have HB3:=jq (HBB.out.trans (hB3.mono HBB.out.size));rw[<-HE.out]at HO⊢;clear hO hB3 HLD
   go_wp2_with fail
   go_ret2
   exact⟨_,rfl,HO.out,HB3.out⟩
  ·have er2:heldF m.bl (l.map FR.f) nm=([],8):=by
    unfold heldF
    rw[find_none_named (λf hf=>by
     obtain⟨y,hy,rfl⟩:=List.mem_map.1 hf;exact hnone y hy)]
   have HE:=jq (HR.out.trans er2);clear hF2 hB2 hBB er2 HFS
   go_wp2_with fail
   go_ret2
   refine⟨_,by rw[HE.out];rfl,?_,HBB.out⟩;rw[HE.out];exact World.ownsRow_nil _ _ _ _
end Full
namespace Full
open Go.RowKit Go.Deep Mem Crc Go.Maps Dk Mani
open Store (Chg chgV isChg none' nv nv_key strKeyed zero_chg setC setC_same setC_other len_name)
open Ext (Holds freeN)
variable {w:World} {Q:Nat->Prop} {s d g cm:Nat} {wv:Value} {m:DM} {ver next:Nat} {a:Option Addr} {c:Nat} {l:List FR} {bad:Bool} {C:Chg}
theorem Fu.changed {w1:World} (h:Fu w Q s d g cm wv m ver next a c l bad C) (hB:Below w.heap.size w w1) (L:List (List UInt8)) (hL:∀x,C x≠none->x∈L) (hn:L.length<=1000000)
  (nm:List UInt8) (hnm:nm.length<=1000000) (o:Option (List UInt8)) (v:Value) (hv:chgV w1 (λk=>w.heap.size<=k/\k<w1.heap.size) o v):
  ∃w2,(Instr.mapUpdate 88 (.map (some cm)) (nv nm) v).run Tryz.prog w1=.ok () w2/\Fu w2 (λk=>Q k\/(w.heap.size<=k/\k<w1.heap.size)) s d g cm wv m ver next a c l bad (setC C nm (some o))/\Only [cm] w w2/\w2.heap.size=w1.heap.size:=by
 have h1:=h.later hB;obtain⟨f,hm,hk,hf⟩:=h1.map
 obtain⟨w2,hrun,hm2,hg,hs⟩:=hm.update strKeyed Tryz.underlying88 (L.map Lit.string) (λx hx=>by
  obtain⟨y,rfl⟩:=hk x hx;refine List.mem_map.2 ⟨y,hL y (λhc=>?_),rfl⟩;have:=hf y;unfold isChg at this;rw[hc]at this;exact hx this) (by rw[jP];unfold maxLen;omega) (nv_key hnm) v
 have ho:Only [cm] w1 w2:=Only.of_grown hg (λg hg=>by cases hg;exact .inl (by simp));have haw:=h1.away;have hsm:=h1.map_ne h1.store;have hcm:=h.lt cm h.qm;have hsl:=h.lt s h.qs;have hdl:=h.disk.lt;have hsz:=hB.size;have hkk:∀k,k<w1.heap.size->k≠cm->w2.heap[k]? =w1.heap[k]?:=λk hk hne=>ho.block k hk (by simpa using hne)
 have hown:∀k,Own Q s d g cm wv k->Own (λk=>Q k\/(w.heap.size<=k/\k<w1.heap.size)) s d g cm wv k:=λk hk=>⟨.inl hk.1,hk.2⟩
 refine⟨w2,hrun,⟨(hkk s h1.store.lt hsm).trans h1.store,h1.disk.keep ho.size (λk hk=>hkk k (h1.disk.lt k hk) (λe=>haw.2 (e▸hk))),h1.files.keep ho.size (λk e=>hkk k (h1.lt k (h1.fr k e).1) (h1.fr k e).2.1) (λx hx k e=>hkk k (h1.lt k (h1.br x hx k e).1) (h1.br x hx k e).2.1),λk e=>hown k (h1.fr k e),λx hx k e=>hown k (h1.br x hx k e),⟨_,hm2,λx hx=>?_,λx=>?_⟩,.inl h.qs,.inl h.qm,λk hk=>.inl (h.qd k hk),λk hq=>?_⟩,(Only.of_below (bs:=[cm]) hB).trans ho,hs⟩
 ·by_cases e:x=.string nm
  ·exact⟨nm,e⟩
  ·rw[setK_other _ e]at hx;exact hk x hx
 ·by_cases e:x=nm
  ·subst e;unfold isChg;rw[setC_same,setK_same];exact⟨v,rfl,hv.keep ho.size (λk hq=>hkk k hq.2 (by omega)) (λk hq=>⟨.inr hq,by omega,by omega,λhh=>by have:=hdl k hh;omega⟩)⟩
  ·have h3:=hf x;unfold isChg at h3⊢;rw[setC_other _ e,setK_other _ (λh=>e (by injection h))]
   cases hc:C x with
   |none=>rw[hc]at h3;exact h3
   |some c'=>
    rw[hc]at h3;obtain⟨u,hu,h4⟩:=h3;exact⟨u,hu,h4.keep ho.size (λk hq=>hkk k (h1.lt k hq.1) hq.2.1) hown⟩
 ·rw[hs];rcases hq with hq|hq
  ·exact h1.lt k hq
  ·exact hq.2
theorem fwrite_name (h:Fu w Q s d g cm wv m ver next a c l bad C) (hb: (bad||m.off)=false) (nm:List UInt8) (hn:nm.length=0\/32<nm.length) (ad:Option Addr) (n cp:Nat):
  Calls Tryz.prog 11 #[.pointer (some ⟨s,0,none⟩),nv nm,.slice ad n cp] w λe w'=>e=.returned (.int .i64 8)/\w'=w:=by
 have HD:=jq (down_yes h hb);clear h hb;have hlen:=len_name nm;obtain⟨x,hx⟩:=jl (nv nm);obtain⟨ln,hln⟩:=jl nm.length;rw[<-hx,<-hln]at hlen;rw[<-hx];rw[<-hln]at hn;clear hx hln;rcases hn with rfl|hn
 ·go_enter Tryz.func11,Tryz.ntmps11
  go_wp2_with fail
  refine HD.out.mono ?_;rintro e w1 ⟨rfl,rfl⟩
  go_wp2_with fail
  go_ret
  exact⟨rfl,rfl⟩
 ·have h0: ((ln:Int)==0)=false:=by
   have:¬(ln:Int)=0:=by omega
   simpa using this
  have h1:decide (32<(ln:Int))=true:=jd (by omega)
  go_enter Tryz.func11,Tryz.ntmps11
  go_wp2_with fail
  refine HD.out.mono ?_;rintro e w1 ⟨rfl,rfl⟩
  go_wp2_with fail
  go_ret
  exact⟨rfl,rfl⟩
theorem fwrite_any (h:Fu w Q s d g cm wv m ver next a c l bad C) (hbad: (bad||m.off)=false) (L:List (List UInt8)) (hL:∀x,C x≠none->x∈L) (hn:L.length<=1000000)
  (nm:List UInt8) (hn1:1<=nm.length) (hn2:nm.length<=32) (ad:Option Addr) (cp:Nat) (b:List UInt8) (hb:Lies w ad (b.map bv)) (hb2:b.length<=1048576):
  Calls Tryz.prog 11 #[.pointer (some ⟨s,0,none⟩),nv nm,.slice ad b.length cp] w λe w'=>e=.returned (.int .i64 0)/\∃Q',Fu w' Q' s d g cm wv m ver next a c l bad (setC C nm (some (some b)))/\(∀k,Q' k->Q k\/w.heap.size<=k)/\(∀k,Q k->Q' k)/\Only [cm] w w':=by
 have HD:=jq (down_yes h hbad);have HC:=jq (clone_any ad cp b w.drew hb (by omega));have H:=jq h;obtain⟨_,_,_,_,c4,_⟩:=h.cells;have HLS:=jq h.store.lt;have HDR:=jq ((Below.refl w.heap.size w).drew);clear h hb
 have h0: ((nm.length:Int)==0)=false:=by
  have:¬(nm.length:Int)=0:=by omega
  simpa using this
 have h1:decide (32<(nm.length:Int))=false:=by
  have:¬32<(nm.length:Int):=by omega
  simpa using this
 have h2:decide (1048576<(b.length:Int))=false:=by
  have:¬1048576<(b.length:Int):=by omega
  simpa using this
 have hlen:=len_name nm;obtain⟨x,hx⟩:=jl (nv nm);obtain⟨ln,hln⟩:=jl nm.length;rw[<-hx,<-hln]at hlen;rw[<-hln]at h0 h1;rw[<-hx];have HX:=jq hx;clear hx hln
 go_enter Tryz.func11,Tryz.ntmps11
 go_wp2_with fail
 refine HD.out.mono ?_;rintro e w1 ⟨rfl,rfl⟩
 go_wp2_with fail
 go_region_held3 (λw'=>w'.cell? ⟨s,4,none⟩=some (.map (some cm))) (first|exact c4|exact hk2|exact hk3) ((go_at_call 39;refine HC.out.mono ?_;rintro e w2 ⟨v,rfl,hO,hB2⟩;obtain⟨va,vc,rfl,hvc,hvl,hvb,_⟩:=own_shape hO;obtain⟨w3,hrun,hst3,ho3,hs3⟩:=H.out.changed (w1:=w2) (HDR.out.trans hB2) L hL hn nm (by omega) (some b) (.agg #[.slice va b.length vc,.bool false]) ⟨va,vc,rfl,hvc,hvl,hvb⟩;rw[<-HX.out]at hrun;have hk2:=(hB2.cell (p:=⟨s,4,none⟩) HLS.out).trans c4;have hk3:=hst3.cells.2.2.2.2.1;dsimp only))
 go_wp2_with fail
 go_ret
 exact⟨rfl,_,hst3,λk hk=>hk.imp id And.left,λk hk=>.inl hk,ho3⟩
theorem forget_any (h:Fu w Q s d g cm wv m ver next a c l bad C):Calls Tryz.prog 24 #[.pointer (some ⟨s,0,none⟩)] w λe w'=>e=.returned (.tuple #[])/\Fu w' Q s d g cm wv m ver next a c l bad none'/\Only [cm] w w':=by
 obtain⟨_,_,_,_,c4,_⟩:=h.cells;obtain⟨W,hcl,hf,_,ho⟩:=h.clear;have HF:=jq hf;have HO:=jq ho;clear h hf ho
 go_enter Tryz.func24,Tryz.ntmps24
 go_wp2_with fail
 go_end0
 exact⟨rfl,HF.out,HO.out⟩
theorem frees_any (h:Fu w Q s d g cm wv m ver next a c l bad C) (hl:l.length<=100000) (hb:∀x∈l,x.f.blocks.length<=100000):Calls Tryz.prog 17 #[.pointer (some ⟨s,0,none⟩)] w λe w'=>e=.returned (.int .i64 (freeN (freeK m.bl.length (l.map FR.f)):Int))/\Below w.heap.size w w':=by
 have HF:=jq (free_any h hl hb);obtain⟨k,hk⟩:=jl (freeK m.bl.length (l.map FR.f));rw[<-hk]at HF⊢;obtain⟨N,hN2⟩:=jl (freeN k);rw[<-hN2];have HN2:=jq hN2;clear h hl hb hk hN2
 go_enter Tryz.func17,Tryz.ntmps17
 go_wp2_with fail
 refine HF.out.mono ?_;rintro e w1 ⟨Cb,gb,cap,rfl,hH,_,_,hB⟩;have HH:=jq (Ext.free_holds hH);have HB:=jq hB
 have hN: (k.length:Int)-Ext.tak k=(freeN k:Int):=by
  have:=Ext.tak_le k;unfold Ext.freeN
  omega
 rw[hN]at HH;rw[<-HN2.out]at HH;clear hH hB hN
 go_wp2_with fail
 refine HH.out.mono ?_;rintro e w2 ⟨rfl,n,rfl⟩
 go_wp2_with fail
 go_ret
 exact⟨rfl,HB.out.os,HB.out.tape,HB.out.output,HB.out.size,HB.out.block⟩
end Full
namespace Full
open Go.RowKit Go.Deep Mem Crc Go.Maps Dk Mani
open Store (Chg chgV isChg none' nv nv_key strKeyed zero_chg unit' isFile chg_shape met strKeys_mem strKeys_length setK_twice)
variable {w:World} {Q:Nat->Prop} {s d g cm:Nat} {wv:Value} {m:DM} {ver next:Nat} {a:Option Addr} {c:Nat} {l:List FR} {bad:Bool} {C:Chg}
def Seen2 (base:List (List UInt8)) (C:Chg) (left:Lit->Bool) (fm:Lit->Option Value):Prop:=(∀x,fm x≠none->∃nm,x=.string nm)/\∀nm,fm (.string nm)=if(!left (.string nm)&&(C nm).isSome)=true then(if isFile C nm=true then some unit' else none)else(if nm∈base then some unit' else none)
theorem seen2_step {base:List (List UInt8)} {left:Lit->Bool} {fm:Lit->Option Value} (h:Seen2 base C left fm) (nm:List UInt8) (hc: (C nm).isSome=true) (u:Option Value) (hu:u=if isFile C nm=true then some unit' else none):Seen2 base C (λz=>left z&& !z.sameKey (.string nm)) (setK fm (.string nm) u):=by
 refine⟨λx hx=>?_,λx=>?_⟩
 ·by_cases e:x=.string nm
  ·exact⟨nm,e⟩
  ·rw[setK_other _ e]at hx;exact h.1 x hx
 ·by_cases e:x=nm
  ·subst e;rw[setK_same,hu];have: (Lit.string x).sameKey (.string x)=true:=WideAt.sameKey_self trivial
   simp[this,hc]
  ·rw[setK_other _ (λh=>e (by injection h)),h.2 x];have: (Lit.string x).sameKey (.string nm)=false:=Maps.sameKey_ne (λh=>e (by injection h))
   simp[this]
theorem seen2_start {Q':Nat->Prop} {base:List (List UInt8)} {D:DataW Value} {f fm:Lit->Option Value} (hd:Desc D f) (hf:∀nm,isChg w Q' f C nm) (h1:∀x,fm x≠none->∃nm,x=.string nm) (h2:∀nm,fm (.string nm)=if nm∈base then some unit' else none):Seen2 base C (Maps.has D) fm:=⟨h1,λnm=>by
 have:=hf nm;unfold isChg at this;rw[h2 nm]
 cases hC:C nm with
 |none=>simp
 |some y=>
  rw[hC]at this;obtain⟨v,hv,_⟩:=this;have e:Maps.has D (.string nm)=true:=by rw[(hd _).1,hv];rfl
  simp[e]⟩
theorem seen2_support {base L:List (List UInt8)} {left:Lit->Bool} {fm:Lit->Option Value} (hL:∀x,C x≠none->x∈L) (h:Seen2 base C left fm):∀x,fm x≠none->x∈(base++L).map Lit.string:=λx hx=>by
 obtain⟨nm,rfl⟩:=h.1 x hx;refine List.mem_map.2 ⟨nm,?_,rfl⟩;rw[h.2 nm]at hx
 by_cases hb: (!left (.string nm)&&(C nm).isSome)=true
 ·refine List.mem_append.2 (.inr (hL nm (λe=>?_)));rw[e]at hb
  simp at hb
 ·rw[if_neg hb]at hx
  by_cases hm:nm∈base
  ·exact List.mem_append.2 (.inl hm)
  ·rw[if_neg hm]at hx;exact absurd rfl hx
def hasF (C:Chg) (fs:List Fil) (nm:List UInt8):Prop:=
 match C nm with
 |some (some _)=>True
 |some none=>False
 |none=>nm∈fs.map Fil.name
theorem seen2_end {fs:List Fil} {left:Lit->Bool} {fm:Lit->Option Value} (h:Seen2 (fs.map Fil.name) C left fm) (hl:∀z,left z=false) (nm:List UInt8):fm (.string nm)≠none↔hasF C fs nm:=by
 rw[h.2 nm,hl];unfold hasF Store.isFile
 cases hC:C nm with
 |none=>by_cases hm:nm∈fs.map Fil.name <;> simp[hm]
 |some y=>cases y <;> simp
structure BaseIs (base:List (List UInt8)) (fm:Lit->Option Value):Prop where
 str:∀x,fm x≠none->∃nm,x=.string nm
 mem:∀nm,fm (.string nm)=if nm∈base then some unit' else none
theorem BaseIs.step {base:List (List UInt8)} {fm:Lit->Option Value} (h:BaseIs base fm) (nm:List UInt8):BaseIs (base++ [nm]) (setK fm (.string nm) (some unit')):=by
 refine⟨λx hx=>?_,λx=>?_⟩
 ·by_cases e:x=.string nm
  ·exact⟨nm,e⟩
  ·rw[setK_other _ e]at hx;exact h.str x hx
 ·by_cases e:x=nm
  ·subst e;rw[setK_same]
   simp
  ·rw[setK_other _ (λh=>e (by injection h)),h.mem x]
   simp[e]
theorem BaseIs.support {base:List (List UInt8)} {fm:Lit->Option Value} (h:BaseIs base fm):∀x,fm x≠none->x∈base.map Lit.string:=λx hx=>by
 obtain⟨nm,rfl⟩:=h.str x hx;refine List.mem_map.2 ⟨nm,?_,rfl⟩;rw[h.mem nm]at hx
 by_cases hm:nm∈base
 ·exact hm
 ·rw[if_neg hm]at hx;exact absurd rfl hx
attribute [local go_sem] Oper.semAt_some
theorem fnames_any (h:Fu w Q s d g cm wv m ver next a c l bad C) (L:List (List UInt8)) (hL:∀x,C x≠none->x∈L) (hn:L.length<=100000) (hLn:∀x∈L,x.length<=1000000) (hl:l.length<=100000) (hls:∀x∈l,x.f.name.length<=32):
  Calls Tryz.prog 28 #[.pointer (some ⟨s,0,none⟩)] w λe w'=>∃(v:Value) (ss:List (List UInt8)),e=.returned v/\w'.ownsRow w.heap.size 9 1 v ss.length (ss.map encStr)/\(∀nm,nm∈ss↔hasF C (l.map FR.f) nm)/\ss.Pairwise (·< ·)/\ss.length<=l.length+L.length/\Below w.heap.size w w':=by
 obtain⟨_,_,_,c3,c4,_⟩:=h.cells;have H:=jq h;have HLS:=jq hls;have hmk:=run_makeMap (P:=Tryz.prog) 118 w;obtain⟨N,hN⟩:=jl l.length;rw[<-hN]at c3;have ha:=h.store.alloc (.map #[] 0);have k3:=ha.cell 3;have k4:=ha.cell 4
 simp at k3 k4
 rw[<-hN]at k3 hl⊢;have HN:=jq hN;have HL:=jq hL;have HLN:=jq hLn;clear h ha hN hls hL hLn
 go_enter Tryz.func28,Tryz.ntmps28
 go_wp2_with fail
 obtain⟨W,hW⟩:=jl (w.alloc (.map #[] 0));obtain⟨nb,hnb⟩:=jl w.heap.size;have hM0:MapIs W 9 nb (λ_=>none):=by rw[hW,hnb];exact MapIs.made w _
 have hBW:Below w.heap.size w W:=by rw[hW];exact(Below.refl _ w).alloc jn _
 rw[<-hW]at k3 k4⊢;rw[<-hnb];have HM0:=jq hM0;have HBW:=jq hBW;have HNB:=jq hnb;clear hM0 hBW hW hmk c3 c4 hnb
 go_loopw[17] (λi wr=>∃(j:Nat) (fm:Lit->Option Value),j<=N/\i=.int .i64 j/\Hid (MapIs wr 9 nb fm)/\Hid (BaseIs ((l.take j).map (λx=>x.f.name)) fm)/\Hid (Below w.heap.size w wr)) (λi _=>N-(intOf i).toNat)
 case atStart=>exact⟨0,_,Nat.zero_le _,rfl,HM0,jq ⟨λx hx=>absurd rfl hx,λnm=>by simp⟩,HBW⟩
 case round=>
  obtain⟨j,fm0,hj,rfl,hM,hBI,hB⟩:=hrel
  by_cases hlt:j<N
  ·have hjd:decide ((j:Int) <(N:Int))=true:=jd (by omega);obtain⟨x,hx⟩:∃x,l[j]? =some x:=⟨l[j]'(by rw[<-HN.out];exact hlt),jg _⟩;have hxm:=jM hx;have hFr:=H.out.later hB.out;obtain⟨ga,oa,rfl,f0,f1,f2,f3⟩:=hFr.files.cells hx;obtain⟨sb,hnm⟩:∃sb:ByteArray,sv x.f.name=.string sb:=⟨_,rfl⟩;have hnm2:nv x.f.name=.string sb:=hnm;obtain⟨sz,hsz⟩:=jl x.f.size;obtain⟨id,hid⟩:=jl x.f.id;obtain⟨bn,hbn⟩:=jl x.f.blocks.length;unfold iv at f2;rw[hnm]at f0;rw[<-hid]at f1;rw[<-hsz]at f2;rw[<-hbn]at f3;obtain⟨W5,hW5⟩:=jl (wr.alloc (.cells #[.string sb,.int .u32 (id:Int),.int .i64 (sz:Int),.slice x.a bn x.c] 96));have hB5:Below wr.heap.size wr W5:=by rw[hW5];exact(Below.refl _ wr).alloc jn _
   have hM5:MapIs W5 9 nb fm0:=hM.out.keep (hB5.block nb hM.out.lt);obtain⟨W6,hU,hM6,hg6,hs6⟩:=hM5.update strKeyed Tryz.underlying118 (((l.take j).map (λx=>x.f.name)).map Lit.string) hBI.out.support (by rw[jP,jP,jT];unfold maxLen;omega) (nv_key (nm:=x.f.name) (by have:=HLS.out x hxm;omega)) unit';have hBI6:=hBI.out.step x.f.name;have htk: (l.take j).map (λx=>x.f.name)++ [x.f.name]=(l.take (j+1)).map (λx=>x.f.name):=by rw[List.take_add_one,hx];simp
   rw[htk]at hBI6;have hB6:Below w.heap.size w W6:=(hB.out.trans (hB5.mono hB.out.size)).grown hg6 (Nat.le_trans hB.out.size hB5.size) (λq e=>by cases e;rw[HNB.out];exact Nat.le_refl _);rw[hnm2]at hU;unfold unit' at hU;rw[hW5]at hU;have HM6:=jq hM6;have HBI6:=jq hBI6;have HB6:=jq hB6;clear hM5 hM6 hg6 hs6 hBI6 hB6 hB5 hW5 hFr hnm hnm2 hsz hid hbn hx hxm htk hM hBI hB
   go_wp2_with fail
   exact⟨⟨j+1,_,by omega,by simp,HM6,HBI6,HB6⟩,by simp[intOf];omega⟩
  ·obtain rfl:j=N:=by omega
   have hjd:decide ((j:Int) <(j:Int))=false:=jf (by omega);have htk: (l.take j).map (λx=>x.f.name)=(l.map FR.f).map Fil.name:=by rw[jW (by rw[HN.out];exact Nat.le_refl _),List.map_map];rfl
   have hbi:=hBI.out;rw[htk]at hbi;have hlen0: ((l.map FR.f).map Fil.name).length=j:=by rw[jP,jP,HN.out]
   obtain⟨f,⟨D,n,hown,hd⟩,hk,hf⟩:=(H.out.later hB.out).map;obtain⟨W2,hrun,hrg,hgr,hsz⟩:=hown.range strKeyed Tryz.underlying88;have hcm:=H.out.lt cm H.out.qm;have hW2:Below wr.heap.size wr W2:=⟨hgr.os,hgr.tape,hgr.output,hgr.size,λk hk=>hgr.block k hk (by simp)⟩;have r4:=(hB.out.cell (p:=⟨s,4,none⟩) H.out.store.lt).trans H.out.cells.2.2.2.2.1;have HR:=jq hrg;have HW2:=jq hW2;have HF:=jq hf;have HD:=jq hd;have HK:=jq hk;have hn2:=hM.out.lt;have hM1:=hM.out.keep (hW2.block nb hn2);have HM1:=jq hM1;have HS:=jq (seen2_start hd hf hbi.str hbi.mem);have HBW2:=jq (hB.out.trans (hW2.mono hB.out.size));have HL0:=jq hlen0;have hnr0:nb≠wr.heap.size:=by omega
   clear hrg hgr hW2 hf hd hk hM1 hown k3 k4 hbi htk hlen0
   go_wp2_with fail
   obtain⟨r,hr⟩:=jl wr.heap.size;rw[<-hr]at HR⊢;have hrw:nb<r:=by rw[hr];exact hn2
   have HRR:=jq hr;clear hr hrun
   go_loopw[] (λwq=>∃left cnt fm,Hid (wq.ranges Tryz.prog 9 anyR cm r n D left cnt)/\Hid (MapIs wq 9 nb fm)/\Hid (Seen2 ((l.map FR.f).map Fil.name) C left fm)/\Hid (Below w.heap.size w wq)) (λwq=>wq.rangeLeft cm r)
   case atStart=>exact⟨_,_,_,HR,HM1,HS,HBW2⟩
   case round=>
    obtain⟨left,cnt,fm,hR,hM,hS,hB⟩:=hrel;have hnbe:=HNB.out;have hsz:=hB.out.size;rcases hR.out.next strKeyed 0 with⟨h0,hl,hrun⟩|⟨key,v,kl,y,w5,cnt',hkey,hlk,hv,hat,hrun,hR5,hlt,hg5,hs5,hen⟩
    ·have HLF:=jq hl;clear hl h0;obtain⟨D2,hown2,hd2⟩:=hM.out.bounded strKeyed _ (seen2_support HL.out hS.out);have hle:=hown2.size_le;rw[jP,jL,HL0.out]at hle;have hKeys:=callsIn_wide.1 (Tryz.maps_Keys_59 (some nb) wr);have hSort:=callsIn_wide.1 (Tryz.slices_Sorted_keys_58_59 nb _ D2 anyR wr hown2 (by unfold maxLen;omega) (by omega));have HKY:=jq hKeys;have HST:=jq hSort;have HD2:=jq hd2;have HO2:=jq hown2;clear hown2 hd2 hKeys hSort hnbe
     go_wp2_with fail
     refine HKY.out.mono ?_;rintro e w6 ⟨rfl,rfl⟩
     go_wp2_with fail
     refine HST.out.mono ?_;rintro e w7 ⟨v,ss,rfl,hperm,hown7,_,hB7⟩;have HO7:=jq hown7;have HB7:=jq hB7;have HP:=jq hperm;clear hown7 hB7 hperm
     go_wp2_with fail
     go_ret
     refine⟨v,ss.mergeSort (λx y=>decide (x<=y)),rfl,?_,λnm=>?_,sorted_names HP.out (strKeys_nodup HD2.out hS.out.1 (HO2.out.entries strKeyed)),?_,?_⟩
     ·rw[List.length_mergeSort];exact own_mono HO7.out (by have:=HNB.out;simp;omega)
     ·rw[List.mem_mergeSort,HP.out.mem_iff,strKeys_mem HD2.out hS.out.1 (HO2.out.entries strKeyed)];exact seen2_end hS.out HLF.out nm
     ·rw[List.length_mergeSort,HP.out.length_eq,strKeys_length (HO2.out.entries strKeyed)]
      omega
     ·exact(hB.out.alloc hsz _).trans (HB7.out.mono (by have:=HNB.out;simp;omega))
    ·obtain⟨nm,cc,rfl,rfl,hc,hch⟩:=met HD.out HF.out HK.out (λnm h=>HLN.out nm (HL.out nm h)) hkey hv hat;obtain⟨a0,n0,cp0,gn,rfl,hgn⟩:=chg_shape hc hch;have hlen:nm.length<=1000000:=HLN.out nm (HL.out nm (by rw[hc];exact λh=>by cases h));have hnr:nb≠r:=by omega
     have hncm:nb≠cm:=by omega
     have hM5:=hM.out.keep (hg5.block nb hM.out.lt (λe=>hnr (by injection e)));obtain⟨W3,hW3⟩:=jl (w5.alloc (.cells #[.slice a0 n0 cp0,.bool gn] 87));have hM3:MapIs W3 9 nb fm:=by rw[hW3];exact hM5.keep (Below.heap_alloc _ _ _ hM5.lt)
     have hR3:=hR5.alloc (.cells #[.slice a0 n0 cp0,.bool gn] 87);have hb3:=Blk.new w5 87 #[.slice a0 n0 cp0,.bool gn];have hB5:Below w.heap.size w w5:=hB.out.grown hg5 (by omega) (λq e=>by cases e;omega);have hB3:Below w.heap.size w W3:=by rw[hW3];exact hB5.alloc (by omega) _
     rw[<-hW3]at hR3 hb3;have hs3:W3.heap.size=w5.heap.size+1:=by rw[hW3];simp
     obtain⟨W4,hU,hM4,hg4,hs4⟩:=hM3.update strKeyed Tryz.underlying118 _ (seen2_support HL.out hS.out) (by rw[jP,jL,HL0.out];unfold maxLen;omega) hkey unit';have hB4:Below w.heap.size w W4:=hB3.grown hg4 (by omega) (λq e=>by cases e;omega);have hR4:=hR3.kept hg4 (λe=>hncm (by injection e with e;exact e.symm)) (λe=>hnr (by injection e with e;exact e.symm));have hb4:Blk W4 w5.heap.size 87 #[.slice a0 n0 cp0,.bool gn]:=(hg4.block w5.heap.size hb3.lt (λe=>by injection e with e;have:=hM.out.lt;omega)).trans hb3;obtain⟨W6,hDl,hM6,hg6,hs6⟩:=hM4.drop strKeyed Tryz.underlying118 hkey 0;have hB6:Below w.heap.size w W6:=hB4.grown hg6 (by omega) (λq e=>by cases e;omega);have hR6:=hR4.kept hg6 (λe=>hncm (by injection e with e;exact e.symm)) (λe=>hnr (by injection e with e;exact e.symm));rw[setK_twice]at hM6;have b1:=hb4.cell 1
     simp at b1
     have hfile:isFile C nm= !gn:=hgn;have hS4:=seen2_step hS.out nm (by rw[hc];rfl) (if isFile C nm=true then some unit' else none) rfl;rw[hfile]at hS4;obtain⟨x,hx⟩:=jl (nv nm);have hml:wr.rangeLeft cm r=cnt:=hR.out.left_eq;rw[<-hx]at hrun hen hU hDl;have HW3:=jq hW3;have HR4:=jq hR4;have HR6:=jq hR6;have HM4:=jq hM4;have HM6:=jq hM6;have HS4:=jq hS4;have HB4:=jq hB4;have HB6:=jq hB6;have HML:=jq hml;rw[hW3]at hU;unfold unit' at hU;clear hR4 hR6 hM4 hM6 hS4 hB4 hB6 hM5 hM3 hR3 hb3 hB3 hB5 hb4 hg4 hg5 hg6 hR5 hch hat hv hkey hx hS hM hR hml hW3 hs3 hs4 hs5 hs6 hlk hc hfile hgn hnbe;cases gn
     ·go_wp2_with fail
      exact⟨⟨_,cnt',_,HR4,HM4,jq (by have:=HS4.out;simpa using this),HB4⟩,by rw[HR4.out.left_eq,HML.out];exact hlt⟩
     ·go_wp2_with fail
      exact⟨⟨_,cnt',_,HR6,HM6,jq (by have:=HS4.out;simpa using this),HB6⟩,by rw[HR6.out.left_eq,HML.out];exact hlt⟩
end Full
namespace Full
open Go.RowKit Go.Deep Mem Crc Go.Maps Dk Mani
open Store (Chg chgV isChg none' nv nv_key strKeyed zero_chg setC setC_same setC_other)
variable {w:World} {Q:Nat->Prop} {s d g cm:Nat} {wv:Value} {m:DM} {ver next:Nat} {a:Option Addr} {c:Nat} {l:List FR} {bad:Bool} {C:Chg}
theorem contains_any (v:Value) (B:Nat) (ss:List (List UInt8)) (nm:List UInt8) (w:World) (h:w.ownsRow B 9 1 v ss.length (ss.map encStr)) (hm:ss.length<=1000000):
  Calls Tryz.prog 57 #[v,nv nm] w λe w'=>e=.returned (.bool (decide (nm∈ss)))/\w'=w:=by
 obtain⟨a,cap,rfl,hc,hL,_,_⟩:=own_shape h;rcases hL with he|⟨g,off,rfl,_,hcs⟩
 ·have e0:ss= []:=List.map_eq_nil_iff.1 he;subst e0;exact Tryz.slices_Contains_string_empty a cap ⟨nm.toArray⟩ w
 ·have:=Tryz.slices_Contains_string g off ss.length cap (ss.map λl=>(⟨l.toArray⟩:ByteArray)) ⟨nm.toArray⟩ w (by simp) (by omega) (λj hj=>by
   rw[jP]at hj;have:=hcs j (encStr ss[j]) (by simp[hj]);rw[this]
   simp[hj])
  have hci:Lib.containsS ((ss.map λl=>(⟨l.toArray⟩:ByteArray)).take ss.length) ⟨nm.toArray⟩=decide (nm∈ss):=by
   refine Bool.eq_iff_iff.2 ?_;rw[Lib.containsS_iff,jW (by simp),decide_eq_true_eq]
   constructor
   ·intro h;obtain⟨x,hx,e⟩:=List.mem_map.1 h;injection e with e
    have e2:x=nm:=by
     have:=congrArg Array.toList e
     simpa using this
    exact e2▸hx
   ·exact λh=>List.mem_map.2 ⟨nm,h,rfl⟩
  rw[hci]at this;exact this
theorem fremove_none (h:Fu w Q s d g cm wv m ver next a c l bad C) (hbad: (bad||m.off)=false) (L:List (List UInt8)) (hL:∀x,C x≠none->x∈L) (hn:L.length<=100000) (hLn:∀x∈L,x.length<=1000000) (hl:l.length<=100000) (hls:∀x∈l,x.f.name.length<=32) (nm:List UInt8) (hf:¬hasF C (l.map FR.f) nm):
  Calls Tryz.prog 27 #[.pointer (some ⟨s,0,none⟩),nv nm] w λe w'=>e=.returned (.int .i64 8)/\Below w.heap.size w w':=by
 have HD:=jq (down_yes h hbad);have HN:=jq (fnames_any h L hL hn hLn hl hls);have HNF:=jq hf;clear h hls hL hLn hf;obtain⟨x,hx⟩:=jl (nv nm);rw[<-hx];have HX:=jq hx;clear hx
 go_enter Tryz.func27,Tryz.ntmps27
 go_wp2_with fail
 refine HD.out.mono ?_;rintro e w1 ⟨rfl,rfl⟩
 go_wp2_with fail
 refine HN.out.mono ?_;rintro e w2 ⟨v,ss,rfl,hO,hmem,_,hle,hB2⟩;have hC:=contains_any v _ ss nm w2 hO (by omega);rw[jf (λh=>HNF.out ((hmem nm).1 h)),<-HX.out]at hC;have HC:=jq hC;have HB2:=jq hB2;clear hO hmem hB2 hC
 go_wp2_with fail
 refine HC.out.mono ?_;rintro e w4 ⟨rfl,rfl⟩
 go_wp2_with fail
 go_ret
 exact⟨rfl,HB2.out⟩
theorem fremove_any (h:Fu w Q s d g cm wv m ver next a c l bad C) (hbad: (bad||m.off)=false) (L:List (List UInt8)) (hL:∀x,C x≠none->x∈L) (hn:L.length<=100000) (hLn:∀x∈L,x.length<=1000000) (hl:l.length<=100000) (hls:∀x∈l,x.f.name.length<=32) (nm:List UInt8) (hnm:nm.length<=1000000) (hf:hasF C (l.map FR.f) nm):
  Calls Tryz.prog 27 #[.pointer (some ⟨s,0,none⟩),nv nm] w λe w'=>e=.returned (.int .i64 0)/\∃Q',Fu w' Q' s d g cm wv m ver next a c l bad (setC C nm (some none))/\(∀k,Q' k->Q k\/w.heap.size<=k)/\(∀k,Q k->Q' k)/\Only [cm] w w':=by
 have HD:=jq (down_yes h hbad);have HN:=jq (fnames_any h L hL hn hLn hl hls);have H:=jq h;have HLS:=jq h.store.lt;have HNF:=jq hf;have HL:=jq hL;have HLN:=jq hLn;clear h hls hL hLn hf;obtain⟨x,hx⟩:=jl (nv nm);rw[<-hx];have HX:=jq hx;clear hx
 go_enter Tryz.func27,Tryz.ntmps27
 go_wp2_with fail
 refine HD.out.mono ?_;rintro e w1 ⟨rfl,rfl⟩
 go_wp2_with fail
 refine HN.out.mono ?_;rintro e w2 ⟨v,ss,rfl,hO,hmem,_,hle,hB2⟩;have hC:=contains_any v _ ss nm w2 hO (by omega);rw[jd ((hmem nm).2 HNF.out),<-HX.out]at hC;have HC:=jq hC;obtain⟨w3,hrun,hst3,ho3,hs3⟩:=H.out.changed (w1:=w2) hB2 L HL.out (by omega) nm hnm none (.agg #[.slice none 0 0,.bool true]) rfl;rw[<-HX.out]at hrun;have c4:=(hB2.cell (p:=⟨s,4,none⟩) HLS.out).trans H.out.cells.2.2.2.2.1;have HST3:=jq hst3;have HO3:=jq ho3;clear hO hmem hB2 hst3 ho3 hs3 hC
 go_wp2_with fail
 refine HC.out.mono ?_;rintro e w4 ⟨rfl,rfl⟩
 go_wp2_with fail
 go_ret
 exact⟨rfl,_,HST3.out,λk hk=>hk.imp id And.left,λk hk=>.inl hk,HO3.out⟩
end Full
namespace Full
open Go.RowKit Mani Dk Mem Crc
open Store (Chg Files)
open Page (pageL pageB pageE pageN pageL_length)
open Pages (pagesW)
theorem page_shape (file place:Nat) (b:List UInt8):∃r,pageL file place b=four file++(four place++(four b.length++(b++r))):=by
 refine⟨List.replicate (112-b.length) 0++four (sumF (four file++(four place++(four b.length++(b++List.replicate (112-b.length) 0))))),?_⟩;unfold Page.pageL Crc.marked;simp only[List.append_assoc]
theorem pageN_page (file place:Nat) {b:List UInt8} (h:b.length<=112):pageN (pageL file place b)=b.length:=by
 obtain⟨r,hr⟩:=page_shape file place b;have e: (pageL file place b).getD 8 0=UInt8.ofNat b.length:=by rw[hr];rfl
 unfold Page.pageN;rw[e];have: (UInt8.ofNat b.length).toNat=b.length:=by simp;omega
 omega
theorem pageB_page (file place:Nat) {b:List UInt8} (h:b.length<=112):pageB (pageL file place b)=b:=by
 obtain⟨r,hr⟩:=page_shape file place b;unfold Page.pageB;rw[pageN_page file place h];have e: (pageL file place b).drop 12=b++r:=by rw[hr];rfl
 rw[e];exact List.take_left
theorem pageE_page (file place:Nat) {b:List UInt8} (h:b.length<=112):pageE (pageL file place b) file place=0:=by
 unfold Page.pageE;rw[pageB_page file place h,if_pos rfl]
structure PagesAt (bl:List (List UInt8)) (f:Fil) (b:List UInt8):Prop where
 size:f.size=b.length
 many:Mani.many b.length=f.blocks.length
 at_:∀k i,f.blocks[k]? =some i->bl[i]? =some (pageL f.id k ((b.drop (k*112)).take 112))
theorem loadG_pages (bl:List (List UInt8)) (id:Nat) (b:List UInt8):∀(rest:List Nat) (n:Nat),(∀k i,rest[k]? =some i->bl[i]? =some (pageL id (n+k) ((b.drop ((n+k)*112)).take 112)))->n+rest.length=Mani.many b.length->loadG bl id b.length n (b.take (n*112)) rest=(b,0)
 | [],n,_,hn=>by
  have h:=(many_cover (n:=b.length)).1;rw[List.length_nil,Nat.add_zero]at hn;rw[<-hn]at h;show(b.take (n*112),(0:Int))=_;rw[jW h]
 |i ::r,n,h,hn=>by
  have h0:=h 0 i rfl;rw[Nat.add_zero]at h0;have hlt:n*112<b.length:=(many_cover (n:=b.length)).2 n (by rw[<-hn,List.length_cons];omega);have hg:bl.getD i []=pageL id n ((b.drop (n*112)).take 112):=by rw[List.getD_eq_getElem?_getD,h0];rfl
  have hl: ((b.drop (n*112)).take 112).length<=112:=by rw[jT];omega
  unfold loadG
  rw[hg,pageE_page id n hl,pageB_page id n hl,if_pos ⟨rfl,by
   rw[jT,List.length_drop,jT]
   omega⟩]
  have e:b.take (n*112)++(b.drop (n*112)).take 112=b.take ((n+1)*112):=by
   rw[Nat.succ_mul,List.take_add]
  rw[e]
  exact loadG_pages bl id b r (n+1) (λk j hk=>by
   have:=h (k+1) j (by simpa using hk);rw[show n+1+k=n+(k+1)by omega];exact this) (by rw[List.length_cons]at hn;omega)
theorem loadF_pages {bl:List (List UInt8)} {f:Fil} {b:List UInt8} (h:PagesAt bl f b):loadF bl f=(b,0):=by
 unfold loadF;rw[h.size];have:=loadG_pages bl f.id b f.blocks 0 (λk i hk=>by rw[Nat.zero_add];exact h.at_ k i hk) (by rw[h.many,Nat.zero_add])
 rwa [Nat.zero_mul,List.take_zero]at this
theorem puts_other:∀(ws:List (Nat×List UInt8)) (bl:List (List UInt8)) (i:Nat),i∉ws.map Prod.fst->(puts bl ws)[i]? =bl[i]?
 | [],_,_,_=>rfl
 |x ::r,bl,i,h=>by
  rw[List.map_cons,List.mem_cons]at h;have h1:=puts_other r (bl.set x.1 x.2) i (λhm=>h (.inr hm));show(puts (bl.set x.1 x.2) r)[i]? =_;rw[h1,List.getElem?_set_ne (λe=>h (.inl e.symm))]
theorem puts_at:∀(ws:List (Nat×List UInt8)) (bl:List (List UInt8)) (i:Nat) (x:List UInt8),(ws.map Prod.fst).Nodup->(i,x)∈ws->i<bl.length->(puts bl ws)[i]? =some x
 |y ::r,bl,i,x,hn,hm,hi=>by
  rw[List.map_cons]at hn;obtain⟨h1,h2⟩:=List.nodup_cons.1 hn;show(puts (bl.set y.1 y.2) r)[i]? =_;rcases List.mem_cons.1 hm with rfl|hm
  ·rw[puts_other r _ i h1,List.getElem?_set_self hi]
  ·exact puts_at r _ i x h2 hm (by rw[List.length_set];exact hi)
theorem pagesW_keys (id:Nat) (bl:List Nat) (b:List UInt8): (pagesW id bl b).map Prod.fst=bl:=by
 unfold Pages.pagesW;rw[List.map_map];refine List.ext_getElem (by simp) (λk h1 h2=>?_)
 simp
 rw[jg (by simpa using h2)]
 rfl
theorem fileW_keys (C:Chg) (f:Fil): ((fileW C f).map Prod.fst).Sublist f.blocks:=by
 unfold fileW
 split
 ·rw[pagesW_keys];exact List.Sublist.refl _
 ·exact List.nil_sublist _
theorem chW_keys (C:Chg):∀fs:List Fil,((chW C fs).map Prod.fst).Sublist (bksL fs)
 | []=>List.Sublist.refl _
 |f ::r=>by
  have h1:=fileW_keys C f;have h2:=chW_keys C r;unfold chW bksL at h2⊢;rw[jC,jC,List.map_append];exact h1.append h2
theorem bks_apart:∀{fs:List Fil},(bksL fs).Nodup->∀{f g:Fil},f∈fs->g∈fs->∀{i:Nat},i∈f.blocks->i∈g.blocks->f=g
 |x ::r,hn,f,g,hf,hg,i,h1,h2=>by
  unfold bksL at hn;rw[jC]at hn;obtain⟨n1,n2,n3⟩:=List.nodup_append.1 hn;have hmem:∀{y:Fil},y∈r->i∈y.blocks->i∈r.flatMap Fil.blocks:=λhy hi=>List.mem_flatMap.2 ⟨_,hy,hi⟩
  rcases List.mem_cons.1 hf with rfl|hf2
  ·rcases List.mem_cons.1 hg with rfl|hg2
   ·rfl
   ·exact absurd rfl (n3 i h1 i (hmem hg2 h2))
  ·rcases List.mem_cons.1 hg with rfl|hg2
   ·exact absurd rfl (n3 i h2 i (hmem hf2 h1))
   ·exact bks_apart n2 hf2 hg2 h1 h2
theorem slotW_keys {at_:Nat} {b:List UInt8} {i:Nat} (h:i∈(slotW at_ b).map Prod.fst):at_<=i/\i<at_+16:=by
 unfold Dk.slotW at h;rw[List.map_map]at h;obtain⟨k,hk,rfl⟩:=List.mem_map.1 h;have:=List.mem_range.1 hk;show at_<=at_+k/\at_+k<at_+16
 omega
theorem slot_bl {m:DM} {at_:Nat} {b:List UInt8} (hw:m.wt= []) (h: (m.slot at_ b).2=0): (m.slot at_ b).1.bl=puts m.bl (slotW at_ b)/\(m.slot at_ b).1.off=m.off/\(m.slot at_ b).1.wt= []:=by
 unfold DM.slot at h⊢
 by_cases h0: (m.writes (slotW at_ b)).2=0
 ·rw[if_pos h0]at h⊢;obtain⟨w1,w2,w3⟩:=writes_ok h0;obtain⟨s1,s2,s3⟩:=sync_ok h;refine⟨?_,s1.trans w2,s3⟩;rw[s2,w1,w3,hw,List.nil_append]
 ·rw[if_neg h0]at h;exact absurd h h0
theorem mani_bl {m:DM} {ver:Nat} {b:List UInt8} (hw:m.wt= []) (h: (m.mani ver b).2=0): (m.mani ver b).1.bl=puts (puts m.bl (slotW (ver%2*16) b)) (slotW ((ver+1)%2*16) b)/\(m.mani ver b).1.off=m.off/\(m.mani ver b).1.wt= []:=by
 unfold DM.mani at h⊢
 by_cases h0: (m.slot (ver%2*16) b).2=0
 ·rw[if_pos h0]at h⊢;obtain⟨a1,a2,a3⟩:=slot_bl hw h0;obtain⟨b1,b2,b3⟩:=slot_bl a3 h;exact⟨by rw[b1,a1],b2.trans a2,b3⟩
 ·rw[if_neg h0]at h;exact absurd h h0
theorem commit_bl {m:DM} {C:Chg} {fs:List Fil} {ver:Nat} {b:List UInt8} (hw:m.wt= []) (h: (commitD m C fs ver b).2=0): (commitD m C fs ver b).1.bl=puts (puts (puts m.bl (chW C fs)) (slotW (ver%2*16) b)) (slotW ((ver+1)%2*16) b)/\(commitD m C fs ver b).1.off=m.off/\(commitD m C fs ver b).1.wt= []:=by
 unfold commitD at h⊢
 by_cases h0: (m.writes (chW C fs)).2=0
 ·rw[if_pos h0]at h⊢
  by_cases h1: (m.writes (chW C fs)).1.sync.2=0
  ·rw[if_pos h1]at h⊢;obtain⟨w1,w2,w3⟩:=writes_ok h0;obtain⟨s1,s2,s3⟩:=sync_ok h1;obtain⟨b1,b2,b3⟩:=mani_bl s3 h;refine⟨?_,b2.trans (s1.trans w2),b3⟩;rw[b1,s2,w1,w3,hw,List.nil_append]
  ·rw[if_neg h1]at h;exact absurd h h1
 ·rw[if_neg h0]at h;exact absurd h h0
theorem commit_len {m:DM} {C:Chg} {fs:List Fil} {ver:Nat} {b:List UInt8} (hw:m.wt= []) (h: (commitD m C fs ver b).2=0): (commitD m C fs ver b).1.bl.length=m.bl.length:=by
 rw[(commit_bl hw h).1,puts_length,puts_length,puts_length]
theorem commit_at {m:DM} {C:Chg} {fs:List Fil} {ver:Nat} {b:List UInt8} (hw:m.wt= []) (h: (commitD m C fs ver b).2=0) {i:Nat} (hi:32<=i): (commitD m C fs ver b).1.bl[i]? =(puts m.bl (chW C fs))[i]?:=by
 rw[(commit_bl hw h).1]
 have hlt:∀v,i∉(slotW (v%2*16) b).map Prod.fst:=λv hm=>by
  have:=slotW_keys hm;have:=Nat.mod_lt v (show 0<2 by decide)
  omega
 rw[puts_other _ _ _ (hlt _),puts_other _ _ _ (hlt _)]
structure OnDisk (bl:List (List UInt8)) (fs:List Fil) (H:Files):Prop where
 there:∀f∈fs,∃b,H f.name=some b/\PagesAt bl f b
 none_:∀nm,nm∉fs.map Fil.name->H nm=none
def nowF (C:Chg) (H:Files):Files:=λnm=>
 match C nm with
 |some o=>o
 |none=>H nm
theorem plan_names (C:Chg):∀(ss:List (List UInt8)) (p p':PL),planF C ss p=some p'->∀nm,nm∈p'.fs.map Fil.name↔nm∈p.fs.map Fil.name\/(nm∈ss/\∃b,C nm=some (some b))
 | [],p,p',h,nm=>by
  have h:some p=some p':=h;cases h
  simp
 |x ::r,p,p',h,nm=>by
  unfold planF at h;rw[List.foldl_cons]at h
  cases hs:stepF C x p with
  |none=>
   rw[show(some p:Option PL).bind (stepF C x)=none from hs,foldl_none]at h;cases h
  |some q=>
   rw[show(some p:Option PL).bind (stepF C x)=some q from hs]at h;rw[plan_names C r q p' h nm]
   have hq:nm∈q.fs.map Fil.name↔nm∈p.fs.map Fil.name\/(nm=x/\∃b,C nm=some (some b)):=by
    unfold stepF at hs
    cases hC:C x with
    |none=>
     rw[hC]at hs;have hs:=Option.some.inj hs;subst hs;refine⟨.inl,λh=>h.elim id ?_⟩;rintro⟨rfl,b,hb⟩;rw[hC]at hb;cases hb
    |some o=>
     rw[hC]at hs
     cases o with
     |none=>
      have hs:=Option.some.inj hs;subst hs;refine⟨.inl,λh=>h.elim id ?_⟩;rintro⟨rfl,b,hb⟩;rw[hC]at hb;cases hb
     |some b=>
      dsimp only at hs
      split at hs
      ·cases hs
      ·have hs:=Option.some.inj hs;subst hs
       constructor
       ·intro h;obtain⟨f,hf,rfl⟩:=List.mem_map.1 h;rcases mem_ins.1 hf with rfl|hf
        ·exact .inr ⟨rfl,b,hC⟩
        ·exact .inl (List.mem_map.2 ⟨f,hf,rfl⟩)
       ·rintro(h|⟨rfl,_⟩)
        ·obtain⟨f,hf,rfl⟩:=List.mem_map.1 h;exact List.mem_map.2 ⟨f,mem_ins.2 (.inr hf),rfl⟩
        ·exact List.mem_map.2 ⟨newF nm b p,mem_ins.2 (.inl rfl),rfl⟩
   rw[hq]
   constructor
   ·rintro((h|⟨rfl,h⟩)|⟨h1,h2⟩)
    ·exact .inl h
    ·exact .inr ⟨by simp,h⟩
    ·exact .inr ⟨by simp[h1],h2⟩
   ·rintro(h|⟨h1,h2⟩)
    ·exact .inl (.inl h)
    ·rcases List.mem_cons.1 h1 with rfl|h1
     ·exact .inl (.inr ⟨rfl,h2⟩)
     ·exact .inr ⟨h1,h2⟩
theorem plan_kept (C:Chg):∀(ss:List (List UInt8)) (p p':PL),(∀nm∈ss,C nm≠none)->planF C ss p=some p'->∀f∈p'.fs,C f.name=none->f∈p.fs
 | [],p,p',_,h,f,hf,_=>by
  have h:some p=some p':=h;cases h;exact hf
 |x ::r,p,p',hss,h,f,hf,hc=>by
  unfold planF at h;rw[List.foldl_cons]at h
  cases hs:stepF C x p with
  |none=>
   rw[show(some p:Option PL).bind (stepF C x)=none from hs,foldl_none]at h;cases h
  |some q=>
   rw[show(some p:Option PL).bind (stepF C x)=some q from hs]at h;have h1:=plan_kept C r q p' (λnm hnm=>hss nm (by simp[hnm])) h f hf hc;unfold stepF at hs
   split at hs
   ·split at hs
    ·cases hs
    ·have hs:=Option.some.inj hs;subst hs;rcases mem_ins.1 h1 with rfl|h1
     ·exact absurd hc (hss x (by simp))
     ·exact h1
   ·have hs:=Option.some.inj hs;subst hs;exact h1
theorem commit_on {m:DM} {C:Chg} {ss:List (List UInt8)} {n ver next nx:Nat} {fs fs':List Fil} {H:Files} (hn:n=m.bl.length) (hn2:n<=65536) (h:OnDisk m.bl fs H) (hok:Okm n ver next fs) (hC:∀nm b,C nm=some (some b)->b.length<=1048576) (hK:Keys C ss) (hs:∀nm∈ss,nm.length<=32) (hp:planM C ss n ver next fs=some (nx,fs')) (hw:m.wt= []) (b:List UInt8) (hz: (commitD m C fs' (ver+1) b).2=0):OnDisk (commitD m C fs' (ver+1) b).1.bl fs' (nowF C H):=by
 obtain⟨hok',hnew⟩:=plan_okm hok hn2 hC hK hs hp;unfold planM at hp
 by_cases hv:ver=18446744073709551615
 ·rw[if_pos hv]at hp;cases hp
 rw[if_neg hv]at hp;cases hF:planF C ss (startF C n next fs)with
 |none=>rw[hF]at hp;cases hp
 |some p=>
  rw[hF]at hp;dsimp only at hp
  by_cases hm:mayB (ver+1) p.next p.fs=true
  ·rw[if_pos hm]at hp;have hp:=Option.some.inj hp;have e2:p.fs=fs':=congrArg Prod.snd hp;subst e2;have hkn:=(hok'.ok.bks).1;have hkd: ((chW C p.fs).map Prod.fst).Nodup:=(chW_keys C p.fs).nodup hkn;refine⟨λf hf=>?_,λnm hnm=>?_⟩
   ·have hfo:=hok'.ok.each f hf;rcases hnew f hf with hc|⟨b0,hc,hN⟩
    ·have hf0:f∈fs:=(List.mem_filter.1 (plan_kept C ss _ p (λnm hnm=>(hK.mem nm).1 hnm) hF f hf hc)).1;obtain⟨b0,hb0,hP⟩:=h.there f hf0;refine⟨b0,by unfold nowF;rw[hc];exact hb0,hP.size,hP.many,λk i hk=>?_⟩;have him:=jM hk;rw[commit_at hw hz (hfo.blocks i him).1,puts_other,hP.at_ k i hk];intro hmk;obtain⟨w,hw2,rfl⟩:=List.mem_map.1 hmk;obtain⟨f',hf',hwf⟩:=List.mem_flatMap.1 hw2;have hi':w.1∈f'.blocks:=(fileW_keys C f').subset (List.mem_map.2 ⟨w,hwf,rfl⟩);have e:f=f':=bks_apart hkn hf hf' him hi';subst e;unfold fileW at hwf;rw[hc]at hwf;cases hwf
    ·refine⟨b0,by unfold nowF;rw[hc],hN.size,hN.many.symm,λk i hk=>?_⟩;have him:=jM hk;have hkl:=(jS.1 hk).1;rw[commit_at hw hz (hfo.blocks i him).1];refine puts_at _ _ _ _ hkd ?_ (by rw[<-hn];exact hN.in_ i him);refine List.mem_flatMap.2 ⟨f,hf,?_⟩;unfold fileW;rw[hc];refine List.mem_map.2 ⟨k,List.mem_range.2 hkl,?_⟩;rw[List.getD_eq_getElem?_getD,hk]
     rfl
   ·rw[plan_names C ss _ p hF nm]at hnm;have h1:nm∉(startF C n next fs).fs.map Fil.name:=λh=>hnm (.inl h)
    have h2:¬∃b,C nm=some (some b):=λh=>hnm (.inr ⟨(hK.mem nm).2 (by obtain⟨b,hb⟩:=h;rw[hb];exact λh=>by cases h),h⟩)
    unfold nowF
    cases hc:C nm with
    |none=>
     refine h.none_ nm (λhm2=>h1 ?_);obtain⟨f,hf,rfl⟩:=List.mem_map.1 hm2;exact List.mem_map.2 ⟨f,List.mem_filter.2 ⟨hf,by rw[hc];rfl⟩,rfl⟩
    |some o=>
     cases o with
     |none=>rfl
     |some b0=>exact absurd ⟨b0,hc⟩ h2
  ·rw[if_neg hm]at hp;cases hp
theorem readF_now {bl:List (List UInt8)} {fs:List Fil} {H:Files} {C:Chg} (h:OnDisk bl fs H) (hr:rises fs) (nm:List UInt8):readF bl C fs nm=match nowF C H nm with
 |some b=>(b,0)
 |none=>([],8):=by
 unfold readF nowF
 cases hc:C nm with
 |some o=>cases o <;> rfl
 |none=>
  dsimp only;unfold heldF
  by_cases hm:nm∈fs.map Fil.name
  ·obtain⟨f,hf,rfl⟩:=List.mem_map.1 hm;obtain⟨b,hb,hP⟩:=h.there f hf;rw[find_named hr hf,hb];exact loadF_pages hP
  ·rw[find_none_named (λf hf e=>hm (List.mem_map.2 ⟨f,hf,e⟩)),h.none_ nm hm]
theorem hasF_now {bl:List (List UInt8)} {fs:List Fil} {H:Files} {C:Chg} (h:OnDisk bl fs H) (nm:List UInt8):hasF C fs nm↔nowF C H nm≠none:=by
 unfold hasF nowF
 cases hc:C nm with
 |some o=>cases o <;> simp
 |none=>
  dsimp only
  constructor
  ·intro hm;obtain⟨f,hf,rfl⟩:=List.mem_map.1 hm;obtain⟨b,hb,_⟩:=h.there f hf;rw[hb];exact λh=>by cases h
  ·intro hn;exact Classical.byContradiction λhm=>hn (h.none_ nm hm)
theorem deed_free {m:DM} (h:m.fuse<0):m.deed=(m,0):=by
 unfold DM.deed;rw[if_neg (by omega),if_neg (by omega)]
theorem write_free {m:DM} (h:m.fuse<0) (i:Nat) (b:List UInt8): (m.write i b).2=0/\(m.write i b).1.fuse=m.fuse:=by
 unfold DM.write;rw[if_neg (by omega),deed_free h];exact⟨rfl,rfl⟩
theorem writes_free:∀(l:List (Nat×List UInt8)) {m:DM},m.fuse<0->(m.writes l).2=0/\(m.writes l).1.fuse=m.fuse
 | [],_,_=>⟨rfl,rfl⟩
 |x ::r,m,h=>by
  obtain⟨h1,h2⟩:=write_free h x.1 x.2;obtain⟨h3,h4⟩:=writes_free r (m:=(m.write x.1 x.2).1) (by omega);unfold DM.writes;rw[if_pos h1];exact⟨h3,h4.trans h2⟩
theorem sync_free {m:DM} (h:m.fuse<0):m.sync.2=0/\m.sync.1.fuse=m.fuse:=by
 unfold DM.sync;rw[if_neg (by omega),deed_free h];exact⟨rfl,rfl⟩
theorem slot_free {m:DM} (h:m.fuse<0) (at_:Nat) (b:List UInt8): (m.slot at_ b).2=0/\(m.slot at_ b).1.fuse=m.fuse:=by
 obtain⟨h1,h2⟩:=writes_free (slotW at_ b) h;obtain⟨h3,h4⟩:=sync_free (m:=(m.writes (slotW at_ b)).1) (by omega);unfold DM.slot;rw[if_pos h1];exact⟨h3,h4.trans h2⟩
theorem commit_free {m:DM} (h:m.fuse<0) (C:Chg) (fs:List Fil) (ver:Nat) (b:List UInt8): (commitD m C fs ver b).2=0/\(commitD m C fs ver b).1.fuse=m.fuse:=by
 obtain⟨h1,h2⟩:=writes_free (chW C fs) h;obtain⟨h3,h4⟩:=sync_free (m:=(m.writes (chW C fs)).1) (by omega);obtain⟨h5,h6⟩:=slot_free (m:=(m.writes (chW C fs)).1.sync.1) (by omega) (ver%2*16) b;obtain⟨h7,h8⟩:=slot_free (m:=((m.writes (chW C fs)).1.sync.1.slot (ver%2*16) b).1) (by omega) ((ver+1)%2*16) b;unfold commitD;rw[if_pos h1,if_pos h3];unfold DM.mani;rw[if_pos h5];exact⟨h7,by omega⟩
end Full
namespace Full
open Go.RowKit Mani Dk
open Store (Chg)
open Ext (takeL takeK freeN freeL frees flips flipK flipK_at fits outs turnK tak freeL_length)
def mapK (n:Nat) (p:Nat->Bool):List Bool:=(List.range n).map p
theorem mapK_length (n:Nat) (p:Nat->Bool): (mapK n p).length=n:=by unfold mapK;simp
theorem mapK_at {n:Nat} {p:Nat->Bool} {i:Nat} (h:i<n): (mapK n p)[i]? =some (p i):=by unfold mapK;simp[h]
theorem mapK_get {n:Nat} {p:Nat->Bool} {i:Nat} (h:i<n) (d:Bool): (mapK n p).getD i d=p i:=by rw[List.getD_eq_getElem?_getD,mapK_at h];rfl
theorem mapK_ext {n:Nat} {p q:Nat->Bool} (h:∀i,i<n->p i=q i):mapK n p=mapK n q:=by
 unfold mapK;exact List.map_congr_left (λi hi=>h i (List.mem_range.1 hi))
theorem flip_mapK {n:Nat} {p:Nat->Bool} {i:Nat} (h:i<n):flipK (mapK n p) i=mapK n (λj=>if j=i then !p j else p j):=by
 apply List.ext_getElem?
 intro j;rw[flipK_at]
 by_cases hj:j<n
 ·rw[mapK_at hj,mapK_at hj]
  by_cases e:i=j
  ·rw[if_pos e,if_pos e.symm];rfl
  ·rw[if_neg e,if_neg (λh=>e h.symm)]
 ·have h1: (mapK n p)[j]? =none:=List.getElem?_eq_none (by rw[mapK_length];omega);rw[h1,List.getElem?_eq_none (by rw[mapK_length];omega),if_neg (by omega)]
theorem fits_mapK {n:Nat}:∀{l:List Nat} {p:Nat->Bool},l.Nodup->(∀i∈l,i<n/\p i=false)->fits false (mapK n p) (ints l)=true/\flips (mapK n p) (ints l)=mapK n (λj=>p j||decide (j∈l))
 | [],p,_,_=>⟨rfl,mapK_ext (λi _=>by simp)⟩
 |i ::r,p,hn,h=>by
  obtain⟨n1,n2⟩:=List.nodup_cons.1 hn;obtain⟨h1,h2⟩:=h i (by simp);have hi: ((i:Nat):Int).toNat=i:=by simp
  have hr:∀j∈r,j<n/\(λj=>if j=i then !p j else p j) j=false:=λj hj=>by
   obtain⟨a1,a2⟩:=h j (by simp[hj]);refine⟨a1,?_⟩;dsimp only;have hne:¬j=i:=λe=>n1 (by rw[<-e];exact hj)
   rw[if_neg hne];exact a2
  obtain⟨f1,f2⟩:=fits_mapK n2 hr;have e:ints (i ::r)=(i:Int)::ints r:=rfl
  constructor
  ·rw[e];unfold Ext.fits;rw[hi,mapK_get h1,h2,flip_mapK h1,f1]
   rfl
  ·rw[e];show flips (flipK (mapK n p) ((i:Int).toNat)) (ints r)=_;rw[hi,flip_mapK h1,f2];refine mapK_ext (λj hj=>?_)
   by_cases ej:j=i
   ·subst ej
    simp[h2]
   ·simp[ej]
theorem turn_mapK {n:Nat} {l:List Nat} {p:Nat->Bool} (hn:l.Nodup) (h:∀i∈l,i<n/\p i=false):turnK (mapK n p) (ints l) false=mapK n (λj=>p j||decide (j∈l)):=by
 obtain⟨f1,f2⟩:=fits_mapK hn h
 have ho: (ints l).any (outs (mapK n p).length)=false:=by
  rw[mapK_length];refine List.any_eq_false.2 (λx hx=>?_);obtain⟨i,hi,rfl⟩:=List.mem_map.1 hx;have:=(h i hi).1;unfold Ext.outs
  simp
  omega
 unfold Ext.turnK;rw[ho,f1,if_neg (by decide),if_pos rfl,f2]
theorem slots_mapK {n:Nat}:∀{j:Nat},j<=n->slotsK n j=mapK n (λi=>decide (i<j))
 |0,_=>by
  unfold slotsK mapK;rw[List.range_zero,List.foldl_nil];refine List.ext_getElem (by simp) (λi h1 h2=>by simp)
 |j+1,h=>by
  rw[slotsK_succ,slots_mapK (j:=j) (by omega)]
  have:=turn_mapK (n:=n) (l:=[j]) (p:=λi=>decide (i<j)) (by simp) (λi hi=>by
   rw[jE.1 hi];exact⟨by omega,by simp⟩)
  rw[show([(j:Int)]:List Int)=ints [j]from rfl,this];refine mapK_ext (λi _=>?_);rw[Bool.eq_iff_iff]
  simp
  omega
def tkn (fs:List Fil) (i:Nat):Bool:=decide (i<32)||decide (i∈bksL fs)
theorem files_mapK {n:Nat}:∀{fs:List Fil} {p:Nat->Bool},(bksL fs).Nodup->(∀i∈bksL fs,i<n/\p i=false)->filesK (mapK n p) fs=mapK n (λj=>p j||decide (j∈bksL fs))
 | [],p,_,_=>by
  show mapK n p=_;exact mapK_ext (λi _=>by simp[bksL])
 |f ::r,p,hn,h=>by
  have e:bksL (f ::r)=f.blocks++bksL r:=by unfold bksL;rw[jC]
  rw[e]at hn h;obtain⟨n1,n2,n3⟩:=List.nodup_append.1 hn;show filesK (turnK (mapK n p) (ints f.blocks) false) r=_;rw[turn_mapK n1 (λi hi=>h i (by simp[hi])),files_mapK n2 (λi hi=>?_)]
  ·refine mapK_ext (λi _=>?_);rw[e]
   simp[Bool.or_assoc]
  ·obtain⟨h1,h2⟩:=h i (by simp[hi]);refine⟨h1,?_⟩;have:i∉f.blocks:=λhm=>n3 i hm i hi rfl
   simp[h2,this]
theorem freeK_mapK {n ver next:Nat} {fs:List Fil} (h:Okm n ver next fs) (hn:32<=n):freeK n fs=mapK n (tkn fs):=by
 unfold freeK;rw[slots_mapK hn,files_mapK h.ok.bks.1 (λi hi=>?_)]
 ·rfl
 ·obtain⟨f,hf,hif⟩:=List.mem_flatMap.1 hi;have h1:=(h.ok.each f hf).blocks i hif;exact⟨h.in_ f hf i hif,by simp;omega⟩
def freeB (n:Nat) (fs:List Fil):List Nat:=(List.range n).filter (λi=> !tkn fs i)
theorem freeL_mapK (n:Nat) (p:Nat->Bool):freeL (mapK n p)=ints ((List.range n).filter (λi=> !p i)):=by
 unfold Ext.freeL Ext.frees ints;rw[mapK_length]
 congr 1
 refine List.filter_congr (λi hi=>?_);dsimp only;rw[mapK_get (List.mem_range.1 hi)]
theorem freeN_mapK (n:Nat) (p:Nat->Bool):freeN (mapK n p)=((List.range n).filter (λi=> !p i)).length:=by
 rw[<-freeL_length,freeL_mapK];unfold ints;exact jP _
theorem free_okm {n ver next:Nat} {fs:List Fil} (h:Okm n ver next fs) (hn:32<=n):freeN (freeK n fs)=(freeB n fs).length:=by
 rw[freeK_mapK h hn,freeN_mapK]
 rfl
theorem takeL_mapK (n:Nat) (p:Nat->Bool) {N:Nat} (h:N<=((List.range n).filter (λi=> !p i)).length): (takeL (mapK n p) (N:Int)).map Int.toNat=((List.range n).filter (λi=> !p i)).take N:=by
 unfold Ext.takeL;rw[if_neg (by rw[freeN_mapK];omega),freeL_mapK];unfold ints;rw[show(N:Int).toNat=N by simp,<-List.map_take,List.map_map];exact(List.map_congr_left (λa _=>rfl)).trans (List.map_id _)
theorem takeK_mapK (n:Nat) (p:Nat->Bool) {N:Nat} (h:N<=((List.range n).filter (λi=> !p i)).length):takeK (mapK n p) (N:Int)=mapK n (λj=>p j||decide (j∈((List.range n).filter (λi=> !p i)).take N)):=by
 have hl:takeL (mapK n p) (N:Int)=ints (((List.range n).filter (λi=> !p i)).take N):=by
  unfold Ext.takeL;rw[if_neg (by rw[freeN_mapK];omega),freeL_mapK];unfold ints;rw[show(N:Int).toNat=N by simp,<-List.map_take]
 unfold Ext.takeK;rw[hl];refine(fits_mapK ((List.nodup_range.filter _).sublist (List.take_sublist _ _)) (λi hi=>?_)).2;have h1:=List.mem_filter.1 (List.mem_of_mem_take hi);exact⟨List.mem_range.1 h1.1,by simpa using h1.2⟩
theorem free_rest (n:Nat) (p:Nat->Bool) (N:Nat): (List.range n).filter (λi=> !(p i||decide (i∈((List.range n).filter (λi=> !p i)).take N)))=((List.range n).filter (λi=> !p i)).drop N:=by
 obtain⟨l,hl⟩:=jl ((List.range n).filter (λi=> !p i));have hnd:l.Nodup:=by rw[hl];exact List.nodup_range.filter _
 have e: (List.range n).filter (λi=> !(p i||decide (i∈l.take N)))=l.filter (λi=> !decide (i∈l.take N)):=by
  rw[hl,List.filter_filter];refine List.filter_congr (λi _=>?_)
  simp[Bool.and_comm]
 rw[<-hl,e]
 have h2:∀(a b:List Nat),(a++b).Nodup->(a++b).filter (λi=> !decide (i∈a))=b:=by
  intro a b hab;obtain⟨n1,n2,n3⟩:=List.nodup_append.1 hab;rw[List.filter_append];have ha:a.filter (λi=> !decide (i∈a))= []:=List.filter_eq_nil_iff.2 (λi hi=>by simp[hi])
  have hb:b.filter (λi=> !decide (i∈a))=b:=List.filter_eq_self.2 (λi hi=>by
   have:i∉a:=λhm=>n3 i hm i hi rfl
   simp[this])
  rw[ha,hb,List.nil_append]
 have:=h2 (l.take N) (l.drop N) (by rw[List.take_append_drop];exact hnd)
 rwa [List.take_append_drop]at this
end Full
namespace Full
open Go.RowKit Go.Deep Mem Crc Go.Maps Dk Mani
open Store (Chg chgV isChg none' nv Files St)
open Disk (Blank zs)
open Page (pageL)
def D0 (N:Nat):DM:=⟨List.replicate N (List.replicate 128 0),[],false,-1⟩
theorem blC_zeros (N:Nat):blC (List.replicate N (List.replicate 128 0))=List.replicate (N*128) (.int .u8 0):=by
 induction N with
 |zero=>rfl
 |succ n ih=>
  unfold Dk.blC at ih⊢;rw[List.replicate_succ,jC,ih,List.map_replicate,Nat.succ_mul,Nat.add_comm,<-List.replicate_append_replicate]
  rfl
theorem blank_dk {w:World} {d g N:Nat} (h:Blank w d g N false) (hN:N<=65536):Dk w d g (.slice none 0 0) (D0 N):=by
 refine⟨?_,?_,World.ownsRow_nil _ _ _ _,?_,?_,(by show(-9223372036854775808:Int)<= -1;decide),(by show(-1:Int)<=9223372036854775807;decide),?_,λ_=>rfl⟩
 ·have e: (D0 N).bl.length=N:=by unfold D0;exact List.length_replicate
  rw[e];exact h.disk
 ·have e: (blC (D0 N).bl).toArray=zs (N*128):=by
   unfold D0;rw[blC_zeros];unfold Disk.zs
   simp
  rw[e];exact h.row
 ·intro b hb;have:=List.eq_of_mem_replicate hb;rw[this];exact List.length_replicate
 ·intro x hx;cases hx
 ·unfold D0;rw[List.length_replicate];exact hN
theorem _root_.Go.Proofs.YtbfochdoeibofaaGreatDoor.Store.St.full {w:World} {Q:Nat->Prop} {s d g N cm:Nat} (h:St w Q s d g N cm false none') (hN:N<=65536):Fu w Q s d g cm (.slice none 0 0) (D0 N) 0 0 none 0 [] false none':=by
 obtain⟨f,h1,h2,h3⟩:=h.map;refine⟨h.store,blank_dk h.disk hN,⟨.inl rfl,λx hx=>(by cases hx)⟩,λk e=>(by cases e),λx hx=>(by cases hx),⟨f,h1,h2,λnm=>h3 nm⟩,h.qs,h.qm,λk hk=>?_,h.lt⟩;rcases hk with rfl|rfl|e
 ·exact h.qd
 ·exact h.qg
 ·cases e
theorem on_none (N:Nat):OnDisk (D0 N).bl [] (λ_=>none):=⟨λf hf=>(by cases hf),λ_ _=>rfl⟩
attribute [local go_sem] Oper.semAt_some
theorem begin_any (N:Nat) (hN:33<=N) (hN2:N<=2000) (w:World):
  Calls Tryz.prog 10 #[.int .i64 (N:Int)] w λe w'=>∃p s d g cm Q,e=.returned (.tuple #[.pointer (some ⟨p,0,none⟩),.bool true])/\Blk w' p 38 #[.pointer (some ⟨s,0,none⟩),.pointer (some ⟨d,0,none⟩),.int .u64 0,.int .u32 0,.slice none 0 0,.slice none 0 0,.slice none 0 0,.slice none 0 0,.bool false]/\Fu w' Q s d g cm (.slice none 0 0) (D0 N) 0 0 none 0 [] false none'/\¬Q p/\(∀k,Q k->w.heap.size<=k)/\w.heap.size<=p/\Below w.heap.size w w':=by
 have HN:Hid (Calls Tryz.prog 29 #[.int .i64 (N:Int)] w λe w'=>∃d g,e=.returned (.tuple #[.pointer (some ⟨d,0,none⟩),.int .i64 0])/\Blank w' d g N false/\w.heap.size<=d/\w.heap.size<=g/\Below w.heap.size w w'):=jq (Go.Proofs.YtbfochdoeibofaaGreatDoor.Disk.new_any N w (by omega) hN2)
 go_enter Tryz.func10,Tryz.ntmps10
 go_wp2_with fail
 refine HN.out.mono ?_;rintro e w1 ⟨d,g,rfl,hD,hd,hg,hB1⟩;have HO:=jq (Go.Proofs.YtbfochdoeibofaaGreatDoor.Store.open_any (N:=N) hN hD);have HB1:=jq hB1;clear hD hB1
 go_wp2_with fail
 refine HO.out.mono ?_;rintro e w2 ⟨s,cm,rfl,hst,hs,hcm,hB2⟩;have HST:=jq hst;have HB2:=jq hB2;clear hst hB2
 go_wp2_with fail
 have hz1:=HB1.out.size;have hz2:=HB2.out.size
 have hq:∀k,(k=s\/k=d\/k=g\/k=cm)->w.heap.size<=k:=λk hk=>by
  rcases hk with rfl|rfl|rfl|rfl <;> omega
 refine bodyPost_ret (v:=.tuple #[.pointer (some ⟨w2.heap.size,0,none⟩),.bool true]) (by simp[results,Tryz.results10,go_sem]) rfl ⟨w2.heap.size,s,d,g,cm,_,rfl,Blk.new w2 _ _,(HST.out.full (by omega)).later ((Below.refl _ w2).alloc jn _),λhk=>?_,hq,by omega,((HB1.out.trans (HB2.out.mono hz1)).alloc (by omega) _)⟩;have:=HST.out.lt _ hk
 omega
end Full
namespace Full
open Go.RowKit Mani Dk Varint
open Store (Chg none' setC setC_same setC_other Files)
open Ext (takeL takeK freeN)
theorem blkB_of:∀{l bks:List Nat},l.Nodup->(∀i∈l,i∉bks/\32<=i/\i<65536)->blkB bks l=true
 | [],_,_,_=>rfl
 |i ::r,bks,hn,h=>by
  obtain⟨n1,n2⟩:=List.nodup_cons.1 hn;obtain⟨h1,h2,h3⟩:=h i (by simp);unfold Mani.blkB
  have hc:bks.contains i=false:=by
   cases hb:bks.contains i with
   |false=>rfl
   |true=>exact absurd (List.contains_iff_mem.1 hb) h1
  rw[hc,jd h2,jd h3,blkB_of n2 (λj hj=>?_)]
  ·rfl
  ·obtain⟨a1,a2⟩:=h j (by simp[hj]);refine⟨λhm=>?_,a2⟩;rcases List.mem_cons.1 hm with rfl|hm
   ·exact n1 hj
   ·exact a1 hm
noncomputable def oneC (nm b:List UInt8):Chg:=setC none' nm (some (some b))
theorem oneC_same (nm b:List UInt8):oneC nm b nm=some (some b):=setC_same _ _ _
theorem oneC_other {nm b x:List UInt8} (h:x≠nm):oneC nm b x=none:=setC_other _ h
theorem oneC_keys (nm b:List UInt8):Keys (oneC nm b) [nm]:=⟨by simp,λx=>by
 rw[jE]
 by_cases e:x=nm
 ·subst e;rw[oneC_same]
  simp
 ·rw[oneC_other e]
  simp[e]⟩
def oneF (nm b:List UInt8) (N:Nat):Fil:=⟨nm,0,b.length,(freeB N []).take (Mani.many b.length)⟩
theorem freeB_mem {N:Nat} {fs:List Fil} {i:Nat} (h:i∈freeB N fs):32<=i/\i<N/\i∉bksL fs:=by
 obtain⟨h1,h2⟩:=List.mem_filter.1 h;have h3:=List.mem_range.1 h1;unfold tkn at h2
 simp at h2
 exact⟨h2.1,h3,h2.2⟩
theorem freeB_nodup (N:Nat) (fs:List Fil): (freeB N fs).Nodup:=List.nodup_range.filter _
theorem one_may {nm b:List UInt8} {N:Nat} (hN:N<=65536) (h1:1<=nm.length) (h2:nm.length<=32) (hb:b.length<=10000) (hf:Mani.many b.length<=(freeB N []).length):mayB 1 1 [oneF nm b N]=true:=by
 have hl: (oneF nm b N).blocks.length=Mani.many b.length:=by
  show((freeB N []).take (Mani.many b.length)).length=_;rw[jT]
  omega
 have hbk:∀i∈(oneF nm b N).blocks,32<=i/\i<N:=λi hi=>by
  have:=freeB_mem (List.mem_of_mem_take hi);exact⟨this.1,this.2.1⟩
 have hm:Mani.many b.length<=100:=by
  unfold Mani.many
  split <;> omega
 have hR:rightB (oneF nm b N) 1 [] []=true:=by
  unfold Mani.rightB Mani.headB;have hbb:blkB [] (oneF nm b N).blocks=true:=blkB_of ((freeB_nodup N []).sublist (List.take_sublist _ _)) (λi hi=>⟨List.not_mem_nil,(hbk i hi).1,by have:=(hbk i hi).2;omega⟩);rw[hbb];have e1:decide (1<=(oneF nm b N).name.length)=true:=jd h1;have e2:decide ((oneF nm b N).name.length<=32)=true:=jd h2;have e3:decide ((oneF nm b N).id<1)=true:=jd (show 0<1 by decide);have e4:decide (Mani.many (oneF nm b N).size=(oneF nm b N).blocks.length)=true:=jd hl.symm;rw[e1,e2,e3,e4]
  rfl
 have hB: (bodyL 1 1 [oneF nm b N]).length<=2035:=by
  have a1:=vput_length 0 1 (by decide);have a4:=filL_le (f:=oneF nm b N) h2 ⟨by show(0:Nat) <_;decide,by show b.length<_;omega,λi hi=>by have:=(hbk i hi).2;omega⟩ (λi hi=>by have:=(hbk i hi).2;omega);rw[hl]at a4;unfold Mani.bodyL;rw[jC,List.flatMap_nil,List.append_nil];simp only[jL,List.length_cons,List.length_nil,Nat.zero_add]
  omega
 unfold Mani.mayB Mani.allB;rw[hR,jd hB]
 rfl
theorem one_plan {nm b:List UInt8} {N:Nat} (hN1:32<=N) (hN:N<=65536) (h1:1<=nm.length) (h2:nm.length<=32) (hb:b.length<=10000) (hf:Mani.many b.length<=(freeB N []).length):planM (oneC nm b) [nm] N 0 0 []=some (1,[oneF nm b N]):=by
 have hk:=freeK_mapK (okm_none N) hN1
 have hst:planF (oneC nm b) [nm] (startF (oneC nm b) N 0 [])=stepF (oneC nm b) nm (startF (oneC nm b) N 0 []):=by
  unfold planF;rw[List.foldl_cons,List.foldl_nil];exact Option.bind_some _ _
 have hfn:¬freeN (freeK N []) <Mani.many b.length:=by rw[free_okm (okm_none N) hN1];omega
 have hstep:stepF (oneC nm b) nm (startF (oneC nm b) N 0 [])=some ⟨takeK (freeK N []) (Mani.many b.length:Nat),1,[oneF nm b N]⟩:=by
  unfold stepF;rw[oneC_same];dsimp only;have e0: (startF (oneC nm b) N 0 []).k=freeK N []:=by simp only[startF]
  rw[e0,if_neg hfn]
  have e1:newF nm b (startF (oneC nm b) N 0 [])=oneF nm b N:=by
   unfold newF oneF;rw[e0,hk,takeL_mapK N (tkn []) hf]
   rfl
  rw[e1]
  rfl
 unfold planM;rw[if_neg (by decide),hst,hstep];dsimp only;rw[if_pos (one_may hN h1 h2 hb hf)]
theorem free40: (freeB 40 []).length=8:=by decide
theorem one40 (nm:List UInt8):oneF nm [99] 40=⟨nm,0,1,[32]⟩:=by
 unfold oneF;have: (freeB 40 []).take (Mani.many ([99]:List UInt8).length)= [32]:=by decide
 rw[this]
 rfl
theorem free40' (nm:List UInt8): (freeB 40 [⟨nm,0,1,[32]⟩]).length=7:=by
 have e:freeB 40 [⟨nm,0,1,[32]⟩]=(List.range 40).filter (λi=> !(decide (i<32)||decide (i∈[32]))):=rfl;rw[e]
 decide
end Full
namespace Full
open Go.RowKit Go.Deep Mem Crc Go.Maps Dk Mani
open Store (Chg chgV isChg none' nv Files setC setC_same setC_other)
open Ext (Tab freeN)
def Few (C:Chg) (n:Nat):Prop:=∃L:List (List UInt8),(∀x,C x≠none->x∈L)/\L.length<=n/\(∀x∈L,x.length<=32)/\∀nm b,C nm=some (some b)->b.length<=1048576
theorem few_none (n:Nat):Few none' n:=⟨[],λx h=>absurd rfl h,Nat.zero_le _,λx hx=>(by cases hx),λnm b h=>by cases h⟩
theorem Few.set {C:Chg} {n:Nat} (h:Few C n) (nm:List UInt8) (hn:nm.length<=32) (o:Option (List UInt8)) (ho:∀b,o=some b->b.length<=1048576):Few (setC C nm (some o)) (n+1):=by
 obtain⟨L,h1,h2,h3,h4⟩:=h;refine⟨nm ::L,λx hx=>?_,by simp;omega,λx hx=>?_,λx b hx=>?_⟩
 ·by_cases e:x=nm
  ·rw[e];simp
  ·rw[setC_other _ e]at hx;exact List.mem_cons_of_mem _ (h1 x hx)
 ·rcases List.mem_cons.1 hx with rfl|hx
  ·exact hn
  ·exact h3 x hx
 ·by_cases e:x=nm
  ·subst e;rw[setC_same]at hx;exact ho b (Option.some.inj hx)
  ·rw[setC_other _ e]at hx;exact h4 x b hx
theorem Few.mono {C:Chg} {n k:Nat} (h:Few C n) (hk:n<=k):Few C k:=by
 obtain⟨L,h1,h2,h3⟩:=h;exact⟨L,h1,by omega,h3⟩
theorem dedup_of (p:List UInt8->Prop):∀L:List (List UInt8),(∀x,p x->x∈L)->∃K:List (List UInt8),K.Nodup/\∀x,x∈K↔p x:=by
 intro L hL
 have h:∀M:List (List UInt8),∃K:List (List UInt8),K.Nodup/\∀x,x∈K↔x∈M/\p x:=by
  intro M
  induction M with
  |nil=>exact⟨[],List.nodup_nil,λx=>by simp⟩
  |cons a r ih=>
   obtain⟨K,h1,h2⟩:=ih;rcases Classical.em (a∈K\/¬p a)with h3|h3
   ·refine⟨K,h1,λx=>?_⟩;rw[h2 x,List.mem_cons]
    constructor
    ·exact λh=>⟨.inr h.1,h.2⟩
    ·rintro⟨rfl|h4,h5⟩
     ·rcases h3 with h3|h3
      ·exact(h2 x).1 h3
      ·exact absurd h5 h3
     ·exact⟨h4,h5⟩
   ·have h4:a∉K:=λh=>h3 (.inl h)
    have h5:p a:=Classical.byContradiction λh=>h3 (.inr h)
    refine⟨a ::K,List.nodup_cons.2 ⟨h4,h1⟩,λx=>?_⟩;rw[List.mem_cons,h2 x,List.mem_cons]
    constructor
    ·rintro(rfl|h)
     ·exact⟨.inl rfl,h5⟩
     ·exact⟨.inr h.1,h.2⟩
    ·rintro⟨rfl|h6,h7⟩
     ·exact .inl rfl
     ·exact .inr ⟨h6,h7⟩
 obtain⟨K,h1,h2⟩:=h L;exact⟨K,h1,λx=>(h2 x).trans ⟨λh=>h.2,λh=>⟨hL x h,h⟩⟩⟩
theorem keys_exist {C:Chg} {n:Nat} (h:Few C n):∃ss,Keys C ss:=by
 obtain⟨L,h1,_⟩:=h;obtain⟨K,h2,h3⟩:=dedup_of (λx=>C x≠none) L h1;exact⟨_,sorted_names (List.Perm.refl K) h2,λnm=>by rw[List.mem_mergeSort];exact h3 nm⟩
structure On (B s d g cm:Nat) (w:World) (Q:Nat->Prop) (m:DM) (ver next:Nat) (fs:List Fil) (C:Chg) (H:Files) (n:Nat):Prop where
 fu:∃wv a c l,Fu w Q s d g cm wv m ver next a c l false C/\l.map FR.f=fs
 off:m.off=false
 wt:m.wt= []
 big:33<=m.bl.length
 on:OnDisk m.bl fs H
 ok:Okm m.bl.length ver next fs
 few:Few C n
 base:∀k,Q k->B<=k
 tab:Tab w
 pos:0<B
 low:B<=w.heap.size
variable {B s d g cm:Nat} {w:World} {Q:Nat->Prop} {m:DM} {ver next:Nat} {fs:List Fil} {C:Chg} {H:Files} {n:Nat}
theorem On.small (h:On B s d g cm w Q m ver next fs C H n):m.bl.length<=65536:=by
 obtain⟨wv,a,c,l,hf,_⟩:=h.fu;exact hf.disk.small
theorem On.lt (h:On B s d g cm w Q m ver next fs C H n):∀k,Q k->k<w.heap.size:=by
 obtain⟨wv,a,c,l,hf,_⟩:=h.fu;exact hf.lt
theorem On.keep {w':World} {X:Nat->Prop} (h:On B s d g cm w Q m ver next fs C H n) (hB:Upon X w w') (hX:∀k,X k->¬Q k/\k≠0):On B s d g cm w' Q m ver next fs C H n:=by
 obtain⟨wv,a,c,l,hf,hl⟩:=h.fu;exact⟨⟨wv,a,c,l,hf.upon hB (λk hk=>(hX k hk).1),hl⟩,h.off,h.wt,h.big,h.on,h.ok,h.few,h.base,λj hj=>(World.cell?_of_block (hB.block 0 h.tab.lt (λe=>(hX 0 e).2 rfl))).trans (h.tab j hj),h.pos,Nat.le_trans h.low hB.size⟩
theorem On.later {w':World} (h:On B s d g cm w Q m ver next fs C H n) (hB:Below w.heap.size w w'):On B s d g cm w' Q m ver next fs C H n:=
 h.keep (X:=λ_=>False) (Upon.of_below hB) (λ_ hf=>hf.elim)
theorem On.mono {k:Nat} (h:On B s d g cm w Q m ver next fs C H n) (hk:n<=k):On B s d g cm w Q m ver next fs C H k:=⟨h.fu,h.off,h.wt,h.big,h.on,h.ok,h.few.mono hk,h.base,h.tab,h.pos,h.low⟩
theorem On.up (h:On B s d g cm w Q m ver next fs C H n) {w':World} (hu:Upon Q w w'):Below B w w':=hu.below h.low h.base
theorem On.then {w':World} {Q':Nat->Prop} {m':DM} {ver' next':Nat} {fs':List Fil} {C':Chg} {H':Files} {n':Nat} (h:On B s d g cm w Q m ver next fs C H n) (hu:Upon Q w w') (hq:∀k,Q' k->Q k\/w.heap.size<=k) (hf:∃wv a c l,Fu w' Q' s d g cm wv m' ver' next' a c l false C'/\l.map FR.f=fs') (h1:m'.off=false) (h3:m'.wt= []) (h4:33<=m'.bl.length) (h5:OnDisk m'.bl fs' H') (h6:Okm m'.bl.length ver' next' fs') (h7:Few C' n'):On B s d g cm w' Q' m' ver' next' fs' C' H' n':=
 ⟨hf,h1,h3,h4,h5,h6,h7,λk hk=>(hq k hk).elim (h.base k) (λh8=>Nat.le_trans h.low h8),h.tab.below (h.up hu) h.pos,h.pos,Nat.le_trans h.low hu.size⟩
theorem on_write (h:On B s d g cm w Q m ver next fs C H n) (hn:n<=100000) (nm:List UInt8) (h1:1<=nm.length) (h2:nm.length<=32) (ad:Option Addr) (cp:Nat) (b:List UInt8) (hb:Lies w ad (b.map bv)) (hb2:b.length<=1048576):
  Calls Tryz.prog 11 #[.pointer (some ⟨s,0,none⟩),nv nm,.slice ad b.length cp] w λe w'=>e=.returned (.int .i64 0)/\∃Q',On B s d g cm w' Q' m ver next fs (setC C nm (some (some b))) H (n+1)/\(∀k,Q' k->Q k\/w.heap.size<=k)/\Upon Q w w':=by
 obtain⟨wv,a,c,l,hf,hl⟩:=h.fu;obtain⟨L,l1,l2,l3,l4⟩:=h.few;refine(fwrite_any hf (by rw[h.off];rfl) L l1 (by omega) nm h1 h2 ad cp b hb hb2).mono ?_;rintro e w' ⟨rfl,Q',hf',hq,_,ho⟩;have hu:Upon Q w w':=Upon.of_only ho (λk hk=>.inl (by rw[jE.1 hk];exact hf.qm));exact⟨rfl,Q',h.then hu hq ⟨wv,a,c,l,hf',hl⟩ h.off h.wt h.big h.on h.ok (h.few.set nm h2 (some b) (λb' e=>by cases e;exact hb2)),hq,hu⟩
theorem on_write_name (h:On B s d g cm w Q m ver next fs C H n) (nm:List UInt8) (hn:nm.length=0\/32<nm.length) (ad:Option Addr) (k cp:Nat):
  Calls Tryz.prog 11 #[.pointer (some ⟨s,0,none⟩),nv nm,.slice ad k cp] w λe w'=>e=.returned (.int .i64 8)/\w'=w:=by
 obtain⟨wv,a,c,l,hf,hl⟩:=h.fu;exact fwrite_name hf (by rw[h.off];rfl) nm hn ad k cp
theorem on_forget (h:On B s d g cm w Q m ver next fs C H n):
  Calls Tryz.prog 24 #[.pointer (some ⟨s,0,none⟩)] w λe w'=>e=.returned (.tuple #[])/\On B s d g cm w' Q m ver next fs none' H 0/\Upon Q w w':=by
 obtain⟨wv,a,c,l,hf,hl⟩:=h.fu;refine(forget_any hf).mono ?_;rintro e w' ⟨rfl,hf',ho⟩;have hu:Upon Q w w':=Upon.of_only ho (λk hk=>.inl (by rw[jE.1 hk];exact hf.qm));exact⟨rfl,h.then hu (λk hk=>.inl hk) ⟨wv,a,c,l,hf',hl⟩ h.off h.wt h.big h.on h.ok (few_none 0),hu⟩
theorem on_names (h:On B s d g cm w Q m ver next fs C H n) (hn:n<=90000):
  Calls Tryz.prog 28 #[.pointer (some ⟨s,0,none⟩)] w λe w'=>∃(v:Value) (ss:List (List UInt8)),e=.returned v/\w'.ownsRow w.heap.size 9 1 v ss.length (ss.map encStr)/\(∀nm,nm∈ss↔nowF C H nm≠none)/\ss.Pairwise (·< ·)/\ss.length<=2035+n/\Below w.heap.size w w':=by
 obtain⟨wv,a,c,l,hf,hl⟩:=h.fu;obtain⟨L,l1,l2,l3,l4⟩:=h.few;have hfew:=h.ok.few;rw[<-hl,jP]at hfew;refine(fnames_any hf L l1 (by omega) (λx hx=>by have:=l3 x hx;omega) (by omega) (λx hx=>(h.ok.ok.each x.f (by rw[<-hl];exact List.mem_map.2 ⟨x,hx,rfl⟩)).n2)).mono ?_;rintro e w' ⟨v,ss,rfl,h1,h2,h3,h4,h5⟩;refine⟨v,ss,rfl,h1,λnm=>?_,h3,by omega,h5⟩;rw[h2 nm,hl];exact hasF_now h.on nm
def ansF (o:Option (List UInt8)):List UInt8×Int:=
 match o with
 |some b=>(b,0)
 |none=>([],8)
theorem on_read (h:On B s d g cm w Q m ver next fs C H n) (nm:List UInt8) (hn:nm.length<=1000000):
  Calls Tryz.prog 12 #[.pointer (some ⟨s,0,none⟩),nv nm] w λe w'=>∃v,e=.returned (.tuple #[v,.int .i64 (ansF (nowF C H nm)).2])/\OwnB w' w.heap.size v (ansF (nowF C H nm)).1/\Below w.heap.size w w':=by
 obtain⟨wv,a,c,l,hf,hl⟩:=h.fu;obtain⟨L,l1,l2,l3,l4⟩:=h.few;have hr:readF m.bl C fs nm=ansF (nowF C H nm):=readF_now h.on h.ok.ok.rise nm;have:=fread_any hf (by rw[hl];exact h.ok) (by rw[h.off];rfl) h.wt nm hn (λb hb=>by have:=l4 nm b hb;omega);rw[hl,hr]at this;exact this
theorem on_version (h:On B s d g cm w Q m ver next fs C H n):
  Calls Tryz.prog 16 #[.pointer (some ⟨s,0,none⟩)] w λe w'=>e=.returned (.int .u64 (ver:Int))/\w'=w:=by
 obtain⟨wv,a,c,l,hf,hl⟩:=h.fu;exact version_any hf
theorem on_free (h:On B s d g cm w Q m ver next fs C H n):
  Calls Tryz.prog 17 #[.pointer (some ⟨s,0,none⟩)] w λe w'=>e=.returned (.int .i64 ((freeB m.bl.length fs).length:Int))/\Below w.heap.size w w':=by
 obtain⟨wv,a,c,l,hf,hl⟩:=h.fu;have hfew:=h.ok.few;have hl2:l.length=fs.length:=by rw[<-hl,jP]
 have:=frees_any hf (by omega) (λx hx=>by
  have:=bksL_mem (l:=fs) (f:=x.f) (by rw[<-hl];exact List.mem_map.2 ⟨x,hx,rfl⟩)
  omega)
 have hb:=h.big;rw[hl,free_okm h.ok (by omega)]at this;exact this
theorem on_remove (h:On B s d g cm w Q m ver next fs C H n) (hn:n<=90000) (nm:List UInt8) (hnm:nm.length<=32) (hf:nowF C H nm≠none):
  Calls Tryz.prog 27 #[.pointer (some ⟨s,0,none⟩),nv nm] w λe w'=>e=.returned (.int .i64 0)/\∃Q',On B s d g cm w' Q' m ver next fs (setC C nm (some none)) H (n+1)/\(∀k,Q' k->Q k\/w.heap.size<=k)/\Upon Q w w':=by
 obtain⟨wv,a,c,l,hfu,hl⟩:=h.fu;obtain⟨L,l1,l2,l3,l4⟩:=h.few;have hfew:=h.ok.few;rw[<-hl,jP]at hfew;refine(fremove_any hfu (by rw[h.off];rfl) L l1 (by omega) (λx hx=>by have:=l3 x hx;omega) (by omega) (λx hx=>(h.ok.ok.each x.f (by rw[<-hl];exact List.mem_map.2 ⟨x,hx,rfl⟩)).n2) nm (by omega) (by rw[hl];exact(hasF_now h.on nm).2 hf)).mono ?_;rintro e w' ⟨rfl,Q',hf',hq,_,ho⟩;have hu:Upon Q w w':=Upon.of_only ho (λk hk=>.inl (by rw[jE.1 hk];exact hfu.qm));exact⟨rfl,Q',h.then hu hq ⟨wv,a,c,l,hf',hl⟩ h.off h.wt h.big h.on h.ok (h.few.set nm hnm none (λb' e=>by cases e)),hq,hu⟩
theorem on_remove_none (h:On B s d g cm w Q m ver next fs C H n) (hn:n<=90000) (nm:List UInt8) (hf:nowF C H nm=none):
  Calls Tryz.prog 27 #[.pointer (some ⟨s,0,none⟩),nv nm] w λe w'=>e=.returned (.int .i64 8)/\Below w.heap.size w w':=by
 obtain⟨wv,a,c,l,hfu,hl⟩:=h.fu;obtain⟨L,l1,l2,l3,l4⟩:=h.few;have hfew:=h.ok.few;rw[<-hl,jP]at hfew;exact fremove_none hfu (by rw[h.off];rfl) L l1 (by omega) (λx hx=>by have:=l3 x hx;omega) (by omega) (λx hx=>(h.ok.ok.each x.f (by rw[<-hl];exact List.mem_map.2 ⟨x,hx,rfl⟩)).n2) nm (by rw[hl,hasF_now h.on nm,hf];simp)
theorem on_commit_none (h:On B s d g cm w Q m ver next fs C H n) (hC:∀nm,C nm=none):
  Calls Tryz.prog 13 #[.pointer (some ⟨s,0,none⟩)] w λe w'=>e=.returned (.int .i64 0)/\w'=w:=by
 obtain⟨wv,a,c,l,hfu,hl⟩:=h.fu;exact commit_none hfu (by rw[h.off];rfl) hC
def afterD (m:DM) (C:Chg) (ver:Nat) (p:Nat×List Fil):DM:=(commitD m C p.2 (ver+1) (manL (ver+1) p.1 p.2)).1
theorem after_fuse {m:DM} (hz:m.fuse<0) (C:Chg) (ver:Nat) (p:Nat×List Fil): (afterD m C ver p).fuse<0:=by
 have h:=(commit_free hz C p.2 (ver+1) (manL (ver+1) p.1 p.2)).2;unfold afterD;rw[h];exact hz
theorem on_commit (h:On B s d g cm w Q m ver next fs C H n) (hz:m.fuse<0) (hn:n<=9000) {ss:List (List UInt8)} (hK:Keys C ss) (hC:¬∀nm,C nm=none):
  Calls Tryz.prog 13 #[.pointer (some ⟨s,0,none⟩)] w λe w'=>
   match planM C ss m.bl.length ver next fs with
   |none=>e=.returned (.int .i64 7)/\Below w.heap.size w w'
   |some p=>e=.returned (.int .i64 0)/\∃Q',On B s d g cm w' Q' (afterD m C ver p) (ver+1) p.1 p.2 none' (nowF C H) 0/\(∀k,Q' k->Q k\/w.heap.size<=k)/\Upon Q w w':=by
 obtain⟨wv,a,c,l,hfu,hl⟩:=h.fu;obtain⟨L,l1,l2,l3,l4⟩:=h.few;have hs:∀nm∈ss,nm.length<=32:=λnm hnm=>l3 nm (l1 nm ((hK.mem nm).1 hnm))
 refine(commit_any hfu h.tab L l1 (by omega) l3 l4 (by rw[hl];exact h.ok) hK h.off (by rw[h.wt];exact Nat.zero_le _) h.big hC).mono ?_;intro e w' hc;rw[hl]at hc
 cases hp:planM C ss m.bl.length ver next fs with
 |none=>rw[hp]at hc;exact hc
 |some p=>
  rw[hp]at hc;obtain⟨he,hu,Q',wv',hq,hr⟩:=hc;obtain⟨z1,z2⟩:=commit_free hz C p.2 (ver+1) (manL (ver+1) p.1 p.2);rw[if_pos z1]at hr;obtain⟨a',c',l',hl',hf'⟩:=hr;obtain⟨nx,fs'⟩:=p;obtain⟨g1,g2,g3⟩:=commit_bl h.wt z1;have hbl:=commit_len h.wt z1;have hok:=(plan_okm h.ok h.small l4 hK hs hp).1;have hon:=commit_on rfl h.small h.on h.ok l4 hK hs hp h.wt _ z1;refine⟨by rw[he,z1],Q',h.then hu hq ⟨wv',a',c',l',hf',hl'⟩ (g2.trans h.off) g3 ?_ hon ?_ (few_none 0),hq,hu⟩
  ·show 33<=(commitD m C fs' (ver+1) (manL (ver+1) nx fs')).1.bl.length;rw[hbl];exact h.big
  ·show Okm (commitD m C fs' (ver+1) (manL (ver+1) nx fs')).1.bl.length (ver+1) nx fs';rw[hbl];exact hok
end Full
namespace Full
open Go.RowKit Dk Mani Go.Proofs.YtbfochdoeibofaaGreatDoor.Read Man
open Store (Chg none' nv Files)
theorem slotB_of {bl:List (List UInt8)} {b:List UInt8} {n:Nat} (hb:b.length=2048) (h:∀k,k<16->bl[n*16+k]? =some ((b.drop (k*128)).take 128)):slotB bl n=b:=by
 have hj:∀j,j<=16->slotJ bl n j=b.take (j*128):=by
  intro j
  induction j with
  |zero=>intro _;simp[slotJ]
  |succ j ih=>
   intro hj;rw[slotJ_succ (h j (by omega)),ih (by omega),Nat.succ_mul,List.take_add]
 unfold Man.slotB;rw[hj 16 jn,jW (by omega)]
theorem slotW_nodup (at_:Nat) (b:List UInt8): ((slotW at_ b).map Prod.fst).Nodup:=by
 unfold Dk.slotW;rw[List.map_map];refine List.Pairwise.map _ (λx y hxy=>?_) (List.nodup_range (n:=16));show at_+x≠at_+y;have:x≠y:=hxy
 omega
theorem slotW_mem (at_:Nat) (b:List UInt8) {k:Nat} (hk:k<16): (at_+k,(b.drop (k*128)).take 128)∈slotW at_ b:=List.mem_map.2 ⟨k,List.mem_range.2 hk,rfl⟩
theorem slots_at {bl:List (List UInt8)} {b:List UInt8} (ver:Nat) {j:Nat} (hb:b.length=2048) (h33:33<=bl.length) (hj:j<2):slotB (puts (puts bl (slotW (ver%2*16) b)) (slotW ((ver+1)%2*16) b)) j=b:=by
 refine slotB_of hb (λk hk=>?_);have h2:=Nat.mod_lt ver (show 0<2 by decide)
 by_cases e:j=(ver+1)%2
 ·subst e;exact puts_at _ _ _ _ (slotW_nodup _ _) (slotW_mem _ _ hk) (by rw[puts_length];omega)
 ·have e2:j=ver%2:=by omega
  subst e2;rw[puts_other _ _ _ (λhm=>by have:=slotW_keys hm;omega)];exact puts_at _ _ _ _ (slotW_nodup _ _) (slotW_mem _ _ hk) (by omega)
def Slots (bl:List (List UInt8)) (ver next:Nat) (fs:List Fil):Prop:=
 (ver=0/\next=0/\fs= []/\∀j,j<2->slotB bl j=Man.zb 2048)\/∀j,j<2->slotB bl j=manL ver next fs
theorem getS_zero:getS (Man.zb 2048)=none:=by
 unfold getS;rw[Man.got_zero]
 rfl
theorem zb_any: (Man.zb 2048).any (·!=0)=false:=by
 refine Bool.eq_false_iff.2 (λh=>?_);obtain⟨x,hx,h2⟩:=List.any_eq_true.1 h;unfold Man.zb at hx;rw[List.eq_of_mem_replicate hx]at h2;cases h2
theorem readM_slots {bl:List (List UInt8)} {n ver next:Nat} {fs:List Fil} (h:Slots bl ver next fs) (hok:Okm n ver next fs): (readM bl=(none,true)/\ver=0/\next=0/\fs= [])\/(readM bl).1=some (ver,next,fs):=by
 rcases h with⟨h1,h2,h3,h4⟩|h
 ·refine .inl ⟨?_,h1,h2,h3⟩;show stepR (stepR (none,false) (slotB bl 0)) (slotB bl 1)=_;rw[h4 0 (by decide),h4 1 (by decide)];unfold stepR;rw[getS_zero,zb_any]
  rfl
 ·refine .inr ?_;show(stepR (stepR (none,false) (slotB bl 0)) (slotB bl 1)).1=_;rw[h 0 (by decide),h 1 (by decide)];unfold stepR;rw[getS_man hok];dsimp only;rw[if_neg (Nat.lt_irrefl _)]
theorem mani_free {m:DM} (h:m.fuse<0) (ver:Nat) (b:List UInt8): (m.mani ver b).2=0/\(m.mani ver b).1.fuse=m.fuse:=by
 obtain⟨a1,a2⟩:=slot_free h (ver%2*16) b;obtain⟨b1,b2⟩:=slot_free (m:=(m.slot (ver%2*16) b).1) (by rw[a2];exact h) ((ver+1)%2*16) b;unfold DM.mani;rw[if_pos a1];exact⟨b1,b2.trans a2⟩
structure SlotW (m m':DM):Prop where
 off:m'.off=m.off
 wt:m'.wt= []
 fuse:m'.fuse=m.fuse
 len:m'.bl.length=m.bl.length
 far:∀i,32<=i->m'.bl[i]? =m.bl[i]?
theorem openL_slots {m:DM} {ver next:Nat} {fs:List Fil} (h:Slots m.bl ver next fs) (hok:Okm m.bl.length ver next fs) (hf:m.fuse<0) (hw:m.wt= []) (h33:33<=m.bl.length):∃m',openL m=(0,m',(ver,next,fs))/\SlotW m m'/\Slots m'.bl ver next fs:=by
 have hrf:SlotW m m:=⟨rfl,hw,rfl,rfl,λ_ _=>rfl⟩;rcases readM_slots h hok with⟨h1,rfl,rfl,rfl⟩|h1
 ·refine⟨m,?_,hrf,h⟩;unfold openL;rw[h1]
  rfl
 ·have hin: (fs.any (λf=>f.blocks.any (λi=>decide (m.bl.length<=i))))=false:=by
   refine Bool.eq_false_iff.2 (λhh=>?_);obtain⟨f,hff,h2⟩:=List.any_eq_true.1 hh;obtain⟨i,hi,h3⟩:=List.any_eq_true.1 h2;have h4:=of_decide_eq_true h3;have h5:=hok.in_ f hff i hi
   omega
  by_cases hv:ver=0
  ·refine⟨m,?_,hrf,h⟩;unfold openL;rw[h1];dsimp only;rw[hin,if_neg Bool.false_ne_true,if_pos hv]
  ·obtain⟨f1,f2⟩:=mani_free hf ver (manL ver next fs);obtain⟨b1,b2,b3⟩:=mani_bl hw f1;refine⟨(m.mani ver (manL ver next fs)).1,?_,⟨b2,b3,f2,by rw[b1,puts_length,puts_length],λi hi=>?_⟩,.inr (λj hj=>?_)⟩
   ·unfold openL;rw[h1];dsimp only;rw[hin,if_neg Bool.false_ne_true,if_neg hv,f1]
   ·have h2:=Nat.mod_lt ver (show 0<2 by decide);rw[b1,puts_other _ _ _ (λhm=>by have:=slotW_keys hm;omega),puts_other _ _ _ (λhm=>by have:=slotW_keys hm;omega)]
   ·rw[b1];exact slots_at ver (manL_length hok.may) h33 hj
theorem slots_commit {m:DM} {C:Chg} {n ver next:Nat} {fs:List Fil} (hw:m.wt= []) (h33:33<=m.bl.length) (hok:Okm n ver next fs) (h: (commitD m C fs ver (manL ver next fs)).2=0):Slots (commitD m C fs ver (manL ver next fs)).1.bl ver next fs:=.inr (λj hj=>by
 rw[(commit_bl hw h).1];exact slots_at ver (manL_length hok.may) (by rw[puts_length];exact h33) hj)
theorem PagesAt.far {bl bl':List (List UInt8)} {f:Fil} {b:List UInt8} (h:PagesAt bl f b) (hf:∀i∈f.blocks,bl'[i]? =bl[i]?):PagesAt bl' f b:=⟨h.size,h.many,λk i hk=>by rw[hf i (jM hk)];exact h.at_ k i hk⟩
theorem OnDisk.far {bl bl':List (List UInt8)} {n ver next:Nat} {fs:List Fil} {H:Files} (h:OnDisk bl fs H) (hok:Okm n ver next fs) (hf:∀i,32<=i->bl'[i]? =bl[i]?):OnDisk bl' fs H:=⟨λf hff=>by
 obtain⟨b,h1,h2⟩:=h.there f hff;exact⟨b,h1,h2.far (λi hi=>hf i ((hok.ok.each f hff).blocks i hi).1)⟩,h.none_⟩
end Full
namespace Full
open Go.RowKit Go.Deep Mem Crc Go.Maps Dk Mani Go.Proofs.YtbfochdoeibofaaGreatDoor.Read
open Store (Chg none' nv Files)
theorem on_open {B s d g cm:Nat} {w:World} {Q:Nat->Prop} {m:DM} {ver next:Nat} {fs:List Fil} {C:Chg} {H:Files} {n:Nat} (h:On B s d g cm w Q m ver next fs C H n) (hz:m.fuse<0) (hs:Slots m.bl ver next fs):
  Calls Tryz.prog 23 #[.pointer (some ⟨d,0,none⟩)] w λe w'=>∃s' cm' Q' m',e=.returned (.tuple #[.pointer (some ⟨s',0,none⟩),.int .i64 0])/\On B s' d g cm' w' Q' m' ver next fs none' H 0/\Slots m'.bl ver next fs/\m'.bl.length=m.bl.length/\(∀k,Q' k->Q k\/w.heap.size<=k)/\Upon Q w w'/\m'.fuse<0:=by
 obtain⟨wv,a,c,l,hfu,hl⟩:=h.fu;obtain⟨m',hm,hS,hs'⟩:=openL_slots hs h.ok hz h.wt h.big;refine(open_on hfu.disk h.off h.wt h.big).mono ?_;rintro e w' ⟨wv',hD,hu,ho,hop⟩;rw[hm]at hD hop;unfold Opened at hop;rw[if_pos rfl]at hop;obtain⟨s',cm',a',c',l',he,hl',hf'⟩:=hop;have hQ:∀k,Has d g wv k->Q k:=hfu.qd;have hu2:Upon Q w w':=hu.mono hQ
 have hq:∀k,(Has d g wv' k\/(w.heap.size<=k/\k<w'.heap.size))->Q k\/w.heap.size<=k:=λk hk=>by
  rcases hk with(rfl|rfl|e)|e
  ·exact .inl (hQ _ (.inl rfl))
  ·exact .inl (hQ _ (.inr (.inl rfl)))
  ·exact(ho k e).imp (λe2=>hQ k (.inr (.inr e2))) id
  ·exact .inr e.1
 exact⟨s',cm',_,m',he,⟨⟨wv',a',c',l',hf',hl'⟩,hS.off.trans h.off,hS.wt,(by rw[hS.len];exact h.big),h.on.far h.ok hS.far,(by rw[hS.len];exact h.ok),few_none 0,λk hk=>(hq k hk).elim (h.base k) (λh8=>Nat.le_trans h.low h8),h.tab.below (h.up hu2) h.pos,h.pos,Nat.le_trans h.low hu2.size⟩,hs',hS.len,hq,hu2,by rw[hS.fuse];exact hz⟩
theorem slots_new (N:Nat) (h:33<=N):Slots (D0 N).bl 0 0 []:=.inl ⟨rfl,rfl,rfl,λj hj=>by
 refine slotB_of (by unfold Man.zb;exact List.length_replicate) (λk hk=>?_);unfold D0 Man.zb;rw[List.getElem?_replicate,if_pos (by omega),List.drop_replicate,List.take_replicate]
 congr 2
 omega⟩
end Full
namespace Full
open Go.RowKit Go.Deep Mem Crc Go.Maps Dk Mani Go.Proofs.YtbfochdoeibofaaGreatDoor.Read
open Store (Chg none' nv Files setC)
attribute [local go_sem] Oper.semAt_some
theorem append_gen {w:World} {st x:Value} {ad:Option Addr} {cp:Nat} {b r:List UInt8} {ek:Int} (hek:ek=0\/ek=8) (hr:Calls Tryz.prog 12 #[st,x] w λe w'=>∃v,e=.returned (.tuple #[v,.int .i64 ek])/\OwnB w' w.heap.size v r/\Below w.heap.size w w') (hb:Lies w ad (b.map bv)) (hm:r.length+b.length<=100000000) (P:Int->World->Prop)
  (hw:∀a cp w2,Below w.heap.size w w2->Lies w2 a ((r++b).map bv)->Calls Tryz.prog 11 #[st,x,.slice a (r++b).length cp] w2 λe w'=>∃k:Int,e=.returned (.int .i64 k)/\P k w'):
  Calls Tryz.prog 26 #[st,x,.slice ad b.length cp] w λe w'=>∃k:Int,e=.returned (.int .i64 k)/\P k w':=by
 have HR:=jq hr;have HB:=jq hb;have HW:=jq hw;have HM:=jq hm;obtain⟨n,hn⟩:=jl b.length;rw[<-hn];have HN:=jq hn;clear hr hb hw hm hn;rcases hek with rfl|rfl
 all_goals
  go_enter Tryz.func26,Tryz.ntmps26
  go_wp2_with fail
  refine HR.out.mono ?_;rintro e w1 ⟨v,rfl,hO,hB1⟩;obtain⟨va,vc,rfl,_,_,_,_⟩:=own_shape hO;obtain⟨v2,w2,hr2,hO2,hg2⟩:=run_append_bytes w1 22 _ _ hO ad cp b (HB.out.later hB1) HM.out hB1.size;obtain⟨a2,c2,rfl,_,hL2,_,_⟩:=own_shape hO2;have hB2:Below w.heap.size w w2:=hB1.grown hg2 hB1.size (λq hq=>(hO.lt q hq).1);have HWR:=jq (HW.out a2 c2 w2 hB2 hL2);rw[<-HN.out]at hr2;obtain⟨rl,hrl⟩:=jl r.length;obtain⟨al,hal⟩:=jl ((r++b).length);rw[<-hrl,<-hal]at hr2;rw[<-hal]at HWR;rw[<-hrl];clear hO hO2 hg2 hB2 hL2 hrl hal
  go_wp2_with (first|(at_builtin;refine Lib.wpList_append_run _ rfl _ _ _ _ rfl _ _ rfl rfl _ _ hr2 ?_))
  refine HWR.out.mono ?_;rintro e w3 ⟨k,rfl,hP⟩;have HP:=jq hP;clear hP
  go_wp2_with fail
  go_ret
  exact⟨k,rfl,HP.out⟩
variable {B s d g cm:Nat} {w:World} {Q:Nat->Prop} {m:DM} {ver next:Nat} {fs:List Fil} {C:Chg} {H:Files} {n:Nat}
theorem ansF_err (o:Option (List UInt8)): (ansF o).2=0\/(ansF o).2=8:=by
 cases o with
 |none=>exact .inr rfl
 |some b=>exact .inl rfl
theorem on_append (h:On B s d g cm w Q m ver next fs C H n) (hn:n<=100000) (nm:List UInt8) (h1:1<=nm.length) (h2:nm.length<=32) (ad:Option Addr) (cp:Nat) (b:List UInt8) (hb:Lies w ad (b.map bv)) (hb2: (ansF (nowF C H nm)).1.length+b.length<=1048576):
  Calls Tryz.prog 26 #[.pointer (some ⟨s,0,none⟩),nv nm,.slice ad b.length cp] w λe w'=>e=.returned (.int .i64 0)/\∃Q',On B s d g cm w' Q' m ver next fs (setC C nm (some (some ((ansF (nowF C H nm)).1++b)))) H (n+1)/\(∀k,Q' k->Q k\/w.heap.size<=k)/\Upon Q w w':=
 (append_gen (ansF_err _) (on_read h nm (by omega)) hb (by omega) (λk w'=>k=0/\∃Q',On B s d g cm w' Q' m ver next fs (setC C nm (some (some ((ansF (nowF C H nm)).1++b)))) H (n+1)/\(∀k,Q' k->Q k\/w.heap.size<=k)/\Upon Q w w') (λa cp w2 hB hL=>(on_write (h.later hB) hn nm h1 h2 a cp _ hL (by rw[jL];exact hb2)).mono (λe w' hh=>by
  obtain⟨he,Q',ho,hq,hu⟩:=hh;exact⟨0,he,rfl,Q',ho,λk hk=>(hq k hk).imp id (λh8=>Nat.le_trans hB.size h8),(Upon.of_below hB).trans hu (λ_ hk=>.inl hk)⟩))).mono (λe w' hh=>by
  obtain⟨k,he,rfl,hr⟩:=hh;exact⟨he,hr⟩)
theorem on_append_name (h:On B s d g cm w Q m ver next fs C H n) (nm:List UInt8) (hnm:nm.length=0\/32<nm.length) (hl:nm.length<=1000000) (ad:Option Addr) (cp:Nat) (b:List UInt8) (hb:Lies w ad (b.map bv)) (hb2: (ansF (nowF C H nm)).1.length+b.length<=1048576):
  Calls Tryz.prog 26 #[.pointer (some ⟨s,0,none⟩),nv nm,.slice ad b.length cp] w λe w'=>e=.returned (.int .i64 8)/\Below w.heap.size w w':=
 (append_gen (ansF_err _) (on_read h nm hl) hb (by omega) (λk w'=>k=8/\Below w.heap.size w w') (λa cp w2 hB hL=>(on_write_name (h.later hB) nm hnm a _ cp).mono (λe w' hh=>by
  obtain⟨he,rfl⟩:=hh;exact⟨8,he,rfl,hB⟩))).mono (λe w' hh=>by
  obtain⟨k,he,rfl,hr⟩:=hh;exact⟨he,hr⟩)
end Full
namespace RefF
open Go.RowKit Go.Deep Mem Crc
open Store (nv)
abbrev FF:=List UInt8×List UInt8
def FF.vs (x:FF):List Value:=[nv x.1,nv x.2]
def flatP (l:List FF):List Value:=l.flatMap FF.vs
theorem flatP_len:∀l:List FF,(flatP l).length=l.length*2
 | []=>rfl
 |x ::r=>by
  unfold flatP;rw[jC,jL,List.length_cons];have:=flatP_len r;unfold flatP at this;rw[this];show 2+_=_
  omega
theorem flatP_at:∀{l:List FF} {k:Nat} {x:FF},l[k]? =some x->∀{j:Nat} {u:Value},(FF.vs x)[j]? =some u->(flatP l)[k*2+j]? =some u
 | [],k,x,hx,_,_,_=>by simp at hx
 |y ::r,0,x,hx,j,u,hu=>by
  simp at hx
  subst hx;unfold flatP;rw[jC,List.getElem?_append_left (by have:=(jS.1 hu).1;omega)]
  simpa using hu
 |y ::r,k+1,x,hx,j,u,hu=>by
  have:=flatP_at (l:=r) (k:=k) (x:=x) (by simpa using hx) hu;have e: (FF.vs y).length=2:=rfl;unfold flatP at this⊢;rw[jC,List.getElem?_append_right (by rw[e];omega),<-this]
  congr 1
  rw[e]
  omega
theorem cells_at {w:World} {a:Option Addr} {l:List FF} (h:Lies w a (flatP l)) {k:Nat} {x:FF} (hx:l[k]? =some x):∃g o,a=some ⟨g,o,none⟩/\w.cell? ⟨g,o+k*2,none⟩=some (nv x.1)/\w.cell? ⟨g,o+k*2+1,none⟩=some (nv x.2):=by
 rcases h with h|⟨g,o,rfl,_,hc⟩
 ·have:=congrArg List.length h;rw[flatP_len]at this;have h2:=(jS.1 hx).1
  simp at this
  omega
 ·exact⟨g,o,rfl,hc _ _ (flatP_at hx (j:=0) rfl),by rw[Nat.add_assoc];exact hc _ _ (flatP_at hx (j:=1) rfl)⟩
theorem str_beq {x y:List UInt8} {sx sy:ByteArray} (hx:nv x=.string sx) (hy:nv y=.string sy): (sx.toList==sy.toList)=(x==y):=by
 unfold Store.nv at hx hy;injection hx with hx;injection hy with hy;subst hx hy;rw[Lib.toList_data,Lib.toList_data]
def findP (l:List FF) (nm:List UInt8):Nat:=l.findIdx (λx=>x.1==nm)
theorem findP_eq {l:List FF} {nm:List UInt8} {k:Nat} {x:FF} (hx:l[k]? =some x) (he:x.1=nm) (hp:∀j,j<k->∀y,l[j]? =some y->y.1≠nm):findP l nm=k:=by
 obtain⟨hk,hxe⟩:=jS.1 hx;unfold findP;rw[List.findIdx_eq hk];refine⟨by rw[hxe];simpa using he,λj hj=>?_⟩;have:=hp j hj _ (jg (by omega))
 simpa using this
theorem findP_none {l:List FF} {nm:List UInt8} (hp:∀j,j<l.length->∀y,l[j]? =some y->y.1≠nm):findP l nm=l.length:=by
 unfold findP;rw[List.findIdx_eq_length];intro x hx;obtain⟨j,hj⟩:=List.mem_iff_getElem?.1 hx;have:=hp j (jS.1 hj).1 x hj
 simpa using this
theorem eql_str (t:TypeId) (a b:ByteArray):binOp .eql t (.string a) (.string b)=pure (.bool (a.toList==b.toList)):=by simp[binOp,Op.stringOp]
attribute [local go_sem] eql_str
attribute [local go_sem] Oper.semAt_some
theorem find_any (a:Option Addr) (cp:Nat) (l:List FF) (nm:List UInt8) (w:World) (h:Lies w a (flatP l)) (hn:l.length<=1000000):
  Calls Tryz.prog 46 #[.slice a l.length cp,nv nm] w λe w'=>e=.returned (.tuple #[.int .i64 (if findP l nm<l.length then(findP l nm:Int)else 0),.bool (decide (findP l nm<l.length))])/\w'=w:=by
 obtain⟨rv,hrv⟩:=jl (Value.tuple #[.int .i64 (if findP l nm<l.length then(findP l nm:Int)else 0),.bool (decide (findP l nm<l.length))]);rw[<-hrv];have HRV:=jq hrv;clear hrv;obtain⟨n,hnn⟩:=jl l.length;obtain⟨sn,hsn⟩:∃b:ByteArray,nv nm=.string b:=⟨_,rfl⟩;rw[<-hnn]at hn⊢;rw[hsn];have H:=jq h;have HN:=jq hnn;have HSN:=jq hsn;clear h hnn hsn
 go_enter Tryz.func46,Tryz.ntmps46
 go_wp2_with fail
 go_loopw[9] (λi wr=>∃k:Nat,k<=n/\i=.int .i64 (k:Int)/\wr=w/\Hid (∀j,j<k->∀x,l[j]? =some x->x.1≠nm)) (λi _=>n-(intOf i).toNat)
 case atStart=>exact⟨0,Nat.zero_le _,rfl,rfl,jq (λj hj=>absurd hj (Nat.not_lt_zero _))⟩
 case round=>
  obtain⟨k,hk,rfl,rfl,hp⟩:=hrel
  by_cases hkn:k<n
  ·have hkd:decide ((k:Int) <(n:Int))=true:=jd (by omega);obtain⟨x,hx⟩:∃x,l[k]? =some x:=⟨l[k]'(by rw[<-HN.out];exact hkn),jg _⟩;obtain⟨g,o,rfl,c0,_⟩:=cells_at H.out hx;obtain⟨sx,hsx⟩:∃b:ByteArray,nv x.1=.string b:=⟨_,rfl⟩;rw[hsx]at c0;obtain⟨q,hq⟩:∃b:Bool,(sx.toList==sn.toList)=b:=⟨_,rfl⟩;have HX:=jq hx;have HSX:=jq hsx;have HQ:=jq hq;clear hx hsx;cases q
   ·go_wp2_with fail
    have hne:x.1≠nm:=λe=>by
     have h1:=HQ.out;rw[str_beq HSX.out HSN.out,e]at h1
     simp at h1
    exact⟨⟨k+1,hkn,by simp,by first|rfl|trivial,jq (λj hj y hy=>by
     rcases Nat.lt_or_eq_of_le (Nat.le_of_lt_succ hj)with h1|h1
     ·exact hp.out j h1 y hy
     ·subst h1;rw[HX.out]at hy;cases hy;exact hne)⟩,by simp[intOf];omega⟩
   ·go_wp2_with fail
    go_ret2
    have he:x.1=nm:=by
     have h1:=HQ.out;rw[str_beq HSX.out HSN.out]at h1
     simpa using h1
    have hf:=findP_eq HX.out he hp.out;refine⟨?_,rfl⟩;have h2:k<l.length:=by rw[<-HN.out];exact hkn
    rw[HRV.out,hf,if_pos h2,jd h2]
    rfl
  ·obtain rfl:n=k:=by omega
   have hkd:decide ((n:Int) <(n:Int))=false:=jf (by omega);have hf:findP l nm=l.length:=findP_none (λj hj=>hp.out j (by rw[HN.out];exact hj));have HF:=jq hf;clear hf
   go_wp2_with fail
   go_ret2
   refine⟨?_,rfl⟩;rw[HRV.out,HF.out,if_neg (Nat.lt_irrefl _),jf (Nat.lt_irrefl _)]
   rfl
theorem among_any (a:Option Addr) (cp:Nat) (l:List (List UInt8)) (nm:List UInt8) (w:World) (h:Lies w a (l.map nv)) (hn:l.length<=1000000):
  Calls Tryz.prog 127 #[nv nm,.slice a l.length cp] w λe w'=>e=.returned (.bool (decide (nm∈l)))/\w'=w:=by
 obtain⟨rv,hrv⟩:=jl (decide (nm∈l));rw[<-hrv];have HRV:=jq hrv;clear hrv;obtain⟨n,hnn⟩:=jl l.length;obtain⟨sn,hsn⟩:∃b:ByteArray,nv nm=.string b:=⟨_,rfl⟩;rw[<-hnn]at hn⊢;rw[hsn];have H:=jq h;have HN:=jq hnn;have HSN:=jq hsn;clear h hnn hsn
 go_enter Tryz.func127,Tryz.ntmps127
 go_wp2_with fail
 go_loopw[8] (λi wr=>∃k:Nat,k<=n/\i=.int .i64 (k:Int)/\wr=w/\Hid (∀j,j<k->∀x,l[j]? =some x->x≠nm)) (λi _=>n-(intOf i).toNat)
 case atStart=>exact⟨0,Nat.zero_le _,rfl,rfl,jq (λj hj=>absurd hj (Nat.not_lt_zero _))⟩
 case round=>
  obtain⟨k,hk,rfl,rfl,hp⟩:=hrel
  by_cases hkn:k<n
  ·have hkd:decide ((k:Int) <(n:Int))=true:=jd (by omega);obtain⟨x,hx⟩:∃x,l[k]? =some x:=⟨l[k]'(by rw[<-HN.out];exact hkn),jg _⟩;obtain⟨g,o,rfl,_,hcs⟩:=H.out.resolve_left (λe=>by rw[List.map_eq_nil_iff.1 e]at hx;simp at hx);have c0:wr.cell? ⟨g,o+k,none⟩=some (nv x):=hcs k _ (by rw[List.getElem?_map,hx];rfl);obtain⟨sx,hsx⟩:∃b:ByteArray,nv x=.string b:=⟨_,rfl⟩;rw[hsx]at c0;obtain⟨q,hq⟩:∃b:Bool,(sx.toList==sn.toList)=b:=⟨_,rfl⟩;have HX:=jq hx;have HSX:=jq hsx;have HQ:=jq hq;clear hx hsx hcs;cases q
   ·go_wp2_with fail
    have hne:x≠nm:=λe=>by
     have h1:=HQ.out;rw[str_beq HSX.out HSN.out,e]at h1
     simp at h1
    exact⟨⟨k+1,hkn,by simp,by first|rfl|trivial,jq (λj hj y hy=>by
     rcases Nat.lt_or_eq_of_le (Nat.le_of_lt_succ hj)with h1|h1
     ·exact hp.out j h1 y hy
     ·subst h1;rw[HX.out]at hy;cases hy;exact hne)⟩,by simp[intOf];omega⟩
   ·go_wp2_with fail
    go_ret
    have he:x=nm:=by
     have h1:=HQ.out;rw[str_beq HSX.out HSN.out]at h1
     simpa using h1
    refine⟨?_,rfl⟩;rw[HRV.out,jd (by rw[<-he];exact jM HX.out)]
    rfl
  ·obtain rfl:n=k:=by omega
   have hkd:decide ((n:Int) <(n:Int))=false:=jf (by omega)
   have hf:decide (nm∈l)=false:=jf (λhm=>by
    obtain⟨j,hj⟩:=List.mem_iff_getElem?.1 hm;exact hp.out j (by rw[HN.out];exact(jS.1 hj).1) nm hj rfl)
   have HF:=jq hf;clear hf
   go_wp2_with fail
   go_ret
   refine⟨?_,rfl⟩;rw[HRV.out,HF.out]
   rfl
end RefF
namespace RefF
open Go.RowKit Go.Deep Mem Crc
open Store (nv)
theorem infoP: (Tryz.prog.info? 69).map (λi=>(i.zero,i.size,i.bytes))=some (some (.agg #[.string ⟨#[]⟩,.string ⟨#[]⟩]),2,32):=by kernel_rfl
theorem append_F {base:Nat} (w:World) (ty:TypeId) (v:Value) (l:List FF) (h:w.ownsRow base 69 2 v l.length (flatP l)) (x:FF) (hm:l.length<=1000000) (hb:base<=w.heap.size):
  ∃v' w',(Builtin.append_ #[35,35] ty #[v,.slice (some ⟨w.heap.size,0,none⟩) 1 1]).run Tryz.prog (w.alloc (.cells #[nv x.1,nv x.2] 69))=.ok v' w'/\w'.ownsRow base 69 2 v' (l++ [x]).length (flatP (l++ [x]))/\w.grownBy w' v.ownBlock:=by
 obtain⟨i,hi,hz,h1,h2⟩:=info_parts infoP;have hB:Below w.heap.size w (w.alloc (.cells #[nv x.1,nv x.2] 69)):=(Below.refl _ w).alloc jn _
 obtain⟨v',w',hr,ho,hg,_⟩:=run_append_own (P:=Tryz.prog) (w.alloc (.cells #[nv x.1,nv x.2] 69)) base 35 ty 69 i (.agg #[.string ⟨#[]⟩,.string ⟨#[]⟩]) 2 32 Tryz.underlying35 hi hz h1 h2 rfl (by decide) v l.length (flatP l) (own_later h hB) ⟨w.heap.size,0,none⟩ 1 1 (FF.vs x) rfl (λj u hu=>by
  have:=lies_add (new_lies w 69 #[nv x.1,nv x.2]) j u (by simpa[FF.vs]using hu);exact this) (λu hu=>by
  unfold FF.vs at hu;simp only[List.mem_cons,List.not_mem_nil,or_false]at hu;rcases hu with rfl|rfl <;> rfl) (by unfold maxLen;omega) (by omega) (Nat.le_trans hb hB.size)
 refine⟨v',w',hr,?_,grown_later hB hg⟩;have e:flatP (l++ [x])=flatP l++FF.vs x:=by unfold flatP;rw[List.flatMap_append];simp
 rw[jL,e];exact ho
def withoutP (l:List FF) (nm:List UInt8):List FF:=l.filter (λx=> !(x.1==nm))
theorem neq_str (t:TypeId) (a b:ByteArray):binOp .neq t (.string a) (.string b)=pure (.bool (!(a.toList==b.toList))):=by simp[binOp,Op.stringOp]
theorem take_len {l:List FF} {nm:List UInt8} (k:Nat): (withoutP (l.take k) nm).length<=l.length:=Nat.le_trans (List.length_filter_le _ _) (by rw[jT];omega)
attribute [local go_sem] eql_str neq_str
attribute [local go_sem] Oper.semAt_some
theorem without_any (a:Option Addr) (cp:Nat) (l:List FF) (nm:List UInt8) (w:World) (h:Lies w a (flatP l)) (hn:l.length<=1000000):
  Calls Tryz.prog 80 #[.slice a l.length cp,nv nm] w λe w'=>∃v,e=.returned v/\w'.ownsRow w.heap.size 69 2 v (withoutP l nm).length (flatP (withoutP l nm))/\Below w.heap.size w w':=by
 obtain⟨n,hnn⟩:=jl l.length;obtain⟨sn,hsn⟩:∃b:ByteArray,nv nm=.string b:=⟨_,rfl⟩;rw[<-hnn]at hn⊢;rw[hsn];have H:=jq h;have HN:=jq hnn;have HSN:=jq hsn;clear h hnn hsn
 go_enter Tryz.func80,Tryz.ntmps80
 go_wp2_with fail
 go_loopw[5,10] (λo i wr=>∃k:Nat,k<=n/\i=.int .i64 (k:Int)/\Hid (Below w.heap.size w wr)/\Hid (wr.ownsRow w.heap.size 69 2 o (withoutP (l.take k) nm).length (flatP (withoutP (l.take k) nm)))) (λ_ i _=>n-(intOf i).toNat)
 case atStart=>exact⟨0,Nat.zero_le _,rfl,jq ((Below.refl _ w).alloc jn _),jq (World.ownsRow_lit w #[] 0 jn (by decide) rfl)⟩
 case round=>
  obtain⟨k,hk,rfl,hB,hO⟩:=hrel
  by_cases hkn:k<n
  ·have hkd:decide ((k:Int) <(n:Int))=true:=jd (by omega);obtain⟨x,hx⟩:∃x,l[k]? =some x:=⟨l[k]'(by rw[<-HN.out];exact hkn),jg _⟩;obtain⟨g,o,rfl,c0,c1⟩:=cells_at (H.out.later hB.out) hx;obtain⟨sx,hsx⟩:∃b:ByteArray,nv x.1=.string b:=⟨_,rfl⟩;obtain⟨sy,hsy⟩:∃b:ByteArray,nv x.2=.string b:=⟨_,rfl⟩
   have hst:withoutP (l.take (k+1)) nm=withoutP (l.take k) nm++(if(x.1==nm)=true then []else [x]):=by
    unfold withoutP;rw[List.take_add_one,hx,List.filter_append]
    congr 1
    by_cases e:x.1=nm <;> simp[e]
   rw[<-str_beq hsx HSN.out]at hst;have hsz:=hB.out.size;obtain⟨q,hq⟩:∃b:Bool,(sx.toList==sn.toList)=b:=⟨_,rfl⟩;rw[hq]at hst;cases q
   ·have hst:withoutP (l.take (k+1)) nm=withoutP (l.take k) nm++ [x]:=hst;obtain⟨ov,ow,hr,ho,hg⟩:=append_F wr 35 _ _ hO.out x (Nat.le_trans (take_len k) (by rw[<-HN.out];omega)) hsz;have hB2:Below w.heap.size w ow:=hB.out.grown hg hsz (λy hy=>(hO.out.lt y hy).1);obtain⟨oa,oc,rfl,_,_,_,_⟩:=own_shape hO.out;obtain⟨ol,hol⟩:=jl ((withoutP (l.take k) nm).length);rw[<-hol]at hr⊢;rw[hsx,hsy]at hr;rw[hsx]at c0;rw[hsy]at c1;rw[<-hst]at ho;have HO2:=jq ho;have HB2:=jq hB2;clear hst ho hg hB2 hx hsx hsy hB hO hol
    go_wp2_with (first|(at_builtin;refine Lib.wpList_append_run _ rfl _ _ _ _ rfl _ _ rfl rfl _ _ hr ?_))
    exact⟨⟨k+1,hkn,by simp,HB2,HO2⟩,by simp[intOf];omega⟩
   ·have hst:withoutP (l.take (k+1)) nm=withoutP (l.take k) nm:=by rw[hst];simp
    rw[hsx]at c0;rw[hsy]at c1;have hO2:=hO.out;rw[<-hst]at hO2;have HO2:=jq hO2;clear hst hO2 hx hsx hsy hO
    go_wp2_with fail
    exact⟨⟨k+1,hkn,by simp,hB,HO2⟩,by simp[intOf];omega⟩
  ·obtain rfl:n=k:=by omega
   have hkd:decide ((n:Int) <(n:Int))=false:=jf (by omega);have hO2:=hO.out;rw[jW (by rw[HN.out];exact Nat.le_refl _)]at hO2;have HO2:=jq hO2;clear hO hO2
   go_wp2_with fail
   go_ret
   exact⟨_,rfl,HO2.out,hB.out⟩
end RefF
namespace RefF
open Go.RowKit Go.Deep Mem Crc
open Store (nv)
def stepP (nm b:List UInt8) (s:List FF×Bool) (x:FF):List FF×Bool:=
 if(x.1==nm)=true then s else if s.2=false/\nm<x.1 then(s.1++ [(nm,b),x],true)else(s.1++ [x],s.2)
def foldP (nm b:List UInt8) (l:List FF):List FF×Bool:=l.foldl (stepP nm b) ([],false)
def putP (l:List FF) (nm b:List UInt8):List FF:=if(foldP nm b l).2 then(foldP nm b l).1 else(foldP nm b l).1++ [(nm,b)]
theorem foldP_succ {nm b:List UInt8} {l:List FF} {k:Nat} {x:FF} (h:l[k]? =some x):foldP nm b (l.take (k+1))=stepP nm b (foldP nm b (l.take k)) x:=by
 unfold foldP;rw[List.take_add_one,h,List.foldl_append]
 rfl
theorem foldP_len (nm b:List UInt8) (l:List FF): (foldP nm b l).1.length<=l.length+1:=by
 have h:∀(l:List FF) (s:List FF×Bool),(l.foldl (stepP nm b) s).1.length+(if(l.foldl (stepP nm b) s).2 then 0 else 1)<=s.1.length+(if s.2 then 0 else 1)+l.length:=by
  intro l
  induction l with
  |nil=>intro s;exact Nat.le_refl _
  |cons x r ih=>
   intro s;have h1:=ih (stepP nm b s x)
   have h2: (stepP nm b s x).1.length+(if(stepP nm b s x).2 then 0 else 1)<=s.1.length+(if s.2 then 0 else 1)+1:=by
    unfold stepP
    split
    ·omega
    ·split
     ·rename_i h3 h4
      rw[h4.1]
      simp
     ·dsimp only;rw[jL,List.length_singleton]
      omega
   rw[List.foldl_cons,List.length_cons]
   omega
 have:=h l ([],false)
 simp at this
 unfold foldP
 omega
theorem gtr_lt {x y:List UInt8} {sx sy:ByteArray} (hx:nv x=.string sx) (hy:nv y=.string sy): (!Op.bytesLess sx.toList sy.toList&& !(sx.toList==sy.toList))=decide (y<x):=by
 unfold Store.nv at hx hy;injection hx with hx;injection hy with hy;subst hx hy;rw[Lib.toList_data,Lib.toList_data,bytesLess_eq];show(!decide (x<y)&& !(x==y))=decide (y<x);rw[Bool.eq_iff_iff];simp only[Bool.and_eq_true,Bool.not_eq_true',decide_eq_false_iff_not,beq_eq_false_iff_ne,decide_eq_true_eq]
 constructor
 ·rintro⟨h1,h2⟩;rcases List.le_iff_lt_or_eq.1 (List.not_lt.1 h1)with h3|h3
  ·exact h3
  ·exact absurd h3.symm h2
 ·intro h;exact⟨List.lt_asymm h,λe=>by subst e;exact List.lt_irrefl _ h⟩
theorem gtr_str' (t:TypeId) (a b:ByteArray):binOp .gtr t (.string a) (.string b)=pure (.bool (!Op.bytesLess a.toList b.toList&& !(a.toList==b.toList))):=by simp[binOp,Op.stringOp]
attribute [local go_sem] eql_str gtr_str'
attribute [local go_sem] Oper.semAt_some
theorem put_any (a:Option Addr) (cp:Nat) (l:List FF) (nm b:List UInt8) (w:World) (h:Lies w a (flatP l)) (hn:l.length<=100000):
  Calls Tryz.prog 79 #[.slice a l.length cp,nv nm,nv b] w λe w'=>∃v,e=.returned v/\w'.ownsRow w.heap.size 69 2 v (putP l nm b).length (flatP (putP l nm b))/\Below w.heap.size w w':=by
 obtain⟨n,hnn⟩:=jl l.length;obtain⟨sn,hsn⟩:∃b:ByteArray,nv nm=.string b:=⟨_,rfl⟩;obtain⟨sb,hsb⟩:∃x:ByteArray,nv b=.string x:=⟨_,rfl⟩;rw[<-hnn]at hn⊢;rw[hsn,hsb];have H:=jq h;have HN:=jq hnn;have HSN:=jq hsn;have HSB:=jq hsb;clear h hnn hsn hsb
 go_enter Tryz.func79,Tryz.ntmps79
 go_wp2_with fail
 go_loopw[7,8,13] (λo dn i wr=>∃(k:Nat) (L:List FF) (D:Bool),k<=n/\i=.int .i64 (k:Int)/\dn=.bool D/\L.length<=100001/\Hid (foldP nm b (l.take k)=(L,D))/\Hid (Below w.heap.size w wr)/\Hid (wr.ownsRow w.heap.size 69 2 o L.length (flatP L))) (λ_ _ i _=>n-(intOf i).toNat)
 case atStart=>exact⟨0,[],false,Nat.zero_le _,rfl,rfl,Nat.zero_le _,jq rfl,jq ((Below.refl _ w).alloc jn _),jq (World.ownsRow_lit w #[] 0 jn (by decide) rfl)⟩
 case round=>
  obtain⟨k,L,D,hk,rfl,rfl,hLn,hF,hB,hO⟩:=hrel
  by_cases hkn:k<n
  ·have hkd:decide ((k:Int) <(n:Int))=true:=jd (by omega);obtain⟨x,hx⟩:∃x,l[k]? =some x:=⟨l[k]'(by rw[<-HN.out];exact hkn),jg _⟩;have HX:=jq hx;obtain⟨g,o,rfl,c0,c1⟩:=cells_at (H.out.later hB.out) hx;obtain⟨sx,hsx⟩:∃b:ByteArray,nv x.1=.string b:=⟨_,rfl⟩;obtain⟨sy,hsy⟩:∃b:ByteArray,nv x.2=.string b:=⟨_,rfl⟩;have hst:foldP nm b (l.take (k+1))=stepP nm b (L,D) x:=by rw[foldP_succ hx,hF.out]
   have hbd: (foldP nm b (l.take (k+1))).1.length<=100001:=Nat.le_trans (foldP_len nm b _) (by rw[jT];omega);have hsz:=hB.out.size;obtain⟨q,hq⟩:∃b:Bool,(sx.toList==sn.toList)=b:=⟨_,rfl⟩;obtain⟨lv,hlv⟩:∃b:Bool,Op.bytesLess sx.toList sn.toList=b:=⟨_,rfl⟩;have hq2: (x.1==nm)=q:=by rw[<-str_beq hsx HSN.out];exact hq
   have hg2:decide (nm<x.1)=(!lv&& !q):=by rw[<-gtr_lt hsx HSN.out,hlv,hq]
   have HSX:=jq hsx;have HSY:=jq hsy;rw[hsx]at c0;rw[hsy]at c1;cases q
   ·have hone: (D=true\/lv=true)->foldP nm b (l.take (k+1))=(L++ [x],D):=λhh=>by
     rw[hst];unfold stepP
     rw[if_neg (by rw[hq2];exact Bool.false_ne_true),if_neg (λhc=>by
      rcases hh with h1|h1
      ·rw[h1]at hc;exact Bool.noConfusion hc.1
      ·rw[h1]at hg2;exact(of_decide_eq_false hg2) hc.2)]
    have htwo: (D=false/\lv=false)->foldP nm b (l.take (k+1))=(L++ [(nm,b),x],true):=λhh=>by
     rw[hst];unfold stepP;rw[if_neg (by rw[hq2];exact Bool.false_ne_true),if_pos ⟨hh.1,of_decide_eq_true (by rw[hg2,hh.2];rfl)⟩]
    obtain⟨ov,ow,hr,ho,hg⟩:=append_F wr 35 _ _ hO.out x (by omega) hsz;have hB2:Below w.heap.size w ow:=hB.out.grown hg hsz (λy hy=>(hO.out.lt y hy).1);obtain⟨pv,pw,hrp,hop,hgp⟩:=append_F wr 35 _ _ hO.out (nm,b) (by omega) hsz;have hBp:Below w.heap.size w pw:=hB.out.grown hgp hsz (λy hy=>(hO.out.lt y hy).1);obtain⟨rv,rw_,hrr,hor,hgr⟩:=append_F pw 35 _ _ hop x (by rw[jL,List.length_singleton];omega) hBp.size;have hBr:Below w.heap.size w rw_:=hBp.grown hgr hBp.size (λy hy=>(hop.lt y hy).1);obtain⟨g',o',e',d0,d1⟩:=cells_at (H.out.later hBp) hx;cases e';obtain⟨oa,oc,rfl,_,_,_,_⟩:=own_shape hO.out;obtain⟨pa,pc,rfl,_,_,_,_⟩:=own_shape hop;have eL:L++ [(nm,b),x]=L++ [(nm,b)]++ [x]:=by rw[List.append_assoc];rfl
    obtain⟨ol,hol⟩:=jl L.length;obtain⟨pl,hpl⟩:=jl ((L++ [(nm,b)]).length);rw[<-hol]at hr hrp⊢;rw[<-hpl]at hrp hrr;rw[HSX.out,HSY.out]at hr hrr;rw[HSN.out,HSB.out]at hrp;rw[hsx]at d0;rw[hsy]at d1;have HO2:=jq ho;have HB2:=jq hB2;have HO3:=jq hor;have HB3:=jq hBr;have HONE:=jq hone;have HTWO:=jq htwo;have HBD:=jq hbd;clear hst ho hg hB2 hx hsx hsy hB hO hol hpl hop hgp hBp hor hgr hBr hone htwo hbd hq2 hg2 hF;cases D
    ·cases lv
     rotate_left
     ·go_wp2_with (first|(at_builtin;refine Lib.wpList_append_run _ rfl _ _ _ _ rfl _ _ rfl rfl _ _ hr ?_))
      have h1:=HONE.out (by simp);have h2:=HBD.out;rw[h1]at h2;exact⟨⟨k+1,L++ [x],false,hkn,by simp,rfl,h2,jq h1,HB2,HO2⟩,by simp[intOf];omega⟩
     ·go_wp2_with (first|(at_builtin;refine Lib.wpList_append_run _ rfl _ _ _ _ rfl _ _ rfl rfl _ _ hrp ?_)|(at_builtin;refine Lib.wpList_append_run _ rfl _ _ _ _ rfl _ _ rfl rfl _ _ hrr ?_))
      have h1:=HTWO.out (by simp);have h2:=HBD.out;rw[h1]at h2;exact⟨⟨k+1,L++ [(nm,b),x],true,hkn,by simp,rfl,h2,jq h1,HB3,jq (by rw[eL];exact HO3.out)⟩,by simp[intOf];omega⟩
    ·go_wp2_with (first|(at_builtin;refine Lib.wpList_append_run _ rfl _ _ _ _ rfl _ _ rfl rfl _ _ hr ?_))
     have h1:=HONE.out (by simp);have h2:=HBD.out;rw[h1]at h2;exact⟨⟨k+1,L++ [x],true,hkn,by simp,rfl,h2,jq h1,HB2,HO2⟩,by simp[intOf];omega⟩
   ·have h1:foldP nm b (l.take (k+1))=(L,D):=by
     rw[hst];unfold stepP;rw[if_pos hq2]
    have H1:=jq h1;clear hst h1 hbd hx hsx hsy hq2 hg2 hF
    go_wp2_with fail
    exact⟨⟨k+1,L,D,hkn,by simp,rfl,hLn,H1,hB,hO⟩,by simp[intOf];omega⟩
  ·obtain rfl:n=k:=by omega
   have hkd:decide ((n:Int) <(n:Int))=false:=jf (by omega);have hF2:=hF.out;rw[jW (by rw[HN.out];exact Nat.le_refl _)]at hF2;have hsz:=hB.out.size;have hput:putP l nm b=if D then L else L++ [(nm,b)]:=by unfold putP;rw[hF2]
   obtain⟨pv,pw,hrp,hop,hgp⟩:=append_F wr 35 _ _ hO.out (nm,b) (by omega) hsz;have hBp:Below w.heap.size w pw:=hB.out.grown hgp hsz (λy hy=>(hO.out.lt y hy).1);obtain⟨oa,oc,rfl,_,_,_,_⟩:=own_shape hO.out;obtain⟨ol,hol⟩:=jl L.length;rw[<-hol]at hrp⊢;rw[HSN.out,HSB.out]at hrp;have HOP:=jq hop;have HBP:=jq hBp;have HPUT:=jq hput;have HOL:=jq hol;clear hF hF2 hop hBp hgp hput hol;cases D
   ·go_wp2_with (first|(at_builtin;refine Lib.wpList_append_run _ rfl _ _ _ _ rfl _ _ rfl rfl _ _ hrp ?_))
    go_ret
    rw[HPUT.out];exact⟨_,rfl,HOP.out,HBP.out⟩
   ·go_wp2_with fail
    go_ret
    rw[HPUT.out];exact⟨_,rfl,by rw[HOL.out];exact hO.out,hB.out⟩
end RefF
namespace RefF
open Go.RowKit
open Store (Files)
structure IsRow (l:List FF) (F:Files):Prop where
 rise:l.Pairwise (λx y=>x.1<y.1)
 mem:∀nm b,(nm,b)∈l↔F nm=some b
theorem IsRow.uniq {l l2:List FF} {F:Files} (h:IsRow l F) (h2:IsRow l2 F):l=l2:=by
 have hm:∀x,x∈l↔x∈l2:=λx=>(h.mem x.1 x.2).trans (h2.mem x.1 x.2).symm
 have key:∀(l l2:List FF),l.Pairwise (λx y=>x.1<y.1)->l2.Pairwise (λx y=>x.1<y.1)->(∀x,x∈l↔x∈l2)->l=l2:=by
  intro l
  induction l with
  |nil=>
   intro l2 _ _ hm
   cases l2 with
   |nil=>rfl
   |cons y r=>exact absurd ((hm y).2 (by simp)) (List.not_mem_nil)
  |cons x r ih=>
   intro l2 p1 p2 hm
   cases l2 with
   |nil=>exact absurd ((hm x).1 (by simp)) (List.not_mem_nil)
   |cons y r2=>
    obtain⟨a1,a2⟩:=List.pairwise_cons.1 p1;obtain⟨b1,b2⟩:=List.pairwise_cons.1 p2
    have hxy:x=y:=by
     rcases List.mem_cons.1 ((hm x).1 (by simp))with e|e
     ·exact e
     ·rcases List.mem_cons.1 ((hm y).2 (by simp))with e2|e2
      ·exact e2.symm
      ·exact absurd (b1 x e) (List.lt_asymm (a1 y e2))
    subst hxy;refine congrArg _ (ih r2 a2 b2 (λz=>?_))
    constructor
    ·intro hz;rcases List.mem_cons.1 ((hm z).1 (List.mem_cons_of_mem _ hz))with e|e
     ·subst e;exact absurd (a1 z hz) (List.lt_irrefl _)
     ·exact e
    ·intro hz;rcases List.mem_cons.1 ((hm z).2 (List.mem_cons_of_mem _ hz))with e|e
     ·subst e;exact absurd (b1 z hz) (List.lt_irrefl _)
     ·exact e
 exact key l l2 h.rise h2.rise hm
theorem IsRow.none_ {l:List FF} {F:Files} (h:IsRow l F) (nm:List UInt8):F nm=none↔∀x∈l,x.1≠nm:=by
 constructor
 ·intro hf x hx e;have:=(h.mem x.1 x.2).1 hx;rw[e,hf]at this;cases this
 ·intro hx
  cases hf:F nm with
  |none=>rfl
  |some b=>exact absurd rfl (hx (nm,b) ((h.mem nm b).2 hf))
theorem isRow_none:IsRow [] (λ_=>none):=⟨List.Pairwise.nil,λnm b=>by simp⟩
theorem IsRow.without {l:List FF} {F:Files} (h:IsRow l F) (nm:List UInt8):IsRow (withoutP l nm) (λx=>if x=nm then none else F x):=by
 refine⟨h.rise.sublist List.filter_sublist,λx b=>?_⟩;unfold withoutP;rw[List.mem_filter,h.mem]
 by_cases e:x=nm
 ·subst e
  simp
 ·simp[e]
theorem IsRow.find {l:List FF} {F:Files} (h:IsRow l F) (nm:List UInt8): (findP l nm<l.length↔F nm≠none)/\∀b,F nm=some b->l[findP l nm]? =some (nm,b):=by
 cases hf:F nm with
 |none=>
  have h1:=(h.none_ nm).1 hf;have h2:findP l nm=l.length:=findP_none (λj hj y hy=>h1 y (jM hy));rw[h2]
  simp
 |some b=>
  have hm:=(h.mem nm b).2 hf;obtain⟨j,hj⟩:=List.mem_iff_getElem?.1 hm;have hjl:=(jS.1 hj)
  have hp:findP l nm=j:=findP_eq hj rfl (λi hi y hy e=>by
   have hyl:=jS.1 hy;have:=List.pairwise_iff_getElem.1 h.rise i j hyl.1 hjl.1 hi;rw[hyl.2,hjl.2,e]at this;exact List.lt_irrefl _ this)
  rw[hp];exact⟨⟨λ_=>by simp,λ_=>hjl.1⟩,λb' e=>by cases e;exact hj⟩
end RefF
namespace RefF
open Go.RowKit
open Store (Files)
theorem fold_on (nm b:List UInt8):∀(l acc:List FF),(∀x∈l,nm<x.1)->l.foldl (stepP nm b) (acc,true)=(acc++l,true)
 | [],acc,_=>by simp
 |x ::r,acc,h=>by
  have hx:=h x (by simp)
  have hne: (x.1==nm)=false:=by
   rw[beq_eq_false_iff_ne];intro e;rw[e]at hx;exact List.lt_irrefl _ hx
  have e:stepP nm b (acc,true) x=(acc++ [x],true):=by
   unfold stepP;rw[hne,if_neg Bool.false_ne_true,if_neg (λhc=>Bool.noConfusion hc.1)]
  rw[List.foldl_cons,e,fold_on nm b r (acc++ [x]) (λy hy=>h y (by simp[hy])),List.append_assoc]
  rfl
def endP (nm b:List UInt8) (s:List FF×Bool):List FF:=if s.2 then s.1 else s.1++ [(nm,b)]
theorem fold_put (nm b:List UInt8):∀(l acc:List FF),l.Pairwise (λx y=>x.1<y.1)->endP nm b (l.foldl (stepP nm b) (acc,false))=acc++(l.filter (λx=>decide (x.1<nm))++(nm,b)::l.filter (λx=>decide (nm<x.1)))
 | [],acc,_=>by simp[endP]
 |x ::r,acc,hp=>by
  obtain⟨h1,h2⟩:=List.pairwise_cons.1 hp;rw[List.foldl_cons]
  by_cases e:x.1=nm
  ·have hs:stepP nm b (acc,false) x=(acc,false):=by
    unfold stepP;rw[if_pos (by simpa using e)]
   have e1:decide (x.1<nm)=false:=jf (by rw[e];exact List.lt_irrefl _);have e2:decide (nm<x.1)=false:=jf (by rw[e];exact List.lt_irrefl _);rw[hs,fold_put nm b r acc h2,List.filter_cons,List.filter_cons,e1,e2]
   rfl
  ·have hne: (x.1==nm)=false:=by rw[beq_eq_false_iff_ne];exact e
   by_cases hlt:nm<x.1
   ·have hs:stepP nm b (acc,false) x=(acc++ [(nm,b),x],true):=by
     unfold stepP;rw[hne,if_neg Bool.false_ne_true,if_pos ⟨rfl,hlt⟩]
    have hr:∀y∈r,nm<y.1:=λy hy=>List.lt_trans hlt (h1 y hy)
    have hlo: (x ::r).filter (λx=>decide (x.1<nm))= []:=List.filter_eq_nil_iff.2 (λy hy=>by
     have:nm<y.1:=by
      rcases List.mem_cons.1 hy with rfl|hy
      ·exact hlt
      ·exact hr y hy
     simpa using List.lt_asymm this)
    have hhi: (x ::r).filter (λx=>decide (nm<x.1))=x ::r:=List.filter_eq_self.2 (λy hy=>by
     have:nm<y.1:=by
      rcases List.mem_cons.1 hy with rfl|hy
      ·exact hlt
      ·exact hr y hy
     exact jd this)
    rw[hs,fold_on nm b r _ hr,hlo,hhi];unfold endP;rw[if_pos rfl]
    simp
   ·have hlt2:x.1<nm:=by
     rcases List.le_iff_lt_or_eq.1 (List.not_lt.1 hlt)with h3|h3
     ·exact h3
     ·exact absurd h3 e
    have hs:stepP nm b (acc,false) x=(acc++ [x],false):=by
     unfold stepP;rw[hne,if_neg Bool.false_ne_true,if_neg (λhc=>hlt hc.2)]
    have e1:decide (x.1<nm)=true:=jd hlt2;have e2:decide (nm<x.1)=false:=jf hlt;rw[hs,fold_put nm b r (acc++ [x]) h2,List.filter_cons,List.filter_cons,e1,e2,List.append_assoc]
    rfl
theorem putP_eq {l:List FF} (h:l.Pairwise (λx y=>x.1<y.1)) (nm b:List UInt8):putP l nm b=l.filter (λx=>decide (x.1<nm))++(nm,b)::l.filter (λx=>decide (nm<x.1)):=by
 have:=fold_put nm b l [] h;rw[List.nil_append]at this;exact this
theorem IsRow.put {l:List FF} {F:Files} (h:IsRow l F) (nm b:List UInt8):IsRow (putP l nm b) (λx=>if x=nm then some b else F x):=by
 rw[putP_eq h.rise];refine⟨List.pairwise_append.2 ⟨h.rise.sublist List.filter_sublist,List.pairwise_cons.2 ⟨λy hy=>?_,h.rise.sublist List.filter_sublist⟩,λx hx y hy=>?_⟩,λx c=>?_⟩
 ·exact of_decide_eq_true (List.mem_filter.1 hy).2
 ·have hx2:x.1<nm:=of_decide_eq_true (List.mem_filter.1 hx).2;rcases List.mem_cons.1 hy with rfl|hy
  ·exact hx2
  ·exact List.lt_trans hx2 (of_decide_eq_true (List.mem_filter.1 hy).2)
 ·rw[List.mem_append,List.mem_cons,List.mem_filter,List.mem_filter,h.mem,decide_eq_true_eq,decide_eq_true_eq]
  by_cases e:x=nm
  ·subst e;rw[if_pos rfl]
   constructor
   ·rintro(⟨_,h2⟩|h2|⟨_,h2⟩)
    ·exact absurd h2 (List.lt_irrefl _)
    ·cases h2;rfl
    ·exact absurd h2 (List.lt_irrefl _)
   ·intro h2;cases h2;exact .inr (.inl rfl)
  ·rw[if_neg e]
   constructor
   ·rintro(⟨h1,_⟩|h2|⟨h1,_⟩)
    ·exact h1
    ·cases h2;exact absurd rfl e
    ·exact h1
   ·intro h1
    by_cases hlt:x<nm
    ·exact .inl ⟨h1,hlt⟩
    ·rcases List.le_iff_lt_or_eq.1 (List.not_lt.1 hlt)with h3|h3
     ·exact .inr (.inr ⟨h1,h3⟩)
     ·exact absurd h3.symm e
end RefF
namespace RefF
open Go.RowKit Full
open Store (Chg none' nv Files setC setC_same setC_other)
theorem nowF_set (C:Chg) (H:Files) (nm:List UInt8) (o:Option (List UInt8)):nowF (setC C nm (some o)) H=λx=>if x=nm then o else nowF C H x:=by
 funext x
 by_cases e:x=nm
 ·subst e;rw[if_pos rfl];unfold nowF;rw[setC_same]
 ·rw[if_neg e];unfold nowF;rw[setC_other _ e]
theorem IsRow.write {l:List FF} {C:Chg} {H:Files} (h:IsRow l (nowF C H)) (nm b:List UInt8):IsRow (putP l nm b) (nowF (setC C nm (some (some b))) H):=by
 rw[nowF_set];exact h.put nm b
theorem IsRow.remove {l:List FF} {C:Chg} {H:Files} (h:IsRow l (nowF C H)) (nm:List UInt8):IsRow (withoutP l nm) (nowF (setC C nm (some none)) H):=by
 rw[nowF_set];exact h.without nm
theorem IsRow.was {l:List FF} {C:Chg} {H:Files} (h:IsRow l (nowF C H)) (nm:List UInt8): (ansF (nowF C H nm)).1=if findP l nm<l.length then(l.getD (findP l nm) ([],[])).2 else []:=by
 obtain⟨h1,h2⟩:=h.find nm
 cases hf:nowF C H nm with
 |none=>rw[if_neg (λhc=>h1.1 hc hf)];rfl
 |some b=>
  rw[if_pos (h1.2 (by rw[hf];exact λe=>by cases e)),List.getD_eq_getElem?_getD,h2 b hf]
  rfl
theorem IsRow.names {l:List FF} {F:Files} (h:IsRow l F) {ss:List (List UInt8)} (hp:ss.Pairwise (·< ·)) (hm:∀nm,nm∈ss↔F nm≠none):l.map Prod.fst=ss:=by
 have h2:IsRow (ss.map λnm=>(nm,(F nm).getD [])) F:=by
  refine⟨List.pairwise_map.2 (hp.imp (λh=>h)),λnm b=>?_⟩;rw[List.mem_map]
  constructor
  ·rintro⟨x,hx,e⟩;cases e;have:=(hm nm).1 hx
   cases hf:F nm with
   |none=>exact absurd hf this
   |some c=>rfl
  ·intro hf;exact⟨nm,(hm nm).2 (by rw[hf];exact λe=>by cases e),by rw[hf];rfl⟩
 rw[h.uniq h2,List.map_map];exact List.map_id _
end RefF
namespace RefF
open Go.RowKit Full Mani Varint
open Store (Chg none' nv Files)
open Ext (takeL takeK freeN freeL)
structure RP where
 free:List Nat
 next:Nat
 out:List Fil
def rnew (s:RP) (x:FF):Fil:=⟨x.1,s.next,x.2.length,s.free.take (many x.2.length)⟩
def rstep (fs:List Fil) (ch:List (List UInt8)) (x:FF) (s:RP):Option RP:=
 if x.1∈ch then(if s.free.length<many x.2.length then none else some ⟨s.free.drop (many x.2.length),s.next+1,s.out++ [rnew s x]⟩)
 else some ⟨s.free,s.next,s.out++fs.filter (λf=>decide (f.name=x.1))⟩
def rplan (fs:List Fil) (ch:List (List UInt8)) (l:List FF) (s:RP):Option RP:=l.foldl (λo x=>o.bind (rstep fs ch x)) (some s)
theorem rfold_none (fs:List Fil) (ch:List (List UInt8)):∀l:List FF,l.foldl (fun(o:Option RP) x=>o.bind (rstep fs ch x)) none=none
 | []=>rfl
 |_ ::r=>rfold_none fs ch r
theorem rplan_cons (fs:List Fil) (ch:List (List UInt8)) (x:FF) (l:List FF) (s:RP):rplan fs ch (x ::l) s=(rstep fs ch x s).bind (rplan fs ch l):=by
 unfold rplan;rw[List.foldl_cons];show l.foldl _ (rstep fs ch x s)=_
 cases rstep fs ch x s with
 |none=>exact rfold_none fs ch l
 |some t=>rfl
theorem rplan_snoc (fs:List Fil) (ch:List (List UInt8)) {l:List FF} {k:Nat} {x:FF} (h:l[k]? =some x) (s:RP):rplan fs ch (l.take (k+1)) s=(rplan fs ch (l.take k) s).bind (rstep fs ch x):=by
 unfold rplan;rw[List.take_add_one,h,List.foldl_append]
 rfl
theorem rplan_none (fs:List Fil) (ch:List (List UInt8)) {l:List FF} {k:Nat} {s:RP} (h:rplan fs ch (l.take k) s=none):rplan fs ch l s=none:=by
 unfold rplan at h⊢;rw[<-List.take_append_drop k l,List.foldl_append,h];exact rfold_none fs ch _
theorem planF_cons (C:Chg) (nm:List UInt8) (ss:List (List UInt8)) (p:PL):planF C (nm ::ss) p=(stepF C nm p).bind (planF C ss):=by
 unfold planF;rw[List.foldl_cons];show ss.foldl _ (stepF C nm p)=_
 cases stepF C nm p with
 |none=>exact foldl_none C ss
 |some t=>rfl
def isW (C:Chg) (nm:List UInt8):Bool:=match C nm with
 |some (some _)=>true
 |_=>false
theorem isW_iff {C:Chg} {nm:List UInt8}:isW C nm=true↔∃b,C nm=some (some b):=by
 unfold isW
 cases hC:C nm with
 |none=>simp
 |some o=>cases o <;> simp
theorem planF_skip (C:Chg):∀(ss:List (List UInt8)) (p:PL),planF C ss p=planF C (ss.filter (isW C)) p
 | [],_=>rfl
 |nm ::ss,p=>by
  by_cases hw:isW C nm=true
  ·rw[List.filter_cons_of_pos hw,planF_cons,planF_cons]
   congr 1
   funext q
   exact planF_skip C ss q
  ·rw[List.filter_cons_of_neg hw,planF_cons]
   have e:stepF C nm p=some p:=by
    unfold stepF
    cases hC:C nm with
    |none=>rfl
    |some o=>
     cases o with
     |none=>rfl
     |some b=>exact absurd (isW_iff.2 ⟨b,hC⟩) hw
   rw[e];exact planF_skip C ss p
theorem filter_one:∀{fs:List Fil},rises fs->∀{f:Fil},f∈fs->fs.filter (λg=>decide (g.name=f.name))= [f]
 |x ::r,hr,f,hf=>by
  obtain⟨h1,h2⟩:=List.pairwise_cons.1 hr
  have hnot:∀y∈r,x.name≠y.name:=λy hy e=>by
   have:=h1 y hy;rw[e]at this;exact List.lt_irrefl _ this
  rcases List.mem_cons.1 hf with rfl|hf
  ·rw[List.filter_cons_of_pos (by simp),List.filter_eq_nil_iff.2 (λy hy=>by
    have:=hnot y hy
    simp
    exact λe=>this e.symm)]
  ·rw[List.filter_cons_of_neg (by simpa using hnot f hf),filter_one h2 hf]
theorem plan_side (C:Chg) (ch:List (List UInt8)) (n:Nat) (fs:List Fil) (hr:rises fs):∀(l:List FF) (p:PL) (s:RP) (q:Nat->Bool) (R K:List Fil),p.k=mapK n q->p.fs=R++K->s.free=(List.range n).filter (λi=> !q i)->s.next=p.next->s.out=R->l.Pairwise (λx y=>x.1<y.1)->(∀f∈R,∀x∈l,f.name<x.1)->K.map Fil.name=(l.filter (λx=> !decide (x.1∈ch))).map Prod.fst->(∀f∈K,f∈fs)->p.next+l.length<4294967296->(∀x∈l,x.1∈ch->C x.1=some (some x.2))->
  (planF C ((l.filter (λx=>decide (x.1∈ch))).map Prod.fst) p).map (λp=>(p.next,p.fs))=(rplan fs ch l s).map (λs=>(s.next,s.out))
 | [],p,s,q,R,K,hk,hf,_,hn,ho,_,_,hK,_,_,_=>by
  have:K= []:=by simpa using hK
  subst this;show some (p.next,p.fs)=some (s.next,s.out);rw[hn,ho,hf,List.append_nil]
 |x ::l,p,s,q,R,K,hk,hf,hfr,hn,ho,hl,hR,hK,hKf,hb,hc=>by
  obtain⟨l1,l2⟩:=List.pairwise_cons.1 hl;rw[rplan_cons]
  by_cases hx:x.1∈ch
  ·have hC:=hc x (by simp) hx;rw[List.filter_cons_of_neg (by simpa using hx)]at hK;rw[List.filter_cons_of_pos (by simpa using hx),List.map_cons,planF_cons];have hfn:freeN p.k=s.free.length:=by rw[hk,freeN_mapK,hfr]
   unfold stepF rstep;rw[hC,if_pos hx];dsimp only;rw[hfn]
   by_cases hrm:s.free.length<many x.2.length
   ·rw[if_pos hrm,if_pos hrm]
    rfl
   ·rw[if_neg hrm,if_neg hrm];have hle:many x.2.length<=((List.range n).filter (λi=> !q i)).length:=by rw[<-hfr];omega
    have enew:newF x.1 x.2 p=rnew s x:=by
     unfold newF rnew;rw[hk,takeL_mapK n q hle,hn,hfr]
    have hKgt:∀f∈K,x.1<f.name:=λf hf=>by
     have hm:f.name∈K.map Fil.name:=List.mem_map.2 ⟨f,hf,rfl⟩;rw[hK]at hm;obtain⟨y,hy,e⟩:=List.mem_map.1 hm;rw[<-e];exact l1 y (List.mem_filter.1 hy).1
    have hins:insAt x.1 (R++K)=R.length:=insAt_eq x.1 (R++K) R.length (by simp) (λk y hkk hy=>by
      rw[List.getElem?_append_left hkk]at hy;exact hR y (jM hy) x (by simp)) (λk y hkk hy=>by
      rw[List.getElem?_append_right hkk]at hy;exact List.lt_asymm (hKgt y (jM hy)))
    have efs:insF (newF x.1 x.2 p) p.fs=(R++ [rnew s x])++K:=by
     have en: (newF x.1 x.2 p).name=x.1:=rfl;unfold insF;rw[en,hf,hins,enew]
     simp
    have hne: (p.next+1)%4294967296=p.next+1:=Nat.mod_eq_of_lt (by rw[List.length_cons]at hb;omega);refine plan_side C ch n fs hr l _ _ (λj=>q j||decide (j∈((List.range n).filter (λi=> !q i)).take (many x.2.length))) (R++ [rnew s x]) K (by dsimp only;rw[hk,takeK_mapK n q hle]) efs (by dsimp only;rw[free_rest,hfr]) (by dsimp only;rw[hne,hn]) (by dsimp only;rw[ho]) l2 (λf hf y hy=>?_) hK hKf (by dsimp only;rw[hne];rw[List.length_cons]at hb;omega) (λy hy=>hc y (by simp[hy]));rcases List.mem_append.1 hf with hf|hf
    ·exact hR f hf y (by simp[hy])
    ·rw[jE.1 hf];exact l1 y hy
  ·rw[List.filter_cons_of_pos (by simpa using hx),List.map_cons]at hK;rw[List.filter_cons_of_neg (by simpa using hx)]
   cases K with
   |nil=>cases hK
   |cons f K=>
    rw[List.map_cons]at hK;injection hK with e1 e2
    have hone:fs.filter (λg=>decide (g.name=x.1))= [f]:=by
     rw[<-e1];exact filter_one hr (hKf f (by simp))
    unfold rstep;rw[if_neg hx,hone];refine plan_side C ch n fs hr l p _ q (R++ [f]) K hk (by rw[hf];simp) hfr hn (by dsimp only;rw[ho]) l2 (λg hg y hy=>?_) e2 (λg hg=>hKf g (by simp[hg])) (by rw[List.length_cons]at hb;omega) (λy hy=>hc y (by simp[hy]));rcases List.mem_append.1 hg with hg|hg
    ·exact hR g hg y (by simp[hy])
    ·rw[jE.1 hg,e1];exact l1 y hy
structure RInv (n:Nat) (fs:List Fil) (next:Nat) (l:List FF) (s:RP):Prop where
 each:∀f∈s.out,FOk s.next f
 rise:rises s.out
 ahead:∀f∈s.out,∀x∈l,f.name<x.1
 old:∀f∈s.out,f∈fs\/(next<=f.id/\∀i∈f.blocks,i∉bksL fs)
 ids: (s.out.map Fil.id).Nodup
 bks: (bksL s.out).Nodup
 free:s.free.Nodup/\∀i∈s.free,32<=i/\i<n/\i∉bksL fs/\i∉bksL s.out
 next:next<=s.next
theorem bksL_snoc (l:List Fil) (f:Fil):bksL (l++ [f])=bksL l++f.blocks:=by
 unfold bksL;rw[List.flatMap_append]
 simp
theorem many_take {b:List UInt8} {free:List Nat} (h:¬free.length<many b.length):many b.length=(free.take (many b.length)).length:=by
 rw[jT]
 omega
theorem ids_ne:∀{fs:List Fil},(fs.map Fil.id).Nodup->∀{g f:Fil},g∈fs->f∈fs->g≠f->g.id≠f.id
 |x ::r,hn,g,f,hg,hf,hne=>by
  rw[List.map_cons]at hn;obtain⟨n1,n2⟩:=List.nodup_cons.1 hn;rcases List.mem_cons.1 hg with eg|hg2
  ·rcases List.mem_cons.1 hf with ef|hf2
   ·exact absurd (eg.trans ef.symm) hne
   ·exact λe=>n1 (List.mem_map.2 ⟨f,hf2,by rw[<-eg];exact e.symm⟩)
  ·rcases List.mem_cons.1 hf with ef|hf2
   ·exact λe=>n1 (List.mem_map.2 ⟨g,hg2,by rw[<-ef];exact e⟩)
   ·exact ids_ne n2 hg2 hf2 hne
theorem RInv.step {n ver next:Nat} {fs:List Fil} {ch:List (List UInt8)} {l:List FF} {x:FF} {s s':RP} (hok:Okm n ver next fs) (hn:n<=65536) (h:RInv n fs next (x ::l) s) (hl: (x ::l).Pairwise (λx y=>x.1<y.1)) (hx:1<=x.1.length/\x.1.length<=32) (hu:x.1∈ch\/∃f∈fs,f.name=x.1) (hs:rstep fs ch x s=some s'):RInv n fs next l s':=by
 obtain⟨l1,l2⟩:=List.pairwise_cons.1 hl
 have hlast:∀(f:Fil),f.name=x.1->rises (s.out++ [f])/\∀g∈s.out++ [f],∀y∈l,g.name<y.1:=λf hf=>⟨List.pairwise_append.2 ⟨h.rise,List.pairwise_singleton _ _,λa ha b hb=>by
  rw[jE.1 hb,hf];exact h.ahead a ha x (by simp)⟩,λg hg y hy=>by
  rcases List.mem_append.1 hg with hg|hg
  ·exact h.ahead g hg y (by simp[hy])
  ·rw[jE.1 hg,hf];exact l1 y hy⟩
 unfold rstep at hs
 by_cases hc:x.1∈ch
 ·rw[if_pos hc]at hs
  by_cases hr:s.free.length<many x.2.length
  ·rw[if_pos hr]at hs;cases hs
  ·rw[if_neg hr]at hs;have hs:=Option.some.inj hs;subst hs;obtain⟨r1,r2⟩:=hlast (rnew s x) rfl;have hsub:∀i∈(rnew s x).blocks,i∈s.free:=λi hi=>List.mem_of_mem_take hi
   refine⟨λf hf=>?_,r1,r2,λf hf=>?_,?_,?_,⟨h.free.1.sublist (List.drop_sublist _ _),λi hi=>?_⟩,by dsimp only;have:=h.next;omega⟩
   ·rcases List.mem_append.1 hf with hf|hf
    ·have:=h.each f hf;exact⟨this.n1,this.n2,by have:=this.id;dsimp only;omega,this.many,this.blocks⟩
    ·rw[jE.1 hf];exact⟨hx.1,hx.2,Nat.lt_succ_self _,many_take hr,λi hi=>by have:=h.free.2 i (hsub i hi);omega⟩
   ·rcases List.mem_append.1 hf with hf|hf
    ·exact h.old f hf
    ·rw[jE.1 hf];exact .inr ⟨h.next,λi hi=>(h.free.2 i (hsub i hi)).2.2.1⟩
   ·rw[List.map_append];refine List.nodup_append.2 ⟨h.ids,by simp,λa ha b hb=>?_⟩;obtain⟨g,hg,e⟩:=List.mem_map.1 ha;have hb:b=s.next:=by simpa[rnew]using hb
    have:=(h.each g hg).id
    omega
   ·rw[bksL_snoc];refine List.nodup_append.2 ⟨h.bks,h.free.1.sublist (List.take_sublist _ _),λa ha b hb=>?_⟩;rintro rfl;exact(h.free.2 a (hsub a hb)).2.2.2 ha
   ·have hi2:=List.mem_of_mem_drop hi;obtain⟨f1,f2,f3,f4⟩:=h.free.2 i hi2;refine⟨f1,f2,f3,λhm=>?_⟩;rw[bksL_snoc]at hm;rcases List.mem_append.1 hm with hm|hm
    ·exact f4 hm
    ·have hnd:=h.free.1;rw[<-List.take_append_drop (many x.2.length) s.free]at hnd;exact(List.nodup_append.1 hnd).2.2 i hm i hi rfl
 ·rw[if_neg hc]at hs;have hs:=Option.some.inj hs;subst hs;obtain⟨f,hf,hnm⟩:=hu.resolve_left hc;rw[<-hnm,filter_one hok.ok.rise hf];obtain⟨r1,r2⟩:=hlast f hnm;have hfo:=hok.ok.each f hf
  have hlt:∀g∈s.out,g≠f:=λg hg e=>by
   have:=h.ahead g hg x (by simp);rw[e,hnm]at this;exact List.lt_irrefl _ this
  refine⟨λg hg=>?_,r1,r2,λg hg=>?_,?_,?_,⟨h.free.1,λi hi=>?_⟩,h.next⟩
  ·rcases List.mem_append.1 hg with hg|hg
   ·exact h.each g hg
   ·rw[jE.1 hg];exact⟨hfo.n1,hfo.n2,by have:=hfo.id;have:=h.next;dsimp only;omega,hfo.many,hfo.blocks⟩
  ·rcases List.mem_append.1 hg with hg|hg
   ·exact h.old g hg
   ·rw[jE.1 hg];exact .inl hf
  ·rw[List.map_append];refine List.nodup_append.2 ⟨h.ids,by simp,λa ha b hb=>?_⟩;obtain⟨g,hg,e⟩:=List.mem_map.1 ha;have hb:b=f.id:=by simpa using hb
   rcases h.old g hg with hgf|hgn
   ·intro hab;have hnd:=hok.ok.ids.1
    have:g=f:=by
     by_cases hgf2:g=f
     ·exact hgf2
     ·exact absurd (by omega:g.id=f.id) (ids_ne hnd hgf hf hgf2)
    exact hlt g hg this
   ·have:=hfo.id
    omega
  ·rw[bksL_snoc]
   have hfb:f.blocks.Nodup:=List.Nodup.sublist (l₂:=bksL fs) (by
    obtain⟨a,b,e⟩:=List.append_of_mem hf;rw[e];unfold bksL;rw[List.flatMap_append,jC];exact(List.sublist_append_left _ _).trans (List.sublist_append_right _ _)) hok.ok.bks.1
   refine List.nodup_append.2 ⟨h.bks,hfb,λa ha b hb=>?_⟩;rintro rfl;obtain⟨g,hg,hga⟩:=List.mem_flatMap.1 ha;rcases h.old g hg with hgf|hgn
   ·exact hlt g hg (bks_apart hok.ok.bks.1 hgf hf hga hb)
   ·exact hgn.2 a hga (List.mem_flatMap.2 ⟨f,hf,hb⟩)
  ·obtain⟨f1,f2,f3,f4⟩:=h.free.2 i hi;refine⟨f1,f2,f3,λhm=>?_⟩;rw[bksL_snoc]at hm;rcases List.mem_append.1 hm with hm|hm
   ·exact f4 hm
   ·exact f3 (List.mem_flatMap.2 ⟨f,hf,hm⟩)
theorem RInv.run {n ver next:Nat} {fs:List Fil} {ch:List (List UInt8)} (hok:Okm n ver next fs) (hn:n<=65536):∀{l:List FF} {s s':RP},RInv n fs next l s->l.Pairwise (λx y=>x.1<y.1)->(∀x∈l,(1<=x.1.length/\x.1.length<=32)/\(x.1∈ch\/∃f∈fs,f.name=x.1))->rplan fs ch l s=some s'->RInv n fs next [] s'
 | [],s,s',h,_,_,hs=>by
  have hs:some s=some s':=hs;cases hs;exact h
 |x ::l,s,s',h,hl,hx,hs=>by
  rw[rplan_cons]at hs
  cases ht:rstep fs ch x s with
  |none=>rw[ht]at hs;cases hs
  |some t=>
   rw[ht]at hs;exact RInv.run hok hn (h.step hok hn hl (hx x (by simp)).1 (hx x (by simp)).2 ht) (List.pairwise_cons.1 hl).2 (λy hy=>hx y (by simp[hy])) hs
theorem free_nums {n:Nat} {fs:List Fil} {i:Nat}:i∈freeB n fs↔i<n/\32<=i/\i∉bksL fs:=by
 unfold Full.freeB Full.tkn;rw[List.mem_filter,List.mem_range]
 simp
theorem rinv_start (n next:Nat) (fs:List Fil) (l:List FF):RInv n fs next l ⟨freeB n fs,next,[]⟩:=
 ⟨λf hf=>(by cases hf),List.Pairwise.nil,λf hf=>(by cases hf),λf hf=>(by cases hf),List.nodup_nil,List.nodup_nil,⟨List.nodup_range.filter _,λi hi=>by
  have:=free_nums.1 hi;exact⟨this.2.1,this.1,this.2.2,λhm=>by cases hm⟩⟩,Nat.le_refl _⟩
theorem RInv.mok {n:Nat} {fs:List Fil} {next:Nat} {l:List FF} {s:RP} (h:RInv n fs next l s):MOk s.next none [] [] s.out:=
 ⟨h.rise,λp hp=>(by cases hp),h.each,⟨h.ids,λf _=>List.not_mem_nil⟩,⟨h.bks,λi _=>List.not_mem_nil⟩⟩
theorem blkB_of:∀{l bks:List Nat},l.Nodup->(∀i∈l,i∉bks/\32<=i/\i<65536)->blkB bks l=true
 | [],_,_,_=>rfl
 |i ::r,bks,h1,h2=>by
  obtain⟨n1,n2⟩:=List.nodup_cons.1 h1;obtain⟨a,b,c⟩:=h2 i (by simp);unfold Mani.blkB;rw[blkB_of n2 (λj hj=>⟨λhm=>(List.mem_cons.1 hm).elim (λe=>n1 (by rw[<-e];exact hj)) (h2 j (by simp[hj])).1,(h2 j (by simp[hj])).2⟩)]
  have:bks.contains i=false:=by
   cases hq:bks.contains i with
   |false=>rfl
   |true=>exact absurd (List.contains_iff_mem.1 hq) a
  rw[this,jd b,jd c]
  rfl
theorem allB_of {next:Nat}:∀{fs:List Fil} {prev:Option (List UInt8)} {ids bks:List Nat},MOk next prev ids bks fs->allB next prev ids bks fs=true
 | [],_,_,_,_=>rfl
 |f ::r,prev,ids,bks,h=>by
  have hf:=h.each f (by simp);obtain⟨r1,r2⟩:=List.pairwise_cons.1 h.rise;have hid:=h.ids.1;rw[List.map_cons]at hid;obtain⟨i1,i2⟩:=List.nodup_cons.1 hid;have eb:bksL (f ::r)=f.blocks++bksL r:=by unfold bksL;rw[jC]
  have hb:=h.bks;rw[eb]at hb;obtain⟨b1,b2,b3⟩:=List.nodup_append.1 hb.1
  have ih:=allB_of (fs:=r) (next:=next) (prev:=some f.name) (ids:=f.id ::ids) (bks:=f.blocks.reverse++bks) ⟨r2,λp hp g hg=>by cases hp;exact r1 g hg,λg hg=>h.each g (by simp[hg]),⟨i2,λg hg hm=>by
    rcases List.mem_cons.1 hm with e|e
    ·exact i1 (List.mem_map.2 ⟨g,hg,e⟩)
    ·exact h.ids.2 g (by simp[hg]) e⟩,⟨b2,λi hi hm=>by
    rcases List.mem_append.1 hm with e|e
    ·exact b3 i (by simpa using e) i hi rfl
    ·exact hb.2 i (by simp[hi]) e⟩⟩
  unfold Mani.allB;rw[ih,Bool.and_true,Bool.and_eq_true]
  constructor
  ·cases prev with
   |none=>rfl
   |some p=>simpa using h.prev p rfl f (by simp)
  ·unfold Mani.rightB Mani.headB;rw[blkB_of b1 (λi hi=>⟨hb.2 i (by simp[hi]),hf.blocks i hi⟩),jd hf.n1,jd hf.n2,jd hf.id,jd hf.many]
   have:ids.contains f.id=false:=by
    cases hq:ids.contains f.id with
    |false=>rfl
    |true=>exact absurd (List.contains_iff_mem.1 hq) (h.ids.2 f (by simp))
   rw[this]
   rfl
structure ChOk (C:Chg) (ch:List (List UInt8)):Prop where
 some_:∀x∈ch,C x≠none
 all_:∀x b,C x=some (some b)->x∈ch
theorem row_ch {C:Chg} {H:Files} {ch:List (List UInt8)} {l:List FF} (hl:IsRow l (nowF C H)) (hc:ChOk C ch):∀x∈l,(x.1∈ch->C x.1=some (some x.2))/\(x.1∉ch->C x.1=none):=by
 intro x hx;have hn:=(hl.mem x.1 x.2).1 hx;unfold nowF at hn
 cases hC:C x.1 with
 |none=>exact⟨λh=>absurd hC (hc.some_ _ h),λ_=>rfl⟩
 |some o=>
  rw[hC]at hn;dsimp only at hn;subst hn;exact⟨λ_=>rfl,λh=>absurd (hc.all_ _ _ hC) h⟩
theorem plan_ref {C:Chg} {H:Files} {ch ss:List (List UInt8)} {l:List FF} {bl:List (List UInt8)} {n ver next:Nat} {fs:List Fil} (hok:Okm n ver next fs) (hn:n<=65536) (h32:32<=n) (hd:OnDisk bl fs H) (hl:IsRow l (nowF C H)) (hc:ChOk C ch) (hK:Keys C ss) (hnx:next+l.length<4294967296) (hv:ver<18446744073709551615) (hx:∀x∈l,1<=x.1.length/\x.1.length<=32):
  planM C ss n ver next fs=(match rplan fs ch l ⟨freeB n fs,next,[]⟩with
   |none=>none
   |some s=>if(bodyL (ver+1) s.next s.out).length<=2035 then some (s.next,s.out)else none)/\∀s,rplan fs ch l ⟨freeB n fs,next,[]⟩=some s->RInv n fs next [] s:=by
 have hrow:=row_ch hl hc
 have hfs:∀nm,nm∈fs.map Fil.name↔H nm≠none:=λnm=>by
  constructor
  ·intro hm;obtain⟨f,hf,rfl⟩:=List.mem_map.1 hm;obtain⟨b,hb,_⟩:=hd.there f hf;rw[hb]
   simp
  ·intro hH
   by_cases hm:nm∈fs.map Fil.name
   ·exact hm
   ·exact absurd (hd.none_ nm hm) hH
 have hrise: (l.map Prod.fst).Pairwise (·< ·):=List.pairwise_map.2 hl.rise
 have hnow:∀nm,nm∈l.map Prod.fst↔nowF C H nm≠none:=λnm=>by
  have:=hl.none_ nm
  constructor
  ·intro hm hne;obtain⟨x,hx,e⟩:=List.mem_map.1 hm;exact(this.1 hne) x hx e
  ·intro hne
   cases hq:nowF C H nm with
   |none=>exact absurd hq hne
   |some b=>exact List.mem_map.2 ⟨(nm,b),(hl.mem nm b).2 hq,rfl⟩
 have e1:ss.filter (isW C)=(l.filter (λx=>decide (x.1∈ch))).map Prod.fst:=by
  refine rising_same (hK.rise.sublist List.filter_sublist) (hrise.sublist (List.filter_sublist.map _)) (λnm=>?_);rw[List.mem_filter,List.mem_map]
  constructor
  ·rintro⟨_,hw⟩;obtain⟨b,hb⟩:=isW_iff.1 hw;refine⟨(nm,b),List.mem_filter.2 ⟨(hl.mem nm b).2 (by unfold nowF;rw[hb]),by simpa using hc.all_ nm b hb⟩,rfl⟩
  ·rintro⟨x,hxm,rfl⟩;obtain⟨h1,h2⟩:=List.mem_filter.1 hxm;have h3:=(hrow x h1).1 (by simpa using h2);exact⟨(hK.mem _).2 (by rw[h3];simp),isW_iff.2 ⟨x.2,h3⟩⟩
 have e2: (keepF C fs).map Fil.name=(l.filter (λx=> !decide (x.1∈ch))).map Prod.fst:=by
  have hr: (fs.map Fil.name).Pairwise (·< ·):=List.pairwise_map.2 hok.ok.rise;refine rising_same (hr.sublist (List.filter_sublist.map _)) (hrise.sublist (List.filter_sublist.map _)) (λnm=>?_);unfold keepF;rw[List.mem_map,List.mem_map]
  constructor
  ·rintro⟨f,hfm,rfl⟩;obtain⟨h1,h2⟩:=List.mem_filter.1 hfm;have hC:C f.name=none:=by simpa using h2
   have hH:=(hfs f.name).1 (List.mem_map.2 ⟨f,h1,rfl⟩);have hN:nowF C H f.name≠none:=by unfold nowF;rw[hC];exact hH
   obtain⟨x,hxm,e⟩:=List.mem_map.1 ((hnow f.name).2 hN);refine⟨x,List.mem_filter.2 ⟨hxm,?_⟩,e⟩;have:x.1∉ch:=λhm=>hc.some_ _ hm (by rw[e];exact hC)
   simpa using this
  ·rintro⟨x,hxm,rfl⟩;obtain⟨h1,h2⟩:=List.mem_filter.1 hxm;have hC:=(hrow x h1).2 (by simpa using h2);have hN:=(hnow x.1).1 (List.mem_map.2 ⟨x,h1,rfl⟩);have hH:H x.1≠none:=by unfold nowF at hN;rw[hC]at hN;exact hN
   obtain⟨f,hf,e⟩:=List.mem_map.1 ((hfs x.1).2 hH);exact⟨f,List.mem_filter.2 ⟨hf,by rw[e,hC];rfl⟩,e⟩
 have hside:=plan_side C ch n fs hok.ok.rise l (startF C n next fs) ⟨freeB n fs,next,[]⟩ (tkn fs) [] (keepF C fs) (freeK_mapK hok h32) rfl rfl rfl rfl hl.rise (λf hf=>by cases hf) e2 (λf hf=>(List.mem_filter.1 hf).1) hnx (λx hx=>(hrow x hx).1);rw[<-e1,<-planF_skip]at hside
 have hinv:∀s,rplan fs ch l ⟨freeB n fs,next,[]⟩=some s->RInv n fs next [] s:=λs hs=>RInv.run hok hn (rinv_start n next fs l) hl.rise (λx hxm=>⟨hx x hxm,by
  by_cases hm:x.1∈ch
  ·exact .inl hm
  ·refine .inr ?_;have hC:=(hrow x hxm).2 hm;have hN:=(hnow x.1).1 (List.mem_map.2 ⟨x,hxm,rfl⟩);have hH:H x.1≠none:=by unfold nowF at hN;rw[hC]at hN;exact hN
   obtain⟨f,hf,e⟩:=List.mem_map.1 ((hfs x.1).2 hH);exact⟨f,hf,e⟩⟩) hs
 refine⟨?_,hinv⟩;unfold planM;rw[if_neg (by omega)];cases hs:rplan fs ch l ⟨freeB n fs,next,[]⟩with
 |none=>
  rw[hs]at hside;cases hp:planF C ss (startF C n next fs)with
  |none=>rfl
  |some p=>rw[hp]at hside;cases hside
 |some s=>
  rw[hs]at hside;cases hp:planF C ss (startF C n next fs)with
  |none=>rw[hp]at hside;cases hside
  |some p=>
   rw[hp]at hside;injection hside with hside;injection hside with q1 q2;dsimp only;rw[q1,q2];have hall:=allB_of (hinv s hs).mok;unfold Mani.mayB;rw[hall,Bool.true_and]
   by_cases hb: (bodyL (ver+1) s.next s.out).length<=2035
   ·rw[if_pos hb,if_pos (by simpa using hb)]
   ·rw[if_neg hb,if_neg (by simpa using hb)]
end RefF
namespace RefF
open Go.RowKit Go.Deep Mem Crc Varint
attribute [local go_sem] Oper.semAt_some
theorem num03_any:∀(n:Nat),n<18446744073709551616->∀w:World,
  Calls Tryz.prog 159 #[.int .u64 (n:Int)] w λe w'=>∃v,e=.returned v/\OwnB w' w.heap.size v (vput n)/\Below w.heap.size w w':=by
 intro n
 induction n using Nat.strongRecOn with
 |ind n ih=>
  intro hn w
  by_cases hl:n<128
  ·have hld:decide ((n:Int) <128)=true:=jd (by omega);have w1:IntKind.u8.wrap (n:Int)=(n:Int):=by rw[IntKind.wrap_u8];omega
   have hv: (vput n).map bv= [.int .u8 (n:Int)]:=by
    rw[vput_low hl];show [bv (UInt8.ofNat n)]=_;unfold bv;rw[show(UInt8.ofNat n).toNat=n by simp;omega]
   have ho:OwnB (w.alloc (.cells #[.int .u8 (n:Int)] 5)) w.heap.size (.slice (some ⟨w.heap.size,0,none⟩) 1 1) (vput n):=by
    unfold Crc.OwnB;rw[hv,vput_low hl];exact World.ownsRow_lit w #[.int .u8 (n:Int)] 1 jn (by decide) rfl
   have HO:=jq ho;clear ho hv ih
   go_enter Tryz.func159,Tryz.ntmps159
   go_wp2_with fail
   go_ret
   exact⟨_,rfl,HO.out,(Below.refl _ w).alloc jn _⟩
  ·have hld:decide ((n:Int) <128)=false:=jf (by omega);obtain⟨r,hr⟩:=jl (n%128);obtain⟨d,hd⟩:=jl (n/128);have hrl:r<128:=by rw[hr];exact Nat.mod_lt _ (by decide)
   have w1:IntKind.u8.wrap (r:Int)=(r:Int):=by rw[IntKind.wrap_u8];omega
   have w2:IntKind.u8.wrap ((r:Int)+128)=(r:Int)+128:=by rw[IntKind.wrap_u8];omega
   have w3: (n:Int).tmod 128=(r:Int):=by rw[hr,Int.tmod_eq_emod_of_nonneg (by omega)];omega
   have w4: (n:Int).tdiv 128=(d:Int):=by rw[hd,Int.tdiv_eq_ediv_of_nonneg (by omega)];omega
   have w5:IntKind.u64.wrap (d:Int)=(d:Int):=by rw[IntKind.wrap_u64];omega
   have hv1: ([UInt8.ofNat (r+128)]:List UInt8).map bv= [.int .u8 ((r:Int)+128)]:=by
    show [bv (UInt8.ofNat (r+128))]=_;unfold bv;rw[show(UInt8.ofNat (r+128)).toNat=r+128 by simp;omega]
    rfl
   have ho:OwnB (w.alloc (.cells #[.int .u8 ((r:Int)+128)] 5)) w.heap.size (.slice (some ⟨w.heap.size,0,none⟩) 1 1) [UInt8.ofNat (r+128)]:=by
    unfold Crc.OwnB;rw[hv1];exact World.ownsRow_lit w #[.int .u8 ((r:Int)+128)] 1 jn (by decide) rfl
   have hput:vput n= [UInt8.ofNat (r+128)]++vput d:=by rw[vput_high (by omega),hr,hd];rfl
   have hlen: (vput d).length<=10:=vput_length 9 d (by omega);have hal:=(Below.refl w.heap.size w).alloc jn (Obj.cells #[.int .u8 ((r:Int)+128)] 5);have HN:=jq (ih d (by omega) (by omega) (w.alloc (.cells #[.int .u8 ((r:Int)+128)] 5)));have HO:=jq ho;have HP:=jq hput;have HAL:=jq hal;clear ih ho hput hal hr hd hv1
   go_enter Tryz.func159,Tryz.ntmps159
   go_wp2_with fail
   refine HN.out.mono ?_;rintro e w2 ⟨v,rfl,hO2,hB2⟩;obtain⟨a2,c2,rfl,_,hL2,_,_⟩:=own_shape hO2;have hB02:=HAL.out.trans (hB2.mono HAL.out.size);obtain⟨v3,w3,hr3,hO3,hg3⟩:=run_append_bytes w2 22 _ _ (own_later HO.out hB2) a2 c2 (vput d) hL2 (by rw[List.length_singleton];omega) hB02.size;have hB03:=hB02.grown hg3 hB02.size (λq hq=>((own_later HO.out hB2).lt q hq).1);rw[<-HP.out]at hO3;obtain⟨ln,hln⟩:=jl ((vput d).length);rw[<-hln]at hr3⊢;have HO3:=jq hO3;have HB3:=jq hB03;clear hO2 hB2 hL2 hB02 hO3 hg3 hB03 hln
   go_wp2_with (first|(at_builtin;refine Lib.wpList_append_run _ rfl _ _ _ _ rfl _ _ rfl rfl _ _ hr3 ?_))
   go_ret
   exact⟨_,rfl,HO3.out,HB3.out⟩
end RefF
namespace RefF
open Go.RowKit Go.Deep Mem Crc
theorem many08_any (n:Nat) (hn:n<=1000000000) (w:World):
  Calls Tryz.prog 102 #[.int .i64 (n:Int)] w λe w'=>e=.returned (.int .i64 (Mani.many n:Int))/\w'=w:=by
 obtain⟨rv,hrv⟩:=jl (Mani.many n);rw[<-hrv]
 have w1: (n:Int).tdiv 112=((n/112:Nat):Int):=by
  rw[Int.tdiv_eq_ediv_of_nonneg (by omega)]
  omega
 have w2: (n:Int).tmod 112=((n%112:Nat):Int):=by
  rw[Int.tmod_eq_emod_of_nonneg (by omega)]
  omega
 obtain⟨d,hd⟩:=jl (n/112);obtain⟨m,hm⟩:=jl (n%112);rw[<-hd]at w1;rw[<-hm]at w2;have hdl:d<=1000000000:=by omega
 by_cases h0:n=0
 ·subst h0;have hr0:rv=0:=by rw[hrv];rfl
  subst hr0;clear hrv hd hm
  go_enter Tryz.func102,Tryz.ntmps102
  go_wp2_with fail
  go_ret
  exact⟨rfl,rfl⟩
 ·have hp:decide (0<n)=true:=jd (by omega)
  have hrd:rv=if 0<m then d+1 else d:=by
   rw[hrv,hm,hd];unfold Mani.many
   split <;> split <;> omega
  have HRD:=jq hrd;clear hrv hd hm hrd
  by_cases hm0:0<m
  ·have hmd:decide (0<m)=true:=jd hm0
   go_enter Tryz.func102,Tryz.ntmps102
   go_wp2_with fail
   go_ret
   exact⟨by rw[HRD.out,if_pos hm0];simp,rfl⟩
  ·have hmd:decide (0<m)=false:=jf hm0
   go_enter Tryz.func102,Tryz.ntmps102
   go_wp2_with fail
   go_ret
   exact⟨by rw[HRD.out,if_neg hm0];rfl,rfl⟩
end RefF
namespace RefF
open Go.RowKit Go.Deep Mem Crc
open Mani (iv)
theorem among09_any (a:Option Addr) (cp:Nat) (l:List Nat) (m:Nat) (w:World) (h:Lies w a (l.map iv)) (hn:l.length<=1000000):
  Calls Tryz.prog 161 #[.int .i64 (m:Int),.slice a l.length cp] w λe w'=>e=.returned (.bool (decide (m∈l)))/\w'=w:=by
 obtain⟨rv,hrv⟩:=jl (decide (m∈l));rw[<-hrv];have HRV:=jq hrv;clear hrv;obtain⟨n,hnn⟩:=jl l.length;rw[<-hnn]at hn⊢;have H:=jq h;have HN:=jq hnn;clear h hnn
 go_enter Tryz.func161,Tryz.ntmps161
 go_wp2_with fail
 go_loopw[8] (λi wr=>∃k:Nat,k<=n/\i=.int .i64 (k:Int)/\wr=w/\Hid (∀j,j<k->∀x,l[j]? =some x->x≠m)) (λi _=>n-(intOf i).toNat)
 case atStart=>exact⟨0,Nat.zero_le _,rfl,rfl,jq (λj hj=>absurd hj (Nat.not_lt_zero _))⟩
 case round=>
  obtain⟨k,hk,rfl,rfl,hp⟩:=hrel
  by_cases hkn:k<n
  ·have hkd:decide ((k:Int) <(n:Int))=true:=jd (by omega);obtain⟨x,hx⟩:∃x,l[k]? =some x:=⟨l[k]'(by rw[<-HN.out];exact hkn),jg _⟩;obtain⟨g,o,rfl,_,hcs⟩:=H.out.resolve_left (λe=>by rw[List.map_eq_nil_iff.1 e]at hx;simp at hx);have c0:wr.cell? ⟨g,o+k,none⟩=some (.int .i64 (x:Int)):=hcs k _ (by rw[List.getElem?_map,hx];rfl);have HX:=jq hx;clear hx hcs
   by_cases he:x=m
   ·subst he
    go_wp2_with fail
    go_ret
    refine⟨?_,rfl⟩;rw[HRV.out,jd (jM HX.out)]
    rfl
   ·have hq: ((x:Int)==(m:Int))=false:=by rw[beq_eq_false_iff_ne];omega
    have HE:=jq he;clear he
    go_wp2_with fail
    exact⟨⟨k+1,hkn,by simp,by first|rfl|trivial,jq (λj hj y hy=>by
     rcases Nat.lt_or_eq_of_le (Nat.le_of_lt_succ hj)with h1|h1
     ·exact hp.out j h1 y hy
     ·subst h1;rw[HX.out]at hy;cases hy;exact HE.out)⟩,by simp[intOf];omega⟩
  ·obtain rfl:n=k:=by omega
   have hkd:decide ((n:Int) <(n:Int))=false:=jf (by omega)
   have hf:decide (m∈l)=false:=jf (λhm=>by
    obtain⟨j,hj⟩:=List.mem_iff_getElem?.1 hm;exact hp.out j (by rw[HN.out];exact(jS.1 hj).1) m hj rfl)
   have HF:=jq hf;clear hf
   go_wp2_with fail
   go_ret
   refine⟨?_,rfl⟩;rw[HRV.out,HF.out]
   rfl
end RefF
namespace RefF
open Go.RowKit Go.Deep Mem Crc
open Store (nv)
def pagesP (l:List FF):Nat:=(l.map (λx=>(x.2.length+111)/112)).sum
theorem pagesP_succ {l:List FF} {k:Nat} {x:FF} (h:l[k]? =some x):pagesP (l.take (k+1))=pagesP (l.take k)+(x.2.length+111)/112:=by
 unfold pagesP;rw[List.take_add_one,h,List.map_append,List.sum_append]
 simp
theorem str_size {x:List UInt8} {sx:ByteArray} (hx:nv x=.string sx):sx.size=x.length:=by
 unfold Store.nv at hx;injection hx with hx;subst hx
 simp[ByteArray.size]
theorem pagesP_le {l:List FF} (hb:∀x∈l,x.2.length<=1000000):∀k,pagesP (l.take k)<=k*10000:=by
 intro k
 induction k with
 |zero=>exact Nat.zero_le _
 |succ k ih=>
  cases hx:l[k]? with
  |none=>
   rw[jW (by have:=List.getElem?_eq_none_iff.1 hx;omega)];rw[jW (by have:=List.getElem?_eq_none_iff.1 hx;omega)]at ih;exact Nat.le_trans ih (Nat.mul_le_mul_right _ (Nat.le_succ k))
  |some x=>
   have h1:=hb x (jM hx);have h2: (x.2.length+111)/112<=10000:=by omega
   rw[pagesP_succ hx,Nat.succ_mul];exact Nat.add_le_add ih h2
attribute [local go_sem] Oper.semAt_some
theorem pages_any (a:Option Addr) (cp:Nat) (l:List FF) (w:World) (h:Lies w a (flatP l)) (hn:l.length<=100000) (hb:∀x∈l,x.2.length<=1000000):
  Calls Tryz.prog 128 #[.slice a l.length cp] w λe w'=>e=.returned (.int .i64 (pagesP l:Int))/\w'=w:=by
 obtain⟨rv,hrv⟩:=jl (pagesP l);rw[<-hrv];have HRV:=jq hrv;clear hrv;obtain⟨n,hnn⟩:=jl l.length;rw[<-hnn]at hn⊢;have H:=jq h;have HN:=jq hnn;have HL:=jq hb;clear h hnn hb
 go_enter Tryz.func128,Tryz.ntmps128
 go_wp2_with fail
 go_loopw[3,7] (λs i wr=>∃(k t:Nat),k<=n/\i=.int .i64 (k:Int)/\s=.int .i64 (t:Int)/\t<=k*10000/\wr=w/\Hid (t=pagesP (l.take k))) (λ_ i _=>n-(intOf i).toNat)
 case atStart=>exact⟨0,0,Nat.zero_le _,rfl,rfl,Nat.zero_le _,rfl,jq rfl⟩
 case round=>
  obtain⟨k,t,hk,rfl,rfl,ht,rfl,hp⟩:=hrel
  by_cases hkn:k<n
  ·have hkd:decide ((k:Int) <(n:Int))=true:=jd (by omega);obtain⟨x,hx⟩:∃x,l[k]? =some x:=⟨l[k]'(by rw[<-HN.out];exact hkn),jg _⟩;obtain⟨g,o,rfl,c0,c1⟩:=cells_at H.out hx;obtain⟨sy,hsy⟩:∃b:ByteArray,nv x.2=.string b:=⟨_,rfl⟩;rw[hsy]at c1;have hxl:=HL.out x (jM hx);obtain⟨xl,hxe⟩:=jl x.2.length;have hsz:sy.size=xl:=by rw[hxe];exact str_size hsy
   have h2:t+(xl+111)/112=pagesP (l.take (k+1)):=by rw[pagesP_succ hx,<-hp.out,hxe]
   have hle:=pagesP_le HL.out (k+1);rw[<-h2]at hle;rw[<-hxe]at hxl;have H2:=jq h2;have w1:IntKind.i64.wrap ((xl:Int)+111)=(xl:Int)+111:=by rw[IntKind.wrap_i64];omega
   have w2: ((xl:Int)+111).tdiv 112=(((xl+111)/112:Nat):Int):=by
    rw[Int.tdiv_eq_ediv_of_nonneg (by omega)]
    omega
   obtain⟨pg,hpg⟩:=jl ((xl+111)/112);rw[<-hpg]at w2 hle;have HPG:=jq hpg;clear hx hsy hxe h2 hpg hp
   go_wp2_with fail
   exact⟨⟨k+1,t+pg,hkn,by simp,by simp,hle,by first|rfl|trivial,jq (by rw[HPG.out];exact H2.out)⟩,by simp[intOf];omega⟩
  ·obtain rfl:n=k:=by omega
   have hkd:decide ((n:Int) <(n:Int))=false:=jf (by omega);have hf:t=rv:=by rw[hp.out,HRV.out,jW (by rw[HN.out];exact Nat.le_refl _)]
   subst hf
   go_wp2_with fail
   go_ret
   exact⟨rfl,rfl⟩
end RefF
namespace RefF
open Go.RowKit Go.Deep Mem Crc
open Store (nv)
theorem eqIn_F (w:World) (x1 x2 y1 y2:ByteArray): (Op.equalIn 10000 69 (.agg #[.string x1,.string x2]) (.agg #[.string y1,.string y2])).run Tryz.prog w=.ok (x1.toList==y1.toList&&x2.toList==y2.toList) w:=by
 have hf : (Tryz.prog.fieldsOf 69).toList.map (λf => (f.name, f.type, f.offset)) = [("Name", 9, 0), ("B", 9, 1)] := by kernel_rfl
 rw[show(10000:Nat)=9999+1 from rfl,run_equalIn_struct w 9999 69 _ _ (by kernel_rfl) (by kernel_rfl)]
 revert hf
 generalize (Tryz.prog.fieldsOf 69).toList=L;intro hf;rcases L with _|⟨f,_|⟨g,_|⟨k,r⟩⟩⟩
 ·simp at hf
 ·simp at hf
 ·simp only[List.map_cons,List.map_nil,List.cons.injEq,Prod.mk.injEq,and_true]at hf;obtain⟨⟨a1,a2,a3⟩,b1,b2,b3⟩:=hf;have e1:=run_equalIn_string (P:=Tryz.prog) w 9998 9 x1 y1 Tryz.underlying9;have e2:=run_equalIn_string (P:=Tryz.prog) w 9998 9 x2 y2 Tryz.underlying9
  simp[Op.eqFields,a1,a2,a3,b1,b2,b3,go_sem]
  by_cases h1:x1.toList=y1.toList <;> by_cases h2:x2.toList=y2.toList <;> simp[h1,h2]
 ·simp at hf
theorem neq_F (w:World) (x1 x2 y1 y2:ByteArray): (binOp .neq 69 (.agg #[.string x1,.string x2]) (.agg #[.string y1,.string y2])).run Tryz.prog w=.ok (.bool (!(x1.toList==y1.toList&&x2.toList==y2.toList))) w:=by
 rw[run_neq_struct,eqIn_F]
 rfl
theorem drewN_below {B:Nat} {w w':World} (h:Below B w w') (n:Nat):Below B w (w'.drewN n):=⟨h.os,h.tape,h.output,h.size,h.block⟩
theorem guard_F (w:World) (x y:Operand) (xs ys:Array Value): (eqGuard .neq 69 x y (.agg xs) (.agg ys)).run Tryz.prog w=.ok () w:=run_eqGuard_agg w .neq 69 x y xs ys (by kernel_rfl)
attribute [local go_sem] eqIn_F neq_F guard_F
attribute [local go_sem] Oper.semAt_some
end RefF
end Go.Proofs.YtbfochdoeibofaaGreatDoor
