/- Part. -/
import Derived.Test.YtcdcnhecimajkaaGreatDoorF0
import Derived.Test.YtcdcnhecimajkaaGreatDoorF0Q
import Derived.Test.YtcdcnhecimajkaaGreatDoorF5
import Derived.Test.YtcdcnhecimajkaaGreatDoorF40
import Derived.Test.YtcdcnhecimajkaaGreatDoorF41
import Derived.Deep.DeepCutAuto
import Derived.Deep.RegionHeld3
set_option maxHeartbeats 2000000
set_option maxRecDepth 100000
namespace Go.Proofs.YtcdcnhecimajkaaGreatDoor
namespace RefD
open Go.RowKit Go.Deep Mem Crc Full Mani Go.Proofs.YtcdcnhecimajkaaGreatDoor.Frame
theorem ownK (V0:World) {base:Nat} (k:UInt8) (kd:Nat) (hk:kd=k.toNat) (hb:base<=V0.heap.size):OwnB (V0.alloc (.cells #[.int .u8 (kd:Int)] 5)) base (.slice (some ⟨V0.heap.size,0,none⟩) 1 1) [k]:=by
 have h:=World.ownsRow_lit (e:=5) (size:=1) (base:=base) V0 #[bv k] 1 hb (by decide) (by simp);rw[hk];exact h
theorem appK (w4:World) {base p:Nat} {k:UInt8} (ty:TypeId) (hp:OwnB w4 base (.slice (some ⟨p,0,none⟩) 1 1) [k]) {a:Option Addr} {c:Nat} {l:List UInt8} (hL:Lies w4 a (l.map bv)) (hl:l.length<=1000000) (hb:base<=w4.heap.size):
  ∃v5 w5,(Builtin.append_ #[24,24] ty #[.slice (some ⟨p,0,none⟩) 1 1,.slice a l.length c]).run Tryz.prog w4=.ok v5 w5/\OwnB w5 base v5 (k ::l)/\Below base w4 w5:=by
 obtain⟨v5,w5,hr,hO,hg⟩:=run_append_bytes w4 ty _ _ hp a c l hL (by simp;omega) hb;exact⟨v5,w5,hr,hO,(Below.refl _ w4).grown hg hb (λq hq=>(hp.lt q hq).1)⟩
attribute [local go_sem] Oper.semAt_some
theorem put5_any (k:UInt8) (a:Option Addr) (cp:Nat) (b:List UInt8) (w:World) (h:Lies w a (b.map bv)) (hb:b.length<=1000000):
  Calls Tryz.prog 77 #[.agg #[bv k,.slice a b.length cp]] w λe w'=>∃v,e=.returned v/\OwnB w' w.heap.size v (frameL k b)/\Below w.heap.size w w':=by
 obtain⟨n,hn⟩:=jl b.length;obtain⟨kd,hkd⟩:=jl k.toNat;have hbk:bv k=.int .u8 (kd:Int):=by rw[hkd];rfl
 rw[<-hn,hbk];obtain⟨W1,hW1⟩:=jl (w.alloc (.cells #[.int .u8 (kd:Int),.slice a n cp] 135));obtain⟨sb,hsb⟩:=jl w.heap.size;have hB1:Below w.heap.size w W1:=by rw[hW1];exact(Below.refl _ w).alloc jn _
 have hbx:Blk W1 sb 135 #[.int .u8 (kd:Int),.slice a n cp]:=by rw[hW1,hsb];exact Blk.new w _ _
 have x0:=hbx.cell 0;have x1:=hbx.cell 1
 simp at x0 x1
 have hba:Below W1.heap.size W1 (W1.alloc (.cells #[.int .u8 (kd:Int)] 5)):=(Below.refl _ _).alloc jn _;have x0a:=(hbx.below hba hbx.lt).cell 0;have x1a:=(hbx.below hba hbx.lt).cell 1
 simp at x0a x1a
 have hw1:IntKind.u32.wrap (n:Int)=(n:Int):=by rw[IntKind.wrap_u32];omega
 have HF:Hid (∀V:World,Calls Tryz.prog 116 #[.int .u32 (n:Int)] V λe w'=>∃v,e=.returned v/\OwnB w' V.heap.size v (four n)/\Below V.heap.size V w'):=jq (λV=>four02_any n (by omega) V);have HL:=jq (h.later hB1);have HN:=jq hn;have HKD:=jq hkd;have HB1:=jq hB1;have HBX:=jq hbx;have h4: (four n).length=4:=rfl;clear h hn hkd hB1 hbx hbk hba
 go_enter Tryz.func77,Tryz.ntmps77
 go_wp2_with fail
 rw[<-hW1,<-hsb];clear hW1 hsb
 go_cut[3] (λx3 wx=>∃(v5a:Option Addr) (v5c:Nat),x3=.slice v5a 5 v5c/\Hid (OwnB wx W1.heap.size (.slice v5a 5 v5c) (k ::four n))/\Hid (Below W1.heap.size W1 wx))
 case first=>
  go_region_law ((first|(go_simp;go_at_call 116;refine(HF.out _).mono ?_;rintro e w4 ⟨v4,rfl,hO4,hB4⟩;obtain⟨v4a,v4c,rfl,_,hL4,-⟩:=own_shape hO4;have hp:=own_later (ownK W1 k kd HKD.out jn) ((Below.refl (W1.alloc (.cells #[.int .u8 (kd:Int)] 5)).heap.size (W1.alloc (.cells #[.int .u8 (kd:Int)] 5))).drew.trans hB4);have hBw4:=(((Below.refl W1.heap.size W1).alloc jn (.cells #[.int .u8 (kd:Int)] 5)).drew).trans (hB4.mono (by simp));obtain⟨v5,w5,hr5,hO5,hB5⟩:=appK w4 24 hp (c:=v4c) hL4 (by rw[h4];decide) hBw4.size;obtain⟨v5a,v5c,rfl,-⟩:=own_shape hO5;have HO5:=jq hO5;have HB5:=jq (hBw4.trans hB5);clear hO4 hB4 hL4 hp hBw4 hO5 hB5;rw[h4]at hr5⊢;dsimp only)|(go_simp;go_at_call 116;refine(HF.out _).mono ?_;rintro e w4 ⟨v4,rfl,hO4,hB4⟩;obtain⟨v4a,v4c,rfl,_,hL4,-⟩:=own_shape hO4;have hbw:=((Below.refl W1.heap.size W1).drew).trans hB4;have hbx4:=HBX.out.below hbw HBX.out.lt;have y0:=hbx4.cell 0;have y1:=hbx4.cell 1;simp at y0 y1;have hp:=ownK w4 k kd HKD.out hbw.size;have hB4a:Below w4.heap.size w4 (w4.alloc (.cells #[.int .u8 (kd:Int)] 5)):=(Below.refl _ _).alloc jn _;have hBw4:=hbw.trans (hB4a.mono hbw.size);obtain⟨v5,w5,hr5,hO5,hB5⟩:=appK _ 24 hp (c:=v4c) (hL4.later hB4a) (by rw[h4];decide) hBw4.size;obtain⟨v5a,v5c,rfl,-⟩:=own_shape hO5;have HO5:=jq hO5;have HB5:=jq (hBw4.trans hB5);clear hO4 hB4 hL4 hp hBw4 hO5 hB5 hbx4 hbw hB4a;rw[h4]at hr5⊢;dsimp only)|(refine step_append_run rfl (.tmp 6) (.tmp 11) 24 24 rfl _ _ rfl rfl hr5 ?_)))
  all_goals go_wp2_with fail
  all_goals go_meet
  all_goals exact⟨_,_,rfl,HO5,HB5⟩
 case rest=>
  obtain⟨v5a,v5c,rfl,HO5,HB5⟩:=hcut;have hbx5:=HBX.out.below HB5.out HBX.out.lt;have t1:=hbx5.cell 1
  simp at t1
  have hm9: (marked (head k n)).length=9:=by rw[mark_length];rfl
  have HMB:Hid ((marked b).length=n+4):=jq (by rw[mark_length,HN.out])
  have HM1F:Hid (∀V:World,Below wc.heap.size wc V->Calls Tryz.prog 117 #[.slice v5a 5 v5c] V λe w'=>∃v,e=.returned v/\OwnB w' V.heap.size v (marked (head k n))/\Below V.heap.size V w'):=jq (λV hV=>by
   obtain⟨a',c',e',_,hL',_,_⟩:=own_shape HO5.out;cases e';exact mark02_any v5a v5c (head k n) V (hL'.later hV) (by show 5<=_;decide))
  have HM2F:Hid (∀V:World,Below W1.heap.size W1 V->Calls Tryz.prog 117 #[.slice a n cp] V λe w'=>∃v,e=.returned v/\OwnB w' V.heap.size v (marked b)/\Below V.heap.size V w'):=jq (λV hV=>by
   have:=mark02_any a cp b V (HL.out.later hV) (by omega);rw[<-HN.out]at this;exact this)
  have HBX5:=jq hbx5;clear hbx5 x0 x1 x0a x1a HF hw1
  go_wp2_with fail
  go_region_law ((first|(go_simp;go_at_call 117;refine(HM2F.out _ (HB5.out.trans (HB6.out.mono HB5.out.size))).mono ?_;rintro e w7 ⟨v7,rfl,hO7,hB7⟩;obtain⟨v7a,v7c,rfl,_,hL7,-⟩:=own_shape hO7;have hO67:=own_later HO6.out hB7;have hB57:=HB6.out.trans (hB7.mono HB6.out.size);obtain⟨v8,w8,hr8,hO8,hg8⟩:=run_append_bytes w7 24 _ _ hO67 v7a v7c (marked b) hL7 (by rw[hm9,HMB.out];have:=HN.out;omega) hB57.size;have hB8:=hB57.grown hg8 hB57.size (λq hq=>(hO67.lt q hq).1);obtain⟨v8a,v8c,rfl,-⟩:=own_shape hO8;have HO8:=jq hO8;have HB8:=jq hB8;rw[hm9,HMB.out]at hr8;rw[HMB.out];clear hO7 hB7 hL7 hO67 hB57 hO8 hg8 hB8;dsimp only)|(go_simp;go_at_call 117;refine(HM1F.out _ (Below.refl wc.heap.size wc).drew).mono ?_;rintro e w6 ⟨v6,rfl,hO6,hB6⟩;have hB6':=(Below.refl wc.heap.size wc).drew.trans hB6;obtain⟨v6a,v6c,rfl,-⟩:=own_shape hO6;have hbx6:=HBX5.out.below hB6' HBX5.out.lt;have k1:=hbx6.cell 1;simp at k1;have HO6:=jq hO6;have HB6:=jq hB6';rw[hm9];clear hO6 hB6 hB6' hbx6;dsimp only)|(refine step_append_run rfl (.tmp 14) (.tmp 17) 24 24 rfl _ _ rfl rfl hr8 ?_)))
  all_goals
   go_wp2_with fail
   go_ret
   have hB:=HB5.out.trans (HB8.out.mono HB5.out.size);refine⟨.slice v8a (marked (head k n)++marked b).length v8c,by rw[jL,hm9];rfl,?_,HB1.out.trans (hB.mono HB1.out.size)⟩;have:=own_mono HO8.out (Nat.le_trans HB1.out.size HB5.out.size);unfold frameL;rw[<-HN.out];exact this
end RefD
namespace Runs
open Go.RowKit Go.Deep Go.Shelf Mem Crc Merge Mani RefF
open Store (nv)
open Go.Proofs.YtcdcnhecimajkaaGreatDoor.Text (dec strV refPut_any)
attribute [local go_sem] Oper.semAt_some
theorem refName_any (pf:List UInt8) (hpf:pf.length<=16) (wd rm ne:Int) (ha:Option Addr) (hn hc:Nat) (k:Nat) (hk:k<=1000000) (w:World):
  Calls Tryz.prog 21 #[.agg #[nv pf,.int .i64 wd,.int .i64 rm,.slice ha hn hc,.int .i64 ne],.int .i64 (k:Int)] w λe w'=>e=.returned (nv (rname pf k))/\Below w.heap.size w w':=by
 have hw:IntKind.u64.wrap (k:Int)=k:=IntWalk.u64_in _ (by omega);obtain⟨sp,hsp⟩:∃sp:ByteArray,nv pf=.string sp:=⟨_,rfl⟩;obtain⟨sd,hsd⟩:∃sd:ByteArray,strV (dec k)=.string sd:=⟨_,rfl⟩
 have HN:=jq (show nv (rname pf k)=.string (sp++sd)from by
  unfold nv at hsp;unfold Text.strV at hsd;injection hsp with hsp;injection hsd with hsd;rw[<-hsp,<-hsd,app_name]
  rfl)
 have hl1:sp.size<=16:=by
  unfold nv at hsp;injection hsp with hsp;rw[<-hsp]
  simpa[ByteArray.size]using hpf
 have hl2:sd.size<=20:=by
  unfold Text.strV at hsd;injection hsd with hsd;rw[<-hsd];have:=dec_len k
  simpa[ByteArray.size]using this
 have hp:=λV=>refPut_any 20 k V (by omega) jn (by omega)
 rw[hsd]at hp;have HP:=jq hp;rw[hsp];obtain⟨W1,hW1⟩:=jl (w.alloc (.cells #[.string sp,.int .i64 wd,.int .i64 rm,.slice ha hn hc,.int .i64 ne] 38));obtain⟨xb,hxb⟩:=jl w.heap.size;have hB1:Below w.heap.size w W1:=by rw[hW1];exact(Below.refl _ w).alloc jn _
 have hbx:Blk W1 xb 38 #[.string sp,.int .i64 wd,.int .i64 rm,.slice ha hn hc,.int .i64 ne]:=by rw[hW1,hxb];exact Blk.new w _ _
 have x0:=hbx.cell 0
 simp at x0
 have HBX:=jq hbx;have HB1:=jq hB1;clear hsp hsd hp hbx hB1
 go_enter Tryz.func21,Tryz.ntmps21
 go_wp2_with fail
 rw[<-hW1,<-hxb];clear hW1 hxb
 go_region_with ((go_at_call 47;refine(HP.out _).mono ?_;rintro e w2 ⟨rfl,hB2⟩;have hB2:=(Below.refl W1.heap.size W1).drew.trans hB2;have y0:=(HBX.out.below hB2 HBX.out.lt).cell 0;simp at y0))
 all_goals
  go_wp2_with fail
  go_ret
  exact⟨by rw[HN.out];rfl,HB1.out.trans (hB2.mono HB1.out.size)⟩
theorem refRun_any (a:Option Addr) (c:Nat) (l:List B) (w:World) (hL:Lies w a (l.map strB)) (hm:l.flatten.length<=900000) (hn:l.length<=1000000):
  Calls Tryz.prog 50 #[.slice a l.length c] w λe w'=>e=.returned (nv (Frame.frameL 82 l.flatten))/\Below w.heap.size w w':=by
 obtain⟨n,hln⟩:=jl l.length;rw[<-hln]at hn⊢;have HL:=jq hL;have HLN:=jq hln;have HM:=jq hm;clear hL hln hm
 go_enter Tryz.func50,Tryz.ntmps50
 go_wp2_with fail
 go_loopw[3,8] (λx i wr=>∃k:Nat,k<=n/\i=.int .i64 (k:Int)/\Hid (Grow w x ((l.take k).flatten) wr)) (λ_ i _=>n-(intOf i).toNat)
 case atStart=>exact⟨0,Nat.zero_le _,rfl,jq ⟨own_empty w 5 1,(Below.refl _ w).alloc jn _⟩⟩
 case round=>
  obtain⟨k,hk,rfl,hg⟩:=hrel
  rename_i x _
  by_cases hlt:k<n
  ·have hkd:decide ((k:Int) <(n:Int))=true:=jd (by omega);obtain⟨b,hb⟩:∃b,l[k]? =some b:=⟨l[k]'(by rw[<-HLN.out];exact hlt),jg _⟩;obtain⟨sb,hsb⟩:∃sb:ByteArray,strB b=.string sb:=⟨_,rfl⟩
   have hsn:sb.size=b.length:=by
    unfold strB at hsb;injection hsb with hsb;rw[<-hsb]
    simp[ByteArray.size]
   obtain⟨lg,lo,rfl,cl⟩:=lies_at (HL.out.later hg.out.below) (k:=k) (u:=.string sb) (by simp[hb,hsb]);obtain⟨V,cap,hcv,hLV,hBV⟩:=conv_name b sb hsb wr;obtain⟨cur,hcur⟩:=jl ((l.take k).flatten);have hnext: (l.take (k+1)).flatten=cur++b:=by rw[hcur,List.take_add_one,hb,List.flatten_append];simp
   have htot: (cur++b).length<=900000:=by
    have h1:=HM.out;rw[<-List.take_append_drop (k+1) l,List.flatten_append,jL,hnext]at h1
    omega
   rw[jL]at htot;rw[<-hcur]at hg;have hO2:=own_later hg.out.own hBV;have hB2:=hg.out.below.trans (hBV.mono hg.out.below.size);rw[hsn]at hcv;obtain⟨v3,w3,hr3,hO3,hg3⟩:=run_append_bytes V 24 _ _ hO2 (some ⟨wr.heap.size,0,none⟩) cap b hLV (by omega) hB2.size;have hG3:Grow w v3 (cur++b) w3:=⟨hO3,hB2.grown hg3 hB2.size (λq hq=>(hO2.lt q hq).1)⟩;rw[<-hnext]at hG3;have HG3:=jq hG3;obtain⟨lb,hlb⟩:=jl b.length;rw[<-hlb]at hcv hr3;clear hb hsb hsn hLV hcur hnext htot hO2 hB2 hO3 hg3 hG3 hlb hg hBV
   go_wp2_with (first|(at_builtin;refine Lib.wpList_append_run _ rfl _ _ _ _ rfl _ _ rfl rfl _ _ hr3 ?_))
   go_roundw
   case rel=>exact⟨k+1,by omega,by simp,HG3⟩
   case measure=>simp[intOf];omega
  ·obtain rfl:k=n:=by omega
   have hkd:decide ((k:Int) <(k:Int))=false:=jf (by omega);have hfl: (l.take k).flatten=l.flatten:=by rw[HLN.out,List.take_length]
   rw[hfl]at hg;obtain⟨a2,c2,rfl,_,hL2,_,_⟩:=own_shape hg.out.own;obtain⟨fl,hfl2⟩:=jl l.flatten;rw[<-hfl2]at hL2 HM⊢;have HP:=jq (RefD.put5_any 82 a2 c2 fl wr hL2 (by have:=HM.out;omega));have HB:=jq hg.out.below;have hbv:bv (82:UInt8)=.int .u8 82:=rfl;rw[hbv]at HP;obtain⟨fn,hfn⟩:=jl fl.length;rw[<-hfn]at HP⊢;have HFL:=jq hfl2;clear hg hL2 hfl hfl2 hfn
   go_wp2_with fail
   with_reducible refine HP.out.mono ?_
   rintro e w4 ⟨v4,rfl,hO4,hB4⟩;obtain⟨a4,c4,rfl,_,hL4,_,_⟩:=own_shape hO4;obtain⟨fb,hfb⟩:=jl (Frame.frameL 82 fl);rw[<-hfb]at hL4⊢;have hcv:=Full.conv_any (vc:=c4) hL4;obtain⟨sf,hsf⟩:∃s:ByteArray,nv fb=.string s:=⟨_,rfl⟩;rw[hsf]at hcv;have HSF:=jq (show nv (Frame.frameL 82 l.flatten)=.string sf by rw[<-HFL.out,<-hfb];exact hsf);obtain⟨fbn,hfbn⟩:=jl fb.length;rw[<-hfbn]at hcv⊢;have HE:=jq (HB.out.trans (hB4.mono HB.out.size));clear hO4 hB4 hL4 hsf hfbn hfb
   go_wp2_with fail
   go_ret
   exact⟨by rw[HSF.out];rfl,HE.out⟩
end Runs
namespace Runs
open Go.RowKit Go.Deep Go.Shelf Mem Crc Merge RefF
open Store (nv)
def NewRow (w w':World) (t:TypeId) (sz:Nat) (a0 a:Option Addr) (n c:Nat) (xs0 xs:List Value):Prop:=(a=a0/\xs=xs0)\/w'.ownsRow w.heap.size t sz (.slice a n c) n xs
def sV (A:Fi) (mh:Option Addr) (hl mc ne:Nat):Value:=.agg #[nv A.pf,.int .i64 A.wd,.int .i64 A.rm,.slice mh hl mc,.int .i64 ne]
attribute [local go_sem] Oper.semAt_some
theorem refFlush_some (A:Fi) (hok:A.ok) (held:List B) (L:List FF) (mh an:Option Addr) (mc nc ne:Nat) (w:World) (h0:held≠[]) (hw:∀b∈held,b.length=A.wd) (hr:held.length<=A.rm) (hne:ne<=100000) (hM:Lies w mh (held.map strB)) (hN:Lies w an (flatP L)) (hL:L.length<=100000):
  Calls Tryz.prog 24 #[sV A mh held.length mc ne,.slice an L.length nc] w λe w'=>∃ma mc' an' nc',e=.returned (.tuple #[sV A ma 0 mc' (ne+1),.slice an' (putP L (rname A.pf ne) (runB held)).length nc'])/\w'.ownsRow w.heap.size 9 1 (.slice ma 0 mc') 0 []/\w'.ownsRow w.heap.size 83 2 (.slice an' (putP L (rname A.pf ne) (runB held)).length nc') (putP L (rname A.pf ne) (runB held)).length (flatP (putP L (rname A.pf ne) (runB held)))/\Below w.heap.size w w':=by
 obtain⟨k1,k2,k3,k4,k5,k6⟩:=id hok
 have hm: (sortB held).flatten.length<=900000:=by
  rw[flat_sort hw];have:=Nat.mul_le_mul (Nat.le_trans hr k6) k4
  omega
 have hpos:0<held.length:=List.length_pos_iff.2 h0;obtain⟨wd,hwd⟩:∃z:Int,z=A.wd:=⟨_,rfl⟩;obtain⟨rm,hrm⟩:∃z:Int,z=A.rm:=⟨_,rfl⟩;obtain⟨sp,hsp⟩:∃s:ByteArray,nv A.pf=.string s:=⟨_,rfl⟩;obtain⟨nm,hnm⟩:∃s:ByteArray,nv (rname A.pf ne)=.string s:=⟨_,rfl⟩;obtain⟨rb,hrb⟩:∃s:ByteArray,nv (runB held)=.string s:=⟨_,rfl⟩;obtain⟨W1,hW1⟩:=jl (w.alloc (.cells #[.string sp,.int .i64 wd,.int .i64 rm,.slice mh held.length mc,.int .i64 ne] 38));have hB1:Below w.heap.size w W1:=by rw[hW1];exact(Below.refl _ w).alloc jn _
 obtain⟨xb,hxb⟩:=jl w.heap.size;have hbx:Blk W1 xb 38 #[.string sp,.int .i64 wd,.int .i64 rm,.slice mh held.length mc,.int .i64 ne]:=by rw[hW1,hxb];exact Blk.new w _ _
 obtain⟨W2,hW2⟩:=jl (W1.alloc (.cells #[.string ⟨#[]⟩,.int .i64 0,.int .i64 0,.slice none 0 0,.int .i64 0] 38));have hB2:Below W1.heap.size W1 W2:=by rw[hW2];exact(Below.refl _ W1).alloc jn _
 obtain⟨rb2,hrb2⟩:=jl W1.heap.size;have hbr:Blk W2 rb2 38 #[.string ⟨#[]⟩,.int .i64 0,.int .i64 0,.slice none 0 0,.int .i64 0]:=by rw[hW2,hrb2];exact Blk.new W1 _ _
 have hbx2:=hbx.below hB2 hbx.lt;have hs1:W1.heap.size=w.heap.size+1:=by rw[hW1];simp
 have x0:=hbx2.cell 0;have x1:=hbx2.cell 1;have x2:=hbx2.cell 2;have x3:=hbx2.cell 3;have x4:=hbx2.cell 4
 simp at x0 x1 x2 x3 x4
 obtain⟨hn,hhn⟩:=jl held.length;obtain⟨ln,hln⟩:=jl L.length;have hB12:Below w.heap.size w W2:=hB1.trans (hB2.mono hB1.size)
 have HNM:Hid (∀V:World,Calls Tryz.prog 21 #[.agg #[.string sp,.int .i64 wd,.int .i64 rm,.slice mh hn mc,.int .i64 ne],.int .i64 ne] V λe w'=>e=.returned (.string nm)/\Below V.heap.size V w'):=jq (λV=>by
  have:=refName_any A.pf k2 wd rm ne mh hn mc ne (by omega) V;rw[hsp,hnm]at this;exact this)
 have HSO:Hid (∀V:World,Below W2.heap.size W2 V->Calls Tryz.prog 36 #[.slice mh hn mc] V λe w'=>∃a c,e=.returned (.slice a hn c)/\Lies w' a ((sortB held).map strB)/\Below V.heap.size V w'):=jq (λV hV=>by
  rw[hhn];refine(refSorted_any V mh mc held ((hM.later hB12).later hV) (by omega)).mono ?_;rintro e w' ⟨v,rfl,hO,hB⟩;obtain⟨a,c,rfl,_,hL,_,_⟩:=own_shape hO;exact⟨a,c,rfl,hL,hB⟩)
 have HRU:Hid (∀(V:World) (a:Option Addr) (c:Nat),Lies V a ((sortB held).map strB)->Calls Tryz.prog 50 #[.slice a hn c] V λe w'=>e=.returned (.string rb)/\Below V.heap.size V w'):=jq (λV a c hV=>by
  have:=refRun_any a c (sortB held) V hV hm (by rw[(sortB_perm held).length_eq];omega);rw[(sortB_perm held).length_eq,<-hhn,show Frame.frameL 82 (sortB held).flatten=runB held from rfl,hrb]at this;exact this)
 have HPU:Hid (∀V:World,Below W2.heap.size W2 V->Calls Tryz.prog 29 #[.slice an ln nc,.string nm,.string rb] V λe w'=>∃a n c,e=.returned (.slice a n c)/\n=(putP L (rname A.pf ne) (runB held)).length/\w'.ownsRow V.heap.size 83 2 (.slice a n c) n (flatP (putP L (rname A.pf ne) (runB held)))/\Below V.heap.size V w'):=jq (λV hV=>by
  have:=put_any an nc L (rname A.pf ne) (runB held) V ((hN.later hB12).later hV) hL;rw[hnm,hrb,<-hln]at this;refine this.mono ?_;rintro e w' ⟨v,rfl,hO,hB⟩;obtain⟨a,c,rfl,_,_,_,_⟩:=own_shape hO;exact⟨a,_,c,rfl,rfl,hO,hB⟩)
 have ht: ((hn:Int)==0)=false:=by simp;omega
 have hw1:RowKit.wrap64 ((ne:Int)+1)=(ne:Int)+1:=IntWalk.wrap64_in _ (by omega);have hsv:sV A mh held.length mc ne=.agg #[.string sp,.int .i64 wd,.int .i64 rm,.slice mh hn mc,.int .i64 ne]:=by unfold sV;rw[hsp,hhn,hwd,hrm]
 rw[hsv,<-hln];rw[<-hhn]at x3 hW1 hbx hbx2;have HBX:=jq hbx2;have HBR:=jq hbr;have HB:=jq hB12;have HSZ:=jq (And.intro hs1 (And.intro hxb hrb2));have HSP:=jq (And.intro hsp (And.intro hwd hrm));have hB:Below W2.heap.size W2 W2.drew:=(Below.refl _ W2).drew
 have HCE:Hid (∀V:World,Below W2.heap.size W2 V->V.cell? ⟨xb,0,none⟩=some (.string sp)/\V.cell? ⟨xb,1,none⟩=some (.int .i64 wd)/\V.cell? ⟨xb,2,none⟩=some (.int .i64 rm)/\V.cell? ⟨xb,3,none⟩=some (.slice mh hn mc)/\V.cell? ⟨xb,4,none⟩=some (.int .i64 ne)):=jq (λV hV=>by
  have h:=hbx2.below hV hbx2.lt;exact⟨by rw[h.cell];rfl,by rw[h.cell];rfl,by rw[h.cell];rfl,by rw[h.cell];rfl,by rw[h.cell];rfl⟩)
 have hrx:xb+1=rb2:=by rw[hxb,hrb2,hs1]
 clear hsp hwd hrm hnm hrb hbx hbx2 hbr hB1 hB2 hB12 hs1 hhn hln hM hN hL hm hpos h0 hw hr hsv
 go_enter Tryz.func24,Tryz.ntmps24
 go_wp2_with fail
 rw[<-hW1,<-hW2,<-hxb,hrx];clear hW1 hW2 hxb hrb2 hrx
 go_region_held3 (λw'=>w'.cell? ⟨xb,0,none⟩=some (.string sp)/\w'.cell? ⟨xb,1,none⟩=some (.int .i64 wd)/\w'.cell? ⟨xb,2,none⟩=some (.int .i64 rm)/\w'.cell? ⟨xb,3,none⟩=some (.slice mh hn mc)/\w'.cell? ⟨xb,4,none⟩=some (.int .i64 ne)) (first|exact⟨x0,x1,x2,x3,x4⟩|exact hk5|exact hk4|exact hk3|exact hk2) ((first|(go_at_call 21;refine(HNM.out _).mono ?_;rintro e w2 ⟨rfl,hB2⟩;have hB2:=hB.trans hB2;have hk2:=HCE.out _ hB2;dsimp only)|(go_at_call 36;refine(HSO.out _ hB2).mono ?_;rintro e w3 ⟨sa,sc,rfl,hL3,hB3⟩;have hB3:=hB2.trans (hB3.mono hB2.size);have hk3:=HCE.out _ hB3;dsimp only)|(go_at_call 50;refine(HRU.out _ _ _ hL3).mono ?_;rintro e w4 ⟨rfl,hB4⟩;have hB4:=hB3.trans (hB4.mono hB3.size);have hk4:=HCE.out _ hB4;dsimp only)|(go_at_call 29;refine(HPU.out _ hB4).mono ?_;rintro e w5 ⟨pa,pn,pc,rfl,hpn,hO5,hB5⟩;have HPN:=jq hpn;clear hpn;have hB45:=hB4.trans (hB5.mono hB4.size);have hk5:=HCE.out _ hB45;dsimp only)))
 have hbx5:=(HBX.out.below hB45 HBX.out.lt).alloc (.cells #[] 9);have hbr5:=(HBR.out.below hB45 HBR.out.lt).alloc (.cells #[] 9);have y0:=hbx5.cell 0;have y1:=hbx5.cell 1;have y2:=hbx5.cell 2;have y3:=hbx5.cell 3;have y4:=hbx5.cell 4
 simp at y0 y1 y2 y3 y4
 have f3:=hbx5.frozen 3;have f4:=hbx5.frozen 4;have r0:=hbr5.cell 0;have r1:=hbr5.cell 1;have r2:=hbr5.cell 2;have r3:=hbr5.cell 3;have r4:=hbr5.cell 4
 simp at r0 r1 r2 r3 r4
 have z0:=hbr5.frozen 0;have z1:=hbr5.frozen 1;have z2:=hbr5.frozen 2;have z3:=hbr5.frozen 3;have z4:=hbr5.frozen 4;have HO5:=jq hO5;have HB45:=jq hB45;have HB4:=jq hB4;have hne:rb2≠xb:=by have:=HSZ.out;omega
 clear hbx5 hbr5 hO5 hB45 hk2 hk3 hk4 hk5 hB2 hB3 hB4 hB5 hL3 x0 x1 x2 x3 x4 hB
 go_wp2_with fail
 refine bodyPost_ret (v:=.tuple #[.agg #[.string sp,.int .i64 wd,.int .i64 rm,.slice (some ⟨w5.heap.size,0,none⟩) 0 0,.int .i64 ((ne:Int)+1)],.slice pa pn pc]) (by simp[results,Tryz.f24,go_sem,r0,r1,r2,r3,r4]) rfl ?_;have hu:=((((((((Upon.refl (λg=>g=xb\/g=rb2) (w5.alloc (.cells #[] 9))).set (p:=⟨xb,3,none⟩) (.inl (.inl rfl)) (.slice (some ⟨w5.heap.size,0,none⟩) 0 0)).set (p:=⟨xb,4,none⟩) (.inl (.inl rfl)) (.int .i64 ((ne:Int)+1))).set (p:=⟨rb2,0,none⟩) (.inl (.inr rfl)) (.string sp)).set (p:=⟨rb2,1,none⟩) (.inl (.inr rfl)) (.int .i64 wd)).set (p:=⟨rb2,2,none⟩) (.inl (.inr rfl)) (.int .i64 rm)).set (p:=⟨rb2,3,none⟩) (.inl (.inr rfl)) (.slice (some ⟨w5.heap.size,0,none⟩) 0 0)).set (p:=⟨rb2,4,none⟩) (.inl (.inr rfl)) (.int .i64 ((ne:Int)+1)));have h1:=HSZ.out;have h2:=HBR.out.lt;have h3:=HB4.out.size;have h4:=HB45.out.size;have h5:=HB.out.size;have h6:=HBX.out.lt;refine⟨some ⟨w5.heap.size,0,none⟩,0,pa,pc,?_,own_upon (own_mono (own_empty w5 9 1) (by omega)) hu (λg hg e=>?_),?_,(((HB.out.trans (HB45.out.mono h5)).alloc (by omega) _).trans (hu.below (by simp;omega) (λg e=>by rcases e with rfl|rfl <;> omega)))⟩
 ·unfold sV;rw[HSP.out.1,HSP.out.2.1,HSP.out.2.2,HPN.out]
  rfl
 ·have e2:w5.heap.size=g:=by simpa[Value.ownBlock]using hg
  rcases e with e|e <;> omega
 ·have:=own_upon (HO5.out.alloc (.cells #[] 9)) hu (λg hg e=>by
   have:=(HO5.out.lt g hg).1;rcases e with e|e <;> omega)
  rw[HPN.out]at this;exact own_mono this (by omega)
end Runs
namespace Runs
open Go.RowKit Go.Deep Go.Shelf Mem Crc Merge RefF
open Store (nv)
structure SBox (w W:World) (xb rb:Nat) (v0 v1 v2 v3 v4:Value):Prop where
 below:Below w.heap.size w W
 bx:Blk W xb 38 #[v0,v1,v2,v3,v4]
 br:∃u0 u1 u2 u3 u4,Blk W rb 38 #[u0,u1,u2,u3,u4]
 x:w.heap.size<=xb
 r:xb<rb
theorem sbox_new (w:World) (v0 v1 v2 v3 v4:Value):SBox w ((w.alloc (.cells #[v0,v1,v2,v3,v4] 38)).alloc (.cells #[.string ⟨#[]⟩,.int .i64 0,.int .i64 0,.slice none 0 0,.int .i64 0] 38)) w.heap.size (w.heap.size+1) v0 v1 v2 v3 v4:=by
 have:=Blk.new (w.alloc (.cells #[v0,v1,v2,v3,v4] 38)) 38 #[.string ⟨#[]⟩,.int .i64 0,.int .i64 0,.slice none 0 0,.int .i64 0];rw[World.size_alloc]at this;exact⟨((Below.refl _ w).alloc jn _).alloc (by simp) _,(Blk.new w _ _).alloc _,⟨_,_,_,_,_,this⟩,Nat.le_refl _,by omega⟩
theorem SBox.later {w W W':World} {xb rb:Nat} {v0 v1 v2 v3 v4:Value} (h:SBox w W xb rb v0 v1 v2 v3 v4) (hB:Below W.heap.size W W'):SBox w W' xb rb v0 v1 v2 v3 v4:=by
 obtain⟨u0,u1,u2,u3,u4,hr⟩:=h.br;exact⟨h.below.trans (hB.mono h.below.size),h.bx.below hB h.bx.lt,⟨u0,u1,u2,u3,u4,hr.below hB hr.lt⟩,h.x,h.r⟩
theorem SBox.cells {w W:World} {xb rb:Nat} {v0 v1 v2 v3 v4:Value} (h:SBox w W xb rb v0 v1 v2 v3 v4): (W.cell? ⟨xb,0,none⟩=some v0/\W.cell? ⟨xb,1,none⟩=some v1/\W.cell? ⟨xb,2,none⟩=some v2/\W.cell? ⟨xb,3,none⟩=some v3/\W.cell? ⟨xb,4,none⟩=some v4):=by
 have h:=h.bx;exact⟨by rw[h.cell];rfl,by rw[h.cell];rfl,by rw[h.cell];rfl,by rw[h.cell];rfl,by rw[h.cell];rfl⟩
theorem SBox.res {w W:World} {xb rb:Nat} {v0 v1 v2 v3 v4:Value} (h:SBox w W xb rb v0 v1 v2 v3 v4):∃u0 u1 u2 u3 u4,(W.cell? ⟨rb,0,none⟩=some u0/\W.cell? ⟨rb,1,none⟩=some u1/\W.cell? ⟨rb,2,none⟩=some u2/\W.cell? ⟨rb,3,none⟩=some u3/\W.cell? ⟨rb,4,none⟩=some u4)/\(W.frozen? ⟨rb,0,none⟩=false/\W.frozen? ⟨rb,1,none⟩=false/\W.frozen? ⟨rb,2,none⟩=false/\W.frozen? ⟨rb,3,none⟩=false/\W.frozen? ⟨rb,4,none⟩=false)/\(W.frozen? ⟨xb,0,none⟩=false/\W.frozen? ⟨xb,1,none⟩=false/\W.frozen? ⟨xb,2,none⟩=false/\W.frozen? ⟨xb,3,none⟩=false/\W.frozen? ⟨xb,4,none⟩=false):=by
 obtain⟨u0,u1,u2,u3,u4,hr⟩:=h.br;exact⟨u0,u1,u2,u3,u4,⟨by rw[hr.cell];rfl,by rw[hr.cell];rfl,by rw[hr.cell];rfl,by rw[hr.cell];rfl,by rw[hr.cell];rfl⟩,⟨hr.frozen 0,hr.frozen 1,hr.frozen 2,hr.frozen 3,hr.frozen 4⟩,h.bx.frozen 0,h.bx.frozen 1,h.bx.frozen 2,h.bx.frozen 3,h.bx.frozen 4⟩
theorem SBox.done {w W W':World} {xb rb:Nat} {v0 v1 v2 v3 v4:Value} (h:SBox w W xb rb v0 v1 v2 v3 v4) (hu:Upon (λg=>g=xb\/g=rb) W W'):Below w.heap.size w W':=h.below.trans (hu.below h.below.size (λg e=>by
 have:=h.x;have:=h.r;rcases e with rfl|rfl <;> omega))
theorem SBox.row {w W W':World} {xb rb:Nat} {v0 v1 v2 v3 v4:Value} (h:SBox w W xb rb v0 v1 v2 v3 v4) (hu:Upon (λg=>g=xb\/g=rb) W W') {base:Nat} {e:TypeId} {size n:Nat} {v:Value} {xs:List Value} (ho:W.ownsRow base e size v n xs) (he:e≠38):W'.ownsRow base e size v n xs:=by
 obtain⟨u0,u1,u2,u3,u4,hr⟩:=h.br
 exact own_upon ho hu (λg hg e2=>by
  rcases e2 with rfl|rfl
  ·exact own_ne_blk ho h.bx he hg
  ·exact own_ne_blk ho hr he hg)
theorem SBox.sets {w W:World} {xb rb:Nat} {v0 v1 v2 v3 v4:Value} (h:SBox w W xb rb v0 v1 v2 v3 v4) (a0 a1 a2 a3 a4:Value):SBox w (((((W.setCell ⟨xb,0,none⟩ a0).setCell ⟨xb,1,none⟩ a1).setCell ⟨xb,2,none⟩ a2).setCell ⟨xb,3,none⟩ a3).setCell ⟨xb,4,none⟩ a4) xb rb a0 a1 a2 a3 a4:=by
 obtain⟨u0,u1,u2,u3,u4,hr⟩:=h.br;have hx:=h.x;have hne:rb≠xb:=by have:=h.r;omega
 exact⟨((((h.below.setCell hx a0).setCell hx a1).setCell hx a2).setCell hx a3).setCell hx a4,by simpa using((((h.bx.set 0 a0).set 1 a1).set 2 a2).set 3 a3).set 4 a4,⟨u0,u1,u2,u3,u4,((((hr.far (p:=⟨xb,0,none⟩) hne a0).far (p:=⟨xb,1,none⟩) hne a1).far (p:=⟨xb,2,none⟩) hne a2).far (p:=⟨xb,3,none⟩) hne a3).far (p:=⟨xb,4,none⟩) hne a4⟩,hx,h.r⟩
attribute [local go_sem] Oper.semAt_some
theorem strB_size {b:B} {s:ByteArray} (h:strB b=.string s):s.size=b.length:=by
 unfold strB at h;injection h with h;rw[<-h]
 simp[ByteArray.size]
theorem refPut_room (A:Fi) (held:List B) (rec_:B) (mh an:Option Addr) (mc ln nc ne:Nat) (w:World) (hrec:rec_.length=A.wd) (hr:held.length≠A.rm) (hrm:held.length<=100000) (hM:Lies w mh (held.map strB)):
  Calls Tryz.prog 22 #[sV A mh held.length mc ne,.slice an ln nc,nv rec_] w λe w'=>∃ma mc',e=.returned (.tuple #[sV A ma (held++ [rec_]).length mc' ne,.slice an ln nc,.int .i64 0])/\OwnS w' w.heap.size (.slice ma (held++ [rec_]).length mc') (held++ [rec_])/\Below w.heap.size w w':=by
 obtain⟨wd,hwd⟩:∃z:Int,z=A.wd:=⟨_,rfl⟩;obtain⟨rm,hrmz⟩:∃z:Int,z=A.rm:=⟨_,rfl⟩;obtain⟨sp,hsp⟩:∃s:ByteArray,nv A.pf=.string s:=⟨_,rfl⟩;obtain⟨sr,hsr⟩:∃s:ByteArray,strB rec_=.string s:=⟨_,rfl⟩;have hss:=strB_size hsr;obtain⟨hn,hhn⟩:=jl held.length;obtain⟨xb,hxb⟩:=jl w.heap.size;obtain⟨rb,hrb⟩:=jl (xb+1);obtain⟨W2,hW2⟩:=jl ((w.alloc (.cells #[.string sp,.int .i64 wd,.int .i64 rm,.slice mh hn mc,.int .i64 ne] 38)).alloc (.cells #[.string ⟨#[]⟩,.int .i64 0,.int .i64 0,.slice none 0 0,.int .i64 0] 38));have hS:SBox w W2 xb rb (.string sp) (.int .i64 wd) (.int .i64 rm) (.slice mh hn mc) (.int .i64 ne):=by rw[hW2,hrb,hxb];exact sbox_new w _ _ _ _ _
 obtain⟨W3,hW3⟩:=jl (W2.alloc (.cells #[] 9));have hB3:Below W2.heap.size W2 W3:=by rw[hW3];exact(Below.refl _ W2).alloc jn _
 have hO3:OwnS W3 W2.heap.size (.slice (some ⟨W2.heap.size,0,none⟩) 0 0) []:=by rw[hW3];exact own_empty W2 9 1
 obtain⟨a4,c4,W4,hr4,hO4,hg4⟩:=run_append_strs W3 36 _ _ hO3 mh mc held ((hM.later hS.below).later hB3) (by simp;omega) hB3.size;rw[List.nil_append]at hr4 hO4;have hB4:Below W2.heap.size W2 W4:=hB3.grown hg4 hB3.size (λq hq=>(hO3.lt q hq).1);obtain⟨W5,hW5⟩:=jl (W4.alloc (.cells #[.string sr] 9));have hB5:Below W4.heap.size W4 W5:=by rw[hW5];exact(Below.refl _ W4).alloc jn _
 have hB25:Below W2.heap.size W2 W5:=hB4.trans (hB5.mono hB4.size)
 have hL5:Lies W5 (some ⟨W4.heap.size,0,none⟩) ([rec_].map strB):=by
  rw[hW5];have:=new_lies W4 9 #[.string sr]
  simpa[hsr]using this
 have hO5:OwnS W5 W2.heap.size (.slice a4 held.length c4) held:=own_later hO4 hB5;obtain⟨a6,c6,W6,hr6,hO6,hg6⟩:=run_append_strs W5 36 _ _ hO5 (some ⟨W4.heap.size,0,none⟩) 1 [rec_] hL5 (by simp;omega) hB25.size;have hB26:Below W2.heap.size W2 W6:=hB25.grown hg6 hB25.size (λq hq=>(hO5.lt q hq).1);obtain⟨n6,hn6⟩:=jl ((held++ [rec_]).length);have hS6:=hS.later hB26;obtain⟨x0,x1,x2,x3,x4⟩:=hS.cells;obtain⟨x30,x31,x32,x33,x34⟩:=(hS.later hB3).cells;obtain⟨y0,y1,y2,y3,y4⟩:=hS6.cells;obtain⟨u0,u1,u2,u3,u4,⟨r0,r1,r2,r3,r4⟩,⟨z0,z1,z2,z3,z4⟩,⟨g0,g1,g2,g3,g4⟩⟩:=hS6.res;have hsv:sV A mh held.length mc ne=.agg #[.string sp,.int .i64 wd,.int .i64 rm,.slice mh hn mc,.int .i64 ne]:=by unfold sV;rw[hsp,hhn,hwd,hrmz]
 have t1: ((sr.size:Int) !=wd)=false:=by rw[hss,hrec,hwd];simp
 have t2: ((hn:Int)==rm)=false:=by rw[hhn,hrmz];simp;omega
 have HSV:=jq (show sV A a6 n6 c6 ne=.agg #[.string sp,.int .i64 wd,.int .i64 rm,.slice a6 n6 c6,.int .i64 ne]by unfold sV;rw[hsp,hwd,hrmz]);rw[hsv,show nv rec_=.string sr from hsr];rw[<-hhn]at hr4 hr6;rw[<-hn6]at hr6 hO6⊢;have HO6:=jq hO6;have HS6:=jq hS6;have hne:rb≠xb:=by omega
 have HB26:=jq hB26;have HSW:=jq hS.below.size;rw[hW3]at hr4 x30 x31 x32 x33 x34;rw[hW5]at hr6;simp only[List.length_singleton]at hr6;clear hsp hsr hss hhn hwd hrmz hS hB3 hO3 hO4 hg4 hB4 hB5 hB25 hL5 hO5 hO6 hg6 hB26 hn6 hS6 hsv hM hrec hr hrm hW5;clear hW3;subst hrb hxb;subst hW2;simp only[World.size_alloc]at hr4
 go_enter Tryz.func22,Tryz.ntmps22
 go_wp2_with (first|(at_builtin;refine Lib.wpList_append_run _ rfl _ _ _ _ rfl _ _ rfl rfl _ _ hr4 ?_;clear hr4)|(at_builtin;refine Lib.wpList_append_run _ rfl _ _ _ _ rfl _ _ rfl rfl _ _ hr6 ?_;clear hr6))
 refine bodyPost_ret (v:=.tuple #[.agg #[.string sp,.int .i64 wd,.int .i64 rm,.slice a6 n6 c6,.int .i64 ne],.slice an ln nc,.int .i64 0]) (by simp[results,Tryz.f22,go_sem,r0,r1,r2,r3,r4]) rfl ?_;have hu:=(((((((Upon.refl (λg=>g=w.heap.size\/g=w.heap.size+1) W6).set (p:=⟨w.heap.size,3,none⟩) (.inl (.inl rfl)) (.slice a6 n6 c6)).set (p:=⟨w.heap.size+1,0,none⟩) (.inl (.inr rfl)) (.string sp)).set (p:=⟨w.heap.size+1,1,none⟩) (.inl (.inr rfl)) (.int .i64 wd)).set (p:=⟨w.heap.size+1,2,none⟩) (.inl (.inr rfl)) (.int .i64 rm)).set (p:=⟨w.heap.size+1,3,none⟩) (.inl (.inr rfl)) (.slice a6 n6 c6)).set (p:=⟨w.heap.size+1,4,none⟩) (.inl (.inr rfl)) (.int .i64 ne));exact⟨a6,c6,by rw[HSV.out],own_mono (HS6.out.row hu HO6.out (by decide)) HSW.out,HS6.out.done hu⟩
theorem refPut_form (A:Fi) (rec_:B) (mh an:Option Addr) (hn mc ln nc ne:Nat) (w:World) (hrec:rec_.length≠A.wd):
  Calls Tryz.prog 22 #[sV A mh hn mc ne,.slice an ln nc,nv rec_] w λe w'=>e=.returned (.tuple #[sV A mh hn mc ne,.slice an ln nc,.int .i64 3])/\Below w.heap.size w w':=by
 obtain⟨wd,hwd⟩:∃z:Int,z=A.wd:=⟨_,rfl⟩;obtain⟨rm,hrmz⟩:∃z:Int,z=A.rm:=⟨_,rfl⟩;obtain⟨sp,hsp⟩:∃s:ByteArray,nv A.pf=.string s:=⟨_,rfl⟩;obtain⟨sr,hsr⟩:∃s:ByteArray,strB rec_=.string s:=⟨_,rfl⟩;have hss:=strB_size hsr;have hS:=sbox_new w (.string sp) (.int .i64 wd) (.int .i64 rm) (.slice mh hn mc) (.int .i64 ne);obtain⟨u0,u1,u2,u3,u4,⟨r0,r1,r2,r3,r4⟩,⟨z0,z1,z2,z3,z4⟩,⟨g0,g1,g2,g3,g4⟩⟩:=hS.res;have t1: ((sr.size:Int) !=wd)=true:=by rw[hss,hwd];simp;omega
 unfold sV;rw[show nv rec_=.string sr from hsr,hsp,<-hwd,<-hrmz];clear hsp hsr hss hwd hrmz hrec hS
 go_enter Tryz.func22,Tryz.ntmps22
 go_wp2_with fail
 refine bodyPost_ret (v:=.tuple #[.agg #[.string sp,.int .i64 wd,.int .i64 rm,.slice mh hn mc,.int .i64 ne],.slice an ln nc,.int .i64 3]) (by simp[results,Tryz.f22,go_sem]) rfl ⟨rfl,((Below.refl _ w).alloc jn _).alloc (by simp) _⟩
theorem refPut_full (A:Fi) (hok:A.ok) (held:List B) (rec_:B) (L:List FF) (mh an:Option Addr) (mc nc ne:Nat) (w:World) (hrec:rec_.length=A.wd) (hw:∀b∈held,b.length=A.wd) (hr:held.length=A.rm) (hne:ne<=100000) (hM:Lies w mh (held.map strB)) (hN:Lies w an (flatP L)) (hL:L.length<=100000):
  Calls Tryz.prog 22 #[sV A mh held.length mc ne,.slice an L.length nc,nv rec_] w λe w'=>∃ma mc' an' nc',e=.returned (.tuple #[sV A ma 1 mc' (ne+1),.slice an' (putP L (rname A.pf ne) (runB held)).length nc',.int .i64 0])/\OwnS w' w.heap.size (.slice ma 1 mc') [rec_]/\w'.ownsRow w.heap.size 83 2 (.slice an' (putP L (rname A.pf ne) (runB held)).length nc') (putP L (rname A.pf ne) (runB held)).length (flatP (putP L (rname A.pf ne) (runB held)))/\Below w.heap.size w w':=by
 have h0:held≠[]:=λe=>by
  rw[e]at hr;have:=hok.2.2.2.2.1
  simp at hr
  omega
 obtain⟨wd,hwd⟩:∃z:Int,z=A.wd:=⟨_,rfl⟩;obtain⟨rm,hrmz⟩:∃z:Int,z=A.rm:=⟨_,rfl⟩;obtain⟨sp,hsp⟩:∃s:ByteArray,nv A.pf=.string s:=⟨_,rfl⟩;obtain⟨sr,hsr⟩:∃s:ByteArray,strB rec_=.string s:=⟨_,rfl⟩;have hss:=strB_size hsr;obtain⟨hn,hhn⟩:=jl held.length;obtain⟨ln,hln⟩:=jl L.length;obtain⟨pn,hpn⟩:=jl ((putP L (rname A.pf ne) (runB held)).length);have hS:=sbox_new w (.string sp) (.int .i64 wd) (.int .i64 rm) (.slice mh hn mc) (.int .i64 ne);obtain⟨x0,x1,x2,x3,x4⟩:=hS.cells;have hF:=refFlush_some A hok held L mh an mc nc ne _ h0 hw (by omega) hne (hM.later hS.below) (hN.later hS.below) hL;have t1: ((sr.size:Int) !=wd)=false:=by rw[hss,hrec,hwd];simp
 have t2: ((hn:Int)==rm)=true:=by rw[hhn,hr,hrmz];simp
 have hsv:∀(a:Option Addr) (k c j:Nat),sV A a k c j=.agg #[.string sp,.int .i64 wd,.int .i64 rm,.slice a k c,.int .i64 j]:=λa k c j=>by unfold sV;rw[hsp,hwd,hrmz]
 have HSV:=jq hsv;rw[<-hhn,<-hln,<-hpn,hsv]at hF;simp only[hsv]at hF;rw[hsv,show nv rec_=.string sr from hsr,<-hhn,<-hln,<-hpn];have HF:=jq hF;have HS:=jq hS;have HSR:=jq hsr;clear hsp hsr hss hwd hrmz hrec hS hF hhn hln hpn hM hN hsv h0 hw hr hok
 go_enter Tryz.func22,Tryz.ntmps22
 go_wp2_with fail
 refine HF.out.mono ?_;rintro e w3 ⟨ma,mc',an',nc',rfl,hOe,hOf,hB3⟩;have hB3':=(Below.refl w3.heap.size w3);have hS3:=HS.out.later hB3;obtain⟨x0,x1,x2,x3,x4⟩:=hS3.cells;obtain⟨u0,u1,u2,u3,u4,_,_,g0,g1,g2,g3,g4⟩:=hS3.res;have hS4:=hS3.sets (.string sp) (.int .i64 wd) (.int .i64 rm) (.slice ma 0 mc') (.int .i64 ((ne:Int)+1));obtain⟨W4,hW4⟩:=jl (((((w3.setCell ⟨w.heap.size,0,none⟩ (.string sp)).setCell ⟨w.heap.size,1,none⟩ (.int .i64 wd)).setCell ⟨w.heap.size,2,none⟩ (.int .i64 rm)).setCell ⟨w.heap.size,3,none⟩ (.slice ma 0 mc')).setCell ⟨w.heap.size,4,none⟩ (.int .i64 ((ne:Int)+1)));rw[<-hW4]at hS4;have hu34:Upon (λg=>g=w.heap.size\/g=w.heap.size+1) w3 W4:=by rw[hW4];exact(((((Upon.refl (λg=>g=w.heap.size\/g=w.heap.size+1) w3).set (p:=⟨w.heap.size,0,none⟩) (.inl (.inl rfl)) _).set (p:=⟨w.heap.size,1,none⟩) (.inl (.inl rfl)) _).set (p:=⟨w.heap.size,2,none⟩) (.inl (.inl rfl)) _).set (p:=⟨w.heap.size,3,none⟩) (.inl (.inl rfl)) _).set (p:=⟨w.heap.size,4,none⟩) (.inl (.inl rfl)) _
 have hOf4:=hS3.row hu34 hOf (by decide);have hz43:W4.heap.size=w3.heap.size:=by rw[hW4];simp[World.setCell]
 obtain⟨W5,hW5⟩:=jl (W4.alloc (.cells #[] 9));have hB5:Below W4.heap.size W4 W5:=by rw[hW5];exact(Below.refl _ W4).alloc jn _
 have hO5:OwnS W5 W4.heap.size (.slice (some ⟨W4.heap.size,0,none⟩) 0 0) []:=by rw[hW5];exact own_empty W4 9 1
 obtain⟨a6,c6,W6,hr6,hO6,hg6⟩:=run_append_strs W5 36 _ _ hO5 ma mc' [] (.inl rfl) (by simp) hB5.size;rw[List.nil_append]at hr6 hO6;have hB6:Below W4.heap.size W4 W6:=hB5.grown hg6 hB5.size (λq hq=>(hO5.lt q hq).1);obtain⟨W7,hW7⟩:=jl (W6.alloc (.cells #[.string sr] 9));have hB7:Below W6.heap.size W6 W7:=by rw[hW7];exact(Below.refl _ W6).alloc jn _
 have hB47:Below W4.heap.size W4 W7:=hB6.trans (hB7.mono hB6.size)
 have hL7:Lies W7 (some ⟨W6.heap.size,0,none⟩) ([rec_].map strB):=by
  rw[hW7];have:=new_lies W6 9 #[.string sr]
  simpa[HSR.out]using this
 have hO7:OwnS W7 W4.heap.size (.slice a6 0 c6) []:=own_later hO6 hB7;obtain⟨a8,c8,W8,hr8,hO8,hg8⟩:=run_append_strs W7 36 _ _ hO7 (some ⟨W6.heap.size,0,none⟩) 1 [rec_] hL7 (by simp) hB47.size;rw[List.nil_append]at hr8 hO8;have hB48:Below W4.heap.size W4 W8:=hB47.grown hg8 hB47.size (λq hq=>(hO7.lt q hq).1);have hS8:=hS4.later hB48;obtain⟨x50,x51,x52,x53,x54⟩:=(hS4.later hB5).cells;obtain⟨y0,y1,y2,y3,y4⟩:=hS8.cells;obtain⟨v0,v1,v2,v3,v4,⟨r0,r1,r2,r3,r4⟩,⟨z0,z1,z2,z3,z4⟩,⟨k0,k1,k2,k3,k4⟩⟩:=hS8.res;have HO8:=jq hO8;have HOF:=jq (own_later hOf4 hB48);have HS8:=jq hS8;have hs2:=HS.out.below.size;have hs3:=hB3.size;have HSW:=jq (And.intro hs2 (And.intro (Nat.le_trans hs2 hs3) hz43));simp only[List.length_singleton,List.length_nil]at hr6 hr8;rw[hW5,hz43]at hr6;rw[hW5]at x50 x51 x52 x53 x54;rw[hW7]at hr8;have hw1:RowKit.wrap64 ((ne:Int)+1)=(ne:Int)+1:=IntWalk.wrap64_in _ (by omega);clear hS3 hS4 hu34 hOf4 hOf hOe hB5 hO5 hO6 hg6 hB6 hB7 hB47 hL7 hO7 hO8 hg8 hB48 hS8 hs2 hs3 hz43 hW5 hW7 hB3' hB3;rw[hW4]at hr6 x50 x51 x52 x53 x54;clear hW4
 go_wp2_with (first|(at_builtin;refine Lib.wpList_append_run _ rfl _ _ _ _ rfl _ _ rfl rfl _ _ hr6 ?_;clear hr6)|(at_builtin;refine Lib.wpList_append_run _ rfl _ _ _ _ rfl _ _ rfl rfl _ _ hr8 ?_;clear hr8))
 refine bodyPost_ret (v:=.tuple #[.agg #[.string sp,.int .i64 wd,.int .i64 rm,.slice a8 1 c8,.int .i64 ((ne:Int)+1)],.slice an' pn nc',.int .i64 0]) (by simp[results,Tryz.f22,go_sem,r0,r1,r2,r3,r4]) rfl ?_;have hu:=(((((((Upon.refl (λg=>g=w.heap.size\/g=w.heap.size+1) W8).set (p:=⟨w.heap.size,3,none⟩) (.inl (.inl rfl)) (.slice a8 1 c8)).set (p:=⟨w.heap.size+1,0,none⟩) (.inl (.inr rfl)) (.string sp)).set (p:=⟨w.heap.size+1,1,none⟩) (.inl (.inr rfl)) (.int .i64 wd)).set (p:=⟨w.heap.size+1,2,none⟩) (.inl (.inr rfl)) (.int .i64 rm)).set (p:=⟨w.heap.size+1,3,none⟩) (.inl (.inr rfl)) (.slice a8 1 c8)).set (p:=⟨w.heap.size+1,4,none⟩) (.inl (.inr rfl)) (.int .i64 ((ne:Int)+1)));obtain⟨q1,q2,q3⟩:=HSW.out;exact⟨a8,c8,an',nc',by rw[HSV.out];simp,own_mono (HS8.out.row hu HO8.out (by decide)) (by omega),own_mono (HS8.out.row hu HOF.out (by decide)) q1,HS8.out.done hu⟩
end Runs
namespace Runs
open Go.RowKit Go.Deep Go.Shelf Mem Crc Merge RefF Full
open Store (nv Files)
attribute [local go_sem] Oper.semAt_some
def ArgsOk (pl:Nat) (wd rm:Int):Prop:=1<=pl/\pl<=16/\1<=wd/\wd<=64/\1<=rm/\rm<=4096
theorem args_bad {pl:Nat} {wd rm:Int} (h:¬ArgsOk pl wd rm): (pl=0)\/(0<pl/\16<pl)\/(0<pl/\pl<=16/\wd<1)\/(0<pl/\pl<=16/\1<=wd/\64<wd)\/(0<pl/\pl<=16/\1<=wd/\wd<=64/\rm<1)\/(0<pl/\pl<=16/\1<=wd/\wd<=64/\1<=rm/\4096<rm):=by
 unfold ArgsOk at h
 omega
theorem refNew_bad (a:Option Addr) (n c:Nat) (sp:ByteArray) (wd rm:Int) (w:World) (h:¬ArgsOk sp.size wd rm):
  Calls Tryz.prog 7 #[.slice a n c,.string sp,.int .i64 wd,.int .i64 rm] w λe w'=>e=.returned (.tuple #[.agg #[.string ⟨#[]⟩,.int .i64 0,.int .i64 0,.slice none 0 0,.int .i64 0],.int .i64 1])/\Below w.heap.size w w':=by
 obtain⟨pl,hpl⟩:=jl sp.size;have hb:=Blk.new w 38 #[.string ⟨#[]⟩,.int .i64 0,.int .i64 0,.slice none 0 0,.int .i64 0];rw[<-hpl]at h;have r0:=hb.cell 0;have r1:=hb.cell 1;have r2:=hb.cell 2;have r3:=hb.cell 3;have r4:=hb.cell 4
 simp at r0 r1 r2 r3 r4
 rcases args_bad h with h1|⟨h1,h2⟩|⟨h1,h2,h3⟩|⟨h1,h2,h3,h4⟩|⟨h1,h2,h3,h4,h5⟩|⟨h1,h2,h3,h4,h5,h6⟩
 all_goals
  rw[hpl]at h1
  try rw[hpl]at h2
  clear h hb
  go_enter Tryz.func7,Tryz.ntmps7
  go_wp2_with fail
  exact bodyPost_ret (v:=.tuple #[.agg #[.string ⟨#[]⟩,.int .i64 0,.int .i64 0,.slice none 0 0,.int .i64 0],.int .i64 1]) (by simp[results,Tryz.f7,go_sem]) rfl ⟨rfl,(Below.refl _ w).alloc jn _⟩
theorem new13_bad (sv:Value) (sp:ByteArray) (wd rm:Int) (w:World) (h:¬ArgsOk sp.size wd rm):
  Calls Tryz.prog 6 #[sv,.string sp,.int .i64 wd,.int .i64 rm] w λe w'=>e=.returned (.tuple #[.pointer none,.int .i64 1])/\w'=w:=by
 obtain⟨pl,hpl⟩:=jl sp.size;rw[<-hpl]at h;rcases args_bad h with h1|⟨h1,h2⟩|⟨h1,h2,h3⟩|⟨h1,h2,h3,h4⟩|⟨h1,h2,h3,h4,h5⟩|⟨h1,h2,h3,h4,h5,h6⟩
 all_goals
  rw[hpl]at h1
  try rw[hpl]at h2
  clear h
  first|(have z0: ((sp.size:Int)==0)=false:=by rw[beq_eq_false_iff_ne];omega)|(have z0: ((sp.size:Int)==0)=true:=by rw[beq_iff_eq];omega)
  go_enter Tryz.func6,Tryz.ntmps6
  go_wp2_with fail
  exact bodyPost_ret (v:=.tuple #[.pointer none,.int .i64 1]) (by simp[results,Tryz.results6,go_sem]) rfl ⟨rfl,rfl⟩
theorem refNew_good (A:Fi) (hok:A.ok) (L:List FF) (F:Files) (an:Option Addr) (nc ne:Nat) (w:World) (hrow:IsRow L F) (hr:∀j,j<ne->F (rname A.pf j)≠none) (hl:F (rname A.pf ne)=none) (hne:ne<=L.length) (hN:Lies w an (flatP L)) (hL:L.length<=100000):
  Calls Tryz.prog 7 #[.slice an L.length nc,nv A.pf,.int .i64 A.wd,.int .i64 A.rm] w λe w'=>e=.returned (.tuple #[sV A none 0 0 ne,.int .i64 0])/\Below w.heap.size w w':=by
 obtain⟨k1,k2,k3,k4,k5,k6⟩:=id hok;obtain⟨wd,hwd⟩:∃z:Int,z=A.wd:=⟨_,rfl⟩;obtain⟨rm,hrmz⟩:∃z:Int,z=A.rm:=⟨_,rfl⟩;obtain⟨sp,hsp⟩:∃s:ByteArray,nv A.pf=.string s:=⟨_,rfl⟩;have hss:sp.size=A.pf.length:=strB_size hsp;obtain⟨ln,hln⟩:=jl L.length;have hsv:sV A none 0 0 ne=.agg #[.string sp,.int .i64 wd,.int .i64 rm,.slice none 0 0,.int .i64 ne]:=by unfold sV;rw[hsp,hwd,hrmz]
 obtain⟨W1,hW1⟩:=jl (w.alloc (.cells #[.string ⟨#[]⟩,.int .i64 0,.int .i64 0,.slice none 0 0,.int .i64 0] 38));obtain⟨W2,hW2⟩:=jl (W1.alloc (.cells #[.string sp,.int .i64 wd,.int .i64 rm,.slice none 0 0,.int .i64 0] 38));have hB1:Below w.heap.size w W1:=by rw[hW1];exact(Below.refl _ w).alloc jn _
 have hz1:W1.heap.size=w.heap.size+1:=by rw[hW1];simp
 have hB2:Below W1.heap.size W1 W2:=by rw[hW2];exact(Below.refl _ W1).alloc jn _
 obtain⟨rb,hrb⟩:=jl w.heap.size;obtain⟨xb,hxb⟩:=jl (rb+1)
 have hbr:Blk W2 rb 38 #[.string ⟨#[]⟩,.int .i64 0,.int .i64 0,.slice none 0 0,.int .i64 0]:=by
  have h:=Blk.new w 38 #[.string ⟨#[]⟩,.int .i64 0,.int .i64 0,.slice none 0 0,.int .i64 0];rw[<-hW1,<-hrb]at h;exact h.below hB2 h.lt
 have hbx:Blk W2 xb 38 #[.string sp,.int .i64 wd,.int .i64 rm,.slice none 0 0,.int .i64 ((0:Nat):Int)]:=by
  have h:=Blk.new W1 38 #[.string sp,.int .i64 wd,.int .i64 rm,.slice none 0 0,.int .i64 0];rw[<-hW2,hz1,<-hrb,<-hxb]at h;exact h
 have HNM:Hid (∀(j k:Nat) (V:World),k<=1000000->Calls Tryz.prog 21 #[.agg #[.string sp,.int .i64 wd,.int .i64 rm,.slice none 0 0,.int .i64 j],.int .i64 k] V λe w'=>e=.returned (nv (rname A.pf k))/\Below V.heap.size V w'):=jq (λj k V hk=>by
  have:=refName_any A.pf k2 wd rm j none 0 0 k hk V;rw[hsp]at this;exact this)
 have HBR:=jq hbr;have HBX:=jq hbx;have HB:=jq (hB1.trans (hB2.mono hB1.size));have HN:=jq hN;have HLN:=jq hln;have HROW:=jq hrow;have HR:=jq hr;have HL:=jq hl;have HXR:=jq (show w.heap.size<=rb/\rb<xb by omega);have hL9:ln<=100000:=by omega
 have hne9:ne<=ln:=by omega
 have t1:0<sp.size:=by omega
 have t2:sp.size<=16:=by omega
 have t3:1<=wd:=by omega
 have t4:wd<=64:=by omega
 have t5:1<=rm:=by omega
 have t6:rm<=4096:=by omega
 rw[hsv,hsp,<-hwd,<-hrmz,<-hln];have hneq:rb≠xb:=by omega
 rw[show xb=w.heap.size+1 by omega,show rb=w.heap.size by omega]at *;clear hsp hwd hrmz hsv hss hln hbr hbx hB1 hB2 hz1 hN hrow hr hl hne hL hok k1 k2 k3 k4 k5 k6 hrb hxb
 go_enter Tryz.func7,Tryz.ntmps7
 go_wp2_with fail
 rw[<-hW1,<-hW2]
 go_loopw[11] (λi wr=>∃k:Nat,k<=ne/\i=.int .i64 (k:Int)/\Hid (Blk wr (w.heap.size+1) 38 #[.string sp,.int .i64 wd,.int .i64 rm,.slice none 0 0,.int .i64 (k:Int)])/\Hid (Blk wr w.heap.size 38 #[.string ⟨#[]⟩,.int .i64 0,.int .i64 0,.slice none 0 0,.int .i64 0])/\Hid (Below w.heap.size w wr)) (λi _=>ne+1-(intOf i).toNat)
 case atStart=>exact⟨0,Nat.zero_le _,rfl,HBX,HBR,HB⟩
 case round=>
  obtain⟨k,hk,rfl,HX,HRR,HBB⟩:=hrel;have hkd:decide ((k:Int)<=(ln:Int))=true:=jd (by omega);have q0:=HX.out.cell 0;have q1:=HX.out.cell 1;have q2:=HX.out.cell 2;have q3:=HX.out.cell 3;have q4:=HX.out.cell 4
  simp at q0 q1 q2 q3 q4
  obtain⟨sn,hsn⟩:∃s:ByteArray,nv (rname A.pf k)=.string s:=⟨_,rfl⟩;have hnm:=HNM.out k k wr (by omega);rw[hsn]at hnm;obtain⟨f1,_⟩:=HROW.out.find (rname A.pf k);obtain⟨ix,hix⟩:∃i:Int,i=(if findP L (rname A.pf k) <L.length then(findP L (rname A.pf k):Int)else 0):=⟨_,rfl⟩
  have HFI:∀b:Bool,decide (findP L (rname A.pf k) <L.length)=b->Hid (∀V:World,Below w.heap.size w V->Calls Tryz.prog 20 #[.slice an ln nc,.string sn] V λe w'=>e=.returned (.tuple #[.int .i64 ix,.bool b])/\w'=V):=λb hb=>jq (λV hV=>by
   have:=find_any an nc L (rname A.pf k) V (HN.out.later hV) (by have:=HLN.out;omega);rw[hsn,<-HLN.out,HLN.out,hb,<-hix,<-HLN.out]at this;exact this)
  have HNK:=jq hnm
  by_cases hlt:k<ne
  ·have HF:=HFI true (jd (f1.2 (HR.out k hlt)));have hw1:RowKit.wrap64 ((k:Int)+1)=(k:Int)+1:=IntWalk.wrap64_in _ (by omega);clear hnm f1 hix HFI hsn
   go_wp2_with fail
   refine HNK.out.mono ?_;rintro e w3 ⟨rfl,hB3⟩;have HB03:=jq (HBB.out.trans (hB3.mono HBB.out.size));have HF3:=jq (HF.out w3 HB03.out);have hx3:=HX.out.below hB3 HX.out.lt;have g4:=hx3.cell 4;have z4:=hx3.frozen 4
   simp at g4
   have HX4:=jq (hx3.set 4 (.int .i64 ((k:Int)+1)));have HR4:=jq ((HRR.out.below hB3 HRR.out.lt).far (p:=⟨w.heap.size+1,4,none⟩) (by simp) (.int .i64 ((k:Int)+1)));have HB4:=jq (HB03.out.setCell (p:=⟨w.heap.size+1,4,none⟩) (by simp) (.int .i64 ((k:Int)+1)));clear hB3 hx3 q0 q1 q2 q3 q4
   go_wp2_with fail
   refine HF3.out.mono ?_;rintro e w4 ⟨rfl,rfl⟩
   go_wp2_with fail
   go_roundw
   case rel=>exact⟨k+1,by omega,by simp,jq (by simpa using HX4.out),HR4,HB4⟩
   case measure=>simp[intOf];omega
  ·obtain rfl:k=ne:=by omega
   have HF:=HFI false (jf (λh=>f1.1 h HL.out));clear hnm f1 hix HFI hsn
   go_wp2_with fail
   refine HNK.out.mono ?_;rintro e w3 ⟨rfl,hB3⟩;have HB03:=jq (HBB.out.trans (hB3.mono HBB.out.size));have HF3:=jq (HF.out w3 HB03.out);have hx3:=HX.out.below hB3 HX.out.lt;have hr3:=HRR.out.below hB3 HRR.out.lt;have g0:=hx3.cell 0;have g1:=hx3.cell 1;have g2:=hx3.cell 2;have g3:=hx3.cell 3;have g4:=hx3.cell 4;have r0:=hr3.cell 0;have r1:=hr3.cell 1;have r2:=hr3.cell 2;have r3:=hr3.cell 3;have r4:=hr3.cell 4
   simp at g0 g1 g2 g3 g4 r0 r1 r2 r3 r4
   have z0:=hr3.frozen 0;have z1:=hr3.frozen 1;have z2:=hr3.frozen 2;have z3:=hr3.frozen 3;have z4:=hr3.frozen 4;clear hB3 hx3 hr3 q0 q1 q2 q3 q4
   go_wp2_with fail
   refine HF3.out.mono ?_;rintro e w4 ⟨rfl,rfl⟩
   go_wp2_with fail
   refine bodyPost_ret (v:=.tuple #[.agg #[.string sp,.int .i64 wd,.int .i64 rm,.slice none 0 0,.int .i64 k],.int .i64 0]) (by simp[results,Tryz.f7,go_sem,r0,r1,r2,r3,r4]) rfl ⟨rfl,?_⟩;exact((((HB03.out.setCell (p:=⟨w.heap.size,0,none⟩) (by simp) _).setCell (p:=⟨w.heap.size,1,none⟩) (by simp) _).setCell (p:=⟨w.heap.size,2,none⟩) (by simp) _).setCell (p:=⟨w.heap.size,3,none⟩) (by simp) _).setCell (p:=⟨w.heap.size,4,none⟩) (by simp) _
end Runs
namespace Runs
open Go.RowKit Go.Deep Go.Shelf Mem Crc Merge RefF
open Store (nv)
attribute [local go_sem] Oper.semAt_some
theorem refFlush_none (A:Fi) (mh an:Option Addr) (mc ln nc ne:Nat) (w:World):
  Calls Tryz.prog 24 #[sV A mh 0 mc ne,.slice an ln nc] w λe w'=>e=.returned (.tuple #[sV A mh 0 mc ne,.slice an ln nc])/\Below w.heap.size w w':=by
 obtain⟨wd,hwd⟩:∃z:Int,z=A.wd:=⟨_,rfl⟩;obtain⟨rm,hrmz⟩:∃z:Int,z=A.rm:=⟨_,rfl⟩;obtain⟨sp,hsp⟩:∃s:ByteArray,nv A.pf=.string s:=⟨_,rfl⟩;have hS:=sbox_new w (.string sp) (.int .i64 wd) (.int .i64 rm) (.slice mh 0 mc) (.int .i64 ne);obtain⟨u0,u1,u2,u3,u4,⟨r0,r1,r2,r3,r4⟩,⟨z0,z1,z2,z3,z4⟩,⟨g0,g1,g2,g3,g4⟩⟩:=hS.res;unfold sV;rw[hsp,<-hwd,<-hrmz];clear hsp hwd hrmz hS
 go_enter Tryz.func24,Tryz.ntmps24
 go_wp2_with fail
 exact bodyPost_ret (v:=.tuple #[.agg #[.string sp,.int .i64 wd,.int .i64 rm,.slice mh 0 mc,.int .i64 ne],.slice an ln nc]) (by simp[results,Tryz.f24,go_sem]) rfl ⟨rfl,((Below.refl _ w).alloc jn _).alloc (by simp) _⟩
def rmP (L:List FF) (pf:List UInt8):Nat->List FF
 |0=>L
 |k+1=>withoutP (rmP L pf k) (rname pf k)
theorem rmP_len (L:List FF) (pf:List UInt8):∀k,(rmP L pf k).length<=L.length
 |0=>Nat.le_refl _
 |k+1=>Nat.le_trans (List.length_filter_le _ _) (rmP_len L pf k)
structure RowP (b:Nat) (w':World) (an a:Option Addr) (L l:List FF):Prop where
 lies:Lies w' a (flatP l)
 new: (a=an/\l=L)\/∀g,Mem.blk a=some g->b<=g/\g<w'.heap.size
theorem RowP.later {b:Nat} {w w':World} {an a:Option Addr} {L l:List FF} (h:RowP b w an a L l) (hB:Below w.heap.size w w'):RowP b w' an a L l:=⟨h.lies.later hB,h.new.imp id (λh2 g hg=>⟨(h2 g hg).1,Nat.lt_of_lt_of_le (h2 g hg).2 hB.size⟩)⟩
theorem RowP.upon {b xb rb:Nat} {w0 w w':World} {an a:Option Addr} {L l:List FF} (h:RowP b w an a L l) (h0:Lies w0 an (flatP L)) (hx:w0.heap.size<=xb/\xb<b) (hr:w0.heap.size<=rb/\rb<b) (hu:Upon (λg=>g=xb\/g=rb) w w'):RowP b w' an a L l:=by
 refine⟨?_,h.new.imp id (λh2 g hg=>⟨(h2 g hg).1,Nat.lt_of_lt_of_le (h2 g hg).2 hu.size⟩)⟩;rcases h.new with⟨rfl,rfl⟩|h2
 ·by_cases hL:flatP l= []
  ·exact .inl hL
  ·refine h.lies.upon hu (λg hg e=>?_);obtain⟨q,o,rfl,hq,_⟩:=h0.resolve_left hL;have e1:q=g:=by simpa[Mem.blk]using hg
   rcases e with e|e <;> omega
 ·exact h.lies.upon hu (λg hg e=>by have:=h2 g hg;rcases e with e|e <;> omega)
theorem RowP.mono {b c:Nat} {w':World} {an a:Option Addr} {L l:List FF} (h:RowP b w' an a L l) (hc:c<=b):RowP c w' an a L l:=⟨h.lies,h.new.imp id (λh2 g hg=>⟨by have:=(h2 g hg).1;omega,(h2 g hg).2⟩)⟩
theorem refClear_any (A:Fi) (hok:A.ok) (L:List FF) (mh an:Option Addr) (hn mc nc ne:Nat) (w:World) (hne:ne<=100000) (hN:Lies w an (flatP L)) (hL:L.length<=100000):
  Calls Tryz.prog 27 #[sV A mh hn mc ne,.slice an L.length nc] w λe w'=>∃ma an' nc',e=.returned (.tuple #[sV A ma 0 0 0,.slice an' (rmP L A.pf ne).length nc'])/\OwnS w' w.heap.size (.slice ma 0 0) []/\RowP w.heap.size w' an an' L (rmP L A.pf ne)/\Below w.heap.size w w':=by
 obtain⟨k1,k2,k3,k4,k5,k6⟩:=id hok;obtain⟨wd,hwd⟩:∃z:Int,z=A.wd:=⟨_,rfl⟩;obtain⟨rm,hrmz⟩:∃z:Int,z=A.rm:=⟨_,rfl⟩;obtain⟨sp,hsp⟩:∃s:ByteArray,nv A.pf=.string s:=⟨_,rfl⟩;have hS:=sbox_new w (.string sp) (.int .i64 wd) (.int .i64 rm) (.slice mh hn mc) (.int .i64 ne);obtain⟨xb,hxb⟩:=jl w.heap.size;obtain⟨rb,hrb⟩:=jl (w.heap.size+1);obtain⟨W2,hW2⟩:=jl ((w.alloc (.cells #[.string sp,.int .i64 wd,.int .i64 rm,.slice mh hn mc,.int .i64 ne] 38)).alloc (.cells #[.string ⟨#[]⟩,.int .i64 0,.int .i64 0,.slice none 0 0,.int .i64 0] 38));rw[<-hW2,<-hrb,<-hxb]at hS;have hsv:∀(a:Option Addr) (k c j:Nat),sV A a k c j=.agg #[.string sp,.int .i64 wd,.int .i64 rm,.slice a k c,.int .i64 j]:=λa k c j=>by unfold sV;rw[hsp,hwd,hrmz]
 have HNM:Hid (∀(k:Nat) (V:World),k<=1000000->Calls Tryz.prog 21 #[.agg #[.string sp,.int .i64 wd,.int .i64 rm,.slice mh hn mc,.int .i64 ne],.int .i64 k] V λe w'=>e=.returned (nv (rname A.pf k))/\Below V.heap.size V w'):=jq (λk V hk=>by
  have:=refName_any A.pf k2 wd rm ne mh hn mc k hk V;rw[hsp]at this;exact this)
 rw[hsv];have HSV:=jq hsv;have HS:=jq hS;have HN:=jq (hN.later hS.below);have HN0:=jq hN;have HL:=jq hL;obtain⟨ln,hln⟩:=jl L.length;have HLN:=jq hln;rw[<-hln];clear hsp hwd hrmz hS hsv hN hL hln hok k1 k2 k3 k4 k5 k6
 go_enter Tryz.func27,Tryz.ntmps27
 go_wp2_with fail
 rw[<-hW2,<-hxb,show xb+1=rb by omega];have hne2:rb≠xb:=by omega
 have HXR:=jq (show w.heap.size<=xb/\xb<rb by omega);clear hW2 hxb hrb
 go_loopw[1,6] (λv i wr=>∃(k:Nat) (a:Option Addr) (n c:Nat),k<=ne/\i=.int .i64 (k:Int)/\v=.slice a n c/\Hid (n=(rmP L A.pf k).length)/\Hid (RowP (rb+1) wr an a L (rmP L A.pf k))/\Hid (SBox w wr xb rb (.string sp) (.int .i64 wd) (.int .i64 rm) (.slice mh hn mc) (.int .i64 ne))) (λ_ i _=>ne-(intOf i).toNat)
 case atStart=>exact⟨0,an,ln,nc,Nat.zero_le _,rfl,rfl,jq HLN.out,jq ⟨HN.out,.inl ⟨rfl,rfl⟩⟩,HS⟩
 case round=>
  obtain⟨k,a,n,c,hk,rfl,rfl,HNN,HR,HB⟩:=hrel;obtain⟨x0,x1,x2,x3,x4⟩:=HB.out.cells
  by_cases hlt:k<ne
  ·have hkd:decide ((k:Int) <(ne:Int))=true:=jd (by omega);obtain⟨sn,hsn⟩:∃s:ByteArray,nv (rname A.pf k)=.string s:=⟨_,rfl⟩;have hnm:=HNM.out k wr (by omega);rw[hsn]at hnm;have HNK:=jq hnm
   have HW:Hid (∀V:World,Below wr.heap.size wr V->Calls Tryz.prog 55 #[.slice a n c,.string sn] V λe w'=>∃a' n' c',e=.returned (.slice a' n' c')/\n'=(rmP L A.pf (k+1)).length/\RowP (rb+1) w' an a' L (rmP L A.pf (k+1))/\Below V.heap.size V w'):=jq (λV hV=>by
    have:=without_any a c (rmP L A.pf k) (rname A.pf k) V (HR.out.lies.later hV) (by have:=rmP_len L A.pf k;have:=HL.out;omega);rw[hsn,<-HNN.out]at this;refine this.mono ?_;rintro e w' ⟨v,rfl,hO,hB⟩;obtain⟨a',c',rfl,_,hL',hb',hbk⟩:=own_shape hO;obtain⟨_,_,_,_,_,hrb⟩:=HB.out.br;have h1:=hrb.lt;have h2:=hV.size;exact⟨a',_,c',rfl,rfl,⟨hL',.inr (λg hg=>⟨by have:=hb' g hg;omega,(hO.lt g (hbk.trans hg)).2⟩)⟩,hB⟩)
   clear hnm hsn
   go_wp2_with fail
   refine HNK.out.mono ?_;rintro e w3 ⟨rfl,hB3⟩;have HW3:=jq (HW.out w3 hB3);have HB3:=jq hB3;clear hB3
   go_wp2_with fail
   refine HW3.out.mono ?_;rintro e w4 ⟨a',n',c',rfl,hn',hR',hB4⟩;have HR':=jq hR';have HN':=jq hn';have HB':=jq ((HB.out.later HB3.out).later hB4);clear hn' hR' hB4
   go_wp2_with fail
   go_roundw
   case rel=>exact⟨k+1,a',n',c',by omega,by simp,rfl,HN',HR',HB'⟩
   case measure=>simp[intOf];omega
  ·obtain rfl:k=ne:=by omega
   have hkd:decide ((k:Int) <(k:Int))=false:=jf (by omega);have hbA:=HB.out.later ((Below.refl wr.heap.size wr).alloc jn (.cells #[] 9));obtain⟨y0,y1,y2,y3,y4⟩:=hbA.cells;obtain⟨u0,u1,u2,u3,u4,⟨r0,r1,r2,r3,r4⟩,⟨z0,z1,z2,z3,z4⟩,⟨g0,g1,g2,g3,g4⟩⟩:=hbA.res;have HBA:=jq hbA;clear hbA
   go_wp2_with fail
   refine bodyPost_ret (v:=.tuple #[.agg #[.string sp,.int .i64 wd,.int .i64 rm,.slice (some ⟨wr.heap.size,0,none⟩) 0 0,.int .i64 0],.slice a n c]) (by simp[results,Tryz.f27,go_sem,r0,r1,r2,r3,r4]) rfl ?_;have hu:=((((((((Upon.refl (λg=>g=xb\/g=rb) (wr.alloc (.cells #[] 9))).set (p:=⟨xb,3,none⟩) (.inl (.inl rfl)) (.slice (some ⟨wr.heap.size,0,none⟩) 0 0)).set (p:=⟨xb,4,none⟩) (.inl (.inl rfl)) (.int .i64 0)).set (p:=⟨rb,0,none⟩) (.inl (.inr rfl)) (.string sp)).set (p:=⟨rb,1,none⟩) (.inl (.inr rfl)) (.int .i64 wd)).set (p:=⟨rb,2,none⟩) (.inl (.inr rfl)) (.int .i64 rm)).set (p:=⟨rb,3,none⟩) (.inl (.inr rfl)) (.slice (some ⟨wr.heap.size,0,none⟩) 0 0)).set (p:=⟨rb,4,none⟩) (.inl (.inr rfl)) (.int .i64 0));have hxr:=HXR.out;obtain⟨_,_,_,_,_,hbr⟩:=HBA.out.br;have hbr:=hbr.lt;rw[World.size_alloc]at hbr;have hrow:=(HR.out.later ((Below.refl wr.heap.size wr).alloc jn (.cells #[] 9))).upon HN0.out ⟨hxr.1,by omega⟩ ⟨by omega,by omega⟩ hu;refine⟨some ⟨wr.heap.size,0,none⟩,a,c,?_,own_mono (HBA.out.row hu (own_empty wr 9 1) (by decide)) HB.out.below.size,hrow.mono (by omega),HBA.out.done hu⟩;rw[HSV.out,HNN.out]
   rfl
end Runs
end Go.Proofs.YtcdcnhecimajkaaGreatDoor
