/- Part. -/
import Derived.Test.YtfgjnpbffppocaaGreatDoorF0
import Derived.Test.YtfgjnpbffppocaaGreatDoorF0Q
import Derived.Test.YtfgjnpbffppocaaGreatDoorF4
import Derived.Test.YtfgjnpbffppocaaGreatDoorF41
import Derived.Deep.DeepCutAuto
set_option maxHeartbeats 2000000
set_option maxRecDepth 100000
namespace Go.Proofs.YtfgjnpbffppocaaGreatDoor
namespace RefD
open Go.RowKit Go.Deep Mem Crc Full Mani Go.Proofs.YtfgjnpbffppocaaGreatDoor.Frame
theorem ownK (V0:World) {base:Nat} (k:UInt8) (kd:Nat) (hk:kd=k.toNat) (hb:base<=V0.heap.size):OwnB (V0.alloc (.cells #[.int .u8 (kd:Int)] 5)) base (.slice (some ⟨V0.heap.size,0,none⟩) 1 1) [k]:=by
 have h:=World.ownsRow_lit (e:=5) (size:=1) (base:=base) V0 #[bv k] 1 hb (by decide) (by simp);rw[hk];exact h
theorem appK (w4:World) {base p:Nat} {k:UInt8} (ty:TypeId) (hp:OwnB w4 base (.slice (some ⟨p,0,none⟩) 1 1) [k]) {a:Option Addr} {c:Nat} {l:List UInt8} (hL:Lies w4 a (l.map bv)) (hl:l.length<=1000000) (hb:base<=w4.heap.size):
  ∃v5 w5,(Builtin.append_ #[27,27] ty #[.slice (some ⟨p,0,none⟩) 1 1,.slice a l.length c]).run Tryz.prog w4=.ok v5 w5/\OwnB w5 base v5 (k ::l)/\Below base w4 w5:=by
 obtain⟨v5,w5,hr,hO,hg⟩:=run_append_bytes w4 ty _ _ hp a c l hL (by simp;omega) hb;exact⟨v5,w5,hr,hO,(Below.refl _ w4).grown hg hb (λq hq=>(hp.lt q hq).1)⟩
attribute [local go_sem] Oper.semAt_some
theorem put5_any (k:UInt8) (a:Option Addr) (cp:Nat) (b:List UInt8) (w:World) (h:Lies w a (b.map bv)) (hb:b.length<=1000000):
  Calls Tryz.prog 68 #[.agg #[bv k,.slice a b.length cp]] w λe w'=>∃v,e=.returned v/\OwnB w' w.heap.size v (frameL k b)/\Below w.heap.size w w':=by
 obtain⟨n,hn⟩:=jl b.length;obtain⟨kd,hkd⟩:=jl k.toNat;have hbk:bv k=.int .u8 (kd:Int):=by rw[hkd];rfl
 rw[<-hn,hbk];obtain⟨W1,hW1⟩:=jl (w.alloc (.cells #[.int .u8 (kd:Int),.slice a n cp] 128));obtain⟨sb,hsb⟩:=jl w.heap.size;have hB1:Below w.heap.size w W1:=by rw[hW1];exact(Below.refl _ w).alloc jn _
 have hbx:Blk W1 sb 128 #[.int .u8 (kd:Int),.slice a n cp]:=by rw[hW1,hsb];exact Blk.new w _ _
 have x0:=hbx.cell 0;have x1:=hbx.cell 1
 simp at x0 x1
 have hba:Below W1.heap.size W1 (W1.alloc (.cells #[.int .u8 (kd:Int)] 5)):=(Below.refl _ _).alloc jn _;have x0a:=(hbx.below hba hbx.lt).cell 0;have x1a:=(hbx.below hba hbx.lt).cell 1
 simp at x0a x1a
 have hw1:IntKind.u32.wrap (n:Int)=(n:Int):=by rw[IntKind.wrap_u32];omega
 have HF:Hid (∀V:World,Calls Tryz.prog 104 #[.int .u32 (n:Int)] V λe w'=>∃v,e=.returned v/\OwnB w' V.heap.size v (four n)/\Below V.heap.size V w'):=jq (λV=>four02_any n (by omega) V);have HL:=jq (h.later hB1);have HN:=jq hn;have HKD:=jq hkd;have HB1:=jq hB1;have HBX:=jq hbx;have h4: (four n).length=4:=rfl;clear h hn hkd hB1 hbx hbk hba
 go_enter Tryz.func68,Tryz.ntmps68
 go_wp2_with fail
 rw[<-hW1,<-hsb];clear hW1 hsb
 go_cut[3] (λx3 wx=>∃(v5a:Option Addr) (v5c:Nat),x3=.slice v5a 5 v5c/\Hid (OwnB wx W1.heap.size (.slice v5a 5 v5c) (k ::four n))/\Hid (Below W1.heap.size W1 wx))
 case first=>
  go_region_law ((first|(go_simp;go_at_call 104;refine(HF.out _).mono ?_;rintro e w4 ⟨v4,rfl,hO4,hB4⟩;obtain⟨v4a,v4c,rfl,_,hL4,-⟩:=own_shape hO4;have hp:=own_later (ownK W1 k kd HKD.out jn) ((Below.refl (W1.alloc (.cells #[.int .u8 (kd:Int)] 5)).heap.size (W1.alloc (.cells #[.int .u8 (kd:Int)] 5))).drew.trans hB4);have hBw4:=(((Below.refl W1.heap.size W1).alloc jn (.cells #[.int .u8 (kd:Int)] 5)).drew).trans (hB4.mono (by simp));obtain⟨v5,w5,hr5,hO5,hB5⟩:=appK w4 27 hp (c:=v4c) hL4 (by rw[h4];decide) hBw4.size;obtain⟨v5a,v5c,rfl,-⟩:=own_shape hO5;have HO5:=jq hO5;have HB5:=jq (hBw4.trans hB5);clear hO4 hB4 hL4 hp hBw4 hO5 hB5;rw[h4]at hr5⊢;dsimp only)|(go_simp;go_at_call 104;refine(HF.out _).mono ?_;rintro e w4 ⟨v4,rfl,hO4,hB4⟩;obtain⟨v4a,v4c,rfl,_,hL4,-⟩:=own_shape hO4;have hbw:=((Below.refl W1.heap.size W1).drew).trans hB4;have hbx4:=HBX.out.below hbw HBX.out.lt;have y0:=hbx4.cell 0;have y1:=hbx4.cell 1;simp at y0 y1;have hp:=ownK w4 k kd HKD.out hbw.size;have hB4a:Below w4.heap.size w4 (w4.alloc (.cells #[.int .u8 (kd:Int)] 5)):=(Below.refl _ _).alloc jn _;have hBw4:=hbw.trans (hB4a.mono hbw.size);obtain⟨v5,w5,hr5,hO5,hB5⟩:=appK _ 27 hp (c:=v4c) (hL4.later hB4a) (by rw[h4];decide) hBw4.size;obtain⟨v5a,v5c,rfl,-⟩:=own_shape hO5;have HO5:=jq hO5;have HB5:=jq (hBw4.trans hB5);clear hO4 hB4 hL4 hp hBw4 hO5 hB5 hbx4 hbw hB4a;rw[h4]at hr5⊢;dsimp only)|(refine step_append_run rfl (.tmp 6) (.tmp 11) 27 27 rfl _ _ rfl rfl hr5 ?_)))
  all_goals go_wp2_with fail
  all_goals go_meet
  all_goals exact⟨_,_,rfl,HO5,HB5⟩
 case rest=>
  obtain⟨v5a,v5c,rfl,HO5,HB5⟩:=hcut;have hbx5:=HBX.out.below HB5.out HBX.out.lt;have t1:=hbx5.cell 1
  simp at t1
  have hm9: (marked (head k n)).length=9:=by rw[mark_length];rfl
  have HMB:Hid ((marked b).length=n+4):=jq (by rw[mark_length,HN.out])
  have HM1F:Hid (∀V:World,Below wc.heap.size wc V->Calls Tryz.prog 105 #[.slice v5a 5 v5c] V λe w'=>∃v,e=.returned v/\OwnB w' V.heap.size v (marked (head k n))/\Below V.heap.size V w'):=jq (λV hV=>by
   obtain⟨a',c',e',_,hL',_,_⟩:=own_shape HO5.out;cases e';exact mark02_any v5a v5c (head k n) V (hL'.later hV) (by show 5<=_;decide))
  have HM2F:Hid (∀V:World,Below W1.heap.size W1 V->Calls Tryz.prog 105 #[.slice a n cp] V λe w'=>∃v,e=.returned v/\OwnB w' V.heap.size v (marked b)/\Below V.heap.size V w'):=jq (λV hV=>by
   have:=mark02_any a cp b V (HL.out.later hV) (by omega);rw[<-HN.out]at this;exact this)
  have HBX5:=jq hbx5;clear hbx5 x0 x1 x0a x1a HF hw1
  go_wp2_with fail
  go_region_law ((first|(go_simp;go_at_call 105;refine(HM2F.out _ (HB5.out.trans (HB6.out.mono HB5.out.size))).mono ?_;rintro e w7 ⟨v7,rfl,hO7,hB7⟩;obtain⟨v7a,v7c,rfl,_,hL7,-⟩:=own_shape hO7;have hO67:=own_later HO6.out hB7;have hB57:=HB6.out.trans (hB7.mono HB6.out.size);obtain⟨v8,w8,hr8,hO8,hg8⟩:=run_append_bytes w7 27 _ _ hO67 v7a v7c (marked b) hL7 (by rw[hm9,HMB.out];have:=HN.out;omega) hB57.size;have hB8:=hB57.grown hg8 hB57.size (λq hq=>(hO67.lt q hq).1);obtain⟨v8a,v8c,rfl,-⟩:=own_shape hO8;have HO8:=jq hO8;have HB8:=jq hB8;rw[hm9,HMB.out]at hr8;rw[HMB.out];clear hO7 hB7 hL7 hO67 hB57 hO8 hg8 hB8;dsimp only)|(go_simp;go_at_call 105;refine(HM1F.out _ (Below.refl wc.heap.size wc).drew).mono ?_;rintro e w6 ⟨v6,rfl,hO6,hB6⟩;have hB6':=(Below.refl wc.heap.size wc).drew.trans hB6;obtain⟨v6a,v6c,rfl,-⟩:=own_shape hO6;have hbx6:=HBX5.out.below hB6' HBX5.out.lt;have k1:=hbx6.cell 1;simp at k1;have HO6:=jq hO6;have HB6:=jq hB6';rw[hm9];clear hO6 hB6 hB6' hbx6;dsimp only)|(refine step_append_run rfl (.tmp 14) (.tmp 17) 27 27 rfl _ _ rfl rfl hr8 ?_)))
  all_goals
   go_wp2_with fail
   go_ret
   have hB:=HB5.out.trans (HB8.out.mono HB5.out.size);refine⟨.slice v8a (marked (head k n)++marked b).length v8c,by rw[jL,hm9];rfl,?_,HB1.out.trans (hB.mono HB1.out.size)⟩;have:=own_mono HO8.out (Nat.le_trans HB1.out.size HB5.out.size);unfold frameL;rw[<-HN.out];exact this
end RefD
end Go.Proofs.YtfgjnpbffppocaaGreatDoor
