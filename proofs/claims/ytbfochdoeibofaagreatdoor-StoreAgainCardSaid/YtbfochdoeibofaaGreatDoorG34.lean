/- A part of the proof. -/
import Derived.Test.YtbfochdoeibofaaGreatDoorG0
import Derived.Test.YtbfochdoeibofaaGreatDoorG0H
import Derived.Test.YtbfochdoeibofaaGreatDoorG0Q
import Derived.Test.YtbfochdoeibofaaGreatDoorG4
import Derived.Test.YtbfochdoeibofaaGreatDoorG31
import Derived.Test.YtbfochdoeibofaaGreatDoorG32
import Derived.Test.YtbfochdoeibofaaGreatDoorG33
import Derived.Deep.DeepCutAuto
set_option maxHeartbeats 4000000
set_option maxRecDepth 200000
namespace Go.Proofs.YtbfochdoeibofaaGreatDoor
namespace RefD
open Go.RowKit Go.Deep Mem Crc Full Mani Go.Proofs.YtbfochdoeibofaaGreatDoor.Frame
theorem ownK (V0:World) {base:Nat} (k:UInt8) (kd:Nat) (hk:kd=k.toNat) (hb:base<=V0.heap.size):OwnB (V0.alloc (.cells #[.int .u8 (kd:Int)] 5)) base (.slice (some ⟨V0.heap.size,0,none⟩) 1 1) [k]:=by
 have h:=World.ownsRow_lit (e:=5) (size:=1) (base:=base) V0 #[bv k] 1 hb (by decide) (by simp);rw[hk];exact h
theorem appK (w4:World) {base p:Nat} {k:UInt8} (ty:TypeId) (hp:OwnB w4 base (.slice (some ⟨p,0,none⟩) 1 1) [k]) {a:Option Addr} {c:Nat} {l:List UInt8} (hL:Lies w4 a (l.map bv)) (hl:l.length<=1000000) (hb:base<=w4.heap.size):
  ∃v5 w5,(Builtin.append_ #[22,22] ty #[.slice (some ⟨p,0,none⟩) 1 1,.slice a l.length c]).run Tryz.prog w4=.ok v5 w5/\OwnB w5 base v5 (k ::l)/\Below base w4 w5:=by
 obtain⟨v5,w5,hr,hO,hg⟩:=run_append_bytes w4 ty _ _ hp a c l hL (by simp;omega) hb;exact⟨v5,w5,hr,hO,(Below.refl _ w4).grown hg hb (λq hq=>(hp.lt q hq).1)⟩
attribute [local go_sem] Oper.semAt_some
theorem put5_any (k:UInt8) (a:Option Addr) (cp:Nat) (b:List UInt8) (w:World) (h:Lies w a (b.map bv)) (hb:b.length<=1000000):
  Calls Tryz.prog 129 #[.agg #[bv k,.slice a b.length cp]] w λe w'=>∃v,e=.returned v/\OwnB w' w.heap.size v (frameL k b)/\Below w.heap.size w w':=by
 obtain⟨n,hn⟩:=jl b.length;obtain⟨kd,hkd⟩:=jl k.toNat;have hbk:bv k=.int .u8 (kd:Int):=by rw[hkd];rfl
 rw[<-hn,hbk];obtain⟨W1,hW1⟩:=jl (w.alloc (.cells #[.int .u8 (kd:Int),.slice a n cp] 155));obtain⟨sb,hsb⟩:=jl w.heap.size;have hB1:Below w.heap.size w W1:=by rw[hW1];exact(Below.refl _ w).alloc jn _
 have hbx:Blk W1 sb 155 #[.int .u8 (kd:Int),.slice a n cp]:=by rw[hW1,hsb];exact Blk.new w _ _
 have x0:=hbx.cell 0;have x1:=hbx.cell 1
 simp at x0 x1
 have hba:Below W1.heap.size W1 (W1.alloc (.cells #[.int .u8 (kd:Int)] 5)):=(Below.refl _ _).alloc jn _;have x0a:=(hbx.below hba hbx.lt).cell 0;have x1a:=(hbx.below hba hbx.lt).cell 1
 simp at x0a x1a
 have hw1:IntKind.u32.wrap (n:Int)=(n:Int):=by rw[IntKind.wrap_u32];omega
 have HF:Hid (∀V:World,Calls Tryz.prog 157 #[.int .u32 (n:Int)] V λe w'=>∃v,e=.returned v/\OwnB w' V.heap.size v (four n)/\Below V.heap.size V w'):=jq (λV=>four02_any n (by omega) V);have HL:=jq (h.later hB1);have HN:=jq hn;have HKD:=jq hkd;have HB1:=jq hB1;have HBX:=jq hbx;have h4: (four n).length=4:=rfl;clear h hn hkd hB1 hbx hbk hba
 go_enter Tryz.func129,Tryz.ntmps129
 go_wp2_with fail
 rw[<-hW1,<-hsb];clear hW1 hsb
 go_cut[3] (λx3 wx=>∃(v5a:Option Addr) (v5c:Nat),x3=.slice v5a 5 v5c/\Hid (OwnB wx W1.heap.size (.slice v5a 5 v5c) (k ::four n))/\Hid (Below W1.heap.size W1 wx))
 case first=>
  go_region_law ((first|(go_simp;go_at_call 157;refine(HF.out _).mono ?_;rintro e w4 ⟨v4,rfl,hO4,hB4⟩;obtain⟨v4a,v4c,rfl,_,hL4,-⟩:=own_shape hO4;have hp:=own_later (ownK W1 k kd HKD.out jn) ((Below.refl (W1.alloc (.cells #[.int .u8 (kd:Int)] 5)).heap.size (W1.alloc (.cells #[.int .u8 (kd:Int)] 5))).drew.trans hB4);have hBw4:=(((Below.refl W1.heap.size W1).alloc jn (.cells #[.int .u8 (kd:Int)] 5)).drew).trans (hB4.mono (by simp));obtain⟨v5,w5,hr5,hO5,hB5⟩:=appK w4 22 hp (c:=v4c) hL4 (by rw[h4];decide) hBw4.size;obtain⟨v5a,v5c,rfl,-⟩:=own_shape hO5;have HO5:=jq hO5;have HB5:=jq (hBw4.trans hB5);clear hO4 hB4 hL4 hp hBw4 hO5 hB5;rw[h4]at hr5⊢;dsimp only)|(go_simp;go_at_call 157;refine(HF.out _).mono ?_;rintro e w4 ⟨v4,rfl,hO4,hB4⟩;obtain⟨v4a,v4c,rfl,_,hL4,-⟩:=own_shape hO4;have hbw:=((Below.refl W1.heap.size W1).drew).trans hB4;have hbx4:=HBX.out.below hbw HBX.out.lt;have y0:=hbx4.cell 0;have y1:=hbx4.cell 1;simp at y0 y1;have hp:=ownK w4 k kd HKD.out hbw.size;have hB4a:Below w4.heap.size w4 (w4.alloc (.cells #[.int .u8 (kd:Int)] 5)):=(Below.refl _ _).alloc jn _;have hBw4:=hbw.trans (hB4a.mono hbw.size);obtain⟨v5,w5,hr5,hO5,hB5⟩:=appK _ 22 hp (c:=v4c) (hL4.later hB4a) (by rw[h4];decide) hBw4.size;obtain⟨v5a,v5c,rfl,-⟩:=own_shape hO5;have HO5:=jq hO5;have HB5:=jq (hBw4.trans hB5);clear hO4 hB4 hL4 hp hBw4 hO5 hB5 hbx4 hbw hB4a;rw[h4]at hr5⊢;dsimp only)|(refine step_append_run rfl (.tmp 6) (.tmp 11) 22 22 rfl _ _ rfl rfl hr5 ?_)))
  all_goals go_wp2_with fail
  all_goals go_meet
  all_goals exact⟨_,_,rfl,HO5,HB5⟩
 case rest=>
  obtain⟨v5a,v5c,rfl,HO5,HB5⟩:=hcut;have hbx5:=HBX.out.below HB5.out HBX.out.lt;have t1:=hbx5.cell 1
  simp at t1
  have hm9: (marked (head k n)).length=9:=by rw[mark_length];rfl
  have HMB:Hid ((marked b).length=n+4):=jq (by rw[mark_length,HN.out])
  have HM1F:Hid (∀V:World,Below wc.heap.size wc V->Calls Tryz.prog 158 #[.slice v5a 5 v5c] V λe w'=>∃v,e=.returned v/\OwnB w' V.heap.size v (marked (head k n))/\Below V.heap.size V w'):=jq (λV hV=>by
   obtain⟨a',c',e',_,hL',_,_⟩:=own_shape HO5.out;cases e';exact mark02_any v5a v5c (head k n) V (hL'.later hV) (by show 5<=_;decide))
  have HM2F:Hid (∀V:World,Below W1.heap.size W1 V->Calls Tryz.prog 158 #[.slice a n cp] V λe w'=>∃v,e=.returned v/\OwnB w' V.heap.size v (marked b)/\Below V.heap.size V w'):=jq (λV hV=>by
   have:=mark02_any a cp b V (HL.out.later hV) (by omega);rw[<-HN.out]at this;exact this)
  have HBX5:=jq hbx5;clear hbx5 x0 x1 x0a x1a HF hw1
  go_wp2_with fail
  go_region_law ((first|(go_simp;go_at_call 158;refine(HM2F.out _ (HB5.out.trans (HB6.out.mono HB5.out.size))).mono ?_;rintro e w7 ⟨v7,rfl,hO7,hB7⟩;obtain⟨v7a,v7c,rfl,_,hL7,-⟩:=own_shape hO7;have hO67:=own_later HO6.out hB7;have hB57:=HB6.out.trans (hB7.mono HB6.out.size);obtain⟨v8,w8,hr8,hO8,hg8⟩:=run_append_bytes w7 22 _ _ hO67 v7a v7c (marked b) hL7 (by rw[hm9,HMB.out];have:=HN.out;omega) hB57.size;have hB8:=hB57.grown hg8 hB57.size (λq hq=>(hO67.lt q hq).1);obtain⟨v8a,v8c,rfl,-⟩:=own_shape hO8;have HO8:=jq hO8;have HB8:=jq hB8;rw[hm9,HMB.out]at hr8;rw[HMB.out];clear hO7 hB7 hL7 hO67 hB57 hO8 hg8 hB8;dsimp only)|(go_simp;go_at_call 158;refine(HM1F.out _ (Below.refl wc.heap.size wc).drew).mono ?_;rintro e w6 ⟨v6,rfl,hO6,hB6⟩;have hB6':=(Below.refl wc.heap.size wc).drew.trans hB6;obtain⟨v6a,v6c,rfl,-⟩:=own_shape hO6;have hbx6:=HBX5.out.below hB6' HBX5.out.lt;have k1:=hbx6.cell 1;simp at k1;have HO6:=jq hO6;have HB6:=jq hB6';rw[hm9];clear hO6 hB6 hB6' hbx6;dsimp only)|(refine step_append_run rfl (.tmp 14) (.tmp 17) 22 22 rfl _ _ rfl rfl hr8 ?_)))
  all_goals
   go_wp2_with fail
   go_ret
   have hB:=HB5.out.trans (HB8.out.mono HB5.out.size);refine⟨.slice v8a (marked (head k n)++marked b).length v8c,by rw[jL,hm9];rfl,?_,HB1.out.trans (hB.mono HB1.out.size)⟩;have:=own_mono HO8.out (Nat.le_trans HB1.out.size HB5.out.size);unfold frameL;rw[<-HN.out];exact this
end RefD
namespace RefD
open Go.RowKit Go.Deep Mem Crc Full Mani Go.Proofs.YtbfochdoeibofaaGreatDoor.Frame
theorem zeros_snoc (xs:List UInt8) (k:Nat): (xs++List.replicate k 0)++ [0]=xs++List.replicate (k+1) 0:=by
 rw[List.append_assoc,List.replicate_succ']
attribute [local go_sem] Oper.semAt_some
theorem put9_any (ver next:Nat) (a:Option Addr) (c:Nat) (l:List FR) (w:World) (h:FilesIn w a l) (hv:ver<18446744073709551616) (hn:next<4294967296) (hf:∀x∈l,x.f.fits) (hm: (bodyL ver next (l.map FR.f)).length<=2035) (hl:l.length<=1000000):
  Calls Tryz.prog 95 #[.agg #[.int .u64 (ver:Int),.int .u32 (next:Int),.slice a l.length c]] w λe w'=>∃v,e=.returned v/\OwnB w' w.heap.size v (manL ver next (l.map FR.f))/\Below w.heap.size w w':=by
 obtain⟨n,hnl⟩:=jl l.length;obtain⟨W1,hW1⟩:=jl (w.alloc (.cells #[.int .u64 (ver:Int),.int .u32 (next:Int),.slice a n c] 34));have hB1:Below w.heap.size w W1:=by rw[hW1];exact(Below.refl _ w).alloc jn _
 obtain⟨body,hbody⟩:=jl (bodyL ver next (l.map FR.f));have hbd:=RefF.body09_any ver next a c l W1 (h.later hB1) hv hn hf (by omega) hl;rw[<-hbody]at hm;rw[<-hbody,<-hnl]at hbd;have hman:manL ver next (l.map FR.f)=frameL 77 body++List.replicate (2035-body.length) 0:=by rw[hbody];rfl
 rw[hman,<-hnl];obtain⟨bl,hbl⟩:=jl body.length;have hfl: (frameL 77 body).length=bl+13:=by rw[frameL_length,hbl]
 obtain⟨fr,hfr⟩:=jl (frameL 77 body);rw[<-hbl,<-hfr];rw[<-hfr]at hfl;rw[<-hbl]at hm;have HBD:=jq hbd;have HB1:=jq hB1;have HFL:=jq hfl;have HFR:=jq hfr;have HBL:=jq hbl;clear h hv hn hf hl hnl hB1 hbody hbd hman hbl hfl hfr
 go_enter Tryz.func95,Tryz.ntmps95
 go_wp2_with fail
 rw[<-hW1];clear hW1;refine HBD.out.mono ?_;rintro e w2 ⟨v2,rfl,hO2,hB2⟩;obtain⟨v2a,v2c,rfl,_,hL2,-⟩:=own_shape hO2;have hp:=put5_any 77 v2a v2c body w2 hL2 (by rw[<-HBL.out];omega);rw[<-HFR.out,<-HBL.out]at hp;have HP:Hid (Calls Tryz.prog 129 #[.agg #[.int .u8 77,.slice v2a bl v2c]] w2 λe w'=>∃v,e=.returned v/\OwnB w' w2.heap.size v fr/\Below w2.heap.size w2 w'):=jq hp;have HB2:=jq (HB1.out.trans (hB2.mono HB1.out.size));rw[<-HBL.out];clear hO2 hB2 hL2 hp
 go_wp2_with fail
 refine HP.out.mono ?_;rintro e w3 ⟨v3,rfl,hO3,hB3⟩;obtain⟨v3a,v3c,rfl,-⟩:=own_shape hO3
 have HO3:Hid (OwnB w3 w.heap.size (.slice v3a fr.length v3c) (fr++List.replicate 0 0)):=jq (by
  rw[List.replicate_zero,List.append_nil];exact own_mono hO3 HB2.out.size)
 have HB3:=jq (HB2.out.trans (hB3.mono HB2.out.size));rw[HFL.out]at HO3⊢;clear hO3 hB3 HP HBD
 go_wp2_with fail
 have HO4:Hid (OwnB w3 w.heap.size (.slice v3a (bl+13) v3c) (fr++List.replicate (bl+13-(bl+13)) 0)):=by rw[Nat.sub_self];exact HO3
 go_loopw[3] (λx wr=>∃(L:Nat) (xa:Option Addr) (xc:Nat),bl+13<=L/\L<=2048/\x=.slice xa L xc/\Hid (OwnB wr w.heap.size (.slice xa L xc) (fr++List.replicate (L-(bl+13)) 0))/\Hid (Below w.heap.size w wr)) (λx _=>match x with|.slice _ n _=>2048-n|_=>0)
 case atStart=>exact⟨bl+13,v3a,v3c,Nat.le_refl _,by omega,rfl,HO4,HB3⟩
 case round=>
  obtain⟨L,xa,xc,hL1,hL2,rfl,HO,HB⟩:=hrel
  by_cases hlt:L<2048
  ·have hd:decide ((L:Int) <2048)=true:=jd (by omega);have hBa:Below wr.heap.size wr (wr.alloc (.cells #[.int .u8 0] 5)):=(Below.refl _ wr).alloc jn _;have hlen: (fr++List.replicate (L-(bl+13)) (0:UInt8)).length=L:=by rw[jL,List.length_replicate,HFL.out];omega
   have hBw:=HB.out.trans (hBa.mono HB.out.size);obtain⟨v5,w5,hr5,hO5,hg5⟩:=run_append_bytes (wr.alloc (.cells #[.int .u8 0] 5)) 22 _ _ (own_later HO.out hBa) (some ⟨wr.heap.size,0,none⟩) 1 [0] (new_lies wr 5 #[.int .u8 0]) (by rw[hlen];simp;omega) hBw.size;have hB5:=hBw.grown hg5 hBw.size (λq hq=>((own_later HO.out hBa).lt q hq).1);obtain⟨v5a,v5c,rfl,-⟩:=own_shape hO5;have e5:fr++List.replicate (L-(bl+13)) 0++ [0]=fr++List.replicate (L+1-(bl+13)) 0:=by rw[zeros_snoc,show L-(bl+13)+1=L+1-(bl+13)by omega]
   have h5l: (fr++List.replicate (L-(bl+13)) 0++ [(0:UInt8)]).length=L+1:=by rw[jL,hlen];rfl
   rw[h5l]at hr5 hO5;rw[e5]at hO5;have hr6: (Builtin.append_ #[22,22] 22 #[.slice xa L xc,.slice (some ⟨wr.heap.size,0,none⟩) 1 1]).run Tryz.prog (wr.alloc (.cells #[.int .u8 0] 5))=.ok (.slice v5a (L+1) v5c) w5:=hr5;have HO5:=jq hO5;have HB5:=jq hB5;clear hr5 hO5 hg5 hB5 hBw hlen hBa e5 h5l hlt
   go_wp2_with (first|(at_builtin;refine Lib.wpList_append_run _ rfl _ _ _ _ rfl _ _ rfl rfl _ _ hr6 ?_))
   exact⟨⟨L+1,v5a,v5c,by omega,by have:=of_decide_eq_true hd;omega,rfl,HO5,HB5⟩,by have:=of_decide_eq_true hd;dsimp only;omega⟩
  ·obtain rfl:L=2048:=by omega
   have hd:decide ((2048:Int) <2048)=false:=rfl
   go_wp2_with fail
   go_ret
   exact⟨_,rfl,by have:=HO.out;rw[show 2048-(bl+13)=2035-bl by omega]at this;exact this,HB.out⟩
end RefD
namespace RefD
open Go.RowKit Go.Deep Mem Crc Full Mani Go.Proofs.YtbfochdoeibofaaGreatDoor.Frame Go.Proofs.YtbfochdoeibofaaGreatDoor.Read
open Store (nv)
def MixedAns (sl ab ml:List UInt8) (w:World) (e:Ending) (w':World):Prop:=∃r:Bool,e=.returned (.bool r)/\Below w.heap.size w w'/\(r=false->(getS sl).isSome=true->sl=ab\/sl=ml)
theorem MixedAns.of {sl ab ml:List UInt8} {w w':World} (r:Bool) (hB:Below w.heap.size w w') (h:r=false->(getS sl).isSome=true->sl=ab\/sl=ml):MixedAns sl ab ml w (.returned (.bool r)) w':=⟨r,rfl,hB,h⟩
attribute [local go_sem] Oper.semAt_some RefF.neq_str
theorem mixed9_any (a:Option Addr) (cp:Nat) (bl:List (List UInt8)) (n:Nat) (hn:n<2) (ab:List UInt8) (sa:ByteArray) (hsa:nv ab=.string sa) (ver next:Nat) (fa:Option Addr) (fc:Nat) (l:List FR) (w:World)
  (h:Lies w a (flatW (madeL bl))) (h33:33<=bl.length) (hb2:bl.length<=65536) (hlen:∀b∈bl,b.length=128) (hsl: (Man.slotB bl n).length=2048)
  (hF:FilesIn w fa l) (hv:ver<18446744073709551616) (hnx:next<4294967296) (hf:∀x∈l,x.f.fits) (hm: (bodyL ver next (l.map FR.f)).length<=2035) (hl:l.length<=1000000):
  Calls Tryz.prog 63 #[DV bl.length (.slice a 32 cp),.int .i64 (n:Int),.string sa,.agg #[.int .u64 (ver:Int),.int .u32 (next:Int),.slice fa l.length fc]] w (MixedAns (Man.slotB bl n) ab (manL ver next (l.map FR.f)) w):=by
 obtain⟨ml,hml⟩:=jl (manL ver next (l.map FR.f));obtain⟨sl,hslb⟩:=jl (Man.slotB bl n);obtain⟨ln,hln⟩:=jl l.length;obtain⟨nb,hnb⟩:=jl bl.length;obtain⟨W1,hW1⟩:=jl ((w.alloc (.cells #[.int .i64 (nb:Int),.bool false,.int .i64 (-1),.slice a 32 cp,.slice none 0 0] 74)).alloc (.cells #[.int .u64 (ver:Int),.int .u32 (next:Int),.slice fa ln fc] 34));have hB1:Below w.heap.size w W1:=by rw[hW1];exact((Below.refl _ w).alloc jn _).alloc (by simp) _
 obtain⟨db,hdb⟩:=jl w.heap.size;obtain⟨mb,hmb⟩:=jl (w.heap.size+1)
 have hdk:Blk W1 db 74 #[.int .i64 (nb:Int),.bool false,.int .i64 (-1),.slice a 32 cp,.slice none 0 0]:=by
  rw[hW1,hdb];exact(Blk.new w _ _).below ((Below.refl _ _).alloc jn _) (by simp)
 have hmk:Blk W1 mb 34 #[.int .u64 (ver:Int),.int .u32 (next:Int),.slice fa ln fc]:=by
  rw[hW1,hmb];have h:=Blk.new (w.alloc (.cells #[.int .i64 (nb:Int),.bool false,.int .i64 (-1),.slice a 32 cp,.slice none 0 0] 74)) 34 #[.int .u64 (ver:Int),.int .u32 (next:Int),.slice fa ln fc]
  simpa using h
 have d0:=hdk.cell 0;have d1:=hdk.cell 1;have d2:=hdk.cell 2;have d3:=hdk.cell 3;have d4:=hdk.cell 4
 simp at d0 d1 d2 d3 d4
 have hS:=slot9_any a cp bl n hn W1 (h.later hB1) h33 hb2 hlen;unfold DV at hS⊢;rw[<-hslb,<-hnb]at hS;rw[<-hslb]at hsl;rw[<-hslb,<-hml,<-hln,<-hnb]
 have HPUT:Hid (∀V:World,Below W1.heap.size W1 V->Calls Tryz.prog 95 #[.agg #[.int .u64 (ver:Int),.int .u32 (next:Int),.slice fa ln fc]] V λe w'=>∃v,e=.returned v/\OwnB w' V.heap.size v ml/\Below V.heap.size V w'):=jq (λV hV=>by
  have:=put9_any ver next fa fc l V ((hF.later hB1).later hV) hv hnx hf hm hl;rw[<-hln,<-hml]at this;exact this)
 have HMLL:Hid (ml.length=2048):=jq (by rw[hml];unfold Mani.manL;rw[jL,List.length_replicate,frameL_length];omega);have HS:=jq hS;have HSL:=jq hsl;have HB1:=jq hB1;have HMK:=jq hmk;have HSA:=jq hsa;rw[hW1,hdb]at d0 d1 d2 d3 d4;clear h h33 hb2 hlen hsl hF hv hnx hf hm hl hml hslb hln hnb hB1 hdk hmk hS hsa hn
 go_enter Tryz.func63,Tryz.ntmps63
 go_wp2_with fail
 rw[<-hW1,<-hmb,<-hdb];clear hW1 hmb hdb d0 d1 d2 d3 d4;refine HS.out.mono ?_;rintro e w2 ⟨v2,rfl,hO2,hB2⟩;obtain⟨va,vc,rfl,hvc,hL2,-⟩:=own_shape hO2;have hg:=get9_any va vc sl w2 hL2 hvc (by rw[HSL.out];decide);rw[HSL.out]at hg hvc;have HG:=jq hg;have HL2:=jq hL2;have HB2:=jq hB2;rw[HSL.out];clear hO2 hL2 hg hB2 HS
 go_wp2_with fail
 refine HG.out.mono ?_;rintro e w3 ⟨hB3,ok,ga,gc,gv,gn,gl,rfl,-,-,-,-,hok⟩;have hgs:ok=false->(getS sl).isSome=true->False:=λh1 h2=>by rw[hok.2 h2]at h1;cases h1
 have HGS:=jq hgs;obtain⟨glen,hgl⟩:=jl gl.length;rw[<-hgl];obtain⟨W4,hW4⟩:=jl (w3.alloc (.cells #[.int .u64 (gv:Int),.int .u32 (gn:Int),.slice ga glen gc] 34));have hB34:Below w3.heap.size w3 W4:=by rw[hW4];exact(Below.refl _ w3).alloc jn _
 have hB24:Below w2.heap.size w2 W4:=hB3.trans (hB34.mono hB3.size);have hB14:Below W1.heap.size W1 W4:=HB2.out.trans (hB24.mono HB2.out.size);have HB24:=jq hB24;have HB14:=jq hB14;have hmk4:=HMK.out.below hB14 HMK.out.lt;have m0:=hmk4.cell 0;have m1:=hmk4.cell 1;have m2:=hmk4.cell 2
 simp at m0 m1 m2
 rw[hW4]at m0 m1 m2;obtain⟨sb,hsb⟩:∃s:ByteArray,nv sl=.string s:=⟨_,rfl⟩
 have hcb:∀V:World,Below w2.heap.size w2 V->(convert 22 9 (.slice va 2048 vc)).run Tryz.prog V=.ok (.string sb) V:=λV hV=>by
  have h:=conv_any (vc:=vc) (HL2.out.later hV);rw[hsb,HSL.out]at h;exact h
 have hbq: (sb.toList==sa.toList)=(sl==ab):=RefF.str_beq hsb HSA.out;obtain⟨q,hq⟩:∃q:Bool,(sb.toList==sa.toList)=q:=⟨_,rfl⟩;have k0:=hcb _ (hB24.drew);have HK0:=jq k0;have HCB:=jq hcb;have HSB:=jq hsb;have HBQ:Hid (q=true->sl=ab):=jq (λh=>by rw[hq,h]at hbq;simpa using hbq.symm);have HEND:=jq (HB1.out.trans ((HB14.out.drew).mono HB1.out.size));rw[hW4]at k0;clear hgs hgl hB34 hB24 hB14 hmk4 hsb hcb hbq hok hB3 HG HMK HSA;cases ok
 ·clear k0 m0 m1 m2
  go_wp2_with fail
  rw[<-hW4];clear hW4
  go_quiet (fail)
  go_wp2_with fail
  go_ret
  exact MixedAns.of false (below_drewN (HB1.out.trans (HB14.out.mono HB1.out.size)) _) (λ_ h=>(HGS.out (by trivial) h).elim)
 ·cases q
  ·go_wp2_with fail
   rw[<-hW4]at m0 m1 m2 k0⊢;clear hW4;obtain⟨sm,hsm⟩:∃s:ByteArray,nv ml=.string s:=⟨_,rfl⟩;have HSM:=jq hsm;have hbq2: (sb.toList==sm.toList)=(sl==ml):=RefF.str_beq HSB.out hsm;obtain⟨q2,hq2⟩:∃q:Bool,(sb.toList==sm.toList)=q:=⟨_,rfl⟩;have HBQ2:Hid (q2=true->sl=ml):=jq (λh=>by rw[hq2,h]at hbq2;simpa using hbq2.symm);clear hsm hbq2
   go_region_law ((first|(go_simp;go_at_call 95;refine(HPUT.out _ HB14.out.drew).mono ?_;rintro e w5 ⟨v5,rfl,hO5,hB5⟩;obtain⟨v5a,v5c,rfl,_,hL5,-⟩:=own_shape hO5;have hB5':=(Below.refl W4.heap.size W4).drew.trans hB5;have k1:=HCB.out w5 (HB24.out.trans (hB5'.mono HB24.out.size));have k2:=conv_any (vc:=v5c) hL5;rw[HSM.out,HMLL.out]at k2;rw[HMLL.out];have HB5:=jq hB5';clear hO5 hB5 hB5' hL5;dsimp only)))
   all_goals have HE5:=jq (HB1.out.trans ((HB14.out.trans (HB5.out.mono HB14.out.size)).mono HB1.out.size))
   all_goals cases q2
   all_goals go_wp2_with fail
   all_goals go_ret
   all_goals first
    |exact MixedAns.of false HE5.out (λ_ _=>.inr (HBQ2.out (by trivial)))
    |exact MixedAns.of true HE5.out (λh=>(by cases h))
  ·clear m0 m1 m2
   go_wp2_with fail
   rw[<-hW4]at k0⊢;clear hW4;have kN:∀n':Nat,(convert 22 9 (.slice va 2048 vc)).run Tryz.prog (W4.drewN n')=.ok (.string sb) (W4.drewN n'):=λn'=>HCB.out _ (below_drewN HB24.out n')
   clear k0
   go_quiet (fail)
   go_wp2_with fail
   go_ret
   exact MixedAns.of false (below_drewN (HB1.out.trans (HB14.out.mono HB1.out.size)) _) (λ_ _=>.inl (HBQ.out (by trivial)))
end RefD
namespace RefD
open Go.RowKit Go.Deep Mem Crc Full Mani Go.Proofs.YtbfochdoeibofaaGreatDoor.Frame Go.Proofs.YtbfochdoeibofaaGreatDoor.Read Dk
open Store (nv)
def Mixed2 (bl bw:List (List UInt8)) (ml:List UInt8) (w:World) (e:Ending) (w':World):Prop:=∃r:Bool,e=.returned (.bool r)/\Below w.heap.size w w'/\(r=false->∀n,n<2->(getS (Man.slotB bl n)).isSome=true->Man.slotB bl n=Man.slotB bw n\/Man.slotB bl n=ml)
theorem Mixed2.of {bl bw:List (List UInt8)} {ml:List UInt8} {w w':World} (r:Bool) (hB:Below w.heap.size w w') (h:r=false->∀n,n<2->(getS (Man.slotB bl n)).isSome=true->Man.slotB bl n=Man.slotB bw n\/Man.slotB bl n=ml):Mixed2 bl bw ml w (.returned (.bool r)) w':=⟨r,rfl,hB,h⟩
attribute [local go_sem] Oper.semAt_some
theorem mixed10_any {d g:Nat} {m:DM} {w:World} (h:Dk w d g (.slice none 0 0) m) (hoff:m.off=false) (h33:33<=m.bl.length) (hb2:m.bl.length<=65536) (hlen:∀b∈m.bl,b.length=128)
  (a:Option Addr) (cp:Nat) (bw:List (List UInt8)) (hw:Lies w a (flatW (madeL bw))) (hw33:33<=bw.length) (hwb2:bw.length<=65536) (hwlen:∀b∈bw,b.length=128)
  (ver next:Nat) (fa:Option Addr) (fc:Nat) (l:List FR) (hF:FilesIn w fa l) (hv:ver<18446744073709551616) (hnx:next<4294967296) (hf:∀x∈l,x.f.fits) (hm: (bodyL ver next (l.map FR.f)).length<=2035) (hl:l.length<=1000000):
  Calls Tryz.prog 34 #[.pointer (some ⟨d,0,none⟩),DV bw.length (.slice a 32 cp),.agg #[.int .u64 (ver:Int),.int .u32 (next:Int),.slice fa l.length fc]] w (Mixed2 m.bl bw (manL ver next (l.map FR.f)) w):=by
 obtain⟨ln,hln⟩:=jl l.length;obtain⟨nb,hnb⟩:=jl bw.length;obtain⟨W1,hW1⟩:=jl ((w.alloc (.cells #[.int .i64 (nb:Int),.bool false,.int .i64 (-1),.slice a 32 cp,.slice none 0 0] 74)).alloc (.cells #[.int .u64 (ver:Int),.int .u32 (next:Int),.slice fa ln fc] 34));have hB1:Below w.heap.size w W1:=by rw[hW1];exact((Below.refl _ w).alloc jn _).alloc (by simp) _
 obtain⟨db,hdb⟩:=jl w.heap.size;obtain⟨mb,hmb⟩:=jl (w.heap.size+1)
 have hdk:Blk W1 db 74 #[.int .i64 (nb:Int),.bool false,.int .i64 (-1),.slice a 32 cp,.slice none 0 0]:=by
  rw[hW1,hdb];exact(Blk.new w _ _).below ((Below.refl _ _).alloc jn _) (by simp)
 have hmk:Blk W1 mb 34 #[.int .u64 (ver:Int),.int .u32 (next:Int),.slice fa ln fc]:=by
  rw[hW1,hmb];have h:=Blk.new (w.alloc (.cells #[.int .i64 (nb:Int),.bool false,.int .i64 (-1),.slice a 32 cp,.slice none 0 0] 74)) 34 #[.int .u64 (ver:Int),.int .u32 (next:Int),.slice fa ln fc]
  simpa using h
 have hS:=slots_any (h.later hB1) hoff h33;unfold DV at hS⊢;obtain⟨nm,hnm⟩:=jl m.bl.length;rw[<-hnm]at hS;rw[<-hln,<-hnb];have HS:=jq hS;have HB1:=jq hB1;have HDK:=jq hdk;have HMK:=jq hmk
 have HSLOT:Hid (∀(V:World) (k:Nat),Below w.heap.size w V->k<2->Calls Tryz.prog 64 #[.agg #[.int .i64 (nb:Int),.bool false,.int .i64 (-1),.slice a 32 cp,.slice none 0 0],.int .i64 (k:Int)] V λe w'=>∃v,e=.returned v/\OwnB w' V.heap.size v (Man.slotB bw k)/\Below V.heap.size V w'):=jq (λV k hV hk=>by
  have:=slot9_any a cp bw k hk V (hw.later hV) hw33 hwb2 hwlen;unfold DV at this;rw[<-hnb]at this;exact this)
 have HMIX:Hid (∀(V:World) (k:Nat) (ka:Option Addr) (kc:Nat) (sa:ByteArray),Below w.heap.size w V->Lies V ka (flatW (madeL m.bl))->k<2->nv (Man.slotB bw k)=.string sa->Calls Tryz.prog 63 #[.agg #[.int .i64 (nm:Int),.bool false,.int .i64 (-1),.slice ka 32 kc,.slice none 0 0],.int .i64 (k:Int),.string sa,.agg #[.int .u64 (ver:Int),.int .u32 (next:Int),.slice fa ln fc]] V (MixedAns (Man.slotB m.bl k) (Man.slotB bw k) (manL ver next (l.map FR.f)) V)):=jq (λV k ka kc sa hV hL hk hsa=>by
  have:=mixed9_any ka kc m.bl k hk (Man.slotB bw k) sa hsa ver next fa fc l V hL h33 hb2 hlen (Man.slotB_length hlen hk h33) (hF.later hV) hv hnx hf hm hl;unfold DV at this;rw[<-hnm,<-hln]at this;exact this)
 clear h hoff h33 hb2 hlen hw hw33 hwb2 hwlen hF hv hnx hf hm hl hln hnb hB1 hdk hmk hS hnm
 go_enter Tryz.func34,Tryz.ntmps34
 go_wp2_with fail
 rw[<-hW1,<-hmb,<-hdb];clear hW1 hmb hdb;refine HS.out.mono ?_;rintro e w2 ⟨v2,rfl,hO2,hB2⟩;obtain⟨ka,kc,rfl,_,hkL,-⟩:=own_shape hO2;obtain⟨W3,hW3⟩:=jl (w2.alloc (.cells #[.int .i64 (nm:Int),.bool false,.int .i64 (-1),.slice ka 32 kc,.slice none 0 0] 74));obtain⟨kb,hkb⟩:=jl w2.heap.size;have hB23:Below w2.heap.size w2 W3:=by rw[hW3];exact(Below.refl _ w2).alloc jn _
 have hB13:Below W1.heap.size W1 W3:=hB2.trans (hB23.mono hB2.size);have hkk:Blk W3 kb 74 #[.int .i64 (nm:Int),.bool false,.int .i64 (-1),.slice ka 32 kc,.slice none 0 0]:=by rw[hW3,hkb];exact Blk.new w2 _ _
 have hdk3:=HDK.out.below hB13 HDK.out.lt;have hmk3:=HMK.out.below hB13 HMK.out.lt;have HKK:=jq hkk;have HDK3:=jq hdk3;have HMK3:=jq hmk3;have HKL:=jq (hkL.later hB23);have HB03:Hid (Below w.heap.size w W3):=jq (HB1.out.trans (hB13.mono HB1.out.size))
 have HCELLS:Hid (∀V:World,Below W3.heap.size W3 V->(V.cell? ⟨db,0,none⟩=some (.int .i64 (nb:Int))/\V.cell? ⟨db,1,none⟩=some (.bool false)/\V.cell? ⟨db,2,none⟩=some (.int .i64 (-1))/\V.cell? ⟨db,3,none⟩=some (.slice a 32 cp)/\V.cell? ⟨db,4,none⟩=some (.slice none 0 0))/\(V.cell? ⟨kb,0,none⟩=some (.int .i64 (nm:Int))/\V.cell? ⟨kb,1,none⟩=some (.bool false)/\V.cell? ⟨kb,2,none⟩=some (.int .i64 (-1))/\V.cell? ⟨kb,3,none⟩=some (.slice ka 32 kc)/\V.cell? ⟨kb,4,none⟩=some (.slice none 0 0))/\V.cell? ⟨mb,0,none⟩=some (.int .u64 (ver:Int))/\V.cell? ⟨mb,1,none⟩=some (.int .u32 (next:Int))/\V.cell? ⟨mb,2,none⟩=some (.slice fa ln fc)):=jq (λV hV=>by
  have h1:=HDK3.out.below hV HDK3.out.lt;have h2:=HKK.out.below hV HKK.out.lt;have h3:=HMK3.out.below hV HMK3.out.lt;exact⟨⟨h1.cell 0,h1.cell 1,h1.cell 2,h1.cell 3,h1.cell 4⟩,⟨h2.cell 0,h2.cell 1,h2.cell 2,h2.cell 3,h2.cell 4⟩,h3.cell 0,h3.cell 1,h3.cell 2⟩)
 obtain⟨⟨d0,d1,d2,d3,d4⟩,⟨c0,c1,c2,c3,c4⟩,m0,m1,m2⟩:=HCELLS.out W3 (Below.refl _ _);obtain⟨s0,hs0⟩:∃s:ByteArray,nv (Man.slotB bw 0)=.string s:=⟨_,rfl⟩;obtain⟨s1,hs1⟩:∃s:ByteArray,nv (Man.slotB bw 1)=.string s:=⟨_,rfl⟩;obtain⟨L0,hL0⟩:=jl ((Man.slotB bw 0).length);obtain⟨L1,hL1⟩:=jl ((Man.slotB bw 1).length);have HS0:=jq hs0;have HS1:=jq hs1;have HL0:=jq hL0;have HL1:=jq hL1;clear hO2 hB2 hkL hB23 hB13 hkk hdk3 hmk3 hs0 hs1 hL0 hL1 HS
 go_wp2_with fail
 rw[<-hW3,<-hkb];clear hW3 hkb;have hS0: (W3.cell? ⟨db,0,none⟩=some (.int .i64 (nb:Int))/\W3.cell? ⟨db,1,none⟩=some (.bool false)/\W3.cell? ⟨db,2,none⟩=some (.int .i64 (-1))/\W3.cell? ⟨db,3,none⟩=some (.slice a 32 cp)/\W3.cell? ⟨db,4,none⟩=some (.slice none 0 0))/\(W3.cell? ⟨kb,0,none⟩=some (.int .i64 (nm:Int))/\W3.cell? ⟨kb,1,none⟩=some (.bool false)/\W3.cell? ⟨kb,2,none⟩=some (.int .i64 (-1))/\W3.cell? ⟨kb,3,none⟩=some (.slice ka 32 kc)/\W3.cell? ⟨kb,4,none⟩=some (.slice none 0 0))/\W3.cell? ⟨mb,0,none⟩=some (.int .u64 (ver:Int))/\W3.cell? ⟨mb,1,none⟩=some (.int .u32 (next:Int))/\W3.cell? ⟨mb,2,none⟩=some (.slice fa ln fc):=HCELLS.out W3 (Below.refl _ _);clear d0 d1 d2 d3 d4 c0 c1 c2 c3 c4 m0 m1 m2;refine wp_region_noPanic ?_;refine wp_region_held_drew (S:=λw'=>(w'.cell? ⟨db,0,none⟩=some (.int .i64 (nb:Int))/\w'.cell? ⟨db,1,none⟩=some (.bool false)/\w'.cell? ⟨db,2,none⟩=some (.int .i64 (-1))/\w'.cell? ⟨db,3,none⟩=some (.slice a 32 cp)/\w'.cell? ⟨db,4,none⟩=some (.slice none 0 0))/\(w'.cell? ⟨kb,0,none⟩=some (.int .i64 (nm:Int))/\w'.cell? ⟨kb,1,none⟩=some (.bool false)/\w'.cell? ⟨kb,2,none⟩=some (.int .i64 (-1))/\w'.cell? ⟨kb,3,none⟩=some (.slice ka 32 kc)/\w'.cell? ⟨kb,4,none⟩=some (.slice none 0 0))/\w'.cell? ⟨mb,0,none⟩=some (.int .u64 (ver:Int))/\w'.cell? ⟨mb,1,none⟩=some (.int .u32 (next:Int))/\w'.cell? ⟨mb,2,none⟩=some (.slice fa ln fc)) (by kernel_rfl) hS0 (λhHeld=>?_);refine' jk 0 ?_
 try simp only[Act.put,ji,js,ju]
 refine' jk 1 ?_
 try simp only[Act.put,ji,js,ju]
 refine' jk 4 ?_
 try simp only[Act.put,ji,js,ju]
 refine wpAnyH_ready (rs:=[2]) (by kernel_rfl) (by simp) ?_;refine' AllReadyH.cons (o:=?o4) ?ho4 (λK hK=>?step4) ?more4
 case ho4=>(simp only[jt,jb,ja];rfl)
 case step4=>
  go_simp
  (go_at_call 64;refine(HSLOT.out _ 0 HB03.out.drew (by decide)).mono ?_;rintro e w4 ⟨v4,rfl,hO4,hB4⟩;obtain⟨v4a,v4c,rfl,_,hL4,-⟩:=own_shape hO4;have hb4:=(Below.refl W3.heap.size W3).drew.trans hB4;have k4:=conv_any (vc:=v4c) hL4;rw[HS0.out,<-HL0.out]at k4;rw[<-HL0.out];have HB4:=jq hb4;have HC4:=jq (HCELLS.out w4 hb4);clear hO4 hB4 hL4 hb4;dsimp only)
  refine hK.out _ _ ?_ (λhHeld=>?_)
  ·exact HC4.out
  clear hK K
  try simp only[Act.put,ji,js,ju]
  refine wpAnyH_ready (rs:=[3]) (by kernel_rfl) (by simp) ?_;refine' AllReadyH.cons (o:=?o5) ?ho5 (λK hK=>?step5) ?more5
  case ho5=>(simp only[jt,jb,ja];rfl)
  case step5=>
   go_simp;refine hK.out _ _ ?_ (λhHeld=>?_)
   ·exact HC4.out
   clear hK K
   try simp only[Act.put,ji,js,ju]
   refine wpAnyH_ready (rs:=[5]) (by kernel_rfl) (by simp) ?_;refine' AllReadyH.cons (o:=?o6) ?ho6 (λK hK=>?step6) ?more6
   case ho6=>(simp only[jt,jb,ja];rfl)
   case step6=>
    go_simp
    (go_at_call 63;refine(HMIX.out _ 0 ka kc s0 (HB03.out.trans (HB4.out.mono HB03.out.size)) (HKL.out.later HB4.out) (by decide) HS0.out).mono ?_;rintro e w5 ⟨r,rfl,hB5,hr⟩;have hb5:=HB4.out.trans (hB5.mono HB4.out.size);have HB5:=jq hb5;have HC5:=jq (HCELLS.out w5 hb5);have HR:=jq hr;clear hB5 hr hb5;dsimp only)
    cases r with
    |true=>
     refine hK.out _ _ ?_ (λhHeld=>?_)
     ·exact HC5.out
     clear hK K
     try simp only[Act.put,ji,js,ju]
     refine' jk 6 ?_
     try simp only[Act.put,ji,js,ju]
     refine' jj 7 ?_
     try simp only[Act.put,ji,js,ju]
     refine' jj 8 ?_
     try simp only[Act.put,ji,js,ju]
     refine' jj 9 ?_
     try simp only[Act.put,ji,js,ju]
     refine' jj 10 ?_
     try simp only[Act.put,ji,js,ju]
     refine' jj 11 ?_
     try simp only[Act.put,ji,js,ju]
     refine' jj 12 ?_
     try simp only[Act.put,ji,js,ju]
     refine' jk 13 ?_
     try simp only[Act.put,ji,js,ju]
     refine' jk 14 ?_
     try simp only[Act.put,ji,js,ju]
     refine wpAnyH_done (by kernel_rfl) ?_ _;refine NoPanic.normal ?_
     go_wp2_with fail
     go_ret
     exact Mixed2.of true (HB03.out.trans (HB5.out.mono HB03.out.size)) (λh=>(by cases h))
    |false=>
     refine hK.out _ _ ?_ (λhHeld=>?_)
     ·exact HC5.out
     clear hK K
     try simp only[Act.put,ji,js,ju]
     refine' jk 6 ?_
     try simp only[Act.put,ji,js,ju]
     refine' jk 7 ?_
     try simp only[Act.put,ji,js,ju]
     refine' jk 8 ?_
     try simp only[Act.put,ji,js,ju]
     refine' jk 11 ?_
     try simp only[Act.put,ji,js,ju]
     refine wpAnyH_ready (rs:=[9]) (by kernel_rfl) (by simp) ?_;refine' AllReadyH.cons (o:=?o20) ?ho20 (λK hK=>?step20) ?more20
     case ho20=>(simp only[jt,jb,ja];rfl)
     case step20=>
      go_simp
      (go_at_call 64;refine(HSLOT.out _ 1 (HB03.out.trans (HB5.out.mono HB03.out.size)) (by decide)).mono ?_;rintro e w6 ⟨v6,rfl,hO6,hB6⟩;obtain⟨v6a,v6c,rfl,_,hL6,-⟩:=own_shape hO6;have hb6:=HB5.out.trans (hB6.mono HB5.out.size);have k6:=conv_any (vc:=v6c) hL6;rw[HS1.out,<-HL1.out]at k6;rw[<-HL1.out];have HB6:=jq hb6;have HC6:=jq (HCELLS.out w6 hb6);clear hO6 hB6 hL6 hb6;dsimp only)
      refine hK.out _ _ ?_ (λhHeld=>?_)
      ·exact HC6.out
      clear hK K
      try simp only[Act.put,ji,js,ju]
      refine wpAnyH_ready (rs:=[10]) (by kernel_rfl) (by simp) ?_;refine' AllReadyH.cons (o:=?o21) ?ho21 (λK hK=>?step21) ?more21
      case ho21=>(simp only[jt,jb,ja];rfl)
      case step21=>
       go_simp;refine hK.out _ _ ?_ (λhHeld=>?_)
       ·exact HC6.out
       clear hK K
       try simp only[Act.put,ji,js,ju]
       refine wpAnyH_ready (rs:=[12]) (by kernel_rfl) (by simp) ?_;refine' AllReadyH.cons (o:=?o22) ?ho22 (λK hK=>?step22) ?more22
       case ho22=>(simp only[jt,jb,ja];rfl)
       case step22=>
        go_simp
        (go_at_call 63;refine(HMIX.out _ 1 ka kc s1 (HB03.out.trans (HB6.out.mono HB03.out.size)) (HKL.out.later HB6.out) (by decide) HS1.out).mono ?_;rintro e w7 ⟨r2,rfl,hB7,hr2⟩;have hb7:=HB6.out.trans (hB7.mono HB6.out.size);have HB7:=jq hb7;have HC7:=jq (HCELLS.out w7 hb7);have HR2:=jq hr2;clear hB7 hr2 hb7;dsimp only)
        cases r2 with
        |true=>
         refine hK.out _ _ ?_ (λhHeld=>?_)
         ·exact HC7.out
         clear hK K
         try simp only[Act.put,ji,js,ju]
         refine' jk 13 ?_
         try simp only[Act.put,ji,js,ju]
         refine' jk 14 ?_
         try simp only[Act.put,ji,js,ju]
         refine wpAnyH_done (by kernel_rfl) ?_ _;refine NoPanic.normal ?_
         go_wp2_with fail
         go_ret
         exact Mixed2.of true (HB03.out.trans (HB7.out.mono HB03.out.size)) (λh=>(by cases h))
        |false=>
         refine hK.out _ _ ?_ (λhHeld=>?_)
         ·exact HC7.out
         clear hK K
         try simp only[Act.put,ji,js,ju]
         refine' jk 13 ?_
         try simp only[Act.put,ji,js,ju]
         refine' jk 14 ?_
         try simp only[Act.put,ji,js,ju]
         refine wpAnyH_done (by kernel_rfl) ?_ _;refine NoPanic.normal ?_
         go_wp2_with fail
         go_ret
         exact Mixed2.of false (HB03.out.trans (HB7.out.mono HB03.out.size)) (λ_ n hn=>(by rcases(show n=0\/n=1 by omega)with rfl|rfl;exact HR.out (by trivial);exact HR2.out (by trivial)))
       exact AllReadyH.nil
      exact AllReadyH.nil
     exact AllReadyH.nil
   exact AllReadyH.nil
  exact AllReadyH.nil
 exact AllReadyH.nil
end RefD
namespace Full
open Go.RowKit Go.Deep Mem Crc Go.Maps Dk Mani RefF Go.Proofs.YtbfochdoeibofaaGreatDoor.Read Man
open Store (Chg none' nv Files)
open RefD (flatW madeL Mixed2)
structure KD where
 LM:List FF
 ma:Option Addr
 mc:Nat
 kv:Nat
 kn:Nat
 na:Option Addr
 nc:Nat
 lN:List FR
 bw:List (List UInt8)
 wa:Option Addr
 wc:Nat
structure Kept (B:Nat) (D:Nat->Prop) (w:World) (T:KD):Prop where
 ml:Lies w T.ma (flatP T.LM)
 ma:Away B D w T.ma
 ll:T.LM.length<=1000
 files:FilesIn w T.na T.lN
 fa:Away B D w T.na
 fb:∀x∈T.lN,Away B D w x.a
 ok:∃n,Okm n T.kv T.kn (T.lN.map FR.f)
 wl:Lies w T.wa (flatW (madeL T.bw))
 wa:Away B D w T.wa
 b33:33<=T.bw.length
 b65:T.bw.length<=65536
 blen:∀b∈T.bw,b.length=128
variable {Z:Prop} {B p cnt i:Nat} {w w':World} {S:PD} {D D':Nat->Prop} {T:KD}
theorem Kept.step (h:Kept B D w T) (hu:Upon D w w') (hd:∀k,D' k->D k\/w.heap.size<=k):Kept B D' w' T:=
 ⟨h.ma.lies h.ml hu,h.ma.step hu.size hd,h.ll,⟨h.fa.lies h.files.row hu,λx hx=>⟨(h.fb x hx).lies (h.files.blocks x hx).1 hu,(h.files.blocks x hx).2⟩⟩,h.fa.step hu.size hd,λx hx=>(h.fb x hx).step hu.size hd,h.ok,h.wa.lies h.wl hu,h.wa.step hu.size hd,h.b33,h.b65,h.blen⟩
theorem Kept.mixed (h:Kept B D w T) {d g:Nat} {m:DM} (hD:Dk w d g (.slice none 0 0) m) (hoff:m.off=false) (h33:33<=m.bl.length):
  Calls Tryz.prog 34 #[.pointer (some ⟨d,0,none⟩),RefD.DV T.bw.length (.slice T.wa 32 T.wc),.agg #[.int .u64 (T.kv:Int),.int .u32 (T.kn:Int),.slice T.na T.lN.length T.nc]] w (Mixed2 m.bl T.bw (manL T.kv T.kn (T.lN.map FR.f)) w):=by
 obtain⟨n,hok⟩:=h.ok;have hfew:=hok.few;rw[jP]at hfew;exact RefD.mixed10_any hD hoff h33 hD.small hD.len T.wa T.wc T.bw h.wl h.b33 h.b65 h.blen T.kv T.kn T.na T.nc T.lN h.files hok.ver hok.next (λx hx=>(hok.fit x.f (List.mem_map.2 ⟨x,hx,rfl⟩)).2.1) (may_short hok.may) (by omega)
theorem Play.kept (h:Play Z B p cnt i w S) (hi:i<=60) {wa:Option Addr} {wc:Nat} (hw:Lies w wa (flatW (madeL S.m.bl))) (ha:Away B (S.D p) w wa):Kept B (S.D p) w ⟨S.LH,S.ah,S.hc,S.ver,S.next,S.a,S.c,S.l,S.m.bl,wa,wc⟩:=by
 obtain⟨wv,a,c,l,hf,hl⟩:=h.on.fu;exact⟨h.hl,h.ha,by have:=h.lh;show S.LH.length<=1000;omega,h.files,h.fa,h.fb,⟨_,by show Okm _ S.ver S.next (S.l.map FR.f);rw[h.fl];exact h.on.ok⟩,hw,ha,h.on.big,h.on.small,hf.disk.len⟩
theorem Play.fell (h:Play Z B p cnt i w S) {ss:List (List UInt8)} (hK:Keys S.C ss) {q:Nat×List Fil} (hq:planM S.C ss cnt S.ver S.next S.fs=some q) (hbad: (commitD S.m S.C q.2 (S.ver+1) (manL (S.ver+1) q.1 q.2)).2≠0) (keep torn:Nat)
  (hmix:∀j,j<2->(getS (slotB (backD (afterD S.m S.C S.ver q) keep torn).bl j)).isSome=true->slotB (backD (afterD S.m S.C S.ver q) keep torn).bl j=slotB S.m.bl j\/slotB (backD (afterD S.m S.C S.ver q) keep torn).bl j=manL (S.ver+1) q.1 q.2):
  (Stand (backD (afterD S.m S.C S.ver q) keep torn).bl S.ver S.next S.fs/\OnDisk (backD (afterD S.m S.C S.ver q) keep torn).bl S.fs S.H)\/(Stand (backD (afterD S.m S.C S.ver q) keep torn).bl (S.ver+1) q.1 q.2/\OnDisk (backD (afterD S.m S.C S.ver q) keep torn).bl q.2 (nowF S.C S.H)):=by
 obtain⟨L,l1,l2,l3,l4⟩:=h.on.few;have hs:∀nm∈ss,nm.length<=32:=λnm hnm=>l3 nm (l1 nm ((hK.mem nm).1 hnm))
 rw[<-h.len]at hq;obtain⟨nx,fs'⟩:=q
 exact fall_stands h.on.big h.on.small h.on.on h.slots h.on.ok l4 hK hs hq h.on.wt hbad keep torn (λj hj=>by
  cases hg:getS (slotB (backD (commitD S.m S.C fs' (S.ver+1) (manL (S.ver+1) nx fs')).1 keep torn).bl j)with
  |none=>exact .inl rfl
  |some v=>exact .inr (hmix j hj (by show(getS (slotB (backD (commitD S.m S.C fs' (S.ver+1) (manL (S.ver+1) nx fs')).1 keep torn).bl j)).isSome=true;rw[hg];rfl)))
end Full
namespace Full
open Go.RowKit Go.Deep Mem Crc Go.Maps Dk Mani RefF Go.Proofs.YtbfochdoeibofaaGreatDoor.Read Man
open Store (Chg none' nv Files)
open RefD (flatW madeL Mixed2 DV)
theorem writes_wt:∀(l:List (Nat×List UInt8)) (m:DM),(m.writes l).1.wt.length<=m.wt.length+l.length
 | [],m=>Nat.le_refl _
 |x ::r,m=>by
  have h1: (m.write x.1 x.2).1.wt.length<=m.wt.length+1:=by
   unfold DM.write
   split
   ·rw[(deed_same m).1];omega
   ·show(m.wt++ [(x.1,x.2)]).length<=_
    simp
  unfold DM.writes
  split
  ·have:=writes_wt r (m.write x.1 x.2).1;simp only[List.length_cons]
   omega
  ·simp only[List.length_cons]
   omega
theorem sync_wt (m:DM):m.sync.1.wt.length<=m.wt.length:=by
 unfold DM.sync
 split
 ·rw[(deed_same m).1];exact Nat.le_refl _
 ·exact Nat.zero_le _
theorem slot_wt (m:DM) (at_:Nat) (b:List UInt8): (m.slot at_ b).1.wt.length<=m.wt.length+16:=by
 have h1:=writes_wt (slotW at_ b) m;have h2:=sync_wt (m.writes (slotW at_ b)).1;have h3: (slotW at_ b).length=16:=by unfold slotW;simp
 unfold DM.slot
 split <;> omega
theorem mani_wt (m:DM) (ver:Nat) (b:List UInt8): (m.mani ver b).1.wt.length<=m.wt.length+32:=by
 have h1:=slot_wt m (ver%2*16) b;have h2:=slot_wt (m.slot (ver%2*16) b).1 ((ver+1)%2*16) b;unfold DM.mani
 split <;> omega
theorem commit_wt (m:DM) (C:Chg) (fs:List Fil) (ver:Nat) (b:List UInt8): (commitD m C fs ver b).1.wt.length<=m.wt.length+(bksL fs).length+32:=by
 have h1:=writes_wt (chW C fs) m;have h2:=sync_wt (m.writes (chW C fs)).1;have h3:=mani_wt (m.writes (chW C fs)).1.sync.1 ver b;have h4:=chW_len C fs;unfold commitD
 split
 ·split <;> omega
 ·omega
def KD.R (T:KD):Nat->Prop:=λk=>Mem.blk T.ma=some k\/Mem.blk T.na=some k\/(∃x∈T.lN,Mem.blk x.a=some k)\/Mem.blk T.wa=some k
variable {Z:Prop} {B p cnt i:Nat} {w w':World} {S:PD} {D D' X:Nat->Prop} {T:KD}
theorem Kept.apart (h:Kept B D w T) (hu:Upon X w w') (hx:∀k,X k->¬T.R k):Kept B D w' T:=
 ⟨h.ml.upon hu (λk hk hX=>hx k hX (.inl hk)),h.ma.step hu.size (λ_ hk=>.inl hk),h.ll,⟨h.files.row.upon hu (λk hk hX=>hx k hX (.inr (.inl hk))),λx hm=>⟨(h.files.blocks x hm).1.upon hu (λk hk hX=>hx k hX (.inr (.inr (.inl ⟨x,hm,hk⟩)))),(h.files.blocks x hm).2⟩⟩,h.fa.step hu.size (λ_ hk=>.inl hk),λx hm=>(h.fb x hm).step hu.size (λ_ hk=>.inl hk),h.ok,h.wl.upon hu (λk hk hX=>hx k hX (.inr (.inr (.inr hk)))),h.wa.step hu.size (λ_ hk=>.inl hk),h.b33,h.b65,h.blen⟩
theorem Play.apart (h:Play Z B p cnt i w S) (hu:Upon X w w') (hx:∀k,X k->¬S.A p k/\k≠0):Play Z B p cnt i w' S:=
 ⟨h.on.keep hu (λk hk=>⟨λhq=>(hx k hk).1 (.inl (.inl hq)),(hx k hk).2⟩),h.fuse,h.slots,h.len,h.blk.upon hu (λhX=>(hx p hX).1 (.inl (.inr (.inl rfl)))),h.pq,h.pb,h.chq,own_upon h.own hu (λg hg hX=>(hx g hX).1 (.inl (.inr (.inr hg)))),h.fl,
  ⟨h.files.row.upon hu (λk hk hX=>(hx k hX).1 (.inr (.inl hk))),λx hm=>⟨(h.files.blocks x hm).1.upon hu (λk hk hX=>(hx k hX).1 (.inr (.inr (.inl ⟨x,hm,hk⟩)))),(h.files.blocks x hm).2⟩⟩,h.fa.step hu.size (λ_ hk=>.inl hk),λx hm=>(h.fb x hm).step hu.size (λ_ hk=>.inl hk),h.hl.upon hu (λk hk hX=>(hx k hX).1 (.inr (.inr (.inr (.inl hk))))),h.ha.step hu.size (λ_ hk=>.inl hk),h.nl.upon hu (λk hk hX=>(hx k hX).1 (.inr (.inr (.inr (.inr hk))))),h.na.step hu.size (λ_ hk=>.inl hk),h.rowH,h.rowN,h.chok,h.wts,h.vi,h.ni,h.chl,h.ll,h.lh,h.each,h.eachH,h.capN,h.capH⟩
theorem Play.alt (h:Play Z B p cnt i w S):∀k,S.A p k->k<w.heap.size:=λk hk=>by
 rcases hk with hk|hk|⟨x,hx,hk⟩|hk|hk
 ·exact(h.dlt k hk).2
 ·exact(h.fa k hk).2.2
 ·exact(h.fb x hx k hk).2.2
 ·exact(h.ha k hk).2.2
 ·exact(h.na k hk).2.2
structure FMem (B p:Nat) (w:World) (S:PD) (T:KD) (D:Nat->Prop):Prop where
 blk:Blk w p 38 S.cells
 base:∀k,D k->B<=k
 np:¬D p
 hl:Lies w S.ah (flatP S.LH)
 ha:Away B D w S.ah
 lh:S.LH.length<=1000
 kept:Kept B D w T
theorem FMem.step (h:FMem B p w S T D) (hu:Upon D w w'):FMem B p w' S T D:=
 ⟨h.blk.upon hu h.np,h.base,h.np,h.ha.lies h.hl hu,h.ha.step hu.size (λ_ hk=>.inl hk),h.lh,h.kept.step hu (λ_ hk=>.inl hk)⟩
theorem FMem.later (h:FMem B p w S T D) (hB:Below w.heap.size w w'):FMem B p w' S T D:=h.step (Upon.of_below hB)
theorem FMem.apart (h:FMem B p w S T D) (hu:Upon X w w') (hx:∀k,X k->k≠p/\Mem.blk S.ah≠some k/\¬T.R k):FMem B p w' S T D:=
 ⟨h.blk.upon hu (λhX=>(hx p hX).1 rfl),h.base,h.np,h.hl.upon hu (λk hk hX=>(hx k hX).2.1 hk),h.ha.step hu.size (λ_ hk=>.inl hk),h.lh,h.kept.apart hu (λk hk=>(hx k hk).2.2)⟩
def Clean (bl:List (List UInt8)):Prop:=∀j,j<2->∀q,getS (slotB bl j)=some q->slotB bl j=manL q.1 q.2.1 q.2.2
def Unmixed (bl bw:List (List UInt8)) (ml:List UInt8):Prop:=∀n,n<2->(getS (slotB bl n)).isSome=true->slotB bl n=slotB bw n\/slotB bl n=ml
theorem clean_of {bl bw:List (List UInt8)} {n n' ver next kv kn:Nat} {fs fs':List Fil} (hs:Slots bw ver next fs) (hok:Okm n ver next fs) (hok':Okm n' kv kn fs') (h:Unmixed bl bw (manL kv kn fs')):Clean bl:=λj hj q hq=>by
 rcases h j hj (by rw[hq];rfl)with e|e
 ·rcases hs with⟨_,_,_,h4⟩|h4
  ·rw[e,h4 j hj,getS_zero]at hq;cases hq
  ·have h5:=getS_man hok;rw[e,h4 j hj]at hq⊢;rw[h5]at hq;cases hq
   rfl
 ·have h5:=getS_man hok';rw[e]at hq⊢;rw[h5]at hq;cases hq
  rfl
def FLaw (cnt:Nat) (S:PD) (T:KD) (m:DM):Prop:=∀keep torn:Nat,((backD m keep torn).bl.length=cnt/\33<=cnt)/\(Unmixed (backD m keep torn).bl T.bw (manL T.kv T.kn (T.lN.map FR.f))->Clean (backD m keep torn).bl/\∃(ver next:Nat) (fs:List Fil) (H:Files) (LX:List FF),Stand (backD m keep torn).bl ver next fs/\Okm cnt ver next fs/\OnDisk (backD m keep torn).bl fs H/\IsRow LX H/\LX.length<=1000/\(∀x∈LX,x.1.length<=100)/\((LX=S.LH/\ver=S.ver)\/(LX=T.LM/\ver=T.kv)))
structure FState (B p cnt:Nat) (w:World) (S:PD) (T:KD) (D:Nat->Prop) (m:DM):Prop where
 mem:FMem B p w S T D
 disk:∃wv,Dk w S.d S.g wv m/\∀k,Has S.d S.g wv k->D k
 wt:m.wt.length<=1000000
 law:FLaw cnt S T m
theorem FState.apart {m:DM} (h:FState B p cnt w S T D m) (hu:Upon X w w') (hx:∀k,X k->¬D k/\k≠p/\Mem.blk S.ah≠some k/\¬T.R k):FState B p cnt w' S T D m:=by
 obtain⟨wv,h1,h2⟩:=h.disk;exact⟨h.mem.apart hu (λk hk=>(hx k hk).2),⟨wv,h1.upon hu (λk hX hk=>(hx k hX).1 (h2 k hk)),h2⟩,h.wt,h.law⟩
theorem Slots.back {m:DM} (hw:m.wt= []) (keep torn:Nat): (backD m keep torn).bl=m.bl:=by
 show backs keep torn 0 m.bl m.wt=m.bl;rw[hw]
 rfl
theorem Play.fstate (h:Play Z B p cnt i w S) (hi:i<=60) (hK:Kept B (S.D p) w T):FState B p cnt w S T S.Q S.m:=by
 obtain⟨wv,a,c,l,hf,hl⟩:=h.on.fu;have hlh:=h.lh;have hok:=h.on.ok;have hbig:=h.on.big;rw[h.len]at hok hbig;refine⟨⟨h.blk,h.on.base,h.pq,h.hl,h.ha.step jn (λk hk=>.inl (.inl hk)),by omega,hK.step (Upon.refl _ _) (λk hk=>.inl (.inl hk))⟩,⟨wv,hf.disk,hf.qd⟩,by rw[h.on.wt];exact Nat.zero_le _,λkeep torn=>?_⟩;rw[Slots.back h.on.wt];refine⟨⟨h.len,hbig⟩,λhmix=>⟨λj hj q hq=>?_,S.ver,S.next,S.fs,S.H,S.LH,h.slots.stand h.on.ok,hok,h.on.on,h.rowH,by omega,λx hx=>by have:=(h.eachH x hx).1.2;omega,.inl ⟨rfl,rfl⟩⟩⟩;exact clean_of h.slots hok hok (λn hn _=>.inl rfl) j hj q hq
theorem after_length {m:DM} (hw:m.wt= []) (C:Chg) (ver:Nat) (q:Nat×List Fil): (afterD m C ver q).bl.length=m.bl.length:=by
 unfold afterD
 by_cases hz: (commitD m C q.2 (ver+1) (manL (ver+1) q.1 q.2)).2=0
 ·exact commit_len hw hz
 ·obtain⟨-,hf⟩:=commit_fell hw hz;rcases hf with hf|hf|hf
  ·rw[hf.bl]
  ·rw[hf.bl,puts_length]
  ·rw[hf.bl,puts_length,puts_length]
theorem Play.fallen {w0:World} (h:Play False B p cnt i w0 S) (hi:i<=59) {ss:List (List UInt8)} (hkeys:Keys S.C ss) {q:Nat×List Fil} (hplan:planM S.C ss cnt S.ver S.next S.fs=some q) (hf:Fallen B p S q w0 w) (hK:Kept B (S.D p) w0 T) (hbw:T.bw=S.m.bl) (hlm:T.LM=S.L) (hkv:T.kv=S.ver+1) (hkn:T.kn=q.1) (hln:T.lN.map FR.f=q.2):
  FState B p cnt w S T (λk=>S.Q k\/w0.heap.size<=k) (afterD S.m S.C S.ver q):=by
 have hlh:=h.lh;have hll:=h.ll;have hok:=h.on.ok;have hbig:=h.on.big;have hsm:=h.on.small;rw[h.len]at hok hbig hsm;obtain⟨L,l1,l2,l3,l4⟩:=h.on.few;have hs:∀nm∈ss,nm.length<=32:=λnm hnm=>l3 nm (l1 nm ((hkeys.mem nm).1 hnm))
 have hok2:=(plan_okm hok hsm l4 hkeys hs hplan).1;have hu:Upon (S.D p) w0 w:=hf.up.mono (λk hk=>.inl hk);have hd:∀k,(S.Q k\/w0.heap.size<=k)->S.D p k\/w0.heap.size<=k:=λk hk=>hk.imp (λh1=>.inl h1) id
 have hlow:=h.on.low;have hpl:=h.blk.lt;obtain⟨wv,hD,hH⟩:=hf.disk;have hwt:=h.on.wt;refine⟨⟨hf.blk,λk hk=>hk.elim (h.on.base k) (λh1=>by omega),λhk=>hk.elim h.pq (λh1=>by omega),h.ha.lies h.hl hu,h.ha.step hu.size hd,by omega,hK.step hu hd⟩,⟨wv,hD,hH⟩,?_,λkeep torn=>?_⟩
 ·have h1:=commit_wt S.m S.C q.2 (S.ver+1) (manL (S.ver+1) q.1 q.2);have h2:=hok2.few;rw[hwt,List.length_nil]at h1;show(commitD S.m S.C q.2 (S.ver+1) (manL (S.ver+1) q.1 q.2)).1.wt.length<=_
  omega
 ·have hlen: (backD (afterD S.m S.C S.ver q) keep torn).bl.length=cnt:=by
   show(backs keep torn 0 (afterD S.m S.C S.ver q).bl (afterD S.m S.C S.ver q).wt).length=cnt;rw[backs_length,after_length h.on.wt,h.len]
  refine⟨⟨hlen,hbig⟩,λhmix=>?_⟩;rw[hbw,hkv,hkn,hln]at hmix;refine⟨clean_of h.slots hok hok2 hmix,?_⟩;rcases h.fell hkeys hplan hf.bad keep torn hmix with⟨h1,h2⟩|⟨h1,h2⟩
  ·exact⟨_,_,_,_,S.LH,h1,hok,h2,h.rowH,by omega,λx hx=>by have:=(h.eachH x hx).1.2;omega,.inl ⟨rfl,rfl⟩⟩
  ·exact⟨_,_,_,_,S.L,h1,hok2,h2,h.rowN,by omega,λx hx=>by have:=(h.each x hx).1.2;omega,.inr ⟨hlm.symm,hkv.symm⟩⟩
theorem Play.fused (h:Play Z B p cnt i w S) (hu:Upon S.Q w w') {Q':Nat->Prop} {n:Int} (hon:On B S.s S.d S.g S.cm w' Q' {S.m with fuse:=n} S.ver S.next S.fs S.C S.H i) (hq:∀k,Q' k->S.Q k\/w.heap.size<=k):
  Play False B p cnt i w' {S with Q:=Q',m:={S.m with fuse:=n}}:=by
 have hU:Upon (S.D p) w w':=hu.mono (λk hk=>.inl hk)
 have hd:∀k,PD.D {S with Q:=Q',m:={S.m with fuse:=n}} p k->S.D p k\/w.heap.size<=k:=λk hk=>by
  rcases hk with hk|rfl|hk
  ·exact(hq k hk).imp (λh1=>.inl h1) id
  ·exact .inl (.inr (.inl rfl))
  ·exact .inl (.inr (.inr hk))
 obtain⟨f1,f2,f3⟩:=h.keepF hU hd;obtain⟨h1,h2⟩:=h.keepH hU hd;obtain⟨n1,n2⟩:=h.keepN hU hd;exact⟨hon,λf=>f.elim,h.slots,h.len,h.blk.upon hu h.pq,λhk=>(hq p hk).elim h.pq (λh4=>by have:=h.blk.lt;omega),h.pb,λk hk hk2=>(hq k hk2).elim (h.chq k hk) (λh4=>by have:=(h.own.lt k hk).2;omega),own_upon h.own hu h.chq,h.fl,f1,f2,f3,h1,h2,n1,n2,h.rowH,h.rowN,h.chok,h.wts,h.vi,h.ni,h.chl,h.ll,h.lh,h.each,h.eachH,h.capN,h.capH⟩
theorem Play.slotsOf (h:Play Z B p cnt i w S):Calls Tryz.prog 36 #[.pointer (some ⟨S.d,0,none⟩)] w λe w'=>∃va vc,e=.returned (DV cnt (.slice va 32 vc))/\Lies w' va (flatW (madeL S.m.bl))/\(∀k,Mem.blk va=some k->w.heap.size<=k/\k<w'.heap.size)/\Below w.heap.size w w':=by
 obtain⟨wv,a,c,l,hf,hl⟩:=h.on.fu;obtain rfl:=hf.disk.nil h.on.wt;refine(RefD.slots_any hf.disk h.on.off h.on.big).mono ?_;rintro e w' ⟨v,rfl,hO,hB⟩;obtain⟨va,vc,rfl,_,hL,hg,_⟩:=own_shape hO;rw[h.len];exact⟨va,vc,rfl,hL,hg,hB⟩
theorem set_three {V:World} {b:Nat} {t:TypeId} {x0 x1 x2:Value} (h:Blk V b t #[x0,x1,x2]) (m0 m1 m2:Value):Blk (((V.setCell ⟨b,0,none⟩ m0).setCell ⟨b,1,none⟩ m1).setCell ⟨b,2,none⟩ m2) b t #[m0,m1,m2]/\Upon (λk=>k=b) V (((V.setCell ⟨b,0,none⟩ m0).setCell ⟨b,1,none⟩ m1).setCell ⟨b,2,none⟩ m2):=
 ⟨((h.set 0 m0).set 1 m1).set 2 m2,(((Upon.refl (λk=>k=b) V).set (p:=⟨b,0,none⟩) (.inl rfl) _).set (p:=⟨b,1,none⟩) (.inl rfl) _).set (p:=⟨b,2,none⟩) (.inl rfl) _⟩
theorem set_five {V:World} {b:Nat} {t:TypeId} {x0 x1 x2 x3 x4:Value} (h:Blk V b t #[x0,x1,x2,x3,x4]) (m0 m1 m2 m3 m4:Value):Blk (((((V.setCell ⟨b,0,none⟩ m0).setCell ⟨b,1,none⟩ m1).setCell ⟨b,2,none⟩ m2).setCell ⟨b,3,none⟩ m3).setCell ⟨b,4,none⟩ m4) b t #[m0,m1,m2,m3,m4]/\Upon (λk=>k=b) V (((((V.setCell ⟨b,0,none⟩ m0).setCell ⟨b,1,none⟩ m1).setCell ⟨b,2,none⟩ m2).setCell ⟨b,3,none⟩ m3).setCell ⟨b,4,none⟩ m4):=
 ⟨((((h.set 0 m0).set 1 m1).set 2 m2).set 3 m3).set 4 m4,(((((Upon.refl (λk=>k=b) V).set (p:=⟨b,0,none⟩) (.inl rfl) _).set (p:=⟨b,1,none⟩) (.inl rfl) _).set (p:=⟨b,2,none⟩) (.inl rfl) _).set (p:=⟨b,3,none⟩) (.inl rfl) _).set (p:=⟨b,4,none⟩) (.inl rfl) _⟩
end Full
namespace Full
open Go.RowKit Go.Deep Mem Crc Go.Maps Dk Mani RefF
open Store (Chg none' nv Files setC setC_same setC_other)
open Ext (Tab)
variable {Z:Prop} {B p cnt i:Nat} {w w':World} {S:PD}
theorem Play.find (h:Play Z B p cnt i w S) (hi:i<=60) (nm:List UInt8):Calls Tryz.prog 46 #[.slice S.an S.L.length S.nc,nv nm] w λe w'=>e=.returned (.tuple #[.int .i64 (if findP S.L nm<S.L.length then(findP S.L nm:Int)else 0),.bool (decide (findP S.L nm<S.L.length))])/\w'=w:=
 find_any S.an S.nc S.L nm w h.nl (by have:=h.ll;omega)
theorem Play.put (h:Play Z B p cnt i w S) (hi:i<=60) {w2 w3:World} (hB:Below w.heap.size w w2) (hu:Upon S.Q w2 w3) (nm b:List UInt8) {V:World} (hV:Below w3.heap.size w3 V):Calls Tryz.prog 79 #[.slice S.an S.L.length S.nc,nv nm,nv b] V λe w'=>∃a c,e=.returned (.slice a (putP S.L nm b).length c)/\w'.ownsRow w3.heap.size 69 2 (.slice a (putP S.L nm b).length c) (putP S.L nm b).length (flatP (putP S.L nm b))/\Below w3.heap.size w3 w':=
 (put_any S.an S.nc S.L nm b V (((h.nl.later hB).upon hu (λk hk hq=>(h.na k hk).1 (.inl hq))).later hV) (by have:=h.ll;omega)).mono (λe w' hh=>by
  obtain⟨v,he,ho,hb⟩:=hh;obtain⟨a,c,rfl,_⟩:=own_shape ho;exact⟨a,c,he,own_mono ho hV.size,hV.trans (hb.mono hV.size)⟩)
attribute [local go_sem] Oper.semAt_some
theorem play_k0 (h:Play Z B p cnt i w S) (hi:i<=59) (nm b:List UInt8) (ab:Option Addr) (bc:Nat) (hb:Lies w ab (b.map bv)) (hbl:b.length<=1000) (h1:1<=nm.length) (h2:nm.length<=32):
  Calls Tryz.prog 45 #[.pointer (some ⟨p,0,none⟩),.agg #[.int .i64 0,nv nm,.slice ab b.length bc]] w λe w'=>e=.returned (.bool true)/\Step Z B p cnt (i+1) S w w':=by
 obtain⟨sn,hsn⟩:∃s:ByteArray,nv nm=.string s:=⟨_,rfl⟩;have hss:sn.size=nm.length:=size_sv (show sv nm=.string sn from hsn);obtain⟨sb,hsb⟩:∃s:ByteArray,nv b=.string s:=⟨_,rfl⟩;have hsbs:sb.size=b.length:=size_sv (show sv b=.string sb from hsb);obtain⟨bn,hbn⟩:=jl b.length;obtain⟨W1,hW1⟩:=jl (w.alloc (.cells #[.int .i64 0,.string sn,.slice ab bn bc] 48));obtain⟨rb,hrb⟩:=jl w.heap.size;have hB1:Below w.heap.size w W1:=by rw[hW1];exact(Below.refl _ w).alloc jn _
 have hbr:Blk W1 rb 48 #[.int .i64 0,.string sn,.slice ab bn bc]:=by rw[hW1,hrb];exact Blk.new w _ _
 have hP1:=h.later hB1;have hfd:∀n',_:=λn'=>(hP1.later (drewN_below (Below.refl _ W1) n')).find (by omega) nm
 rw[hsn]at hfd;obtain⟨fi,hfi⟩:∃y:Int,y=(if findP S.L nm<S.L.length then(findP S.L nm:Int)else 0):=⟨_,rfl⟩;obtain⟨tf,htf⟩:=jl (decide (findP S.L nm<S.L.length));rw[<-hfi,<-htf]at hfd;clear hfi htf;have c6:=hP1.cells.2.2.2.2.2.2.1;have r1:=hbr.cell 1;simp only[jt,ja,jb]at r1;obtain⟨sL,hsL⟩:=jl S.L.length;obtain⟨sa,hsa⟩:=jl S.an;obtain⟨sc,hsc⟩:=jl S.nc;rw[<-hsL,<-hsa,<-hsc]at c6 hfd;have HP:=jq h;have HB:=jq hb;have HB1:=jq hB1;have HBR:=jq hbr;have HFD:=jq hfd;have HSN:=jq hsn;have HSB:=jq hsb;have HBN:=jq hbn;have HS:=jq (And.intro hsL (And.intro hsa hsc));have hrbw:=jq hrb;have g1:decide ((0:Int) <(sn.size:Int))=true:=jd (by omega);have g1b:decide (0<sn.size)=true:=jd (by omega);have g2:decide ((sn.size:Int)<=32)=true:=jd (by omega);have g2b:decide (sn.size<=32)=true:=jd (by omega);rw[hsn,<-hbn];clear h hb hB1 hbr hP1 hfd hsn hsb hbn hsL hsa hsc hss
 go_enter Tryz.func45,Tryz.ntmps45
 go_wp2_with fail
 rw[<-hW1,<-hrb];clear hW1 hrb
 go_quiet ((go_at_call 46;refine Calls.quiet_of_same (HFD.out _)))
 obtain⟨V,hV⟩:=jl (W1.drewN nq);have hBV:Below W1.heap.size W1 V:=by rw[hV];exact drewN_below (Below.refl _ _) _
 rw[<-hV];clear hV HFD c6 r1;have hB0V:Below w.heap.size w V:=HB1.out.trans (hBV.mono HB1.out.size);have hPV:=HP.out.later hB0V;have hbrV:=HBR.out.below hBV HBR.out.lt;have r0:=hbrV.cell 0;have r1:=hbrV.cell 1;have r2:=hbrV.cell 2;simp only[jt,ja,jb]at r0 r1 r2;have c0:=hPV.cells.1;have hcv:=conv_any (vc:=bc) (HB.out.later hB0V);rw[<-HBN.out,HSB.out]at hcv;obtain⟨ss,hss⟩:=jl S.s;rw[<-hss]at c0;have hB2:Below w.heap.size w V.drew:=hB0V.drew;have hwr:=on_write (hPV.later (Below.refl _ V).drew).on (by omega) nm h1 h2 ab bc b (HB.out.later hB2) (by omega);rw[HSN.out,<-HBN.out,<-hss]at hwr;have HWR:Hid (Calls Tryz.prog 11 #[.pointer (some ⟨ss,0,none⟩),.string sn,.slice ab bn bc] V.drew λe w'=>e=.returned (.int .i64 0)/\∃Q',On B S.s S.d S.g S.cm w' Q' S.m S.ver S.next S.fs (setC S.C nm (some (some b))) S.H (i+1)/\(∀k,Q' k->S.Q k\/V.drew.heap.size<=k)/\Upon S.Q V.drew w'):=jq (by rw[hss];rw[hss]at hwr;exact hwr);have HPV:=jq hPV;have HB2:=jq hB2;have HBRV:=jq hbrV;clear hPV hbrV hB0V hwr hss hB2 hBV
 go_wp2_with fail
 go_still_tail 8,(by kernel_rfl)
 change wpList _ _ _ _ _ V.drew
 have hltV:=HPV.out.blk.lt;obtain⟨w2,hw2⟩:=jl V.drew;have HBV2:Hid (Below V.heap.size V w2):=jq (by rw[hw2];exact(Below.refl _ V).drew);rw[<-hw2]at HWR HB2⊢;clear hw2
 go_wp2_with fail
 refine HWR.out.mono ?_;rintro e w3 ⟨rfl,Q3,hon3,hq3,hu3⟩;have hrq:¬S.Q rb:=λhk=>by have:=HP.out.on.lt rb hk;have:=hrbw.out;omega
 have hbr3:=(HBRV.out.below HBV2.out HBRV.out.lt).upon hu3 hrq;have hpb3:=(HPV.out.blk.below HBV2.out HPV.out.blk.lt).upon hu3 HP.out.pq;have r0:=hbr3.cell 0;have r1:=hbr3.cell 1;have c6:=hpb3.cell 6;have c7:=hpb3.cell 7;unfold PD.cells at c6 c7;simp only[jt,ja,jb]at r0 r1 c6 c7;rw[<-HS.out.1,<-HS.out.2.1,<-HS.out.2.2]at c6;obtain⟨bnew,hbnew⟩:=jl b;have hsnew:nv bnew=.string sb:=by rw[hbnew];exact HSB.out
 have hnewl:bnew.length<=1000*(i+1):=by rw[hbnew];omega
 rw[<-hbnew]at hon3;clear hbnew;have hput:=HP.out.put (by omega) HB2.out hu3 nm bnew (V:=w3.drew) (Below.refl _ w3).drew;rw[HSN.out,hsnew,<-HS.out.1,<-HS.out.2.1,<-HS.out.2.2]at hput;have HPUT:Hid (Calls Tryz.prog 79 #[.slice sa sL sc,.string sn,.string sb] w3.drew λe w'=>∃a c,e=.returned (.slice a (putP S.L nm bnew).length c)/\w'.ownsRow w3.heap.size 69 2 (.slice a (putP S.L nm bnew).length c) (putP S.L nm bnew).length (flatP (putP S.L nm bnew))/\Below w3.heap.size w3 w'):=jq hput;have HON3:=jq (And.intro hon3 (And.intro hq3 hu3));have HBR3:=jq hbr3;have HPB3:=jq hpb3;have HNEWL:=jq hnewl;clear hon3 hq3 hu3 hbr3 hpb3 hput hsnew hnewl HWR hcv c0 r2
 go_wp2_with fail
 go_cut[] (λwx=>∃(w4:World) (ap:Option Addr) (pn cp:Nat),Hid (pn=(putP S.L nm bnew).length)/\Hid (w4.ownsRow w3.heap.size 69 2 (.slice ap (putP S.L nm bnew).length cp) (putP S.L nm bnew).length (flatP (putP S.L nm bnew)))/\Hid (Below w3.heap.size w3 w4)/\wx=w4.setCell ⟨p,6,none⟩ (.slice ap pn cp))
 case first=>
  go_region_law ((first|(go_simp;go_at_call 79;refine HPUT.out.mono ?_;rintro e w4 ⟨ap,cp,rfl,hO4,hB4⟩;obtain⟨pn,hpn⟩:=jl ((putP S.L nm bnew).length);have hpb4:=HPB3.out.below hB4 HPB3.out.lt;have z6:=hpb4.frozen 6;have k6:=hpb4.cell 6;unfold PD.cells at k6;simp only[jt,ja,jb]at k6;have HO4:=jq hO4;have HB4:=jq hB4;have HPN:=jq hpn;rw[<-hpn];clear hO4 hB4 hpn hpb4;dsimp only)))
  all_goals go_wp2_with fail
  all_goals go_meet
  all_goals exact⟨_,_,_,_,HPN,HO4,HB4,rfl⟩
 case rest=>
  obtain⟨w4,ap,pn,cp,HPN,HO4,HB4,hwc⟩:=hcut;have hpb4:=HPB3.out.below HB4.out HPB3.out.lt;have hbr4:=HBR3.out.below HB4.out HBR3.out.lt;have hpb5:=hpb4.set 6 (.slice ap pn cp);have hprn:rb≠p:=by have:=HP.out.blk.lt;have:=hrbw.out;omega
  have hbr5:=hbr4.far (p:=⟨p,6,none⟩) hprn (.slice ap pn cp);obtain⟨w5,hw5⟩:=jl (w4.setCell ⟨p,6,none⟩ (.slice ap pn cp));rw[<-hw5]at hpb5 hbr5 hwc;subst hwc;have hB35:Upon (λg=>g=p) w3 wc:=by rw[hw5];exact(Upon.of_below (P:=λg=>g=p) HB4.out).set (p:=⟨p,6,none⟩) (.inl rfl) _
  have hB05:Upon (S.D p) w wc:=((Upon.of_below (P:=S.D p) HB2.out).trans (HON3.out.2.2.mono (λk hk=>Or.inl hk)) (λk hk=>.inl hk)).trans (hB35.mono (λk hk=>Or.inr (Or.inl hk))) (λk hk=>.inl hk);have hO5:wc.ownsRow B 9 1 S.vc S.ch.length (S.ch.map nv):=own_upon (own_upon (own_later HP.out.own HB2.out) HON3.out.2.2 HP.out.chq) hB35 (λg hg e=>HP.out.pv (by rw[<-e];exact hg));obtain⟨va,vcp,hvc,_,_,_,_⟩:=own_shape hO5;have hBd:Below wc.heap.size wc wc.drew:=(Below.refl _ wc).drew;have hwB:B<=wc.heap.size:=by have:=HP.out.on.low;have:=hB05.size;omega
  obtain⟨v',w6,hr6,hrow6,hg6,hat6⟩:=append_nv wc.drew 36 S.vc S.ch (own_later hO5 hBd) nm (by have:=HP.out.chl;omega) hwB;have hg6':wc.grownBy w6 S.vc.ownBlock:=grown_trans grown_drew hg6;rw[HSN.out]at hr6;have q7:wc.drew.cell? ⟨p,7,none⟩=some S.vc:=hpb5.cell 7;have q7b: (wc.alloc (.cells #[.string sn] 9)).cell? ⟨p,7,none⟩=some S.vc:=(hpb5.alloc _).cell 7;have r1:wc.cell? ⟨rb,1,none⟩=some (.string sn):=hbr5.cell 1;have hpb6:=hpb5.grown hg6' (λe=>HP.out.pv e.symm);have k7:w6.cell? ⟨p,7,none⟩=some S.vc:=hpb6.cell 7;have k8:w6.cell? ⟨p,8,none⟩=some (.bool S.wt):=hpb6.cell 8;have z7:=hpb6.frozen 7;have z8:=hpb6.frozen 8;obtain⟨va2,vcp2,hvc2,_,_,_,_⟩:=own_shape hrow6;have hend:=HP.out.wrote (w3:=w3) (w4:=w4) (w5:=wc) (w6:=w6) (w7:=w6.setCell ⟨p,7,none⟩ v') (w8:=(w6.setCell ⟨p,7,none⟩ v').setCell ⟨p,8,none⟩ (.bool true)) nm bnew h1 h2 HNEWL.out HB2.out HON3.out.1 HON3.out.2.1 HON3.out.2.2 HO4.out HB4.out (by rw[hw5,HPN.out]) hrow6 hg6' hat6 rfl rfl;rw[hvc]at hr6 q7 q7b k7;obtain⟨swt,hswt⟩:=jl S.wt;rw[<-hswt]at k8;obtain⟨vn,hvn⟩:=jl S.ch.length;rw[<-hvn]at hr6 q7 q7b k7;obtain⟨vn2,hvn2⟩:=jl ((S.ch++ [nm]).length);rw[<-hvn2]at hvc2;subst hvc2;have HEND:=jq hend;clear hend hrow6 hg6 hg6' hat6 hpb6 hvc hO5 hB05 hB35 hpb5 hbr5 hpb4 hbr4 hw5 hBd hswt hvn hvn2
  go_wp2_with fail
  go_region_law ((first|(refine step_append_run rfl (.tmp 90) (.tmp 93) 36 36 rfl _ _ rfl rfl hr6 ?_)))
  all_goals go_wp2_with fail
  all_goals go_ret
  all_goals exact⟨rfl,HEND.out⟩
theorem play_k1t (h:Play Z B p cnt i w S) (hi:i<=59) (nm b:List UInt8) (ab:Option Addr) (bc:Nat) (hb:Lies w ab (b.map bv)) (hbl:b.length<=1000) (h1:1<=nm.length) (h2:nm.length<=32) (hth:findP S.L nm<S.L.length):
  Calls Tryz.prog 45 #[.pointer (some ⟨p,0,none⟩),.agg #[.int .i64 1,nv nm,.slice ab b.length bc]] w λe w'=>e=.returned (.bool true)/\Step Z B p cnt (i+1) S w w':=by
 obtain⟨sn,hsn⟩:∃s:ByteArray,nv nm=.string s:=⟨_,rfl⟩;have hss:sn.size=nm.length:=size_sv (show sv nm=.string sn from hsn);obtain⟨sb,hsb⟩:∃s:ByteArray,nv b=.string s:=⟨_,rfl⟩;have hsbs:sb.size=b.length:=size_sv (show sv b=.string sb from hsb);obtain⟨bn,hbn⟩:=jl b.length;obtain⟨W1,hW1⟩:=jl (w.alloc (.cells #[.int .i64 1,.string sn,.slice ab bn bc] 48));obtain⟨rb,hrb⟩:=jl w.heap.size;have hB1:Below w.heap.size w W1:=by rw[hW1];exact(Below.refl _ w).alloc jn _
 have hbr:Blk W1 rb 48 #[.int .i64 1,.string sn,.slice ab bn bc]:=by rw[hW1,hrb];exact Blk.new w _ _
 have hP1:=h.later hB1;have hfd:∀n',_:=λn'=>(hP1.later (drewN_below (Below.refl _ W1) n')).find (by omega) nm
 rw[hsn]at hfd;rw[if_pos hth,jd hth]at hfd;obtain⟨fi,hfi⟩:=jl (findP S.L nm);rw[<-hfi]at hfd;have c6:=hP1.cells.2.2.2.2.2.2.1;have r1:=hbr.cell 1;simp only[jt,ja,jb]at r1;obtain⟨sL,hsL⟩:=jl S.L.length;obtain⟨sa,hsa⟩:=jl S.an;obtain⟨sc,hsc⟩:=jl S.nc;rw[<-hsL,<-hsa,<-hsc]at c6 hfd;have HP:=jq h;have HB:=jq hb;have HB1:=jq hB1;have HBR:=jq hbr;have HFD:=jq hfd;have HSN:=jq hsn;have HSB:=jq hsb;have HBN:=jq hbn;have HS:=jq (And.intro hsL (And.intro hsa hsc));have hrbw:=jq hrb;have HTH:=jq hth;have HFI:=jq hfi;have g1:decide ((0:Int) <(sn.size:Int))=true:=jd (by omega);have g1b:decide (0<sn.size)=true:=jd (by omega);have g2:decide ((sn.size:Int)<=32)=true:=jd (by omega);have g2b:decide (sn.size<=32)=true:=jd (by omega);rw[hsn,<-hbn];clear h hb hB1 hbr hP1 hfd hsn hsb hbn hsL hsa hsc hss hth hfi
 go_enter Tryz.func45,Tryz.ntmps45
 go_wp2_with fail
 rw[<-hW1,<-hrb];clear hW1 hrb
 go_quiet ((go_at_call 46;refine Calls.quiet_of_same (HFD.out _)))
 obtain⟨V,hV⟩:=jl (W1.drewN nq);have hBV:Below W1.heap.size W1 V:=by rw[hV];exact drewN_below (Below.refl _ _) _
 rw[<-hV];clear hV HFD c6 r1;have hB0V:Below w.heap.size w V:=HB1.out.trans (hBV.mono HB1.out.size);have hPV:=HP.out.later hB0V;have hbrV:=HBR.out.below hBV HBR.out.lt;have r0:=hbrV.cell 0;have r1:=hbrV.cell 1;have r2:=hbrV.cell 2;simp only[jt,ja,jb]at r0 r1 r2;have c0:=hPV.cells.1;have hcv:=conv_any (vc:=bc) (HB.out.later hB0V);rw[<-HBN.out,HSB.out]at hcv;obtain⟨ss,hss⟩:=jl S.s;rw[<-hss]at c0;have hB2:Below w.heap.size w V.drew:=hB0V.drew;have hwas:=HP.out.wasle nm;have hwr:=on_append (hPV.later (Below.refl _ V).drew).on (by omega) nm h1 h2 ab bc b (HB.out.later hB2) (by omega);rw[HSN.out,<-HBN.out,<-hss]at hwr;have HWR:Hid (Calls Tryz.prog 26 #[.pointer (some ⟨ss,0,none⟩),.string sn,.slice ab bn bc] V.drew λe w'=>e=.returned (.int .i64 0)/\∃Q',On B S.s S.d S.g S.cm w' Q' S.m S.ver S.next S.fs (setC S.C nm (some (some ((ansF (nowF S.C S.H nm)).1++b)))) S.H (i+1)/\(∀k,Q' k->S.Q k\/V.drew.heap.size<=k)/\Upon S.Q V.drew w'):=jq (by rw[hss];rw[hss]at hwr;exact hwr);have HPV:=jq hPV;have HB2:=jq hB2;have HBRV:=jq hbrV;clear hPV hbrV hB0V hwr hss hB2 hBV
 go_wp2_with fail
 go_still_tail 8,(by kernel_rfl)
 change wpList _ _ _ _ _ V.drew
 have hltV:=HPV.out.blk.lt;obtain⟨w2,hw2⟩:=jl V.drew;have HBV2:Hid (Below V.heap.size V w2):=jq (by rw[hw2];exact(Below.refl _ V).drew);rw[<-hw2]at HWR HB2⊢;clear hw2
 go_wp2_with fail
 refine HWR.out.mono ?_;rintro e w3 ⟨rfl,Q3,hon3,hq3,hu3⟩;have hrq:¬S.Q rb:=λhk=>by have:=HP.out.on.lt rb hk;have:=hrbw.out;omega
 have hbr3:=(HBRV.out.below HBV2.out HBRV.out.lt).upon hu3 hrq;have hpb3:=(HPV.out.blk.below HBV2.out HPV.out.blk.lt).upon hu3 HP.out.pq;have r0:=hbr3.cell 0;have r1:=hbr3.cell 1;have c6:=hpb3.cell 6;have c7:=hpb3.cell 7;unfold PD.cells at c6 c7;simp only[jt,ja,jb]at r0 r1 c6 c7;rw[<-HS.out.1,<-HS.out.2.1,<-HS.out.2.2]at c6
 have hnl3:Lies w3 sa (flatP S.L):=by
  rw[HS.out.2.1];exact((HP.out.nl.later HB2.out).upon hu3 (λk hk hq=>(HP.out.na k hk).1 (.inl hq)))
 obtain⟨fx,hfx⟩:∃x,S.L[fi]? =some x:=⟨S.L[fi]'(by rw[HFI.out];exact HTH.out),jg _⟩;obtain⟨gn,on,hsa2,n0,n1⟩:=cells_at hnl3 hfx;rw[hsa2]at c6;obtain⟨so,hso⟩:∃s:ByteArray,nv fx.2=.string s:=⟨_,rfl⟩;rw[hso]at n1
 have hbo: (ansF (nowF S.C S.H nm)).1=fx.2:=by
  rw[HP.out.rowN.was nm,if_pos HTH.out,List.getD_eq_getElem?_getD,<-HFI.out,hfx]
  rfl
 have hsol:so.size=fx.2.length:=size_sv (show sv fx.2=.string so from hso);have hfxl:fx.2.length<=1000*i:=(HP.out.each fx (jM hfx)).2;have hadd:=add_str 9 so sb (by rw[hsol,hsbs];omega);have hfil:fi<sL:=by rw[HFI.out,HS.out.1];exact HTH.out
 have hfib:sL<=1000:=by rw[HS.out.1];have:=HP.out.ll;omega
 have hfd1:decide ((fi:Int) <(sL:Int))=true:=jd (by omega);obtain⟨bnew,hbnew⟩:=jl (fx.2++b);have hsnew:nv bnew=.string (so++sb):=by rw[hbnew];exact nv_append hso HSB.out
 have hnewl:bnew.length<=1000*(i+1):=by rw[hbnew,jL];omega
 rw[hbo,<-hbnew]at hon3;obtain⟨sN,hsN⟩:=jl (so++sb);have HSA2:=jq hsa2;rw[<-hsN]at hsnew hadd;have hput:=HP.out.put (by omega) HB2.out hu3 nm bnew (V:=w3.drew) (Below.refl _ w3).drew;rw[HSN.out,hsnew,<-HS.out.1,<-HS.out.2.1,<-HS.out.2.2,hsa2]at hput;have HPUT:Hid (Calls Tryz.prog 79 #[.slice (some ⟨gn,on,none⟩) sL sc,.string sn,.string sN] w3.drew λe w'=>∃a c,e=.returned (.slice a (putP S.L nm bnew).length c)/\w'.ownsRow w3.heap.size 69 2 (.slice a (putP S.L nm bnew).length c) (putP S.L nm bnew).length (flatP (putP S.L nm bnew))/\Below w3.heap.size w3 w'):=jq hput;have HON3:=jq (And.intro hon3 (And.intro hq3 hu3));have HBR3:=jq hbr3;have HPB3:=jq hpb3;have HNEWL:=jq hnewl;clear hon3 hq3 hu3 hbr3 hpb3 hput hsnew hnewl HWR hcv c0 r2 hnl3 hfx hsa2 hso hbo hsol hfxl hbnew hsN
 go_wp2_with fail
 go_cut[] (λwx=>∃(w4:World) (ap:Option Addr) (pn cp:Nat),Hid (pn=(putP S.L nm bnew).length)/\Hid (w4.ownsRow w3.heap.size 69 2 (.slice ap (putP S.L nm bnew).length cp) (putP S.L nm bnew).length (flatP (putP S.L nm bnew)))/\Hid (Below w3.heap.size w3 w4)/\wx=w4.setCell ⟨p,6,none⟩ (.slice ap pn cp))
 case first=>
  go_region_law ((first|(go_simp;go_at_call 79;refine HPUT.out.mono ?_;rintro e w4 ⟨ap,cp,rfl,hO4,hB4⟩;obtain⟨pn,hpn⟩:=jl ((putP S.L nm bnew).length);have hpb4:=HPB3.out.below hB4 HPB3.out.lt;have z6:=hpb4.frozen 6;have k6:=hpb4.cell 6;unfold PD.cells at k6;simp only[jt,ja,jb]at k6;have HO4:=jq hO4;have HB4:=jq hB4;have HPN:=jq hpn;rw[<-hpn];clear hO4 hB4 hpn hpb4;dsimp only)))
  all_goals go_wp2_with fail
  all_goals go_meet
  all_goals exact⟨_,_,_,_,HPN,HO4,HB4,rfl⟩
 case rest=>
  obtain⟨w4,ap,pn,cp,HPN,HO4,HB4,hwc⟩:=hcut;have hpb4:=HPB3.out.below HB4.out HPB3.out.lt;have hbr4:=HBR3.out.below HB4.out HBR3.out.lt;have hpb5:=hpb4.set 6 (.slice ap pn cp);have hprn:rb≠p:=by have:=HP.out.blk.lt;have:=hrbw.out;omega
  have hbr5:=hbr4.far (p:=⟨p,6,none⟩) hprn (.slice ap pn cp);obtain⟨w5,hw5⟩:=jl (w4.setCell ⟨p,6,none⟩ (.slice ap pn cp));rw[<-hw5]at hpb5 hbr5 hwc;subst hwc;have hB35:Upon (λg=>g=p) w3 wc:=by rw[hw5];exact(Upon.of_below (P:=λg=>g=p) HB4.out).set (p:=⟨p,6,none⟩) (.inl rfl) _
  have hB05:Upon (S.D p) w wc:=((Upon.of_below (P:=S.D p) HB2.out).trans (HON3.out.2.2.mono (λk hk=>Or.inl hk)) (λk hk=>.inl hk)).trans (hB35.mono (λk hk=>Or.inr (Or.inl hk))) (λk hk=>.inl hk);have hO5:wc.ownsRow B 9 1 S.vc S.ch.length (S.ch.map nv):=own_upon (own_upon (own_later HP.out.own HB2.out) HON3.out.2.2 HP.out.chq) hB35 (λg hg e=>HP.out.pv (by rw[<-e];exact hg));obtain⟨va,vcp,hvc,_,_,_,_⟩:=own_shape hO5;have hBd:Below wc.heap.size wc wc.drew:=(Below.refl _ wc).drew;have hwB:B<=wc.heap.size:=by have:=HP.out.on.low;have:=hB05.size;omega
  obtain⟨v',w6,hr6,hrow6,hg6,hat6⟩:=append_nv wc.drew 36 S.vc S.ch (own_later hO5 hBd) nm (by have:=HP.out.chl;omega) hwB;have hg6':wc.grownBy w6 S.vc.ownBlock:=grown_trans grown_drew hg6;rw[HSN.out]at hr6;have q7:wc.drew.cell? ⟨p,7,none⟩=some S.vc:=hpb5.cell 7;have q7b: (wc.alloc (.cells #[.string sn] 9)).cell? ⟨p,7,none⟩=some S.vc:=(hpb5.alloc _).cell 7;have r1:wc.cell? ⟨rb,1,none⟩=some (.string sn):=hbr5.cell 1;have hpb6:=hpb5.grown hg6' (λe=>HP.out.pv e.symm);have k7:w6.cell? ⟨p,7,none⟩=some S.vc:=hpb6.cell 7;have k8:w6.cell? ⟨p,8,none⟩=some (.bool S.wt):=hpb6.cell 8;have z7:=hpb6.frozen 7;have z8:=hpb6.frozen 8;obtain⟨va2,vcp2,hvc2,_,_,_,_⟩:=own_shape hrow6;have hend:=HP.out.wrote (w3:=w3) (w4:=w4) (w5:=wc) (w6:=w6) (w7:=w6.setCell ⟨p,7,none⟩ v') (w8:=(w6.setCell ⟨p,7,none⟩ v').setCell ⟨p,8,none⟩ (.bool true)) nm bnew h1 h2 HNEWL.out HB2.out HON3.out.1 HON3.out.2.1 HON3.out.2.2 HO4.out HB4.out (by rw[hw5,HPN.out]) hrow6 hg6' hat6 rfl rfl;rw[hvc]at hr6 q7 q7b k7;obtain⟨swt,hswt⟩:=jl S.wt;rw[<-hswt]at k8;obtain⟨vn,hvn⟩:=jl S.ch.length;rw[<-hvn]at hr6 q7 q7b k7;obtain⟨vn2,hvn2⟩:=jl ((S.ch++ [nm]).length);rw[<-hvn2]at hvc2;subst hvc2;have HEND:=jq hend;clear hend hrow6 hg6 hg6' hat6 hpb6 hvc hO5 hB05 hB35 hpb5 hbr5 hpb4 hbr4 hw5 hBd hswt hvn hvn2
  go_wp2_with fail
  go_region_law ((first|(refine step_append_run rfl (.tmp 90) (.tmp 93) 36 36 rfl _ _ rfl rfl hr6 ?_)))
  all_goals go_wp2_with fail
  all_goals go_ret
  all_goals exact⟨rfl,HEND.out⟩
theorem play_k1n (h:Play Z B p cnt i w S) (hi:i<=59) (nm b:List UInt8) (ab:Option Addr) (bc:Nat) (hb:Lies w ab (b.map bv)) (hbl:b.length<=1000) (h1:1<=nm.length) (h2:nm.length<=32) (hth:¬findP S.L nm<S.L.length):
  Calls Tryz.prog 45 #[.pointer (some ⟨p,0,none⟩),.agg #[.int .i64 1,nv nm,.slice ab b.length bc]] w λe w'=>e=.returned (.bool true)/\Step Z B p cnt (i+1) S w w':=by
 obtain⟨sn,hsn⟩:∃s:ByteArray,nv nm=.string s:=⟨_,rfl⟩;have hss:sn.size=nm.length:=size_sv (show sv nm=.string sn from hsn);obtain⟨sb,hsb⟩:∃s:ByteArray,nv b=.string s:=⟨_,rfl⟩;have hsbs:sb.size=b.length:=size_sv (show sv b=.string sb from hsb);obtain⟨bn,hbn⟩:=jl b.length;obtain⟨W1,hW1⟩:=jl (w.alloc (.cells #[.int .i64 1,.string sn,.slice ab bn bc] 48));obtain⟨rb,hrb⟩:=jl w.heap.size;have hB1:Below w.heap.size w W1:=by rw[hW1];exact(Below.refl _ w).alloc jn _
 have hbr:Blk W1 rb 48 #[.int .i64 1,.string sn,.slice ab bn bc]:=by rw[hW1,hrb];exact Blk.new w _ _
 have hP1:=h.later hB1;have hfd:∀n',_:=λn'=>(hP1.later (drewN_below (Below.refl _ W1) n')).find (by omega) nm
 rw[hsn]at hfd;rw[if_neg hth,jf hth]at hfd;have c6:=hP1.cells.2.2.2.2.2.2.1;have r1:=hbr.cell 1;simp only[jt,ja,jb]at r1;obtain⟨sL,hsL⟩:=jl S.L.length;obtain⟨sa,hsa⟩:=jl S.an;obtain⟨sc,hsc⟩:=jl S.nc;rw[<-hsL,<-hsa,<-hsc]at c6 hfd;have HP:=jq h;have HB:=jq hb;have HB1:=jq hB1;have HBR:=jq hbr;have HFD:=jq hfd;have HSN:=jq hsn;have HSB:=jq hsb;have HBN:=jq hbn;have HS:=jq (And.intro hsL (And.intro hsa hsc));have hrbw:=jq hrb;have HTH:=jq hth;have g1:decide ((0:Int) <(sn.size:Int))=true:=jd (by omega);have g1b:decide (0<sn.size)=true:=jd (by omega);have g2:decide ((sn.size:Int)<=32)=true:=jd (by omega);have g2b:decide (sn.size<=32)=true:=jd (by omega);rw[hsn,<-hbn];clear h hb hB1 hbr hP1 hfd hsn hsb hbn hsL hsa hsc hss hth
 go_enter Tryz.func45,Tryz.ntmps45
 go_wp2_with fail
 rw[<-hW1,<-hrb];clear hW1 hrb
 go_quiet ((go_at_call 46;refine Calls.quiet_of_same (HFD.out _)))
 obtain⟨V,hV⟩:=jl (W1.drewN nq);have hBV:Below W1.heap.size W1 V:=by rw[hV];exact drewN_below (Below.refl _ _) _
 rw[<-hV];clear hV HFD c6 r1;have hB0V:Below w.heap.size w V:=HB1.out.trans (hBV.mono HB1.out.size);have hPV:=HP.out.later hB0V;have hbrV:=HBR.out.below hBV HBR.out.lt;have r0:=hbrV.cell 0;have r1:=hbrV.cell 1;have r2:=hbrV.cell 2;simp only[jt,ja,jb]at r0 r1 r2;have c0:=hPV.cells.1;have hcv:=conv_any (vc:=bc) (HB.out.later hB0V);rw[<-HBN.out,HSB.out]at hcv;obtain⟨ss,hss⟩:=jl S.s;rw[<-hss]at c0;have hB2:Below w.heap.size w V.drew:=hB0V.drew;have hwas:=HP.out.wasle nm;have hwr:=on_append (hPV.later (Below.refl _ V).drew).on (by omega) nm h1 h2 ab bc b (HB.out.later hB2) (by omega);rw[HSN.out,<-HBN.out,<-hss]at hwr;have HWR:Hid (Calls Tryz.prog 26 #[.pointer (some ⟨ss,0,none⟩),.string sn,.slice ab bn bc] V.drew λe w'=>e=.returned (.int .i64 0)/\∃Q',On B S.s S.d S.g S.cm w' Q' S.m S.ver S.next S.fs (setC S.C nm (some (some ((ansF (nowF S.C S.H nm)).1++b)))) S.H (i+1)/\(∀k,Q' k->S.Q k\/V.drew.heap.size<=k)/\Upon S.Q V.drew w'):=jq (by rw[hss];rw[hss]at hwr;exact hwr);have HPV:=jq hPV;have HB2:=jq hB2;have HBRV:=jq hbrV;clear hPV hbrV hB0V hwr hss hB2 hBV
 go_wp2_with fail
 go_still_tail 8,(by kernel_rfl)
 change wpList _ _ _ _ _ V.drew
 have hltV:=HPV.out.blk.lt;obtain⟨w2,hw2⟩:=jl V.drew;have HBV2:Hid (Below V.heap.size V w2):=jq (by rw[hw2];exact(Below.refl _ V).drew);rw[<-hw2]at HWR HB2⊢;clear hw2
 go_wp2_with fail
 refine HWR.out.mono ?_;rintro e w3 ⟨rfl,Q3,hon3,hq3,hu3⟩;have hrq:¬S.Q rb:=λhk=>by have:=HP.out.on.lt rb hk;have:=hrbw.out;omega
 have hbr3:=(HBRV.out.below HBV2.out HBRV.out.lt).upon hu3 hrq;have hpb3:=(HPV.out.blk.below HBV2.out HPV.out.blk.lt).upon hu3 HP.out.pq;have r0:=hbr3.cell 0;have r1:=hbr3.cell 1;have c6:=hpb3.cell 6;have c7:=hpb3.cell 7;unfold PD.cells at c6 c7;simp only[jt,ja,jb]at r0 r1 c6 c7;rw[<-HS.out.1,<-HS.out.2.1,<-HS.out.2.2]at c6;have hbo: (ansF (nowF S.C S.H nm)).1= []:=by rw[HP.out.rowN.was nm,if_neg HTH.out]
 obtain⟨bnew,hbnew⟩:=jl b;have hsnew:nv bnew=.string sb:=by rw[hbnew];exact HSB.out
 have hnewl:bnew.length<=1000*(i+1):=by rw[hbnew];omega
 rw[hbo,List.nil_append,<-hbnew]at hon3;clear hbnew;have hput:=HP.out.put (by omega) HB2.out hu3 nm bnew (V:=w3.drew) (Below.refl _ w3).drew;rw[HSN.out,hsnew,<-HS.out.1,<-HS.out.2.1,<-HS.out.2.2]at hput;have HPUT:Hid (Calls Tryz.prog 79 #[.slice sa sL sc,.string sn,.string sb] w3.drew λe w'=>∃a c,e=.returned (.slice a (putP S.L nm bnew).length c)/\w'.ownsRow w3.heap.size 69 2 (.slice a (putP S.L nm bnew).length c) (putP S.L nm bnew).length (flatP (putP S.L nm bnew))/\Below w3.heap.size w3 w'):=jq hput;have HON3:=jq (And.intro hon3 (And.intro hq3 hu3));have HBR3:=jq hbr3;have HPB3:=jq hpb3;have HNEWL:=jq hnewl;clear hon3 hq3 hu3 hbr3 hpb3 hput hsnew hnewl HWR hcv c0 r2
 go_wp2_with fail
 go_cut[] (λwx=>∃(w4:World) (ap:Option Addr) (pn cp:Nat),Hid (pn=(putP S.L nm bnew).length)/\Hid (w4.ownsRow w3.heap.size 69 2 (.slice ap (putP S.L nm bnew).length cp) (putP S.L nm bnew).length (flatP (putP S.L nm bnew)))/\Hid (Below w3.heap.size w3 w4)/\wx=w4.setCell ⟨p,6,none⟩ (.slice ap pn cp))
 case first=>
  go_region_law ((first|(go_simp;go_at_call 79;refine HPUT.out.mono ?_;rintro e w4 ⟨ap,cp,rfl,hO4,hB4⟩;obtain⟨pn,hpn⟩:=jl ((putP S.L nm bnew).length);have hpb4:=HPB3.out.below hB4 HPB3.out.lt;have z6:=hpb4.frozen 6;have k6:=hpb4.cell 6;unfold PD.cells at k6;simp only[jt,ja,jb]at k6;have HO4:=jq hO4;have HB4:=jq hB4;have HPN:=jq hpn;rw[<-hpn];clear hO4 hB4 hpn hpb4;dsimp only)))
  all_goals go_wp2_with fail
  all_goals go_meet
  all_goals exact⟨_,_,_,_,HPN,HO4,HB4,rfl⟩
 case rest=>
  obtain⟨w4,ap,pn,cp,HPN,HO4,HB4,hwc⟩:=hcut;have hpb4:=HPB3.out.below HB4.out HPB3.out.lt;have hbr4:=HBR3.out.below HB4.out HBR3.out.lt;have hpb5:=hpb4.set 6 (.slice ap pn cp);have hprn:rb≠p:=by have:=HP.out.blk.lt;have:=hrbw.out;omega
  have hbr5:=hbr4.far (p:=⟨p,6,none⟩) hprn (.slice ap pn cp);obtain⟨w5,hw5⟩:=jl (w4.setCell ⟨p,6,none⟩ (.slice ap pn cp));rw[<-hw5]at hpb5 hbr5 hwc;subst hwc;have hB35:Upon (λg=>g=p) w3 wc:=by rw[hw5];exact(Upon.of_below (P:=λg=>g=p) HB4.out).set (p:=⟨p,6,none⟩) (.inl rfl) _
  have hB05:Upon (S.D p) w wc:=((Upon.of_below (P:=S.D p) HB2.out).trans (HON3.out.2.2.mono (λk hk=>Or.inl hk)) (λk hk=>.inl hk)).trans (hB35.mono (λk hk=>Or.inr (Or.inl hk))) (λk hk=>.inl hk);have hO5:wc.ownsRow B 9 1 S.vc S.ch.length (S.ch.map nv):=own_upon (own_upon (own_later HP.out.own HB2.out) HON3.out.2.2 HP.out.chq) hB35 (λg hg e=>HP.out.pv (by rw[<-e];exact hg));obtain⟨va,vcp,hvc,_,_,_,_⟩:=own_shape hO5;have hBd:Below wc.heap.size wc wc.drew:=(Below.refl _ wc).drew;have hwB:B<=wc.heap.size:=by have:=HP.out.on.low;have:=hB05.size;omega
  obtain⟨v',w6,hr6,hrow6,hg6,hat6⟩:=append_nv wc.drew 36 S.vc S.ch (own_later hO5 hBd) nm (by have:=HP.out.chl;omega) hwB;have hg6':wc.grownBy w6 S.vc.ownBlock:=grown_trans grown_drew hg6;rw[HSN.out]at hr6;have q7:wc.drew.cell? ⟨p,7,none⟩=some S.vc:=hpb5.cell 7;have q7b: (wc.alloc (.cells #[.string sn] 9)).cell? ⟨p,7,none⟩=some S.vc:=(hpb5.alloc _).cell 7;have r1:wc.cell? ⟨rb,1,none⟩=some (.string sn):=hbr5.cell 1;have hpb6:=hpb5.grown hg6' (λe=>HP.out.pv e.symm);have k7:w6.cell? ⟨p,7,none⟩=some S.vc:=hpb6.cell 7;have k8:w6.cell? ⟨p,8,none⟩=some (.bool S.wt):=hpb6.cell 8;have z7:=hpb6.frozen 7;have z8:=hpb6.frozen 8;obtain⟨va2,vcp2,hvc2,_,_,_,_⟩:=own_shape hrow6;have hend:=HP.out.wrote (w3:=w3) (w4:=w4) (w5:=wc) (w6:=w6) (w7:=w6.setCell ⟨p,7,none⟩ v') (w8:=(w6.setCell ⟨p,7,none⟩ v').setCell ⟨p,8,none⟩ (.bool true)) nm bnew h1 h2 HNEWL.out HB2.out HON3.out.1 HON3.out.2.1 HON3.out.2.2 HO4.out HB4.out (by rw[hw5,HPN.out]) hrow6 hg6' hat6 rfl rfl;rw[hvc]at hr6 q7 q7b k7;obtain⟨swt,hswt⟩:=jl S.wt;rw[<-hswt]at k8;obtain⟨vn,hvn⟩:=jl S.ch.length;rw[<-hvn]at hr6 q7 q7b k7;obtain⟨vn2,hvn2⟩:=jl ((S.ch++ [nm]).length);rw[<-hvn2]at hvc2;subst hvc2;have HEND:=jq hend;clear hend hrow6 hg6 hg6' hat6 hpb6 hvc hO5 hB05 hB35 hpb5 hbr5 hpb4 hbr4 hw5 hBd hswt hvn hvn2
  go_wp2_with fail
  go_region_law ((first|(refine step_append_run rfl (.tmp 90) (.tmp 93) 36 36 rfl _ _ rfl rfl hr6 ?_)))
  all_goals go_wp2_with fail
  all_goals go_ret
  all_goals exact⟨rfl,HEND.out⟩
theorem play_k0_bad (h:Play Z B p cnt i w S) (hi:i<=59) (nm b:List UInt8) (ab:Option Addr) (bc:Nat) (hb:Lies w ab (b.map bv)) (hbl:b.length<=1000) (hbad:nm.length=0\/32<nm.length) (hn100:nm.length<=100):
  Calls Tryz.prog 45 #[.pointer (some ⟨p,0,none⟩),.agg #[.int .i64 0,nv nm,.slice ab b.length bc]] w λe w'=>e=.returned (.bool true)/\Step Z B p cnt (i+1) S w w':=by
 obtain⟨sn,hsn⟩:∃s:ByteArray,nv nm=.string s:=⟨_,rfl⟩;have hss:sn.size=nm.length:=size_sv (show sv nm=.string sn from hsn);obtain⟨sb,hsb⟩:∃s:ByteArray,nv b=.string s:=⟨_,rfl⟩;have hsbs:sb.size=b.length:=size_sv (show sv b=.string sb from hsb);obtain⟨bn,hbn⟩:=jl b.length;obtain⟨W1,hW1⟩:=jl (w.alloc (.cells #[.int .i64 0,.string sn,.slice ab bn bc] 48));obtain⟨rb,hrb⟩:=jl w.heap.size;have hB1:Below w.heap.size w W1:=by rw[hW1];exact(Below.refl _ w).alloc jn _
 have hbr:Blk W1 rb 48 #[.int .i64 0,.string sn,.slice ab bn bc]:=by rw[hW1,hrb];exact Blk.new w _ _
 have hP1:=h.later hB1;have hfd:∀n',_:=λn'=>(hP1.later (drewN_below (Below.refl _ W1) n')).find (by omega) nm
 rw[hsn]at hfd;obtain⟨fi,hfi⟩:∃y:Int,y=(if findP S.L nm<S.L.length then(findP S.L nm:Int)else 0):=⟨_,rfl⟩;obtain⟨tf,htf⟩:=jl (decide (findP S.L nm<S.L.length));rw[<-hfi,<-htf]at hfd;clear hfi htf;have c6:=hP1.cells.2.2.2.2.2.2.1;have r1:=hbr.cell 1;simp only[jt,ja,jb]at r1;obtain⟨sL,hsL⟩:=jl S.L.length;obtain⟨sa,hsa⟩:=jl S.an;obtain⟨sc,hsc⟩:=jl S.nc;rw[<-hsL,<-hsa,<-hsc]at c6 hfd;have HP:=jq h;have HB:=jq hb;have HB1:=jq hB1;have HBR:=jq hbr;have HFD:=jq hfd;have HSN:=jq hsn;have HSB:=jq hsb;have HBN:=jq hbn;have HS:=jq (And.intro hsL (And.intro hsa hsc));have hrbw:=jq hrb
 have hg: (decide ((0:Int) <(sn.size:Int))=false/\decide (0<sn.size)=false)\/(decide ((0:Int) <(sn.size:Int))=true/\decide (0<sn.size)=true/\decide ((sn.size:Int)<=32)=false/\decide (sn.size<=32)=false):=by
  rcases hbad with h0|h0
  ·exact .inl ⟨jf (by omega),jf (by omega)⟩
  ·exact .inr ⟨jd (by omega),jd (by omega),jf (by omega),jf (by omega)⟩
 rw[hsn,<-hbn];clear h hb hB1 hbr hP1 hfd hsn hsb hbn hsL hsa hsc hss
 go_enter Tryz.func45,Tryz.ntmps45
 go_wp2_with fail
 rw[<-hW1,<-hrb];clear hW1 hrb
 go_quiet ((go_at_call 46;refine Calls.quiet_of_same (HFD.out _)))
 obtain⟨V,hV⟩:=jl (W1.drewN nq);have hBV:Below W1.heap.size W1 V:=by rw[hV];exact drewN_below (Below.refl _ _) _
 rw[<-hV];clear hV HFD c6 r1;have hB0V:Below w.heap.size w V:=HB1.out.trans (hBV.mono HB1.out.size);have hPV:=HP.out.later hB0V;have hbrV:=HBR.out.below hBV HBR.out.lt;have r0:=hbrV.cell 0;have r1:=hbrV.cell 1;have r2:=hbrV.cell 2;simp only[jt,ja,jb]at r0 r1 r2;have c0:=hPV.cells.1;have hcv:=conv_any (vc:=bc) (HB.out.later hB0V);rw[<-HBN.out,HSB.out]at hcv;obtain⟨ss,hss⟩:=jl S.s;rw[<-hss]at c0;have hB2:Below w.heap.size w V.drew:=hB0V.drew;have hwr:=(on_write_name (hPV.later (Below.refl _ V).drew).on nm hbad ab bn bc).mono (R':=λe w'=>e=.returned (.int .i64 8)/\Below V.drew.heap.size V.drew w') (λe w' hh=>⟨hh.1,by rw[hh.2];exact Below.refl _ _⟩);rw[HSN.out,<-hss]at hwr;have HWR:Hid (Calls Tryz.prog 11 #[.pointer (some ⟨ss,0,none⟩),.string sn,.slice ab bn bc] V.drew λe w'=>e=.returned (.int .i64 8)/\Below V.drew.heap.size V.drew w'):=jq hwr;have HPV:=jq hPV;have HB2:=jq hB2;have HBRV:=jq hbrV;clear hPV hbrV hB0V hwr hss hB2 hBV
 all_goals
  rcases hg with⟨g1,g1b⟩|⟨g1,g1b,g2,g2b⟩
  all_goals
   go_wp2_with fail
   go_still_tail 8,(by kernel_rfl)
   change wpList _ _ _ _ _ V.drew
   go_wp2_with fail
   refine HWR.out.mono ?_;rintro e w3 ⟨rfl,hB3⟩;have HEND:=jq (HP.out.same (j:=i+1) (by omega) (HB2.out.trans (hB3.mono HB2.out.size)));clear hB3
   go_wp2_with fail
   go_ret
   exact⟨rfl,HEND.out⟩
theorem play_k1n_bad (h:Play Z B p cnt i w S) (hi:i<=59) (nm b:List UInt8) (ab:Option Addr) (bc:Nat) (hb:Lies w ab (b.map bv)) (hbl:b.length<=1000) (hbad:nm.length=0\/32<nm.length) (hn100:nm.length<=100):
  Calls Tryz.prog 45 #[.pointer (some ⟨p,0,none⟩),.agg #[.int .i64 1,nv nm,.slice ab b.length bc]] w λe w'=>e=.returned (.bool true)/\Step Z B p cnt (i+1) S w w':=by
 obtain⟨sn,hsn⟩:∃s:ByteArray,nv nm=.string s:=⟨_,rfl⟩;have hss:sn.size=nm.length:=size_sv (show sv nm=.string sn from hsn);obtain⟨sb,hsb⟩:∃s:ByteArray,nv b=.string s:=⟨_,rfl⟩;have hsbs:sb.size=b.length:=size_sv (show sv b=.string sb from hsb);obtain⟨bn,hbn⟩:=jl b.length;obtain⟨W1,hW1⟩:=jl (w.alloc (.cells #[.int .i64 1,.string sn,.slice ab bn bc] 48));obtain⟨rb,hrb⟩:=jl w.heap.size;have hB1:Below w.heap.size w W1:=by rw[hW1];exact(Below.refl _ w).alloc jn _
 have hbr:Blk W1 rb 48 #[.int .i64 1,.string sn,.slice ab bn bc]:=by rw[hW1,hrb];exact Blk.new w _ _
 have hP1:=h.later hB1;have hfd:∀n',_:=λn'=>(hP1.later (drewN_below (Below.refl _ W1) n')).find (by omega) nm
 rw[hsn]at hfd
 have hth:¬findP S.L nm<S.L.length:=λhc=>by
  have hne:=(h.rowN.find nm).1.1 hc
  cases hn:nowF S.C S.H nm with
  |none=>exact hne hn
  |some y=>
   have:=(h.each (nm,y) ((h.rowN.mem nm y).2 hn)).1;dsimp only at this
   omega
 rw[if_neg hth,jf hth]at hfd;have c6:=hP1.cells.2.2.2.2.2.2.1;have r1:=hbr.cell 1;simp only[jt,ja,jb]at r1;obtain⟨sL,hsL⟩:=jl S.L.length;obtain⟨sa,hsa⟩:=jl S.an;obtain⟨sc,hsc⟩:=jl S.nc;rw[<-hsL,<-hsa,<-hsc]at c6 hfd;have HP:=jq h;have HB:=jq hb;have HB1:=jq hB1;have HBR:=jq hbr;have HFD:=jq hfd;have HSN:=jq hsn;have HSB:=jq hsb;have HBN:=jq hbn;have HS:=jq (And.intro hsL (And.intro hsa hsc));have hrbw:=jq hrb;have HTH:=jq hth
 have hg: (decide ((0:Int) <(sn.size:Int))=false/\decide (0<sn.size)=false)\/(decide ((0:Int) <(sn.size:Int))=true/\decide (0<sn.size)=true/\decide ((sn.size:Int)<=32)=false/\decide (sn.size<=32)=false):=by
  rcases hbad with h0|h0
  ·exact .inl ⟨jf (by omega),jf (by omega)⟩
  ·exact .inr ⟨jd (by omega),jd (by omega),jf (by omega),jf (by omega)⟩
 rw[hsn,<-hbn];clear h hb hB1 hbr hP1 hfd hsn hsb hbn hsL hsa hsc hss hth
 go_enter Tryz.func45,Tryz.ntmps45
 go_wp2_with fail
 rw[<-hW1,<-hrb];clear hW1 hrb
 go_quiet ((go_at_call 46;refine Calls.quiet_of_same (HFD.out _)))
 obtain⟨V,hV⟩:=jl (W1.drewN nq);have hBV:Below W1.heap.size W1 V:=by rw[hV];exact drewN_below (Below.refl _ _) _
 rw[<-hV];clear hV HFD c6 r1;have hB0V:Below w.heap.size w V:=HB1.out.trans (hBV.mono HB1.out.size);have hPV:=HP.out.later hB0V;have hbrV:=HBR.out.below hBV HBR.out.lt;have r0:=hbrV.cell 0;have r1:=hbrV.cell 1;have r2:=hbrV.cell 2;simp only[jt,ja,jb]at r0 r1 r2;have c0:=hPV.cells.1;have hcv:=conv_any (vc:=bc) (HB.out.later hB0V);rw[<-HBN.out,HSB.out]at hcv;obtain⟨ss,hss⟩:=jl S.s;rw[<-hss]at c0;have hB2:Below w.heap.size w V.drew:=hB0V.drew;have hwas:=HP.out.wasle nm;have hwr:=on_append_name (hPV.later (Below.refl _ V).drew).on nm hbad (by omega) ab bc b (HB.out.later hB2) (by omega);rw[<-HBN.out]at hwr;rw[HSN.out,<-hss]at hwr;have HWR:Hid (Calls Tryz.prog 26 #[.pointer (some ⟨ss,0,none⟩),.string sn,.slice ab bn bc] V.drew λe w'=>e=.returned (.int .i64 8)/\Below V.drew.heap.size V.drew w'):=jq hwr;have HPV:=jq hPV;have HB2:=jq hB2;have HBRV:=jq hbrV;clear hPV hbrV hB0V hwr hss hB2 hBV
 all_goals
  rcases hg with⟨g1,g1b⟩|⟨g1,g1b,g2,g2b⟩
  all_goals
   go_wp2_with fail
   go_still_tail 8,(by kernel_rfl)
   change wpList _ _ _ _ _ V.drew
   go_wp2_with fail
   refine HWR.out.mono ?_;rintro e w3 ⟨rfl,hB3⟩;have HEND:=jq (HP.out.same (j:=i+1) (by omega) (HB2.out.trans (hB3.mono HB2.out.size)));clear hB3
   go_wp2_with fail
   go_ret
   exact⟨rfl,HEND.out⟩
end Full
namespace Full
open Go.RowKit Go.Deep Mem Crc Go.Maps Dk Mani RefF
open Store (Chg none' nv Files setC setC_same setC_other)
open Ext (Tab)
variable {Z:Prop} {B p cnt i:Nat} {w w':World} {S:PD}
theorem Play.removed (h:Play Z B p cnt i w S) {w2 w3 w4 w5 w8:World} (nm:List UInt8) (hB2:Below w.heap.size w w2) {Q3:Nat->Prop}
  (hon:On B S.s S.d S.g S.cm w3 Q3 S.m S.ver S.next S.fs (setC S.C nm (some none)) S.H (i+1)) (hq3:∀k,Q3 k->S.Q k\/w2.heap.size<=k) (hu3:Upon S.Q w2 w3)
  {ap:Option Addr} {cp:Nat} (hput:w4.ownsRow w3.heap.size 69 2 (.slice ap (withoutP S.L nm).length cp) (withoutP S.L nm).length (flatP (withoutP S.L nm))) (hB4:Below w3.heap.size w3 w4)
  (h5:w5=w4.setCell ⟨p,6,none⟩ (.slice ap (withoutP S.L nm).length cp)) (h8:w8=w5.setCell ⟨p,8,none⟩ (.bool true)):
  Step Z B p cnt (i+1) S w w8:=by
 have hlt3:=hon.lt;have hz2:=hB2.size;have hz3:=hu3.size;have hz4:=hB4.size;have hpl:=h.blk.lt;have hlow:=h.on.low;have hpb3:=(h.blk.below hB2 hpl).upon hu3 h.pq;have hpb4:=hpb3.below hB4 hpb3.lt;have hpb8:=(hpb4.set 6 (.slice ap (withoutP S.L nm).length cp)).set 8 (.bool true);rw[<-h5,<-h8]at hpb8;have hu48:Upon (λg=>g=p) w4 w8:=by rw[h8,h5];exact((Upon.refl (λg=>g=p) w4).set (p:=⟨p,6,none⟩) (.inl rfl) _).set (p:=⟨p,8,none⟩) (.inl rfl) _
 have hu38:Upon (λg=>g=p) w3 w8:=(Upon.of_below (P:=λg=>g=p) hB4).trans hu48 (λk hk=>.inl hk);have hz38:=hu48.size;have hpq3:¬Q3 p:=λhk=>(hq3 p hk).elim h.pq (λh4=>by omega)
 have hvq3:∀k,S.vc.ownBlock=some k->¬Q3 k:=λk hk hk2=>(hq3 k hk2).elim (h.chq k hk) (λh4=>by have:=(h.own.lt k hk).2;omega)
 have hpos:=h.on.pos
 have hon8:=hon.keep hu38 (λk hk=>by
  rw[hk];exact⟨hpq3,by have:=h.pb;omega⟩)
 have hu8:Upon (S.D p) w w8:=((Upon.of_below (P:=S.D p) hB2).trans (hu3.mono (λk hk=>Or.inl hk)) (λk hk=>.inl hk)).trans (hu38.mono (λk hk=>Or.inr (Or.inl hk))) (λk hk=>.inl hk);obtain⟨a',c',e',hcap,hLp,hbp,_⟩:=own_shape hput;injection e' with e1 e2 e3;subst e1 e3
 have hnp:∀k,Mem.blk ap=some k->¬k=p:=λk hk=>by
  have:=hbp k hk;have:=hpb3.lt
  omega
 have hL8:Lies w8 ap (flatP (withoutP S.L nm)):=hLp.upon hu48 hnp;have hO8:w8.ownsRow B 9 1 S.vc S.ch.length (S.ch.map nv):=own_upon (own_upon (own_later h.own hB2) hu3 h.chq) hu38 (λg hg e=>h.pv (by rw[<-e];exact hg));have hll:=h.ll;have hchl:=h.chl;have hwl: (withoutP S.L nm).length<=S.L.length:=List.length_filter_le _ _;refine h.next (j:=i+1) (Q':=Q3) (C':=setC S.C nm (some none)) (L':=withoutP S.L nm) (ch':=S.ch) (wt':=true) (an':=ap) (nc':=cp) (vc':=S.vc) hu8 (Nat.le_succ i) hon8 (λk hk=>(hq3 k hk).imp id (λh4=>by omega)) hpb8 hvq3 (λk hk=>.inl hk) hO8 hL8 (λk hk=>?_) (h.rowN.remove nm) ⟨λx hx=>?_,λx y hx=>?_⟩ ⟨λe=>(by cases e),λhx=>?_⟩ (by omega) (by omega) (λx hx=>?_) hcap (λk hk=>.inr (by have:=hbp k hk;omega))
 ·have h9:=hbp k hk;refine⟨λhD=>?_,by omega,by omega⟩;rcases hD with hD|hD|hD
  ·have:=hlt3 k hD;omega
  ·exact hnp k hk hD
  ·have:=(h.own.lt k hD).2;omega
 ·by_cases e:x=nm
  ·rw[e,setC_same]
   simp
  ·rw[setC_other _ e];exact h.chok.some_ x hx
 ·by_cases e:x=nm
  ·rw[e,setC_same]at hx;cases hx
  ·rw[setC_other _ e]at hx;exact h.chok.all_ x y hx
 ·have:=hx nm;rw[setC_same]at this;cases this
 ·have:=h.each x (List.mem_filter.1 hx).1;exact⟨this.1,by omega⟩
theorem Play.forgot (h:Play Z B p cnt i w S) {w1 w2 w3 w8:World} {nb:Nat}
  (hB1:Below w.heap.size w w1) (hon:On B S.s S.d S.g S.cm w2 S.Q S.m S.ver S.next S.fs none' S.H 0) (hu2:Upon S.Q w1 w2)
  (h3:w3=(w2.setCell ⟨p,6,none⟩ (.slice S.ah S.LH.length S.hc)).alloc (.cells #[] 9)) (hnb:nb=w2.heap.size) (h8:w8=(w3.setCell ⟨p,7,none⟩ (.slice (some ⟨nb,0,none⟩) 0 0)).setCell ⟨p,8,none⟩ (.bool false)):
  Step Z B p cnt (i+1) S w w8:=by
 have hz1:=hB1.size;have hz2:=hu2.size;have hpl:=h.blk.lt;have hlow:=h.on.low;have hlt2:=hon.lt;have hpb2:=(h.blk.below hB1 hpl).upon hu2 h.pq;have hpbs:=hpb2.set 6 (.slice S.ah S.LH.length S.hc);have hss: (w2.setCell ⟨p,6,none⟩ (.slice S.ah S.LH.length S.hc)).heap.size=w2.heap.size:=by simp[World.setCell]
 have hpb3:=hpbs.alloc (.cells #[] 9);rw[<-h3]at hpb3;have hpb8:=(hpb3.set 7 (.slice (some ⟨nb,0,none⟩) 0 0)).set 8 (.bool false);rw[<-h8]at hpb8;have hu23:Upon (λg=>g=p) w2 w3:=by rw[h3];exact((Upon.refl (λg=>g=p) w2).set (p:=⟨p,6,none⟩) (.inl rfl) _).alloc _
 have hu38:Upon (λg=>g=p) w3 w8:=by rw[h8];exact((Upon.refl (λg=>g=p) w3).set (p:=⟨p,7,none⟩) (.inl rfl) _).set (p:=⟨p,8,none⟩) (.inl rfl) _
 have hu28:=hu23.trans hu38 (λk hk=>.inl hk)
 have hO3:w3.ownsRow B 9 1 (.slice (some ⟨nb,0,none⟩) 0 0) 0 []:=by
  rw[h3,hnb,<-hss];exact World.ownsRow_lit _ #[] 0 (by rw[hss];omega) (by decide) rfl
 have hO8:=own_upon hO3 hu38 (λg hg e=>by
  have e1:nb=g:=by simpa[Value.ownBlock]using hg
  have:=hpb2.lt
  omega)
 have hpos:=h.on.pos
 have hon8:=hon.keep hu28 (λk hk=>by
  rw[hk];exact⟨h.pq,by have:=h.pb;omega⟩)
 have hu8:Upon (S.D p) w w8:=((Upon.of_below (P:=S.D p) hB1).trans (hu2.mono (λk hk=>Or.inl hk)) (λk hk=>.inl hk)).trans (hu28.mono (λk hk=>Or.inr (Or.inl hk))) (λk hk=>.inl hk)
 have hvb:∀k,(Value.slice (some ⟨nb,0,none⟩) 0 0).ownBlock=some k->k=nb:=λk hk=>by
  have:nb=k:=by simpa[Value.ownBlock]using hk
  exact this.symm
 have hd:∀k,PD.D {S with Q:=S.Q,C:=none',L:=S.LH,ch:=[],wt:=false,an:=S.ah,nc:=S.hc,vc:=.slice (some ⟨nb,0,none⟩) 0 0} p k->S.D p k\/w.heap.size<=k:=λk hk=>by
  rcases hk with hk|rfl|hk
  ·exact .inl (.inl hk)
  ·exact .inl (.inr (.inl rfl))
  ·have:=hvb k hk;exact .inr (by omega)
 obtain⟨l1,l2⟩:=h.keepH hu8 hd;have hlh:=h.lh;refine h.next (j:=i+1) (Q':=S.Q) (C':=none') (L':=S.LH) (ch':=[]) (wt':=false) (an':=S.ah) (nc':=S.hc) (vc':=.slice (some ⟨nb,0,none⟩) 0 0) hu8 (Nat.le_succ i) (hon8.mono (Nat.zero_le _)) (λk hk=>.inl hk) hpb8 (λk hk hq=>by have:=hvb k hk;have:=h.on.lt k hq;omega) (λk hk=>.inr (by have:=hvb k hk;omega)) hO8 l1 l2 (by rw[nowF_none];exact h.rowH) ⟨(λx hx=>(by cases hx)),(λx b hx=>(by cases hx))⟩ ⟨(λ_ _=>rfl),(λ_=>rfl)⟩ (Nat.zero_le _) (by omega) (λx hx=>?_) h.capH (λk hk=>.inl (.inr (.inr (.inr (.inl hk)))));have:=h.eachH x hx;exact⟨this.1,by omega⟩
attribute [local go_sem] Oper.semAt_some
theorem play_forget (h:Play Z B p cnt i w S) (nm b:List UInt8) (ab:Option Addr) (bc:Nat) (kd:Int) (hk0: (kd==0)=false) (hk1: (kd==1)=false) (hk2: (kd==2)=false) (hi:i<=59):
  Calls Tryz.prog 45 #[.pointer (some ⟨p,0,none⟩),.agg #[.int .i64 kd,nv nm,.slice ab b.length bc]] w λe w'=>e=.returned (.bool true)/\Step Z B p cnt (i+1) S w w':=by
 obtain⟨sn,hsn⟩:∃s:ByteArray,nv nm=.string s:=⟨_,rfl⟩;obtain⟨bn,hbn⟩:=jl b.length;obtain⟨W1,hW1⟩:=jl (w.alloc (.cells #[.int .i64 kd,.string sn,.slice ab bn bc] 48));obtain⟨rb,hrb⟩:=jl w.heap.size;have hB1:Below w.heap.size w W1:=by rw[hW1];exact(Below.refl _ w).alloc jn _
 have hbr:Blk W1 rb 48 #[.int .i64 kd,.string sn,.slice ab bn bc]:=by rw[hW1,hrb];exact Blk.new w _ _
 have hP1:=h.later hB1;have hfd:∀n',_:=λn'=>(hP1.later (drewN_below (Below.refl _ W1) n')).find (by omega) nm
 rw[hsn]at hfd;obtain⟨fi,hfi⟩:∃y:Int,y=(if findP S.L nm<S.L.length then(findP S.L nm:Int)else 0):=⟨_,rfl⟩;obtain⟨tf,htf⟩:=jl (decide (findP S.L nm<S.L.length));rw[<-hfi,<-htf]at hfd;clear hfi htf;have c6:=hP1.cells.2.2.2.2.2.2.1;have r1:=hbr.cell 1;simp only[jt,ja,jb]at r1;obtain⟨sL,hsL⟩:=jl S.L.length;obtain⟨sa,hsa⟩:=jl S.an;obtain⟨sc,hsc⟩:=jl S.nc;rw[<-hsL,<-hsa,<-hsc]at c6 hfd;obtain⟨gt,hgt⟩:=jl (decide ((0:Int) <(sn.size:Int)));obtain⟨gu,hgu⟩:=jl (decide ((sn.size:Int)<=32));have HP:=jq h;have HB1:=jq hB1;have HBR:=jq hbr;have HFD:=jq hfd;rw[hsn,<-hbn];clear h hB1 hbr hP1 hfd hsn hbn hsL hsa hsc
 go_enter Tryz.func45,Tryz.ntmps45
 go_wp2_with fail
 rw[<-hW1,<-hrb];have hrbw:=jq hrb;clear hW1 hrb
 go_quiet ((go_at_call 46;refine Calls.quiet_of_same (HFD.out _)))
 obtain⟨V,hV⟩:=jl (W1.drewN nq);have hBV:Below W1.heap.size W1 V:=by rw[hV];exact drewN_below (Below.refl _ _) _
 rw[<-hV];clear hV HFD c6 r1;have hB0V:Below w.heap.size w V:=HB1.out.trans (hBV.mono HB1.out.size);have hPV:=HP.out.later hB0V;have hbrV:=HBR.out.below hBV HBR.out.lt;have r0:=hbrV.cell 0;have r1:=hbrV.cell 1;simp only[jt,ja,jb]at r0 r1;have c0:=hPV.cells.1;have hfg:=on_forget hPV.on;obtain⟨ss,hss⟩:=jl S.s;have HFG:Hid (Calls Tryz.prog 24 #[.pointer (some ⟨ss,0,none⟩)] V λe w'=>e=.returned (.tuple #[])/\On B S.s S.d S.g S.cm w' S.Q S.m S.ver S.next S.fs none' S.H 0/\Upon S.Q V w'):=jq (by rw[hss];exact hfg);rw[<-hss]at c0;have HPV:=jq hPV;have HB0V:=jq hB0V;clear hPV hbrV hfg hss hB0V hBV
 go_wp2_with fail
 all_goals
  refine HFG.out.mono ?_;rintro e w2 ⟨rfl,hon2,hu2⟩;have hpb2:=HPV.out.blk.upon hu2 HP.out.pq;have k5:=hpb2.cell 5;have k6:=hpb2.cell 6;have k7:=hpb2.cell 7;have k8:=hpb2.cell 8;have z6:=hpb2.frozen 6;unfold PD.cells at k5 k6 k7 k8;simp only[jt,ja,jb]at k5 k6 k7 k8;obtain⟨la,hla⟩:=jl S.ah;obtain⟨ln,hln⟩:=jl S.LH.length;obtain⟨lc,hlc⟩:=jl S.hc;rw[<-hla,<-hln,<-hlc]at k5;have hpb3:=(hpb2.set 6 (.slice la ln lc)).alloc (.cells #[] 9);have j7:=hpb3.cell 7;have j8:=hpb3.cell 8;have y7:=hpb3.frozen 7;have y8:=hpb3.frozen 8;have e7: (S.cells.setIfInBounds 6 (.slice la ln lc))[7]? =some S.vc:=by unfold PD.cells;rfl
  have e8: (S.cells.setIfInBounds 6 (.slice la ln lc))[8]? =some (.bool S.wt):=by unfold PD.cells;rfl
  rw[e7]at j7;rw[e8]at j8;obtain⟨nb,hnb⟩:=jl w2.heap.size;have hend:=HP.out.forgot (nb:=nb) (w3:=(w2.setCell ⟨p,6,none⟩ (.slice S.ah S.LH.length S.hc)).alloc (.cells #[] 9)) HB0V.out hon2 hu2 rfl hnb rfl;rw[<-hla,<-hln,<-hlc,hnb]at hend;obtain⟨vc,hvc⟩:=jl S.vc;obtain⟨wt,hwt⟩:=jl S.wt;rw[<-hvc]at j7 k7;rw[<-hwt]at j8 k8;have HEND:=jq hend;clear hend hpb2 hpb3 e7 e8 hon2 hu2 hla hln hlc hnb hvc hwt HFG
  go_wp2_with fail
  go_ret
  exact⟨rfl,HEND.out⟩
end Full
namespace Full
open Go.RowKit Go.Deep Mem Crc Go.Maps Dk Mani RefF
open Store (Chg none' nv Files setC setC_same setC_other)
open Ext (Tab)
variable {Z:Prop} {B p cnt i:Nat} {w w':World} {S:PD}
theorem Play.without (h:Play Z B p cnt i w S) (hi:i<=60) {w2 w3:World} (hB:Below w.heap.size w w2) (hu:Upon S.Q w2 w3) (nm:List UInt8) {V:World} (hV:Below w3.heap.size w3 V):Calls Tryz.prog 80 #[.slice S.an S.L.length S.nc,nv nm] V λe w'=>∃a c,e=.returned (.slice a (withoutP S.L nm).length c)/\w'.ownsRow w3.heap.size 69 2 (.slice a (withoutP S.L nm).length c) (withoutP S.L nm).length (flatP (withoutP S.L nm))/\Below w3.heap.size w3 w':=
 (without_any S.an S.nc S.L nm V (((h.nl.later hB).upon hu (λk hk hq=>(h.na k hk).1 (.inl hq))).later hV) (by have:=h.ll;omega)).mono (λe w' hh=>by
  obtain⟨v,he,ho,hb⟩:=hh;obtain⟨a,c,rfl,_⟩:=own_shape ho;exact⟨a,c,he,own_mono ho hV.size,hV.trans (hb.mono hV.size)⟩)
attribute [local go_sem] Oper.semAt_some
theorem play_k2t (h:Play Z B p cnt i w S) (hi:i<=59) (nm b:List UInt8) (ab:Option Addr) (bc:Nat) (hn100:nm.length<=100) (hth:findP S.L nm<S.L.length):
  Calls Tryz.prog 45 #[.pointer (some ⟨p,0,none⟩),.agg #[.int .i64 2,nv nm,.slice ab b.length bc]] w λe w'=>e=.returned (.bool true)/\Step Z B p cnt (i+1) S w w':=by
 obtain⟨sn,hsn⟩:∃s:ByteArray,nv nm=.string s:=⟨_,rfl⟩;have hss:sn.size=nm.length:=size_sv (show sv nm=.string sn from hsn);obtain⟨bn,hbn⟩:=jl b.length;have hne:=(h.rowN.find nm).1;have hnf:=hne.1 hth
 have hnl:1<=nm.length/\nm.length<=32:=by
  cases hn:nowF S.C S.H nm with
  |none=>exact absurd hn hnf
  |some y=>exact(h.each (nm,y) ((h.rowN.mem nm y).2 hn)).1
 have g1:decide ((0:Int) <(sn.size:Int))=true:=jd (by omega);have g1b:decide (0<sn.size)=true:=jd (by omega);have g2:decide ((sn.size:Int)<=32)=true:=jd (by omega);have g2b:decide (sn.size<=32)=true:=jd (by omega);obtain⟨W1,hW1⟩:=jl (w.alloc (.cells #[.int .i64 2,.string sn,.slice ab bn bc] 48));obtain⟨rb,hrb⟩:=jl w.heap.size;have hB1:Below w.heap.size w W1:=by rw[hW1];exact(Below.refl _ w).alloc jn _
 have hbr:Blk W1 rb 48 #[.int .i64 2,.string sn,.slice ab bn bc]:=by rw[hW1,hrb];exact Blk.new w _ _
 have hP1:=h.later hB1;have hfd:∀n',_:=λn'=>(hP1.later (drewN_below (Below.refl _ W1) n')).find (by omega) nm
 rw[hsn]at hfd;rw[if_pos hth,jd hth]at hfd;obtain⟨fi,hfi⟩:=jl (findP S.L nm);rw[<-hfi]at hfd;have c6:=hP1.cells.2.2.2.2.2.2.1;have r1:=hbr.cell 1;simp only[jt,ja,jb]at r1;obtain⟨sL,hsL⟩:=jl S.L.length;obtain⟨sa,hsa⟩:=jl S.an;obtain⟨sc,hsc⟩:=jl S.nc;rw[<-hsL,<-hsa,<-hsc]at c6 hfd;have HP:=jq h;have HB1:=jq hB1;have HBR:=jq hbr;have HFD:=jq hfd;have HSN:=jq hsn;have HNF:=jq hnf;have HS:=jq (And.intro hsL (And.intro hsa hsc));have hrbw:=jq hrb;rw[hsn,<-hbn];clear h hB1 hbr hP1 hfd hsn hbn hsL hsa hsc hss hth hne hfi
 go_enter Tryz.func45,Tryz.ntmps45
 go_wp2_with fail
 rw[<-hW1,<-hrb];clear hW1 hrb hnf
 go_quiet ((go_at_call 46;refine Calls.quiet_of_same (HFD.out _)))
 obtain⟨V,hV⟩:=jl (W1.drewN nq);have hBV:Below W1.heap.size W1 V:=by rw[hV];exact drewN_below (Below.refl _ _) _
 rw[<-hV];clear hV HFD c6 r1;have hB0V:Below w.heap.size w V:=HB1.out.trans (hBV.mono HB1.out.size);have hPV:=HP.out.later hB0V;have hbrV:=HBR.out.below hBV HBR.out.lt;have r0:=hbrV.cell 0;have r1:=hbrV.cell 1;simp only[jt,ja,jb]at r0 r1;have c0:=hPV.cells.1;obtain⟨ss,hss⟩:=jl S.s;rw[<-hss]at c0;have hB2:Below w.heap.size w V.drew:=hB0V.drew;have hP2:=hPV.later (Below.refl _ V).drew;have hwr:=on_remove hP2.on (by omega) nm hnl.2 HNF.out;rw[HSN.out]at hwr;have HWR:Hid (Calls Tryz.prog 27 #[.pointer (some ⟨ss,0,none⟩),.string sn] V.drew λe w'=>e=.returned (.int .i64 0)/\∃Q',On B S.s S.d S.g S.cm w' Q' S.m S.ver S.next S.fs (setC S.C nm (some none)) S.H (i+1)/\(∀k,Q' k->S.Q k\/V.drew.heap.size<=k)/\Upon S.Q V.drew w'):=jq (by rw[hss];exact hwr);have HPV:=jq hPV;have HB2:=jq hB2;have HBRV:=jq hbrV;clear hPV hbrV hB0V hwr hss hB2 hBV hP2
 go_wp2_with fail
 go_still_tail 6,(by kernel_rfl)
 change wpList _ _ _ _ _ V.drew
 have hltV:=HPV.out.blk.lt;obtain⟨w2,hw2⟩:=jl V.drew;have HBV2:Hid (Below V.heap.size V w2):=jq (by rw[hw2];exact(Below.refl _ V).drew);rw[<-hw2]at HWR HB2⊢;clear hw2
 go_wp2_with fail
 refine HWR.out.mono ?_;rintro e w3 ⟨rfl,Q3,hon3,hq3,hu3⟩;have hrq:¬S.Q rb:=λhk=>by have:=HP.out.on.lt rb hk;have:=hrbw.out;omega
 have hbr3:=(HBRV.out.below HBV2.out HBRV.out.lt).upon hu3 hrq;have hpb3:=(HPV.out.blk.below HBV2.out HPV.out.blk.lt).upon hu3 HP.out.pq;have r0:=hbr3.cell 0;have r1:=hbr3.cell 1;have c6:=hpb3.cell 6;unfold PD.cells at c6;simp only[jt,ja,jb]at r0 r1 c6;rw[<-HS.out.1,<-HS.out.2.1,<-HS.out.2.2]at c6;have hput:=HP.out.without (by omega) HB2.out hu3 nm (V:=w3.drew) (Below.refl _ w3).drew;rw[HSN.out,<-HS.out.1,<-HS.out.2.1,<-HS.out.2.2]at hput;have HPUT:Hid (Calls Tryz.prog 80 #[.slice sa sL sc,.string sn] w3.drew λe w'=>∃a c,e=.returned (.slice a (withoutP S.L nm).length c)/\w'.ownsRow w3.heap.size 69 2 (.slice a (withoutP S.L nm).length c) (withoutP S.L nm).length (flatP (withoutP S.L nm))/\Below w3.heap.size w3 w'):=jq hput;have HON3:=jq (And.intro hon3 (And.intro hq3 hu3));have HBR3:=jq hbr3;have HPB3:=jq hpb3;clear hon3 hq3 hu3 hbr3 hpb3 hput HWR c0
 go_wp2_with fail
 go_cut[] (λwx=>∃(w4:World) (ap:Option Addr) (pn cp:Nat),Hid (pn=(withoutP S.L nm).length)/\Hid (w4.ownsRow w3.heap.size 69 2 (.slice ap (withoutP S.L nm).length cp) (withoutP S.L nm).length (flatP (withoutP S.L nm)))/\Hid (Below w3.heap.size w3 w4)/\wx=w4.setCell ⟨p,6,none⟩ (.slice ap pn cp))
 case first=>
  go_region_law ((first|(go_simp;go_at_call 80;refine HPUT.out.mono ?_;rintro e w4 ⟨ap,cp,rfl,hO4,hB4⟩;obtain⟨pn,hpn⟩:=jl ((withoutP S.L nm).length);have hpb4:=HPB3.out.below hB4 HPB3.out.lt;have z6:=hpb4.frozen 6;have k6:=hpb4.cell 6;unfold PD.cells at k6;simp only[jt,ja,jb]at k6;have HO4:=jq hO4;have HB4:=jq hB4;have HPN:=jq hpn;rw[<-hpn];clear hO4 hB4 hpn hpb4;dsimp only)))
  all_goals go_wp2_with fail
  all_goals go_meet
  all_goals exact⟨_,_,_,_,HPN,HO4,HB4,rfl⟩
 case rest=>
  obtain⟨w4,ap,pn,cp,HPN,HO4,HB4,hwc⟩:=hcut;have hpb4:=HPB3.out.below HB4.out HPB3.out.lt;have hpb5:=hpb4.set 6 (.slice ap pn cp);have hwc2:=hwc;rw[<-hwc]at hpb5;have k8:=hpb5.cell 8;have z8:=hpb5.frozen 8;have e8: (S.cells.setIfInBounds 6 (.slice ap pn cp))[8]? =some (.bool S.wt):=by unfold PD.cells;rfl
  rw[e8]at k8;obtain⟨wt,hwt⟩:=jl S.wt;rw[<-hwt]at k8;have hend:=HP.out.removed (w5:=wc) (w8:=wc.setCell ⟨p,8,none⟩ (.bool true)) nm HB2.out HON3.out.1 HON3.out.2.1 HON3.out.2.2 HO4.out HB4.out (by rw[hwc,HPN.out]) rfl;have HEND:=jq hend;clear hend hpb4 hpb5 hwc hwc2 e8 hwt
  go_wp2_with fail
  go_ret
  exact⟨rfl,HEND.out⟩
theorem play_k2n (h:Play Z B p cnt i w S) (hi:i<=59) (nm b:List UInt8) (ab:Option Addr) (bc:Nat) (hn100:nm.length<=100) (hth:¬findP S.L nm<S.L.length):
  Calls Tryz.prog 45 #[.pointer (some ⟨p,0,none⟩),.agg #[.int .i64 2,nv nm,.slice ab b.length bc]] w λe w'=>e=.returned (.bool true)/\Step Z B p cnt (i+1) S w w':=by
 obtain⟨sn,hsn⟩:∃s:ByteArray,nv nm=.string s:=⟨_,rfl⟩;have hss:sn.size=nm.length:=size_sv (show sv nm=.string sn from hsn);obtain⟨bn,hbn⟩:=jl b.length;have hne:=(h.rowN.find nm).1;have hnf:nowF S.C S.H nm=none:=Classical.byContradiction λhc=>hth (hne.2 hc)
 have hg: (decide ((0:Int) <(sn.size:Int))=false/\decide (0<sn.size)=false)\/(decide ((0:Int) <(sn.size:Int))=true/\decide (0<sn.size)=true/\decide ((sn.size:Int)<=32)=false/\decide (sn.size<=32)=false)\/(decide ((0:Int) <(sn.size:Int))=true/\decide (0<sn.size)=true/\decide ((sn.size:Int)<=32)=true/\decide (sn.size<=32)=true):=by
  by_cases h0:sn.size=0
  ·exact .inl ⟨jf (by omega),jf (by omega)⟩
  ·by_cases h1:sn.size<=32
   ·exact .inr (.inr ⟨jd (by omega),jd (by omega),jd (by omega),jd (by omega)⟩)
   ·exact .inr (.inl ⟨jd (by omega),jd (by omega),jf (by omega),jf (by omega)⟩)
 obtain⟨W1,hW1⟩:=jl (w.alloc (.cells #[.int .i64 2,.string sn,.slice ab bn bc] 48));obtain⟨rb,hrb⟩:=jl w.heap.size;have hB1:Below w.heap.size w W1:=by rw[hW1];exact(Below.refl _ w).alloc jn _
 have hbr:Blk W1 rb 48 #[.int .i64 2,.string sn,.slice ab bn bc]:=by rw[hW1,hrb];exact Blk.new w _ _
 have hP1:=h.later hB1;have hfd:∀n',_:=λn'=>(hP1.later (drewN_below (Below.refl _ W1) n')).find (by omega) nm
 rw[hsn]at hfd;rw[if_neg hth,jf hth]at hfd;have c6:=hP1.cells.2.2.2.2.2.2.1;have r1:=hbr.cell 1;simp only[jt,ja,jb]at r1;obtain⟨sL,hsL⟩:=jl S.L.length;obtain⟨sa,hsa⟩:=jl S.an;obtain⟨sc,hsc⟩:=jl S.nc;rw[<-hsL,<-hsa,<-hsc]at c6 hfd;have HP:=jq h;have HB1:=jq hB1;have HBR:=jq hbr;have HFD:=jq hfd;have HSN:=jq hsn;have HNF:=jq hnf;have HS:=jq (And.intro hsL (And.intro hsa hsc));have hrbw:=jq hrb;rw[hsn,<-hbn];clear h hB1 hbr hP1 hfd hsn hbn hsL hsa hsc hss hth hne
 go_enter Tryz.func45,Tryz.ntmps45
 go_wp2_with fail
 rw[<-hW1,<-hrb];clear hW1 hrb hnf
 go_quiet ((go_at_call 46;refine Calls.quiet_of_same (HFD.out _)))
 obtain⟨V,hV⟩:=jl (W1.drewN nq);have hBV:Below W1.heap.size W1 V:=by rw[hV];exact drewN_below (Below.refl _ _) _
 rw[<-hV];clear hV HFD c6 r1;have hB0V:Below w.heap.size w V:=HB1.out.trans (hBV.mono HB1.out.size);have hPV:=HP.out.later hB0V;have hbrV:=HBR.out.below hBV HBR.out.lt;have r0:=hbrV.cell 0;have r1:=hbrV.cell 1;simp only[jt,ja,jb]at r0 r1;have c0:=hPV.cells.1;obtain⟨ss,hss⟩:=jl S.s;rw[<-hss]at c0;have hB2:Below w.heap.size w V.drew:=hB0V.drew;have hP2:=hPV.later (Below.refl _ V).drew;have hwr:=on_remove_none hP2.on (by omega) nm HNF.out;rw[HSN.out]at hwr;have HWR:Hid (Calls Tryz.prog 27 #[.pointer (some ⟨ss,0,none⟩),.string sn] V.drew λe w'=>e=.returned (.int .i64 8)/\Below V.drew.heap.size V.drew w'):=jq (by rw[hss];exact hwr);have HPV:=jq hPV;have HB2:=jq hB2;have HBRV:=jq hbrV;clear hPV hbrV hB0V hwr hss hB2 hBV hP2;rcases hg with⟨g1,g1b⟩|⟨g1,g1b,g2,g2b⟩|⟨g1,g1b,g2,g2b⟩
 all_goals
  go_wp2_with fail
  go_still_tail 6,(by kernel_rfl)
  change wpList _ _ _ _ _ V.drew
  go_wp2_with fail
  refine HWR.out.mono ?_;rintro e w3 ⟨rfl,hB3⟩;have HEND:=jq (HP.out.same (j:=i+1) (by omega) (HB2.out.trans (hB3.mono HB2.out.size)));clear hB3
  go_wp2_with fail
  go_ret
  exact⟨rfl,HEND.out⟩
end Full
namespace Full
open Go.RowKit Go.Deep Mem Crc Go.Maps Dk Mani RefF
open Store (Chg none' nv Files setC setC_same setC_other)
open Ext (Tab)
variable {Z:Prop} {B p cnt i:Nat} {w w':World} {S:PD}
theorem play_changes (h:Play Z B p cnt i w S) (hi:i<=59) (kd:Int) (nm b:List UInt8) (ab:Option Addr) (bc:Nat) (hb:Lies w ab (b.map bv)) (hbl:b.length<=1000) (hn:nm.length<=100):
  Calls Tryz.prog 45 #[.pointer (some ⟨p,0,none⟩),.agg #[.int .i64 kd,nv nm,.slice ab b.length bc]] w λe w'=>e=.returned (.bool true)/\Step Z B p cnt (i+1) S w w':=by
 by_cases hth:findP S.L nm<S.L.length
 ·by_cases k0:kd=0
  ·subst k0
   by_cases hg:1<=nm.length/\nm.length<=32
   ·exact play_k0 h hi nm b ab bc hb hbl hg.1 hg.2
   ·exact play_k0_bad h hi nm b ab bc hb hbl (by omega) hn
  ·by_cases k1:kd=1
   ·subst k1
    by_cases hg:1<=nm.length/\nm.length<=32
    ·exact play_k1t h hi nm b ab bc hb hbl hg.1 hg.2 hth
    ·exact play_k1n_bad h hi nm b ab bc hb hbl (by omega) hn
   ·by_cases k2:kd=2
    ·subst k2;exact play_k2t h hi nm b ab bc hn hth
    ·exact play_forget h nm b ab bc kd (by simpa using k0) (by simpa using k1) (by simpa using k2) hi
 ·by_cases k0:kd=0
  ·subst k0
   by_cases hg:1<=nm.length/\nm.length<=32
   ·exact play_k0 h hi nm b ab bc hb hbl hg.1 hg.2
   ·exact play_k0_bad h hi nm b ab bc hb hbl (by omega) hn
  ·by_cases k1:kd=1
   ·subst k1
    by_cases hg:1<=nm.length/\nm.length<=32
    ·exact play_k1n h hi nm b ab bc hb hbl hg.1 hg.2 hth
    ·exact play_k1n_bad h hi nm b ab bc hb hbl (by omega) hn
   ·by_cases k2:kd=2
    ·subst k2;exact play_k2n h hi nm b ab bc hn hth
    ·exact play_forget h nm b ab bc kd (by simpa using k0) (by simpa using k1) (by simpa using k2) hi
theorem Play.open (h:Play True B p cnt i w S):Calls Tryz.prog 23 #[.pointer (some ⟨S.d,0,none⟩)] w λe w'=>∃s' cm' Q' m',e=.returned (.tuple #[.pointer (some ⟨s',0,none⟩),.int .i64 0])/\On B s' S.d S.g cm' w' Q' m' S.ver S.next S.fs none' S.H 0/\Slots m'.bl S.ver S.next S.fs/\m'.bl.length=cnt/\(∀k,Q' k->S.Q k\/w.heap.size<=k)/\Upon S.Q w w'/\m'.fuse<0:=by
 have:=on_open h.on (h.fuse trivial) h.slots;rw[h.len]at this;exact this
attribute [local go_sem] Oper.semAt_some
end Full
namespace Full
open Go.RowKit Go.Deep Mem Crc Go.Maps Dk Mani RefF
open Store (Chg none' nv Files setC setC_same setC_other)
open Ext (Tab)
variable {Z:Prop} {B p cnt i:Nat} {w w':World} {S:PD}
attribute [local go_sem] Oper.semAt_some
end Full
namespace Full
open Go.RowKit Go.Deep Mem Crc Go.Maps Dk Mani RefF
open Store (Chg none' nv Files setC setC_same setC_other)
open Ext (Tab)
variable {Z:Prop} {B p cnt i:Nat} {w w':World} {S:PD}
attribute [local go_sem] eql_str
attribute [local go_sem] Oper.semAt_some
end Full
namespace Full
open Go.RowKit Go.Deep Mem Crc Go.Maps Dk Mani RefF
open Store (Chg none' nv Files setC setC_same setC_other)
open Ext (Tab)
structure AR where
 kd:Int
 nm:List UInt8
 b:List UInt8
 a:Option Addr
 c:Nat
def AR.vs (x:AR):List Value:=[.int .i64 x.kd,nv x.nm,.slice x.a x.b.length x.c]
def flatA (l:List AR):List Value:=l.flatMap AR.vs
theorem flatA_len (l:List AR): (flatA l).length=l.length*3:=by
 induction l with
 |nil=>rfl
 |cons x r ih=>unfold flatA at ih⊢;rw[jC,jL,ih,List.length_cons];show 3+_=_;omega
theorem flatA_at:∀{l:List AR} {k:Nat} {x:AR},l[k]? =some x->∀{j:Nat} {u:Value},x.vs[j]? =some u->(flatA l)[k*3+j]? =some u
 | [],k,x,hx,_,_,_=>by simp at hx
 |y ::r,0,x,hx,j,u,hu=>by
  simp at hx
  subst hx;unfold flatA;rw[jC,List.getElem?_append_left (by have:=(jS.1 hu).1;omega)]
  simpa using hu
 |y ::r,k+1,x,hx,j,u,hu=>by
  have:=flatA_at (l:=r) (k:=k) (x:=x) (by simpa using hx) hu;have e:y.vs.length=3:=rfl;unfold flatA at this⊢;rw[jC,List.getElem?_append_right (by rw[e];omega),<-this]
  congr 1
  rw[e]
  omega
structure ActsIn (w:World) (a:Option Addr) (l:List AR):Prop where
 row:Lies w a (flatA l)
 bytes:∀x∈l,Lies w x.a (x.b.map bv)
theorem ActsIn.later {w w':World} {a:Option Addr} {l:List AR} (h:ActsIn w a l) (hB:Below w.heap.size w w'):ActsIn w' a l:=⟨h.row.later hB,λx hx=>(h.bytes x hx).later hB⟩
theorem ActsIn.cells {w:World} {a:Option Addr} {l:List AR} (h:ActsIn w a l) {k:Nat} {x:AR} (hx:l[k]? =some x):∃g o,a=some ⟨g,o,none⟩/\w.cell? ⟨g,o+k*3,none⟩=some (.int .i64 x.kd)/\w.cell? ⟨g,o+k*3+1,none⟩=some (nv x.nm)/\w.cell? ⟨g,o+k*3+2,none⟩=some (.slice x.a x.b.length x.c):=by
 have hne:flatA l≠[]:=λe=>by
  have:=flatA_len l;have h2:=(jS.1 hx).1;rw[e]at this
  simp at this
  omega
 obtain⟨g,o,rfl,_,hc⟩:=h.row.resolve_left hne;refine⟨g,o,rfl,?_,?_,?_⟩
 ·exact hc _ _ (flatA_at hx (j:=0) rfl)
 ·exact hc _ _ (flatA_at hx (j:=1) rfl)
 ·exact hc _ _ (flatA_at hx (j:=2) rfl)
def Small (cnt:Int) (l:List AR):Prop:=40<=cnt/\cnt<=200/\l.length<=60/\∀x∈l,x.b.length<=1000/\x.nm.length<=100
attribute [local go_sem] Oper.semAt_some
theorem great_any (cnt:Int) (a:Option Addr) (c:Nat) (l:List AR) (w:World) (h:ActsIn w a l):
  Calls Tryz.prog 14 #[.int .i64 cnt,.slice a l.length c] w λe w'=>w'=w/\(e=.returned (.bool true)\/(e=.returned (.bool false)/\Small cnt l)):=by
 obtain⟨n,hn⟩:=jl l.length;rw[<-hn];have H:=jq h;have HN:=jq hn;clear h hn
 by_cases h1:cnt<40
 ·have d1:decide (cnt<40)=true:=jd h1
  go_enter Tryz.func14,Tryz.ntmps14
  go_wp2_with fail
  go_ret
  exact⟨rfl,.inl rfl⟩
 have d1:decide (cnt<40)=false:=jf h1
 by_cases h2:200<cnt
 ·have d2:decide (200<cnt)=true:=jd h2
  go_enter Tryz.func14,Tryz.ntmps14
  go_wp2_with fail
  go_ret
  exact⟨rfl,.inl rfl⟩
 have d2:decide (200<cnt)=false:=jf h2
 by_cases h3:60<n
 ·have d3:decide ((60:Int) <(n:Int))=true:=jd (by omega);have d3b:decide (60<n)=true:=jd h3
  go_enter Tryz.func14,Tryz.ntmps14
  go_wp2_with fail
  go_ret
  exact⟨rfl,.inl rfl⟩
 have d3:decide ((60:Int) <(n:Int))=false:=jf (by omega);have d3b:decide (60<n)=false:=jf h3
 go_enter Tryz.func14,Tryz.ntmps14
 go_wp2_with fail
 go_loopw[5] (λi wr=>∃k:Nat,k<=n/\i=.int .i64 (k:Int)/\wr=w/\Hid (∀j,j<k->∀x,l[j]? =some x->x.b.length<=1000/\x.nm.length<=100)) (λi _=>n-(intOf i).toNat)
 case atStart=>exact⟨0,Nat.zero_le _,rfl,rfl,jq (λj hj=>absurd hj (Nat.not_lt_zero _))⟩
 case round=>
  obtain⟨k,hk,rfl,rfl,hp⟩:=hrel
  by_cases hkn:k<n
  ·have hkd:decide ((k:Int) <(n:Int))=true:=jd (by omega);obtain⟨x,hx⟩:∃x,l[k]? =some x:=⟨l[k]'(by rw[<-HN.out];exact hkn),jg _⟩;obtain⟨g,o,rfl,c0,c1,c2⟩:=H.out.cells hx;obtain⟨sn,hsn⟩:∃s:ByteArray,nv x.nm=.string s:=⟨_,rfl⟩;have hss:sn.size=x.nm.length:=size_sv (show sv x.nm=.string sn from hsn);rw[hsn]at c1;obtain⟨bn,hbn⟩:=jl x.b.length;rw[<-hbn]at c2;have HX:=jq hx;have HB:=jq (And.intro hbn hss);clear hx hsn hss hbn
   by_cases e1:1000<bn
   ·have f1:decide ((1000:Int) <(bn:Int))=true:=jd (by omega);have f1b:decide (1000<bn)=true:=jd e1
    go_wp2_with fail
    go_ret
    exact⟨rfl,.inl rfl⟩
   have f1:decide ((1000:Int) <(bn:Int))=false:=jf (by omega);have f1b:decide (1000<bn)=false:=jf e1
   by_cases e2:100<sn.size
   ·have f2:decide ((100:Int) <(sn.size:Int))=true:=jd (by omega);have f2b:decide (100<sn.size)=true:=jd e2
    go_wp2_with fail
    go_ret
    exact⟨rfl,.inl rfl⟩
   have f2:decide ((100:Int) <(sn.size:Int))=false:=jf (by omega);have f2b:decide (100<sn.size)=false:=jf e2
   go_wp2_with fail
   exact⟨⟨k+1,hkn,by simp,by first|rfl|trivial,jq (λj hj y hy=>by
    rcases Nat.lt_or_eq_of_le (Nat.le_of_lt_succ hj)with h4|h4
    ·exact hp.out j h4 y hy
    ·subst h4;rw[HX.out]at hy;cases hy;have:=HB.out
     omega)⟩,by simp[intOf];omega⟩
  ·obtain rfl:n=k:=by omega
   have hkd:decide ((n:Int) <(n:Int))=false:=jf (by omega)
   go_wp2_with fail
   go_ret
   exact⟨rfl,.inr ⟨rfl,by omega,by omega,by rw[<-HN.out];omega,λx hx=>by
    obtain⟨j,hj⟩:=List.mem_iff_getElem?.1 hx;exact hp.out j (by rw[HN.out];exact(jS.1 hj).1) x hj⟩⟩
variable {B s d g cm:Nat} {w:World} {Q:Nat->Prop} {m:DM} {ver next:Nat} {fs:List Fil} {C:Chg} {H:Files} {n:Nat}
theorem all_on (h:On B s d g cm w Q m ver next fs C H n) (hn:n<=1000) (L:List FF) (hL:IsRow L (nowF C H)) (hll:L.length<=1000) (hnm:∀x∈L,x.1.length<=100):
  Calls Tryz.prog 19 #[.pointer (some ⟨s,0,none⟩)] w λe w'=>∃a c,e=.returned (.tuple #[.slice a L.length c,.bool true])/\Lies w' a (flatP L)/\Below w.heap.size w w':=by
 obtain⟨W1,hW1⟩:=jl (w.alloc (.cells #[] 69));obtain⟨ob,hob⟩:=jl w.heap.size;have hB1:Below w.heap.size w W1:=by rw[hW1];exact(Below.refl _ w).alloc jn _
 have hO1:W1.ownsRow w.heap.size 69 2 (.slice (some ⟨ob,0,none⟩) 0 0) (L.take 0).length (flatP (L.take 0)):=by
  rw[hW1,hob];exact World.ownsRow_lit w #[] 0 jn (by decide) rfl
 have HNM:=jq (on_names (h.later hB1) (by omega));have HON:=jq h;have HL:=jq hL;have HNL:=jq hnm;have HB1:=jq hB1;have HO1:=jq hO1;obtain⟨nl,hnl⟩:=jl L.length;rw[<-hnl]at hll⊢;have HNN:=jq hnl;clear h hL hnm hB1 hO1 hnl
 go_enter Tryz.func19,Tryz.ntmps19
 go_wp2_with fail
 rw[<-hW1,<-hob];clear hW1 hob;refine HNM.out.mono ?_;rintro e w2 ⟨v,ss,rfl,hown,hmem,hpw,_,hB2⟩;have hss:L.map Prod.fst=ss:=HL.out.names hpw hmem;have hsn:ss.length=nl:=by rw[<-hss,jP,HNN.out]
 rw[hsn]at hown;obtain⟨an,cn,rfl,hcn,hLn,hbn,_⟩:=own_shape hown;have HLN:=jq (own_mono hown (show w.heap.size<=W1.heap.size from HB1.out.size));have HB2:=jq hB2;have HSS:=jq hss;have HO2:Hid (w2.ownsRow w.heap.size 69 2 (.slice (some ⟨ob,0,none⟩) 0 0) (L.take 0).length (flatP (L.take 0))):=jq (own_later HO1.out hB2);have hB02:=HB1.out.trans (HB2.out.mono HB1.out.size);have HB02:=jq hB02;clear hown hmem hpw hss hsn hLn hbn HNM HO1 hB02
 go_wp2_with fail
 go_loopw[4,6] (λo i wr=>∃k:Nat,k<=nl/\i=.int .i64 (k:Int)/\Hid (Below w.heap.size w wr)/\Hid (wr.ownsRow w.heap.size 69 2 o (L.take k).length (flatP (L.take k)))/\Hid (wr.ownsRow w.heap.size 9 1 (.slice an nl cn) nl (ss.map encStr))) (λ_ i _=>nl-(intOf i).toNat)
 case atStart=>exact⟨0,Nat.zero_le _,rfl,HB02,HO2,HLN⟩
 case round=>
  clear HO2 HLN;obtain⟨k,hk,rfl,HB,HO,HLN⟩:=hrel
  by_cases hkn:k<nl
  ·have hkd:decide ((k:Int) <(nl:Int))=true:=jd (by omega);obtain⟨x,hx⟩:∃x,L[k]? =some x:=⟨L[k]'(by rw[<-HNN.out];exact hkn),jg _⟩;obtain⟨sx,hsx⟩:∃s:ByteArray,nv x.1=.string s:=⟨_,rfl⟩;obtain⟨sy,hsy⟩:∃s:ByteArray,nv x.2=.string s:=⟨_,rfl⟩;obtain⟨_,_,e8,_,hLnn,_,_⟩:=own_shape HLN.out;cases e8
   obtain⟨gn,on,rfl,c0⟩:=lies_at hLnn (k:=k) (u:=.string sx) (by
    rw[<-HSS.out,List.map_map,List.getElem?_map,hx,<-hsx]
    rfl)
   have hxm:=jM hx;have hfx:nowF C H x.1=some x.2:=(HL.out.mem x.1 x.2).1 hxm;have hrd:=on_read (HON.out.later HB.out) x.1 (by have:=HNL.out x hxm;omega);rw[hfx,hsx]at hrd;have HRD:Hid (Calls Tryz.prog 12 #[.pointer (some ⟨s,0,none⟩),.string sx] wr λe w'=>∃v,e=.returned (.tuple #[v,.int .i64 0])/\OwnB w' wr.heap.size v x.2/\Below wr.heap.size wr w'):=jq hrd;have HX:=jq hx;have HSX:=jq hsx;have HSY:=jq hsy;clear hx hsx hsy hxm hfx hrd
   go_wp2_with fail
   refine HRD.out.mono ?_;rintro e w3 ⟨v,rfl,hO3,hB3⟩;obtain⟨ra,rc,rfl,_,hLr,_,_⟩:=own_shape hO3;obtain⟨rn,hrn⟩:=jl x.2.length;have hB03:Below w.heap.size w w3:=HB.out.trans (hB3.mono HB.out.size);have hlk: (L.take k).length<=1000:=by rw[jT];omega
   have hN3:=own_later HLN.out hB3;have hN3d:=own_later hN3 (Below.refl _ w3).drew
   have hcat:∀V:World,Lies V ra (x.2.map bv)->(convert 22 9 (.slice ra rn rc)).run Tryz.prog V=.ok (.string sy) V:=λV hV=>by
    have:=conv_any (vc:=rc) hV;rw[<-hrn,HSY.out]at this;exact this
   have hnat:∀V:World,V.ownsRow w.heap.size 9 1 (.slice (some ⟨gn,on,none⟩) nl cn) nl (ss.map encStr)->V.cell? ⟨gn,on+k,none⟩=some (.string sx):=λV hV=>by
    obtain⟨_,_,e8,_,hLv,_,_⟩:=own_shape hV;cases e8
    obtain⟨g7,o7,e7,c7⟩:=lies_at hLv (k:=k) (u:=.string sx) (by
     rw[<-HSS.out,List.map_map,List.getElem?_map,HX.out,<-HSX.out]
     rfl)
    cases e7;exact c7
   have hO3r:=own_later (own_later HO.out hB3) (Below.refl _ w3).drew;obtain⟨va,vcc,rfl,_,_,_,_⟩:=own_shape HO.out;obtain⟨v4,w4,hr4,hrow4,hg4⟩:=append_F w3.drew 35 _ (L.take k) hO3r x (by omega) (show w.heap.size<=w3.drew.heap.size from hB03.size);rw[HSX.out,HSY.out]at hr4;have hsuc:L.take k++ [x]=L.take (k+1):=by rw[List.take_add_one,HX.out];rfl
   rw[hsuc]at hrow4;have hB4:Below w.heap.size w w4:=hB03.trans ((Below.refl w3.heap.size w3).drew.mono hB03.size) |>.grown hg4 (show w.heap.size<=w3.drew.heap.size from hB03.size) (λq hq=>(hO3r.lt q hq).1)
   have hg34:w3.grownBy w4 (Value.slice va (L.take k).length vcc).ownBlock:=grown_trans grown_drew hg4;have hu4:Upon (λq=>(Value.slice va (L.take k).length vcc).ownBlock=some q) w3.drew w4:=Upon.of_grown hg4 (λq hq=>.inl hq);have hN4:=own_upon hN3d hu4 (λq hq e=>own_ne_own hO3r hN3d (by decide) e hq);have hR4:=own_upon (own_later hO3 (Below.refl _ w3).drew) hu4 (λq hq e=>own_ne_own hO3r (own_later hO3 (Below.refl _ w3).drew) (by decide) e hq);obtain⟨_,_,e9,_,hLr4,_,_⟩:=own_shape hR4;injection e9 with e91 _ e93;subst e91 e93;have hal:=(Below.refl w3.drew.heap.size w3.drew).alloc jn (Obj.cells #[.string sx,.string sy] 69);have hS3:w3.drew.cell? ⟨gn,on+k,none⟩=some (.string sx)/\(convert 22 9 (.slice ra rn rc)).run Tryz.prog w3.drew=.ok (.string sy) w3.drew:=⟨hnat _ hN3d,hcat _ (hLr.later (Below.refl _ w3).drew)⟩;have hS5: (w3.drew.alloc (.cells #[.string sx,.string sy] 69)).cell? ⟨gn,on+k,none⟩=some (.string sx)/\(convert 22 9 (.slice ra rn rc)).run Tryz.prog (w3.drew.alloc (.cells #[.string sx,.string sy] 69))=.ok (.string sy) (w3.drew.alloc (.cells #[.string sx,.string sy] 69)):=⟨hnat _ (own_later hN3d hal),hcat _ ((hLr.later (Below.refl _ w3).drew).later hal)⟩;have hS4:w4.cell? ⟨gn,on+k,none⟩=some (.string sx)/\(convert 22 9 (.slice ra rn rc)).run Tryz.prog w4=.ok (.string sy) w4:=⟨hnat _ hN4,hcat _ hLr4⟩;have c3:w3.cell? ⟨gn,on+k,none⟩=some (.string sx):=hnat _ hN3;obtain⟨ln4,hln4⟩:=jl ((L.take (k+1)).length);obtain⟨ln3,hln3⟩:=jl ((L.take k).length);rw[<-hln3]at hr4;have HROW4:=jq hrow4;have HB4:=jq hB4;have HN4:=jq hN4;rw[<-hrn,<-hln3];obtain⟨w5,hw5⟩:=jl w3.drew;have HRN:=jq hrn;have HL3:=jq hln3;clear hrn hO3 hLr hB3 hN3 hN3d hcat hnat hO3r hrow4 hg4 hg34 hB4 hu4 hN4 hR4 hLr4 hal hB03 hsuc hln4 hln3 c0
   go_wp2_with fail
   refine wp_region_noPanic ?_;refine wp_region_held_drew (S:=λw'=>w'.cell? ⟨gn,on+k,none⟩=some (.string sx)/\(convert 22 9 (.slice ra rn rc)).run Tryz.prog w'=.ok (.string sy) w') (by kernel_rfl) hS3 (λhHeld=>?_);refine' wpAnyH_take (i:=0) (oi:=?oi1) (v:=?v1) ?hi1 (by kernel_rfl) (by kernel_rfl) (by kernel_rfl) (λ_ _ _ h=>h) (Or.inl ⟨?hh1,?hy1⟩) (by assumption) ?rest1
   case hi1=>(simp only[jt,jb,ja];rfl)
   case hh1=>rfl
   case hy1=>(intro w' hSw;(try dsimp only at hSw);go_simp;try with_reducible rfl)
   try simp only[Act.put,ji,js,ju]
   refine' wpAnyH_take (i:=1) (oi:=?oi2) (v:=?v2) ?hi2 (by kernel_rfl) (by kernel_rfl) (by kernel_rfl) (λ_ _ _ h=>h) (Or.inl ⟨?hh2,?hy2⟩) (by assumption) ?rest2
   case hi2=>(simp only[jt,jb,ja];rfl)
   case hh2=>rfl
   case hy2=>(intro w' hSw;(try dsimp only at hSw);go_simp;try with_reducible rfl)
   try simp only[Act.put,ji,js,ju]
   refine' wpAnyH_take (i:=2) (oi:=?oi3) (v:=?v3) ?hi3 (by kernel_rfl) (by kernel_rfl) (by kernel_rfl) (λ_ _ _ h=>h) (Or.inl ⟨?hh3,?hy3⟩) (by assumption) ?rest3
   case hi3=>(simp only[jt,jb,ja];rfl)
   case hh3=>rfl
   case hy3=>(intro w' hSw;(try dsimp only at hSw);go_simp;try with_reducible rfl)
   try simp only[Act.put,ji,js,ju]
   refine' wpAnyH_take (i:=3) (oi:=?oi4) (v:=?v4) ?hi4 (by kernel_rfl) (by kernel_rfl) (by kernel_rfl) (λ_ _ _ h=>h) (Or.inl ⟨?hh4,?hy4⟩) (by assumption) ?rest4
   case hi4=>(simp only[jt,jb,ja];rfl)
   case hh4=>rfl
   case hy4=>(intro w' hSw;(try dsimp only at hSw);go_simp;try with_reducible rfl)
   try simp only[Act.put,ji,js,ju]
   refine' wpAnyH_take (i:=4) (oi:=?oi5) (v:=?v5) ?hi5 (by kernel_rfl) (by kernel_rfl) (by kernel_rfl) (λ_ _ _ h=>h) (Or.inl ⟨?hh5,?hy5⟩) (by assumption) ?rest5
   case hi5=>(simp only[jt,jb,ja];rfl)
   case hh5=>rfl
   case hy5=>(intro w' hSw;(try dsimp only at hSw);go_simp;try with_reducible rfl)
   try simp only[Act.put,ji,js,ju]
   refine' wpAnyH_take (i:=5) (oi:=?oi6) (v:=?v6) ?hi6 (by kernel_rfl) (by kernel_rfl) (by kernel_rfl) (λ_ _ _ h=>h) (Or.inl ⟨?hh6,?hy6⟩) (by assumption) ?rest6
   case hi6=>(simp only[jt,jb,ja];rfl)
   case hh6=>rfl
   case hy6=>(intro w' hSw;(try dsimp only at hSw);go_simp;try with_reducible rfl)
   try simp only[Act.put,ji,js,ju]
   refine' wpAnyH_take (i:=6) (oi:=?oi7) (v:=?v7) ?hi7 (by kernel_rfl) (by kernel_rfl) (by kernel_rfl) (λ_ _ _ h=>h) (Or.inl ⟨?hh7,?hy7⟩) (by assumption) ?rest7
   case hi7=>(simp only[jt,jb,ja];rfl)
   case hh7=>rfl
   case hy7=>(intro w' hSw;obtain⟨_,hSw2⟩:=hSw;go_simp;try with_reducible rfl)
   try simp only[Act.put,ji,js,ju]
   refine' wpAnyH_take (i:=7) (oi:=?oi8) (v:=?v8) ?hi8 (by kernel_rfl) (by kernel_rfl) (by kernel_rfl) (λ_ _ _ h=>h) (Or.inl ⟨?hh8,?hy8⟩) (by assumption) ?rest8
   case hi8=>(simp only[jt,jb,ja];rfl)
   case hh8=>rfl
   case hy8=>(intro w' hSw;(try dsimp only at hSw);go_simp;try with_reducible rfl)
   try simp only[Act.put,ji,js,ju]
   refine wpAnyH_ready (rs:=[8]) (by kernel_rfl) (by simp) ?_;refine' AllReadyH.cons (o:=?o9) ?ho9 (λK hK=>?step9) ?more9
   case ho9=>(simp only[jt,jb,ja];rfl)
   case step9=>
    go_simp;refine hK.out _ _ ?_ (λhHeld=>?_)
    ·(first|exact hS3|exact hS5|exact hS4)
    clear hK K
    try simp only[Act.put,ji,js,ju]
    refine wpAnyH_ready (rs:=[9]) (by kernel_rfl) (by simp) ?_;refine' AllReadyH.cons (o:=?o10) ?ho10 (λK hK=>?step10) ?more10
    case ho10=>(simp only[jt,jb,ja];rfl)
    case step10=>
     refine step_append_run rfl (.tmp 30) (.tmp 38) 35 35 rfl _ _ rfl rfl hr4 ?_;refine hK.out _ _ ?_ (λhHeld=>?_)
     ·(first|exact hS3|exact hS5|exact hS4)
     clear hK K
     try simp only[Act.put,ji,js,ju]
     refine wpAnyH_ready (rs:=[10]) (by kernel_rfl) (by simp) ?_;refine' AllReadyH.cons (o:=?o11) ?ho11 (λK hK=>?step11) ?more11
     case ho11=>(simp only[jt,jb,ja];rfl)
     case step11=>
      go_simp;refine hK.out _ _ ?_ (λhHeld=>?_)
      ·(first|exact hS3|exact hS5|exact hS4)
      clear hK K
      try simp only[Act.put,ji,js,ju]
      refine wpAnyH_done (by kernel_rfl) ?_ _;refine NoPanic.normal ?_;clear hS3 hS5 hS4 hHeld
      go_wp2_with fail
      exact⟨⟨k+1,hkn,by simp,HB4,HROW4,HN4⟩,by simp[intOf];omega⟩
     exact AllReadyH.nil
    exact AllReadyH.nil
   exact AllReadyH.nil
  ·obtain rfl:nl=k:=by omega
   have hkd:decide ((nl:Int) <(nl:Int))=false:=jf (by omega);have hO:=HO.out;rw[List.take_of_length_le (l:=L) (by rw[HNN.out];exact Nat.le_refl _)]at hO;obtain⟨oa,oc,rfl,_,hLo,_,_⟩:=own_shape hO;have HLO:=jq hLo;rw[<-HNN.out];clear hO hLo
   go_wp2_with fail
   go_ret2
   exact⟨oa,oc,rfl,HLO.out,HB.out⟩
end Full
namespace Full
open Go.RowKit Go.Deep Mem Crc Go.Maps Dk Mani RefF Go.Proofs.YtbfochdoeibofaaGreatDoor.Read Man
open Store (Chg none' nv Files)
open RefD (flatW madeL Mixed2 DV)
def X4 (r5 r6 b9 b10:Nat):Nat->Prop:=λx=>x=r5\/x=r6\/x=b9\/x=b10
structure FBox (B p:Nat) (w:World) (x5 x6 x9 x10:Nat) (y9 y10:Array Value):Prop where
 r5:Blk w x5 34 #[.int .u64 0,.int .u32 0,.slice none 0 0]
 r6:Blk w x6 74 #[.int .i64 0,.bool false,.int .i64 0,.slice none 0 0,.slice none 0 0]
 b9:Blk w x9 34 y9
 b10:Blk w x10 74 y10
 ne:x5≠x6/\x5≠x9/\x5≠x10/\x6≠x9/\x6≠x10/\x9≠x10
 pos:∀x,X4 x5 x6 x9 x10 x->x≠p/\B<=x/\x≠0
variable {Z:Prop} {B p cnt i k n:Nat} {w w' w0:World} {S:PD} {D D' X:Nat->Prop} {T:KD} {r5 r6 b9 b10:Nat} {y9 y10:Array Value} {l:List AR}
theorem FBox.upon (h:FBox B p w r5 r6 b9 b10 y9 y10) (hu:Upon X w w') (hx:∀x,X4 r5 r6 b9 b10 x->¬X x):FBox B p w' r5 r6 b9 b10 y9 y10:=
 ⟨h.r5.upon hu (hx _ (.inl rfl)),h.r6.upon hu (hx _ (.inr (.inl rfl))),h.b9.upon hu (hx _ (.inr (.inr (.inl rfl)))),h.b10.upon hu (hx _ (.inr (.inr (.inr rfl)))),h.ne,h.pos⟩
theorem FBox.later (h:FBox B p w r5 r6 b9 b10 y9 y10) (hB:Below w.heap.size w w'):FBox B p w' r5 r6 b9 b10 y9 y10:=h.upon (X:=λ_=>False) (Upon.of_below hB) (λ_ _ hf=>hf)
theorem FBox.lt (h:FBox B p w r5 r6 b9 b10 y9 y10):∀x,X4 r5 r6 b9 b10 x->x<w.heap.size:=λx hx=>by
 rcases hx with rfl|rfl|rfl|rfl
 ·exact h.r5.lt
 ·exact h.r6.lt
 ·exact h.b9.lt
 ·exact h.b10.lt
theorem FBox.set9 (h:FBox B p w r5 r6 b9 b10 y9 y10) {y9':Array Value} (hb:Blk w' b9 34 y9') (hu:Upon (λx=>x=b9) w w'):FBox B p w' r5 r6 b9 b10 y9' y10:=by
 obtain⟨n1,n2,n3,n4,n5,n6⟩:=h.ne;exact⟨h.r5.upon hu n2,h.r6.upon hu n4,hb,h.b10.upon hu (λe=>n6 e.symm),h.ne,h.pos⟩
theorem FBox.set10 (h:FBox B p w r5 r6 b9 b10 y9 y10) {y10':Array Value} (hb:Blk w' b10 74 y10') (hu:Upon (λx=>x=b10) w w'):FBox B p w' r5 r6 b9 b10 y9 y10':=by
 obtain⟨n1,n2,n3,n4,n5,n6⟩:=h.ne;exact⟨h.r5.upon hu n3,h.r6.upon hu n5,h.b9.upon hu n6,hb,h.ne,h.pos⟩
def KD.c9 (T:KD):Array Value:=#[.int .u64 (T.kv:Int),.int .u32 (T.kn:Int),.slice T.na T.lN.length T.nc]
def KD.c10 (T:KD):Array Value:=#[.int .i64 (T.bw.length:Int),.bool false,.int .i64 (-1),.slice T.wa 32 T.wc,.slice none 0 0]
theorem tk1 {P:Program} {ops:Array Oper} {Q:Exit->Act->World->Prop} {md:Region.Mode} {S:World->Prop} (i:Nat) {oi:Oper} {v:Value} {fuel:Nat} {listed:Array Bool} {a:Act} {w:World} (h:wpAnyH P md ops Q S fuel (listed.setIfInBounds i true) (a.put oi.dst v) w) (hi:ops[i]? =some oi:=by(simp only[jt,jb,ja];rfl)) (hh:Region.wanted oi (yielded ops a.tmps)=true:=by rfl) (hy:∀w,S w->(execOp a.eval oi).run P w=.ok (.value v) w:=by(intro w' hSw;(try dsimp only at hSw);go_split_ands;go_simp;try with_reducible rfl)) (hs:Region.noSelect ops=true:=by kernel_rfl) (hf:Region.free md ops listed i=true:=by kernel_rfl) (hr: (Region.ready md ops listed).contains i=true:=by kernel_rfl) (hQ:∀c a w,Q (.panic c) (a.put oi.dst v) w->Q (.panic c) a w:=by exact λ_ _ _ h=>h) (hS:S w:=by assumption):wpAnyH P md ops Q S (fuel+1) listed a w:=
 wpAnyH_take hi hs hf hr hQ (Or.inl ⟨hh,hy⟩) hS h
theorem three_facts {V:World} {b:Nat} {t:TypeId} {x0 x1 x2:Value} (h:Blk V b t #[x0,x1,x2]): (V.frozen? ⟨b,0,none⟩=false/\V.frozen? ⟨b,1,none⟩=false/\V.frozen? ⟨b,2,none⟩=false)/\V.cell? ⟨b,0,none⟩=some x0/\V.cell? ⟨b,1,none⟩=some x1/\V.cell? ⟨b,2,none⟩=some x2:=⟨⟨h.frozen 0,h.frozen 1,h.frozen 2⟩,h.cell 0,h.cell 1,h.cell 2⟩
theorem five_facts {V:World} {b:Nat} {t:TypeId} {x0 x1 x2 x3 x4:Value} (h:Blk V b t #[x0,x1,x2,x3,x4]): (V.frozen? ⟨b,0,none⟩=false/\V.frozen? ⟨b,1,none⟩=false/\V.frozen? ⟨b,2,none⟩=false/\V.frozen? ⟨b,3,none⟩=false/\V.frozen? ⟨b,4,none⟩=false)/\V.cell? ⟨b,0,none⟩=some x0/\V.cell? ⟨b,1,none⟩=some x1/\V.cell? ⟨b,2,none⟩=some x2/\V.cell? ⟨b,3,none⟩=some x3/\V.cell? ⟨b,4,none⟩=some x4:=⟨⟨h.frozen 0,h.frozen 1,h.frozen 2,h.frozen 3,h.frozen 4⟩,h.cell 0,h.cell 1,h.cell 2,h.cell 3,h.cell 4⟩
theorem boxes_stored {W1 V V4 V5:World} {tm td:TypeId} {x0 x1 x2 z0 z1 z2 z3 z4:Value} {va:Option Addr} {xs:List Value} (hB:Below W1.heap.size W1 V) (hm:Blk V b9 tm #[x0,x1,x2]) (hd:Blk V b10 td #[z0,z1,z2,z3,z4]) (hl:Lies V va xs) (h9:∀g,Mem.blk va=some g->W1.heap.size<=g/\g<V.heap.size/\g≠b9/\g≠b10) (he:b9≠b10/\W1.heap.size<=b9/\W1.heap.size<=b10) {m0 m1 m2 d0 d1 d2 d3 d4:Value} (h4:V4=((V.setCell ⟨b9,0,none⟩ m0).setCell ⟨b9,1,none⟩ m1).setCell ⟨b9,2,none⟩ m2) (h5:V5=((((V4.setCell ⟨b10,0,none⟩ d0).setCell ⟨b10,1,none⟩ d1).setCell ⟨b10,2,none⟩ d2).setCell ⟨b10,3,none⟩ d3).setCell ⟨b10,4,none⟩ d4):
  Below W1.heap.size W1 V4/\Blk V4 b10 td #[z0,z1,z2,z3,z4]/\Below W1.heap.size W1 V5/\Lies V5 va xs/\(∀g,Mem.blk va=some g->W1.heap.size<=g/\g<V5.heap.size/\g≠b9/\g≠b10)/\Blk V5 b9 tm #[m0,m1,m2]/\Blk V5 b10 td #[d0,d1,d2,d3,d4]:=by
 obtain⟨h1,u1⟩:=set_three hm m0 m1 m2;rw[<-h4]at h1 u1;have hd4:=hd.upon u1 (λe=>he.1 e.symm);obtain⟨h2,u2⟩:=set_five hd4 d0 d1 d2 d3 d4;rw[<-h5]at h2 u2;have hz:=hB.size;have hz1:=u1.size;have hz2:=u2.size;have hw4:=hB.trans (u1.below hz (λg hg=>by omega));exact⟨hw4,hd4,hw4.trans (u2.below (by omega) (λg hg=>by omega)),(hl.upon u1 (λg hg e=>(h9 g hg).2.2.1 e)).upon u2 (λg hg e=>(h9 g hg).2.2.2 e),λg hg=>by have:=h9 g hg;omega,h1.upon u2 he.1,h2⟩
def FA (B p cnt k:Nat) (w:World) (S:PD) (T:KD) (r5 r6 b9 b10:Nat):Prop:=Play False B p cnt k w S/\Kept B (S.D p) w T/\(∀x,X4 r5 r6 b9 b10 x->¬S.A p x/\¬T.R x)
def FB (B p cnt:Nat) (w:World) (S:PD) (T:KD) (r5 r6 b9 b10:Nat):Prop:=∃(D:Nat->Prop) (m:DM),FState B p cnt w S T D m/\m.off=true/\∀x,X4 r5 r6 b9 b10 x->¬D x/\Mem.blk S.ah≠some x/\¬T.R x
def FLoop (B p cnt k:Nat) (w0 w:World) (T:KD) (r5 r6 b9 b10:Nat):Prop:=Below B w0 w/\FBox B p w r5 r6 b9 b10 T.c9 T.c10/\∃S,FA B p cnt k w S T r5 r6 b9 b10\/FB B p cnt w S T r5 r6 b9 b10
theorem FA.start {va:Option Addr} {vc:Nat} {w1:World} (h:Play False B p cnt i w S) (hi:i<=60) (hB1:Below w.heap.size w w1) (hw:Lies w1 va (flatW (madeL S.m.bl))) (hg:∀x,Mem.blk va=some x->w.heap.size<=x/\x<w1.heap.size):
  Kept B (S.D p) w1 ⟨S.LH,S.ah,S.hc,S.ver,S.next,S.a,S.c,S.l,S.m.bl,va,vc⟩:=
 (h.later hB1).kept hi hw (λx hx=>⟨λhd=>by have:=(h.dlt x hd).2;have:=(hg x hx).1;omega,by have:=h.on.low;have:=(hg x hx).1;omega,(hg x hx).2⟩)
theorem known_have {N:Nat} {va:Option Addr} {vc:Nat} (hg:∀x,Mem.blk va=some x->N<=x):∀x,KD.R ⟨S.LH,S.ah,S.hc,S.ver,S.next,S.a,S.c,S.l,S.m.bl,va,vc⟩ x->S.A p x\/N<=x:=λx hx=>by
 rcases hx with hx|hx|hx|hx
 ·exact .inl (.inr (.inr (.inr (.inl hx))))
 ·exact .inl (.inr (.inl hx))
 ·exact .inl (.inr (.inr (.inl hx)))
 ·exact .inr (hg x hx)
theorem known_next {N kv kn:Nat} {va a':Option Addr} {vc c':Nat} {l':List FR} (hg:∀x,Mem.blk va=some x->N<=x) (ha:∀x,Mem.blk a'=some x->N<=x) (hl:∀y∈l',y∈S.l\/∀x,Mem.blk y.a=some x->N<=x):∀x,KD.R ⟨S.L,S.an,S.nc,kv,kn,a',c',l',S.m.bl,va,vc⟩ x->S.A p x\/N<=x:=λx hx=>by
 rcases hx with hx|hx|⟨y,hy,hx⟩|hx
 ·exact .inl (.inr (.inr (.inr (.inr hx))))
 ·exact .inr (ha x hx)
 ·exact(hl y hy).imp (λh1=>.inr (.inr (.inl ⟨y,h1,hx⟩))) (λh1=>h1 x hx)
 ·exact .inr (hg x hx)
theorem Play.keptN {w3 w4:World} (h:Play Z B p cnt i w3 S) (hi:i<=60) (hB:Below w3.heap.size w3 w4) {ss:List (List UInt8)} (hK:Keys S.C ss) {q:Nat×List Fil} (hq:planM S.C ss cnt S.ver S.next S.fs=some q) {a':Option Addr} {c':Nat} {l':List FR} (hl:l'.map FR.f=q.2) (hF:FilesIn w4 a' l') (hg:∀b,Mem.blk a'=some b->w3.heap.size<=b/\b<w4.heap.size) (hx:∀y∈l',y∈S.l\/∀b,Mem.blk y.a=some b->w3.heap.size<=b/\b<w4.heap.size) {wa:Option Addr} {wc:Nat} (hw:Lies w4 wa (flatW (madeL S.m.bl))) (ha:Away B (S.D p) w4 wa):
  Kept B (S.D p) w4 ⟨S.L,S.an,S.nc,S.ver+1,q.1,a',c',l',S.m.bl,wa,wc⟩:=by
 have hll:=h.ll;have hok:=h.on.ok;have hbig:=h.on.big;have hsm:=h.on.small;have hcnt:=h.len;have hlow:=h.on.low;rw[hcnt]at hok hsm;obtain⟨L,l1,l2,l3,l4⟩:=h.on.few;have hs:∀nm∈ss,nm.length<=32:=λnm hnm=>l3 nm (l1 nm ((hK.mem nm).1 hnm))
 have hok2:=(plan_okm hok hsm l4 hK hs hq).1;have hP:=h.later hB;obtain⟨wv,a,c,l,hfu,_⟩:=h.on.fu;have fresh:∀{x:Option Addr},(∀b,Mem.blk x=some b->w3.heap.size<=b/\b<w4.heap.size)->Away B (S.D p) w4 x:=λhh b hb=>⟨λhd=>by have:=(h.dlt b hd).2;have:=(hh b hb).1;omega,by have:=(hh b hb).1;omega,(hh b hb).2⟩
 exact⟨hP.nl,hP.na,by show S.L.length<=1000;omega,hF,fresh hg,λy hy=>(hx y hy).elim (λh1=>hP.fb y h1) (λh1=>fresh h1),⟨cnt,by show Okm cnt (S.ver+1) q.1 (l'.map FR.f);rw[hl];exact hok2⟩,hw,ha,hbig,by show S.m.bl.length<=65536;rw[hcnt];exact hsm,hfu.disk.len⟩
theorem PlanAns.later {w3 w4 w5 w6:World} {o:Option (Nat×List Fil)} {e:Ending} (h:PlanAns w4 S o e w5) (_:FilesIn w3 S.a S.l) (hB:Below w3.heap.size w3 w4) (h2:Below w5.heap.size w5 w6):PlanAns w3 S o e w6:=by
 obtain⟨h1,h3⟩:=h;have hz:=hB.size;have hz1:=h1.size;have hz2:=h2.size;refine⟨(hB.trans (h1.mono hz)).trans (h2.mono (by omega)),?_⟩
 cases o with
 |none=>exact h3
 |some q=>
  obtain⟨a',c',l',h4,h5,h6,h7,h8⟩:=h3;exact⟨a',c',l',h4,h5,⟨h6.row.later h2,λy hy=>⟨(h6.blocks y hy).1.later h2,(h6.blocks y hy).2⟩⟩,λb hb=>by have:=h7 b hb;omega,λy hy=>(h8 y hy).imp id (λh9 b hb=>by have:=h9 b hb;omega)⟩
theorem FA.step {j:Nat} (h:FA B p cnt k w S T r5 r6 b9 b10) (hb:FBox B p w r5 r6 b9 b10 y9 y10) (hs:Step False B p cnt j S w w'):FBox B p w' r5 r6 b9 b10 y9 y10/\Below B w w'/\∃S',FA B p cnt j w' S' T r5 r6 b9 b10:=by
 obtain⟨hP,hK,hx⟩:=h;obtain⟨S',hP',⟨hD,hA⟩,hu⟩:=hs;have hlow:=hP.on.low;refine⟨hb.upon hu (λx hx4 hd=>(hx x hx4).1 (.inl hd)),hu.below hlow (λx hd=>(hP.dlt x hd).1),S',hP',hK.step hu hD,λx hx4=>⟨λha=>(hA x ha).elim (hx x hx4).1 (λh1=>by have:=hb.lt x hx4;omega),(hx x hx4).2⟩⟩
end Full
end Go.Proofs.YtbfochdoeibofaaGreatDoor
