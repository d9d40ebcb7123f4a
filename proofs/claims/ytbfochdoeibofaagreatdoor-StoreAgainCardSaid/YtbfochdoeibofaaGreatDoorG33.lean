/- A part of the proof. -/
import Derived.Test.YtbfochdoeibofaaGreatDoorG0
import Derived.Test.YtbfochdoeibofaaGreatDoorG0Q
import Derived.Test.YtbfochdoeibofaaGreatDoorG29
import Derived.Test.YtbfochdoeibofaaGreatDoorG30
import Derived.Test.YtbfochdoeibofaaGreatDoorG31
import Derived.Test.YtbfochdoeibofaaGreatDoorG32
import Derived.Maps.AppendAt
import Derived.StillTailTactics
import Derived.Deep.QuietTactic
import Derived.Deep.RegionLaw
import Derived.BigQuiet
set_option maxHeartbeats 4000000
set_option maxRecDepth 200000
namespace Go.Proofs.YtbfochdoeibofaaGreatDoor
namespace RefD
open Go.RowKit Go.Deep Mem Crc Full Mani Go.Proofs.YtbfochdoeibofaaGreatDoor.Frame Go.Proofs.YtbfochdoeibofaaGreatDoor.Read
def Get9 (bs:List UInt8) (w:World) (e:Ending) (w':World):Prop:=Below w.heap.size w w'/\∃(ok:Bool) (a:Option Addr) (c ver next:Nat) (l:List FR),e=.returned (.tuple #[.agg #[.int .u64 (ver:Int),.int .u32 (next:Int),.slice a l.length c],.bool ok])/\FilesIn w' a l/\(∀b,Mem.blk a=some b->w.heap.size<=b)/\(∀x∈l,∀b,Mem.blk x.a=some b->w.heap.size<=b)/\
 (ok=true->(got bs).2.2.2=0/\(got bs).1=77/\(readS (got bs).2.1).err=0/\ver=(readS (got bs).2.1).ver/\next=(readS (got bs).2.1).next/\l.map FR.f=(readS (got bs).2.1).fs)/\(ok=true↔(getS bs).isSome=true)
theorem Get9.no {bs:List UInt8} {w w':World} (hB:Below w.heap.size w w') (h: (getS bs).isSome=true->False):Get9 bs w (.returned (.tuple #[.agg #[.int .u64 0,.int .u32 0,.slice none 0 0],.bool false])) w':=
 ⟨hB,false,none,0,0,0,[],rfl,⟨.inl rfl,λx hx=>(by cases hx)⟩,(λb h=>by cases h),(λx hx=>by cases hx),λh=>(by cases h),⟨λh=>(by cases h),λhs=>(h hs).elim⟩⟩
theorem getS_bad {bs:List UInt8} (h:¬((got bs).2.2.2=0/\(got bs).1=77)): (getS bs).isSome=true->False:=by
 intro hs;unfold getS at hs;rw[if_neg h]at hs;cases hs
structure R0 (w:World) (rd:Nat) (s:St) (W:World):Prop where
 below:Below w.heap.size w W
 rd:RdV w.heap.size W rd s
theorem R0.put {w W W':World} {rd:Nat} {s s':St} {a:Option Addr} {n c:Nat} (h:R0 w rd s W) (hB:Below W.heap.size W W') (hv:RV w.heap.size W' s' (.agg #[.slice a n c,.int .i64 s'.2])):R0 w rd s' ((W'.setCell ⟨rd,0,none⟩ (.slice a n c)).setCell ⟨rd,1,none⟩ (.int .i64 s'.2)):=by
 obtain⟨cs,hb,hg⟩:=h.rd.blk;refine⟨((h.below.trans (hB.mono h.below.size)).setCell hg _).setCell hg _,RdV.put (h.rd.upon (X:=λ_=>False) (Upon.of_below hB) id (λ_ hf=>hf.elim)) hv⟩
theorem man_set {w:World} {b:Nat} {p q r:Value} (h:Blk w b 34 #[p,q,r]) (x y z:Value):Blk (((w.setCell ⟨b,0,none⟩ x).setCell ⟨b,1,none⟩ y).setCell ⟨b,2,none⟩ z) b 34 #[x,y,z]:=((h.set 0 x).set 1 y).set 2 z
theorem RdV.two {B:Nat} {w w':World} {rd:Nat} {s:St} (h:RdV B w rd s) (hB:Below w.heap.size w w'):∃x y,Blk w' rd 178 #[x,y]:=by
 obtain⟨a,n,c,hb,_⟩:=h;exact⟨_,_,hb.below hB hb.lt⟩
theorem RV.far {B:Nat} {w:World} {s:St} {v:Value} (h:RV B w s v) {rd:Nat} (hr:B<=rd) (x y:Value):RV B ((w.setCell ⟨rd,0,none⟩ x).setCell ⟨rd,1,none⟩ y) s v:=by
 obtain⟨a,n,c,e,h⟩:=h;exact⟨a,n,c,e,λh0=>⟨(h h0).1,(h h0).2.1,(h h0).2.2.1.upon (upon_put rd x y) (λk hk e=>by have:=(h h0).2.2.2 k hk;omega),(h h0).2.2.2⟩⟩
def lenAt (w:World) (q:Nat):Nat:=match w.cell? ⟨q,2,none⟩with
 |some (.slice _ n _)=>n
 |_=>0
theorem bks_le {fs:List Fil} {f:Fil} (h:f∈fs):f.blocks.length<=(bksL fs).length:=by
 obtain⟨a,b,e⟩:=List.append_of_mem h;rw[e];unfold bksL;rw[List.flatMap_append,jC,jL,jL]
 omega
theorem getS_is {bs:List UInt8} (h1: (got bs).2.2.2=0) (h2: (got bs).1=77) (h3: (readS (got bs).2.1).err=0) (h4:mayB (readS (got bs).2.1).ver (readS (got bs).2.1).next (readS (got bs).2.1).fs=true): (getS bs).isSome=true:=by
 unfold getS;rw[if_pos ⟨h1,h2⟩,if_pos ⟨h3,h4⟩]
 rfl
theorem getS_good {bs:List UInt8} (hs: (getS bs).isSome=true): (readS (got bs).2.1).err=0/\mayB (readS (got bs).2.1).ver (readS (got bs).2.1).next (readS (got bs).2.1).fs=true:=by
 unfold getS at hs
 split at hs
 ·split at hs
  ·assumption
  ·cases hs
 ·cases hs
theorem lies_res {B:Nat} {w:World} {e:TypeId} {sz n:Nat} {a:Option Addr} {k c:Nat} {xs:List Value} (h:w.ownsRow B e sz (.slice a k c) n xs) {rb:Nat} (hr:rb<B) (x y z:Value):Lies (((w.setCell ⟨rb,0,none⟩ x).setCell ⟨rb,1,none⟩ y).setCell ⟨rb,2,none⟩ z) a xs/\k<=c:=by
 have hne: (Value.slice a k c).ownBlock≠some rb:=λe=>by have:=(h.lt _ e).1;omega
 obtain⟨a2,c2,e2,hc2,hL2,_,_⟩:=own_shape (own_far (own_far (own_far h (p:=⟨rb,0,none⟩) hne x) (p:=⟨rb,1,none⟩) hne y) (p:=⟨rb,2,none⟩) hne z);cases e2;exact⟨hL2,hc2⟩
theorem got_len (bs:List UInt8): (got bs).2.1.length<=bs.length:=by
 unfold got
 by_cases h1:bs.length<9
 ·rw[if_pos h1];exact Nat.zero_le _
 rw[if_neg h1]
 by_cases h2:fitsE (bs.take 9)=5
 ·rw[if_pos h2];exact Nat.zero_le _
 rw[if_neg h2]
 by_cases h3:1048576<num (bodyOf (bs.take 9))
 ·rw[if_pos h3];exact Nat.zero_le _
 rw[if_neg h3]
 by_cases h4:bs.length<13+num (bodyOf (bs.take 9))
 ·rw[if_pos h4];exact Nat.zero_le _
 rw[if_neg h4]
 by_cases h5:fitsE ((bs.drop 9).take (num (bodyOf (bs.take 9))+4))=5
 ·rw[if_pos h5];exact Nat.zero_le _
 rw[if_neg h5];show(bodyOf _).length<=_;rw[bodyOf_length,jT,List.length_drop]
 omega
attribute [local go_sem] Oper.semAt_some
theorem get9_any (a:Option Addr) (cp:Nat) (bs:List UInt8) (w:World) (h:Lies w a (bs.map bv)) (hcp:bs.length<=cp) (hm:bs.length<=100000):
  Calls Tryz.prog 67 #[.slice a bs.length cp] w (Get9 bs w):=by
 obtain⟨W1,hW1⟩:=jl ((w.alloc (.cells #[.int .u64 0,.int .u32 0,.slice none 0 0] 34)).alloc (.cells #[.int .u64 0,.int .u32 0,.slice none 0 0] 34));obtain⟨rb,hrb⟩:=jl w.heap.size;obtain⟨nb,hnb⟩:=jl (w.heap.size+1);have hal:Below w.heap.size w W1:=by rw[hW1];exact((Below.refl _ w).alloc jn _).alloc (by simp) _
 have hrk:Blk W1 rb 34 #[.int .u64 0,.int .u32 0,.slice none 0 0]:=by
  rw[hW1,hrb];exact(Blk.new w _ _).below ((Below.refl _ _).alloc jn _) (by simp)
 have hnk:Blk W1 nb 34 #[.int .u64 0,.int .u32 0,.slice none 0 0]:=by
  rw[hW1,hnb];have h:=Blk.new (w.alloc (.cells #[.int .u64 0,.int .u32 0,.slice none 0 0] 34)) 34 #[.int .u64 0,.int .u32 0,.slice none 0 0]
  simpa using h
 have hget:=get5_any a cp bs W1 (h.later hal) hcp (by omega);obtain⟨n,hnl⟩:=jl bs.length;rw[<-hnl]at hget⊢;have HGET:=jq hget;have HAL:=jq hal;have HRK:=jq hrk;have HNK:=jq hnk;have HRW:Hid (w.heap.size<=rb):=jq (by omega);have HNL:=jq hnl;have HM:=jq hm;clear h hcp hm hget hal hrk hnk hnl
 go_enter Tryz.func67,Tryz.ntmps67
 go_wp2_with fail
 rw[<-hW1,<-hnb,<-hrb];clear hW1 hrb hnb;refine HGET.out.mono ?_;rintro e w2 hG;obtain⟨⟨v2,rfl,hown2⟩,hB2⟩:=hG;obtain⟨ba,bc,rfl,hbc,hbL,hbg,_⟩:=own_shape hown2;obtain⟨body,hbody⟩:=jl ((got bs).2.1);obtain⟨kd,hkd⟩:=jl ((got bs).1.toNat);obtain⟨ge,hge⟩:=jl ((got bs).2.2.2);obtain⟨gn,hgn⟩:=jl ((got bs).2.2.1);have hkv:bv (got bs).1=.int .u8 (kd:Int):=by rw[hkd];rfl
 have hbd:body.length<=bs.length:=by rw[hbody];exact got_len bs
 rw[hkv,<-hge,<-hgn];rw[<-hbody]at hbc hbL;rw[<-hbody];have hrk2:=HRK.out.below hB2 HRK.out.lt;have hnk2:=HNK.out.below hB2 HNK.out.lt;obtain⟨bl,hbl⟩:=jl body.length;rw[<-hbl]at hbc⊢;have HB2:=jq (HAL.out.trans (hB2.mono HAL.out.size));obtain⟨w3,hw3⟩:=jl (w2.alloc (.cells #[.int .u8 (kd:Int),.slice ba bl bc] 155));have hB3:Below w2.heap.size w2 w3:=by rw[hw3];exact(Below.refl _ w2).alloc jn _
 have hrk3:=hrk2.below hB3 hrk2.lt;have hnk3:=hnk2.below hB3 hnk2.lt;have HRK3:=jq hrk3;have HNK3:=jq hnk3;have HB3:=jq (HB2.out.trans (hB3.mono HB2.out.size));have HBL3:=jq (hbL.later hB3);have HBG:=jq (λk hk=>Nat.lt_of_lt_of_le (hbg k hk).2 hB3.size);have HBODY:=jq hbody;have HBLN:=jq hbl;have HGE:=jq hge;have HKD:=jq hkd;have HBD:=jq hbd;have HW3:=jq hw3;have HNO:Hid (∀V:World,Below w.heap.size w V->Blk V rb 34 #[.int .u64 0,.int .u32 0,.slice none 0 0]->Below w.heap.size w (((V.setCell ⟨rb,0,none⟩ (.int .u64 0)).setCell ⟨rb,1,none⟩ (.int .u32 0)).setCell ⟨rb,2,none⟩ (.slice none 0 0))):=jq (λV hV hb=>((hV.setCell HRW.out _).setCell HRW.out _).setCell HRW.out _);clear hown2 hB2 hbL hbg hbody hkd hge hgn hkv hbd hrk2 hnk2 hbl hB3 HGET
 by_cases hz:ge=0
 ·by_cases hk:kd=77
  ·have hz1: (ge==0)=true:=by simpa using hz
   have hz2: (ge !=0)=false:=by simpa using hz
   have hk1: ((kd:Int)==77)=true:=by simp;omega
   have hk2: ((kd:Int) !=77)=false:=by simp;omega
   have HZ:=jq hz;have HK:=jq hk;clear hrk3 hnk3 hw3 hz hk
   go_wp2_with fail
   have e3:=HW3.out;rw[<-e3];clear e3;obtain⟨rd,hrd⟩:=jl (w2.heap.size+1);obtain⟨W4,hW4⟩:=jl (w3.alloc (.cells #[.slice ba bl bc,.int .i64 0] 178));obtain⟨s0,hs0⟩:∃s:St,s=(body,0):=⟨_,rfl⟩;have hsz3:w3.heap.size=rd:=by rw[HW3.out,hrd,World.size_alloc]
   have hR4:R0 w3 rd s0 W4:=by
    refine⟨by rw[hW4];exact(Below.refl _ w3).alloc jn _,ba,bl,bc,?_,λ_=>⟨?_,hbc,?_,HBG.out⟩,by omega⟩
    ·rw[hW4,<-hsz3,hs0];exact Blk.new w3 _ _
    ·rw[hs0];exact HBLN.out
    ·rw[hs0,hW4];exact HBL3.out.later ((Below.refl _ w3).alloc jn _)
   have hv0:RV w3.heap.size W4 s0 (.agg #[.slice ba bl bc,.int .i64 0]):=by
    obtain⟨a',n',c',hb',hv'⟩:=hR4.rd;refine⟨ba,bl,bc,by rw[hs0],λ_=>⟨by rw[hs0];exact HBLN.out,hbc,?_,HBG.out⟩⟩;rw[hs0,hW4];exact HBL3.out.later ((Below.refl _ w3).alloc jn _)
   have hl0:s0.1.length<=4000000:=by rw[hs0];have:=HBD.out;have:=HM.out;show body.length<=_;omega
   rw[<-hrd,<-hW4];obtain⟨ver,hver⟩:=jl ((numS 18446744073709551615 s0).1);obtain⟨s1,hs1⟩:=jl ((numS 18446744073709551615 s0).2);obtain⟨next,hnext⟩:=jl ((numS 4294967295 s1).1);obtain⟨s2,hs2⟩:=jl ((numS 4294967295 s1).2);obtain⟨cnt,hcnt⟩:=jl ((numS 2048 s2).1);obtain⟨s3,hs3⟩:=jl ((numS 2048 s2).2);obtain⟨F,hF⟩:=jl (filesS cnt s3 [])
   have hM:readS body=⟨ver,next,F.1,endE F.2.1 F.2.2⟩:=by
    rw[hF,hcnt,hs3,hnext,hs2,hver,hs1,hs0]
    rfl
   have hnext2:next<=4294967295:=by rw[hnext];exact(numS_le _ _).1
   have hcnt2:cnt<=2048:=by rw[hcnt];exact(numS_le _ _).1
   have hl1:s1.1.length<=4000000:=by rw[hs1];exact Nat.le_trans (numS_le _ _).2.1 hl0
   have hl2:s2.1.length<=4000000:=by rw[hs2];exact Nat.le_trans (numS_le _ _).2.1 hl1
   have hl3:s3.1.length<=4000000:=by rw[hs3];exact Nat.le_trans (numS_le _ _).2.1 hl2
   have HN1:Hid (Calls Tryz.prog 100 #[.agg #[.slice ba bl bc,.int .i64 0],.int .u64 18446744073709551615] W4 λe w'=>∃v',e=.returned (.tuple #[.int .u64 (ver:Int),v'])/\RV w3.heap.size w' s1 v'/\Below W4.heap.size W4 w'):=jq (by
    have:=rnum_any _ s0 18446744073709551615 W4 hv0 (by decide) hl0;rw[<-hver,<-hs1]at this;exact this)
   have HMM:=jq hM;have HS3:=jq hs3;have HFF:=jq hF;have HR4:=jq hR4;have HNX:=jq hnext;have HS2:=jq hs2;have HCN:=jq hcnt;have HL1:=jq hl1;have HL2:=jq hl2;have HL3:=jq hl3;have HRD:=jq hrd;have HSZ3:=jq hsz3;clear hM hs3 hF hR4 hnext hs2 hcnt hl1 hl2 hl3 hl0 hv0 hver hs1 hs0 hsz3 hrd hW4 hbc HBG HBLN;refine HN1.out.mono ?_;rintro e w5 ⟨v5,rfl,hv5,hB5⟩;obtain⟨a5,n5,c5,rfl,-⟩:=id hv5;obtain⟨x5,y5,hb5⟩:=HR4.out.rd.two hB5;have f50:=hb5.cell 0;have f51:=hb5.cell 1
   simp at f50 f51
   have z50:=hb5.frozen 0;have z51:=hb5.frozen 1;have hq5:=box_set hb5 (.slice a5 n5 c5) (.int .i64 s1.2);have k50:=hq5.cell 0;have k51:=hq5.cell 1
   simp at k50 k51
   have hR5:=HR4.out.put hB5 hv5;obtain⟨W5,hW5⟩:=jl ((w5.setCell ⟨rd,0,none⟩ (.slice a5 n5 c5)).setCell ⟨rd,1,none⟩ (.int .i64 s1.2));rw[<-hW5]at hR5;have HR5:=jq hR5
   have hvv5:RV w3.heap.size W5 s1 (.agg #[.slice a5 n5 c5,.int .i64 s1.2]):=by
    rw[hW5];exact hv5.far (by have:=HSZ3.out;omega) _ _
   have HN5:Hid (Calls Tryz.prog 100 #[.agg #[.slice a5 n5 c5,.int .i64 s1.2],.int .u64 4294967295] W5 λe w'=>∃v',e=.returned (.tuple #[.int .u64 (next:Int),v'])/\RV w3.heap.size w' s2 v'/\Below W5.heap.size W5 w'):=jq (by
    have:=rnum_any _ s1 4294967295 W5 hvv5 (by decide) HL1.out;rw[<-HNX.out,<-HS2.out]at this;exact this)
   clear hv5 hB5 hb5 hq5 hR5 hvv5;have HW5:=jq hW5;clear hW5
   go_wp2_with fail
   rw[<-HW5.out];refine HN5.out.mono ?_;rintro e w6 ⟨v6,rfl,hv6,hB6⟩;obtain⟨a6,n6,c6,rfl,-⟩:=id hv6;obtain⟨x6,y6,hb6⟩:=HR5.out.rd.two hB6;have f60:=hb6.cell 0;have f61:=hb6.cell 1
   simp at f60 f61
   have z60:=hb6.frozen 0;have z61:=hb6.frozen 1;have hq6:=box_set hb6 (.slice a6 n6 c6) (.int .i64 s2.2);have k60:=hq6.cell 0;have k61:=hq6.cell 1
   simp at k60 k61
   have hR6:=HR5.out.put hB6 hv6;obtain⟨W6,hW6⟩:=jl ((w6.setCell ⟨rd,0,none⟩ (.slice a6 n6 c6)).setCell ⟨rd,1,none⟩ (.int .i64 s2.2));rw[<-hW6]at hR6;have HR6:=jq hR6
   have hvv6:RV w3.heap.size W6 s2 (.agg #[.slice a6 n6 c6,.int .i64 s2.2]):=by
    rw[hW6];exact hv6.far (by have:=HSZ3.out;omega) _ _
   have HN6:Hid (Calls Tryz.prog 100 #[.agg #[.slice a6 n6 c6,.int .i64 s2.2],.int .u64 2048] W6 λe w'=>∃v',e=.returned (.tuple #[.int .u64 (cnt:Int),v'])/\RV w3.heap.size w' s3 v'/\Below W6.heap.size W6 w'):=jq (by
    have:=rnum_any _ s2 2048 W6 hvv6 (by decide) HL2.out;rw[<-HCN.out,<-HS3.out]at this;exact this)
   clear hv6 hB6 hb6 hq6 hR6 hvv6;have HW6:=jq hW6;clear hW6
   go_wp2_with fail
   rw[<-HW6.out];refine HN6.out.mono ?_;rintro e w7 ⟨v7,rfl,hv7,hB7⟩;obtain⟨a7,n7,c7,rfl,-⟩:=id hv7;obtain⟨x7,y7,hb7⟩:=HR6.out.rd.two hB7;have f70:=hb7.cell 0;have f71:=hb7.cell 1
   simp at f70 f71
   have z70:=hb7.frozen 0;have z71:=hb7.frozen 1;have hq7:=box_set hb7 (.slice a7 n7 c7) (.int .i64 s3.2);have k70:=hq7.cell 0;have k71:=hq7.cell 1
   simp at k70 k71
   have hR7:=HR6.out.put hB7 hv7;obtain⟨W7,hW7⟩:=jl ((w7.setCell ⟨rd,0,none⟩ (.slice a7 n7 c7)).setCell ⟨rd,1,none⟩ (.int .i64 s3.2));rw[<-hW7]at hR7;have HR7:=jq hR7
   have hvv7:RV w3.heap.size W7 s3 (.agg #[.slice a7 n7 c7,.int .i64 s3.2]):=by
    rw[hW7];exact hv7.far (by have:=HSZ3.out;omega) _ _
   have HW7:=jq hW7;clear hv7 hB7 hb7 hq7 hR7 hvv7 hW7;have hnw:IntKind.u32.wrap (next:Int)=(next:Int):=by rw[IntKind.wrap_u32];omega
   go_wp2_with fail
   rw[<-HW7.out];obtain⟨q,hq⟩:=jl w7.heap.size;obtain⟨W8,hW8⟩:=jl (W7.alloc (.cells #[.int .u64 (ver:Int),.int .u32 (next:Int),.slice none 0 0] 34));have hq7:q=W7.heap.size:=by rw[hq,HW7.out];simp
   have hRS:RS w3 q rd ver next (.slice none 0 0) [] s3 W8:=by
    have hB8:Below W7.heap.size W7 W8:=by rw[hW8];exact(Below.refl _ W7).alloc jn _
    refine⟨HR7.out.below.trans (hB8.mono HR7.out.below.size),by rw[hW8,hq7];exact Blk.new W7 _ _,World.ownsRow_nil _ _ _ _,λx hx=>(by cases hx),HR7.out.rd.upon (X:=λ_=>False) (Upon.of_below hB8) id (λ_ hf=>hf.elim),by rw[hq7];exact HR7.out.below.size⟩
   have HRS:=jq hRS;have HF0:Hid (filesS (cnt-([]:List FR).length) s3 (([]:List FR).map FR.f)=F):=jq HFF.out.symm;rw[<-hW8,<-hq];clear hW8 hq hq7 hRS HR4 HR5 HR6 HR7 HN1 HN5 HN6 HL1 HL2 HNX HS2 HCN;clear f50 f51 z50 z51 k50 k51 f60 f61 z60 z61 k60 k61 f70 f71 z70 z71 k70 k71
   go_loopw[] (λwr=>∃(u:Value) (l:List FR) (s:St),l.length<=cnt/\Hid (RS w3 q rd ver next u l s wr)/\Hid (filesS (cnt-l.length) s (l.map FR.f)=F)/\Hid (s.1.length<=4000000)/\(∃ua uc,u=.slice ua l.length uc)) (λwr=>cnt-lenAt wr q)
   case atStart=>exact⟨_,[],s3,Nat.zero_le _,HRS,HF0,HL3,_,_,rfl⟩
   case round=>
    obtain⟨u,l,s,hlc,hRS,hFS,hsl,ua,uc,rfl⟩:=hrel;obtain⟨ra,rn,rc,hrb,hrv⟩:=hRS.out.rd.rv;have e0:=hrb.cell 0;have e1:=hrb.cell 1
    simp at e0 e1
    have m2:=hRS.out.man.cell 2
    simp at m2
    have hwc:IntKind.i64.wrap (cnt:Int)=(cnt:Int):=IntWalk.i64_in _ (by omega);have hLEN:lenAt wr q=l.length:=by unfold lenAt;rw[m2]
    have HLEN:=jq hLEN;clear hLEN;obtain⟨ll,hll⟩:=jl l.length;rw[<-hll]at hlc m2 HLEN hFS;have HLL:=jq hll
    by_cases hz:s.2=0
    ·by_cases hlt:ll<cnt
     ·have hd:decide ((ll:Int) <(cnt:Int))=true:=jd (by omega);have hz1: (s.2==0)=true:=by simpa using hz
      obtain⟨W9,hW9⟩:=jl (wr.alloc (.cells #[.string ⟨#[]⟩,.int .u32 0,.int .i64 0,.slice none 0 0] 96));obtain⟨fb,hfb⟩:=jl wr.heap.size;have hbs9:BS w3 q rd ver next (.slice ua l.length uc) l fb (.string ⟨#[]⟩) 0 0 (.slice none 0 0) [] s W9:=by rw[hW9,hfb];exact BS.start hRS.out (.string ⟨#[]⟩) 0 0
      have hB9:Below wr.heap.size wr W9:=by rw[hW9];exact(Below.refl _ wr).alloc jn _
      have e0':=(hrb.below hB9 hrb.lt).cell 0;have e1':=(hrb.below hB9 hrb.lt).cell 1
      simp at e0' e1'
      obtain⟨ln,hln⟩:=jl ((numS 32 s).1);obtain⟨t1,ht1⟩:=jl ((numS 32 s).2);obtain⟨nmb,hnmb⟩:=jl ((bytesS ln t1).1);obtain⟨t2,ht2⟩:=jl ((bytesS ln t1).2);obtain⟨id,hid⟩:=jl ((numS 4294967295 t2).1);obtain⟨t3,ht3⟩:=jl ((numS 4294967295 t2).2);obtain⟨sz,hsz⟩:=jl ((numS 7340032 t3).1);obtain⟨t4,ht4⟩:=jl ((numS 7340032 t3).2);obtain⟨BL,hBL⟩:=jl (blocksS (Mani.many sz) t4 [])
      have hfile:fileS s=(⟨nmb,id,sz,BL.1⟩,BL.2):=by
       unfold fileS headS;dsimp only;rw[<-hln,<-ht1,<-hnmb,<-ht2,<-hid,<-ht3,<-hsz,<-ht4,<-hBL]
      have hln32:ln<=32:=by rw[hln];exact(numS_le _ _).1
      have hid32:id<=4294967295:=by rw[hid];exact(numS_le _ _).1
      have hszm:sz<=7340032:=by rw[hsz];exact(numS_le _ _).1
      have hnm32:nmb.length<=32:=by rw[hnmb];have:=(bytesS_le ln t1).1;omega
      have hlt1:t1.1.length<=4000000:=by rw[ht1];exact Nat.le_trans (numS_le _ _).2.1 hsl.out
      have hlt2:t2.1.length<=4000000:=by rw[ht2];exact Nat.le_trans (bytesS_le _ _).2 hlt1
      have hlt3:t3.1.length<=4000000:=by rw[ht3];exact Nat.le_trans (numS_le _ _).2.1 hlt2
      have hlt4:t4.1.length<=4000000:=by rw[ht4];exact Nat.le_trans (numS_le _ _).2.1 hlt3
      have hw1:IntKind.i64.wrap (ln:Int)=(ln:Int):=by rw[IntKind.wrap_i64];omega
      have hw2:IntKind.u32.wrap (id:Int)=(id:Int):=by rw[IntKind.wrap_u32];omega
      have hw3:IntKind.i64.wrap (sz:Int)=(sz:Int):=by rw[IntKind.wrap_i64];omega
      have HNA:Hid (Calls Tryz.prog 100 #[.agg #[.slice ra rn rc,.int .i64 s.2],.int .u64 32] W9 λe w'=>∃v',e=.returned (.tuple #[.int .u64 (ln:Int),v'])/\RV w3.heap.size w' t1 v'/\Below W9.heap.size W9 w'):=jq (by
       have:=rnum_any _ s 32 W9 (hrv.later hB9) (by decide) hsl.out;rw[<-hln,<-ht1]at this;exact this)
      have HNM:=jq hnmb;have HT2:=jq ht2;have HID:=jq hid;have HT3:=jq ht3;have HSZ:=jq hsz;have HT4:=jq ht4;have HBL:=jq hBL;have HFILE:=jq hfile;have HBS9:=jq hbs9;have HLT1:=jq hlt1;have HLT2:=jq hlt2;have HLT3:=jq hlt3;have HLT4:=jq hlt4;have HB9:=jq hB9;have HZS:=jq hz;have HW9:=jq hW9;have HFB:=jq hfb;rw[hW9]at e0' e1';clear hln ht1 hnmb ht2 hid ht3 hsz ht4 hBL hfile hbs9 hlt1 hlt2 hlt3 hlt4 hB9 hrb hrv hz hW9 hfb hll
      go_wp2_with fail
      have eW9:=HW9.out;have efb:=HFB.out;rw[<-eW9,<-efb];clear eW9 efb e0 e1 e0' e1' m2;refine HNA.out.mono ?_;rintro e w10 ⟨v10,rfl,hv10,hB10⟩;obtain⟨a10,n10,c10,rfl,-⟩:=_root_.id hv10;obtain⟨x10,y10,hb10⟩:=HBS9.out.rs.rd.two hB10;have f100:=hb10.cell 0;have f101:=hb10.cell 1
      simp at f100 f101
      have z100:=hb10.frozen 0;have z101:=hb10.frozen 1;have hq10:=box_set hb10 (.slice a10 n10 c10) (.int .i64 t1.2);have k100:=hq10.cell 0;have k101:=hq10.cell 1
      simp at k100 k101
      have hbs10:=(HBS9.out.later hB10).put hv10;obtain⟨W10,hW10⟩:=jl ((w10.setCell ⟨rd,0,none⟩ (.slice a10 n10 c10)).setCell ⟨rd,1,none⟩ (.int .i64 t1.2));rw[<-hW10]at hbs10
      have HBY:Hid (Calls Tryz.prog 101 #[.agg #[.slice a10 n10 c10,.int .i64 t1.2],.int .i64 (ln:Int)] W10 (BytesGot w3.heap.size ln t1 W10)):=jq (by
       have hv:RV w3.heap.size W10 t1 (.agg #[.slice a10 n10 c10,.int .i64 t1.2]):=by rw[hW10];exact hv10.far (by have:=HSZ3.out;omega) _ _
       exact rbytes_any _ t1 ln W10 hv (by omega) HLT1.out)
      have HBS10:=jq hbs10;have HW10:=jq hW10;clear hv10 hB10 hb10 hq10 hbs10 hW10 HNA HBS9
      go_wp2_with fail
      rw[<-HW10.out];clear f100 f101 z100 z101 k100 k101;refine HBY.out.mono ?_;rintro e w11 ⟨va,vc,v11,rfl,hL11,hva,hv11,hB11⟩
      have hvrd:∀k,Mem.blk va=some k->k≠rd:=λk hk e=>by
       have h1:=hva k hk;obtain⟨cs,hb,hg⟩:=HBS10.out.rs.rd.blk;have:=hb.lt;have:=HSZ3.out
       omega
      have HVRD:=jq hvrd;clear hva hvrd;rw[<-HNM.out]at hL11;rw[<-HNM.out];rw[<-HT2.out]at hv11;obtain⟨a11,n11,c11,rfl,-⟩:=_root_.id hv11;obtain⟨nl,hnl⟩:=jl nmb.length;rw[<-hnl]at hnm32⊢;obtain⟨W11,hW11⟩:=jl (w11.alloc (.cells #[.slice a11 n11 c11,.int .i64 t2.2] 178));have hB11b:Below w11.heap.size w11 W11:=by rw[hW11];exact(Below.refl _ w11).alloc jn _
      have hbs11:=(HBS10.out.later hB11).later hB11b
      have HNB:Hid (Calls Tryz.prog 100 #[.agg #[.slice a11 n11 c11,.int .i64 t2.2],.int .u64 4294967295] W11 λe w'=>∃v',e=.returned (.tuple #[.int .u64 (id:Int),v'])/\RV w3.heap.size w' t3 v'/\Below W11.heap.size W11 w'):=jq (by
       have:=rnum_any _ t2 4294967295 W11 (hv11.later hB11b) (by decide) HLT2.out;rw[<-HID.out,<-HT3.out]at this;exact this)
      have HL11:=jq (hL11.later hB11b);have HBS11:=jq hbs11;have HNLN:=jq hnl;have HW11:=jq hW11;clear hL11 hv11 hB11 hB11b hbs11 hnl HBY HBS10 hW11
      go_wp2_with fail
      rw[<-HW11.out];refine HNB.out.mono ?_;rintro e w12 ⟨v12,rfl,hv12,hB12⟩;obtain⟨a12,n12,c12,rfl,-⟩:=_root_.id hv12;obtain⟨W12,hW12⟩:=jl (w12.alloc (.cells #[.slice a12 n12 c12,.int .i64 t3.2] 178));have hB12b:Below w12.heap.size w12 W12:=by rw[hW12];exact(Below.refl _ w12).alloc jn _
      have hbs12:=(HBS11.out.later hB12).later hB12b
      have HNC:Hid (Calls Tryz.prog 100 #[.agg #[.slice a12 n12 c12,.int .i64 t3.2],.int .u64 7340032] W12 λe w'=>∃v',e=.returned (.tuple #[.int .u64 (sz:Int),v'])/\RV w3.heap.size w' t4 v'/\Below W12.heap.size W12 w'):=jq (by
       have:=rnum_any _ t3 7340032 W12 (hv12.later hB12b) (by decide) HLT3.out;rw[<-HSZ.out,<-HT4.out]at this;exact this)
      have HL12:=jq ((HL11.out.later hB12).later hB12b);have HBS12:=jq hbs12;have HW12:=jq hW12;clear hv12 hB12 hB12b hbs12 HNB HBS11 hW12 HL11
      go_wp2_with fail
      rw[<-HW12.out];refine HNC.out.mono ?_;rintro e w13 ⟨v13,rfl,hv13,hB13⟩;obtain⟨a13,n13,c13,rfl,-⟩:=_root_.id hv13;obtain⟨W13,hW13⟩:=jl (w13.alloc (.cells #[.slice a13 n13 c13,.int .i64 t4.2] 178));have hB13b:Below w13.heap.size w13 W13:=by rw[hW13];exact(Below.refl _ w13).alloc jn _
      have hbs13:=(HBS12.out.later hB13).later hB13b;obtain⟨x13,y13,hb13⟩:=hbs13.rs.rd.two (Below.refl _ _);have f130:=hb13.cell 0;have f131:=hb13.cell 1
      simp at f130 f131
      have z130:=hb13.frozen 0;have z131:=hb13.frozen 1;have hbs14:=hbs13.put (hv13.later hB13b);obtain⟨W14,hW14⟩:=jl ((W13.setCell ⟨rd,0,none⟩ (.slice a13 n13 c13)).setCell ⟨rd,1,none⟩ (.int .i64 t4.2));rw[<-hW14]at hbs14;have g0:=hbs14.box.cell 0;have g1:=hbs14.box.cell 1;have g2:=hbs14.box.cell 2
      simp at g0 g1 g2
      have y0:=hbs14.box.frozen 0;have y1:=hbs14.box.frozen 1;have y2:=hbs14.box.frozen 2
      have hL14:Lies W14 va (nmb.map bv):=by
       rw[hW14];exact((HL12.out.later hB13).later hB13b).upon (upon_put rd _ _) (λk hk e=>HVRD.out k hk e)
      have hcv:=conv_b (vc:=vc) hL14;rw[<-HNLN.out]at hcv;obtain⟨sb,hsb⟩:∃sb:ByteArray,sv nmb=.string sb:=⟨_,rfl⟩;rw[hsb]at hcv;have hbs15:=hbs14.set (nm':=.string sb) (id':=0) (sz':=0) (bu':=.slice none 0 0) (acc':=[]) 0 (.string sb) (hbs14.box.set 0 _) hbs14.bl;have hbs16:=hbs15.set (nm':=.string sb) (id':=id) (sz':=0) (bu':=.slice none 0 0) (acc':=[]) 1 (.int .u32 (id:Int)) (hbs15.box.set 1 _) hbs15.bl;have hbs17:=hbs16.set (nm':=.string sb) (id':=id) (sz':=sz) (bu':=.slice none 0 0) (acc':=[]) 2 (.int .i64 (sz:Int)) (hbs16.box.set 2 _) hbs16.bl;obtain⟨W17,hW17⟩:=jl (((W14.setCell ⟨fb,0,none⟩ (.string sb)).setCell ⟨fb,1,none⟩ (.int .u32 (id:Int))).setCell ⟨fb,2,none⟩ (.int .i64 (sz:Int)));rw[<-hW17]at hbs17;have HBS17:=jq hbs17;have HSB:=jq hsb;have HW13:=jq hW13;have HW14:=jq hW14;have HW17:=jq hW17;rw[hW14,hW13]at g0 g1 g2 y0 y1 y2 hcv;rw[hW13]at f130 f131 z130 z131;clear hv13 hB13 hB13b hbs13 hb13 hbs14 hbs15 hbs16 hbs17 hsb hW13 hW14 hW17 hL14 HNC HBS12 HL12
      go_wp2_with fail
      have eW13:=HW13.out;have eW14:=HW14.out;have eW17:=HW17.out;rw[<-eW13,<-eW14,<-eW17];clear eW13 eW14 eW17 g0 g1 g2 y0 y1 y2 hcv f130 f131 z130 z131 HW9 HW10 HW11 HW12 HW13 HW14 HW17;obtain⟨mn,hmn⟩:=jl (Mani.many sz);have hmn2:mn<=70000:=by rw[hmn];unfold Mani.many;split <;> omega
      have HB0L:Hid (blocksS (mn-0) t4 []=BL):=jq (by rw[hmn];exact HBL.out.symm);have HMN:=jq hmn;clear hmn
      go_loopw[21] (λi wr2=>∃(j:Nat) (bu:Value) (acc:List Nat) (tt:St),i=.int .i64 (j:Int)/\j<=mn/\acc.length<=j/\Hid (BS w3 q rd ver next (.slice ua l.length uc) l fb (.string sb) id sz bu acc tt wr2)/\Hid (blocksS (mn-j) tt acc=BL)/\Hid (tt.1.length<=4000000)) (λi _=>mn-(intOf i).toNat)
      case atStart=>exact⟨0,_,[],t4,rfl,Nat.zero_le _,Nat.zero_le _,HBS17,HB0L,HLT4⟩
      case round=>
       obtain⟨j,bu,acc,tt,rfl,hj,haj,hBS,hBK,HTL⟩:=hrel;have g2:=hBS.out.box.cell 2
       simp at g2
       obtain⟨ta,tn,tc,htb,htv⟩:=hBS.out.rs.rd.rv;have e0:=htb.cell 0;have e1:=htb.cell 1
       simp at e0 e1
       have HMY:=jq (RefF.many08_any sz (Nat.le_trans hszm (by decide)) wr);rw[<-HMN.out]at HMY
       by_cases hlt2:j<mn
       ·have hjd:decide ((j:Int) <(mn:Int))=true:=jd (by omega)
        by_cases hz2:tt.2=0
        ·have hzb: (tt.2==0)=true:=by simpa using hz2
         obtain⟨ba2,bc2,rfl,hbc2,_,_,_⟩:=own_shape hBS.out.bl;obtain⟨vb,hvb⟩:=jl ((numS 65536 tt).1);obtain⟨t6,ht6⟩:=jl ((numS 65536 tt).2);have hvb2:vb<=65536:=by rw[hvb];exact(numS_le _ _).1
         have hwv:IntKind.i64.wrap (vb:Int)=(vb:Int):=by rw[IntKind.wrap_i64];omega
         have hbk2:blocksS (mn-(j+1)) t6 (acc++ [vb])=BL:=by
          have h1:=hBK.out;rw[show mn-j=(mn-(j+1))+1 by omega]at h1;unfold blocksS at h1;rw[if_pos hz2,<-hvb,<-ht6]at h1;exact h1
         have HT6L:Hid (t6.1.length<=4000000):=jq (by rw[ht6];exact Nat.le_trans (numS_le _ _).2.1 HTL.out)
         have HNV:Hid (Calls Tryz.prog 100 #[.agg #[.slice ta tn tc,.int .i64 tt.2],.int .u64 65536] wr λe w'=>∃v',e=.returned (.tuple #[.int .u64 (vb:Int),v'])/\RV w3.heap.size w' t6 v'/\Below wr.heap.size wr w'):=jq (by
          have:=rnum_any _ tt 65536 wr htv (by decide) HTL.out;rw[<-hvb,<-ht6]at this;exact this)
         have HBK2:=jq hbk2;clear hbk2 hvb ht6 hBK htb htv hz2 hbc2
         go_wp2_with (first|(go_at_call 102;refine HMY.out.mono ?_;rintro e wr ⟨rfl,rfl⟩;dsimp only))
         refine HNV.out.mono ?_;rintro e w16 ⟨v16,rfl,hv16,hB16⟩;obtain⟨a16,n16,c16,rfl,-⟩:=_root_.id hv16;have hbs15:=hBS.out.later hB16;obtain⟨x16,y16,hb16⟩:=hbs15.rs.rd.two (Below.refl _ _);have f160:=hb16.cell 0;have f161:=hb16.cell 1
         simp at f160 f161
         have z160:=hb16.frozen 0;have z161:=hb16.frozen 1;have hbs16:=hbs15.put hv16;obtain⟨W16,hW16⟩:=jl ((w16.setCell ⟨rd,0,none⟩ (.slice a16 n16 c16)).setCell ⟨rd,1,none⟩ (.int .i64 t6.2));rw[<-hW16]at hbs16;obtain⟨v17,w17,hr17,hrow17,hg17⟩:=append_int W16 51 _ acc hbs16.bl vb (by omega) (Nat.le_of_lt hbs16.box.lt);have hk2:W16.cell? ⟨fb,3,none⟩=some (.slice ba2 acc.length bc2):=hbs16.box.cell 3;have hu17:Upon (λy=>(Value.slice ba2 acc.length bc2).ownBlock=some y) W16 w17:=Upon.of_grown hg17 (λg hg=>.inl hg);have hbx17:=hbs16.box.upon hu17 (own_ne_blk hbs16.bl hbs16.box (by decide));have hk3:w17.cell? ⟨fb,3,none⟩=some (.slice ba2 acc.length bc2):=hbx17.cell 3;have hz17:=hbx17.frozen 3;unfold iv at hr17;obtain⟨a17,c17,rfl,_,_,_,_⟩:=own_shape hrow17;have hbs18:=hbs16.grow (acc':=acc++ [vb]) hg17 hrow17;obtain⟨l17,hl17⟩:=jl ((acc++ [vb]).length);rw[<-hl17]at hr17 hbs18;obtain⟨al,hal⟩:=jl acc.length;rw[<-hal]at hr17 hk2 hk3;have HBS18:=jq hbs18;rw[hW16]at hr17 hk2;have hsz16: ((w16.setCell ⟨rd,0,none⟩ (.slice a16 n16 c16)).setCell ⟨rd,1,none⟩ (.int .i64 t6.2)).heap.size=w16.heap.size:=by simp
         rw[hsz16]at hr17;have hj1:j+1<=mn:=by omega
         have hl18: (acc++ [vb]).length<=j+1:=by rw[jL,List.length_singleton];omega
         have HJ:=jq (And.intro hj1 hl18);clear hv16 hB16 hbs15 hb16 hbs16 hrow17 hg17 hu17 hbx17 hbs18 hl17 hal hW16 hBS hl18 hj1 hsz16
         go_wp2_with (first|(at_builtin;refine Lib.wpList_append_run _ rfl _ _ _ _ rfl _ _ rfl rfl _ _ hr17 ?_))
         exact⟨⟨j+1,_,acc++ [vb],t6,by simp,HJ.out.1,HJ.out.2,HBS18,HBK2,HT6L⟩,by simp[intOf];omega⟩
        ·have hzb: (tt.2==0)=false:=by simpa using hz2
         have hfin: (acc,tt)=BL:=by
          have h1:=hBK.out;obtain⟨d,hd⟩:∃d,mn-j=d+1:=⟨mn-j-1,by omega⟩;rw[hd]at h1;unfold blocksS at h1;rw[if_neg hz2]at h1;exact h1
         clear htb htv hz2;obtain⟨ba2,bc2,rfl,hbc2,_,_,_⟩:=own_shape hBS.out.bl;obtain⟨xf,hxf⟩:∃x:FR,x=⟨⟨nmb,id,sz,acc⟩,ba2,bc2⟩:=⟨_,rfl⟩;have hvs:xf.vs= [.string sb,.int .u32 (id:Int),.int .i64 (sz:Int),.slice ba2 acc.length bc2]:=by rw[hxf,<-HSB.out];rfl
         have hxn:xf.f=(fileS s).1:=by rw[HFILE.out,hxf,<-hfin]
         obtain⟨v18,w18,hr18,hrow18,hg18⟩:=append_file wr 32 (.slice ua l.length uc) l hBS.out.rs.row xf (by have:=HLL.out;omega) hBS.out.rs.below.size;obtain⟨a18,c18,rfl,_,_,_,_⟩:=own_shape hrow18
         have hrs18:=hBS.out.rs.rowed (l':=l++ [xf]) hg18 hrow18 (λy hy=>by
          rcases List.mem_append.1 hy with hy|hy
          ·exact .inl hy
          ·rw[jE.1 hy];refine .inr ?_;rw[hxf];exact own_mono hBS.out.bl hBS.out.gf)
         have hlen18: (l++ [xf]).length=ll+1:=by rw[jL,List.length_singleton,HLL.out]
         have hfs18:filesS (cnt-(l++ [xf]).length) tt ((l++ [xf]).map FR.f)=F:=by
          have h1:=hFS.out;rw[hlen18];rw[show cnt-ll=(cnt-(ll+1))+1 by omega]at h1;unfold filesS at h1;rw[if_pos HZS.out]at h1;have h2:tt=(fileS s).2:=by rw[HFILE.out,<-hfin]
          rw[List.map_append,List.map_singleton,hxn,h2];exact h1
         have hu18:Upon (λy=>(Value.slice ua l.length uc).ownBlock=some y) wr w18:=Upon.of_grown hg18 (λg hg=>.inl hg);have hm18:=hBS.out.rs.man.upon hu18 (own_ne_blk hBS.out.rs.row hBS.out.rs.man (by decide));have hmz:=hm18.frozen 2;have hmc:=hm18.cell 2;have b0:=hBS.out.box.cell 0;have b1:=hBS.out.box.cell 1;have b2:=hBS.out.box.cell 2;have b3:=hBS.out.box.cell 3;have mm2:=hBS.out.rs.man.cell 2
         simp at b0 b1 b2 b3 mm2 hmc
         rw[hvs]at hr18;have hmeas: (w18.setCell ⟨q,2,none⟩ (.slice a18 (l++ [xf]).length c18)).cell? ⟨q,2,none⟩=some (.slice a18 (l++ [xf]).length c18):=hrs18.man.cell 2;rw[hlen18]at hmeas hr18 hrs18;rw[<-HLL.out]at mm2 hmc hr18;have hLE2:lenAt (w18.setCell ⟨q,2,none⟩ (.slice a18 (ll+1) c18)) q=ll+1:=by unfold lenAt;rw[hmeas]
         have HLE2:=jq hLE2;have HRS18:=jq hrs18;have HFS18:=jq hfs18;have HL18:=jq hlen18;obtain⟨al,hal⟩:=jl acc.length;rw[<-hal]at hr18 b3;obtain⟨lm,hlm⟩:=jl (ll+1);rw[<-hlm]at hr18 HRS18 HLE2 HL18;have HLM:=jq hlm;clear hvs hxn hrow18 hg18 hrs18 hlen18 hfs18 hu18 hm18 hxf hfin hLE2 hmeas hal hlm hbc2
         go_wp2_with (first|(go_at_call 102;refine HMY.out.mono ?_;rintro e wr ⟨rfl,rfl⟩;dsimp only)|(at_builtin;refine Lib.wpList_append_run _ rfl _ _ _ _ rfl _ _ rfl rfl _ _ hr18 ?_))
         refine⟨⟨.slice a18 lm c18,l++ [xf],tt,by rw[HL18.out];have:=HLM.out;omega,HRS18,HFS18,HTL,a18,c18,by rw[HL18.out]⟩,?_⟩;rw[HLE2.out,HLEN.out];have:=HLM.out
         omega
       ·obtain rfl:mn=j:=by omega
        have hjd:decide ((mn:Int) <(mn:Int))=false:=jf (by omega)
        have hfin: (acc,tt)=BL:=by
         have h1:=hBK.out;rw[Nat.sub_self]at h1;exact h1
        clear htb htv;obtain⟨ba2,bc2,rfl,hbc2,_,_,_⟩:=own_shape hBS.out.bl;obtain⟨xf,hxf⟩:∃x:FR,x=⟨⟨nmb,id,sz,acc⟩,ba2,bc2⟩:=⟨_,rfl⟩;have hvs:xf.vs= [.string sb,.int .u32 (id:Int),.int .i64 (sz:Int),.slice ba2 acc.length bc2]:=by rw[hxf,<-HSB.out];rfl
        have hxn:xf.f=(fileS s).1:=by rw[HFILE.out,hxf,<-hfin]
        obtain⟨v18,w18,hr18,hrow18,hg18⟩:=append_file wr 32 (.slice ua l.length uc) l hBS.out.rs.row xf (by have:=HLL.out;omega) hBS.out.rs.below.size;obtain⟨a18,c18,rfl,_,_,_,_⟩:=own_shape hrow18
        have hrs18:=hBS.out.rs.rowed (l':=l++ [xf]) hg18 hrow18 (λy hy=>by
         rcases List.mem_append.1 hy with hy|hy
         ·exact .inl hy
         ·rw[jE.1 hy];refine .inr ?_;rw[hxf];exact own_mono hBS.out.bl hBS.out.gf)
        have hlen18: (l++ [xf]).length=ll+1:=by rw[jL,List.length_singleton,HLL.out]
        have hfs18:filesS (cnt-(l++ [xf]).length) tt ((l++ [xf]).map FR.f)=F:=by
         have h1:=hFS.out;rw[hlen18];rw[show cnt-ll=(cnt-(ll+1))+1 by omega]at h1;unfold filesS at h1;rw[if_pos HZS.out]at h1;have h2:tt=(fileS s).2:=by rw[HFILE.out,<-hfin]
         rw[List.map_append,List.map_singleton,hxn,h2];exact h1
        have hu18:Upon (λy=>(Value.slice ua l.length uc).ownBlock=some y) wr w18:=Upon.of_grown hg18 (λg hg=>.inl hg);have hm18:=hBS.out.rs.man.upon hu18 (own_ne_blk hBS.out.rs.row hBS.out.rs.man (by decide));have hmz:=hm18.frozen 2;have hmc:=hm18.cell 2;have b0:=hBS.out.box.cell 0;have b1:=hBS.out.box.cell 1;have b2:=hBS.out.box.cell 2;have b3:=hBS.out.box.cell 3;have mm2:=hBS.out.rs.man.cell 2
        simp at b0 b1 b2 b3 mm2 hmc
        rw[hvs]at hr18;have hmeas: (w18.setCell ⟨q,2,none⟩ (.slice a18 (l++ [xf]).length c18)).cell? ⟨q,2,none⟩=some (.slice a18 (l++ [xf]).length c18):=hrs18.man.cell 2;rw[hlen18]at hmeas hr18 hrs18;rw[<-HLL.out]at mm2 hmc hr18;have hLE2:lenAt (w18.setCell ⟨q,2,none⟩ (.slice a18 (ll+1) c18)) q=ll+1:=by unfold lenAt;rw[hmeas]
        have HLE2:=jq hLE2;have HRS18:=jq hrs18;have HFS18:=jq hfs18;have HL18:=jq hlen18;obtain⟨al,hal⟩:=jl acc.length;rw[<-hal]at hr18 b3;obtain⟨lm,hlm⟩:=jl (ll+1);rw[<-hlm]at hr18 HRS18 HLE2 HL18;have HLM:=jq hlm;clear hvs hxn hrow18 hg18 hrs18 hlen18 hfs18 hu18 hm18 hxf hfin hLE2 hmeas hal hlm hbc2
        go_wp2_with (first|(go_at_call 102;refine HMY.out.mono ?_;rintro e wr ⟨rfl,rfl⟩;dsimp only)|(at_builtin;refine Lib.wpList_append_run _ rfl _ _ _ _ rfl _ _ rfl rfl _ _ hr18 ?_))
        refine⟨⟨.slice a18 lm c18,l++ [xf],tt,by rw[HL18.out];have:=HLM.out;omega,HRS18,HFS18,HTL,a18,c18,by rw[HL18.out]⟩,?_⟩;rw[HLE2.out,HLEN.out];have:=HLM.out
        omega
     ·have hd:decide ((ll:Int) <(cnt:Int))=false:=jf (by omega);have hz1': (s.2==0)=true:=by simpa using hz
      have hfin: (l.map FR.f,s)=F:=by
       have h1:=hFS.out;rw[show cnt-ll=0 by omega]at h1;exact h1
      clear hz;have hME:readS body=⟨ver,next,l.map FR.f,endE s.1 s.2⟩:=by rw[HMM.out,<-hfin]
      obtain⟨er,her⟩:=jl (endE s.1 s.2);have hen:=rend_any (.agg #[.slice ra rn rc,.int .i64 s.2]) s wr hrv;rw[<-her]at hen hME;have hge: (got bs).2.2.2=0:=by rw[<-HGE.out];exact HZ.out
      have hkd: (got bs).1=77:=by
       have h1:=HK.out;rw[HKD.out]at h1;exact UInt8.toNat_inj.1 h1
      have hgs: (getS bs).isSome=true->er=0/\mayB ver next (l.map FR.f)=true:=λh=>by
       have h1:=getS_good h;rw[<-HBODY.out,hME]at h1;exact h1
      have hrl:=readS_le body;rw[hME]at hrl;obtain⟨g1,g2,g3,g4,g5⟩:=hrl;dsimp only at g1 g2 g3 g4 g5;have hbl: (bodyL ver next (l.map FR.f)).length<=900000:=body_got g1 g2 g3 g4 (by have:=HBD.out;have:=HM.out;omega)
      have hmy:∀V:World,FilesIn V ua l->Calls Tryz.prog 104 #[.agg #[.int .u64 (ver:Int),.int .u32 (next:Int),.slice ua ll uc]] V λe w'=>∃r:Bool,e=.returned (.bool r)/\(mayB ver next (l.map FR.f)=true↔r=true)/\Below V.heap.size V w':=λV hV=>by
       have hmem:∀x∈l,x.f∈l.map FR.f:=λx hx=>List.mem_map.2 ⟨x,hx,rfl⟩
       have h4:l.length<=2048:=by rw[jP]at g4;exact g4
       have:=RefF.may09_all ver next ua uc l V hV (λx hx=>⟨by have:=(g3 _ (hmem x hx)).id;omega,by have:=(g3 _ (hmem x hx)).size;omega,λi hi=>by have:=(g3 _ (hmem x hx)).blocks i hi;omega⟩) (λx hx=>by have:=(g3 _ (hmem x hx)).name;omega) (by omega) (λx hx=>⟨by have:=bks_le (hmem x hx);have:=HBD.out;have:=HM.out;omega,by have:=(g3 _ (hmem x hx)).size;omega⟩) (by omega) (by omega) hbl;rw[<-HLL.out]at this;exact this
      have HEN:=jq hen;have HGS:=jq hgs;have HMY:=jq hmy
      have HOK:Hid (er=0->(got bs).2.2.2=0/\(got bs).1=77/\(readS (got bs).2.1).err=0/\ver=(readS (got bs).2.1).ver/\next=(readS (got bs).2.1).next/\l.map FR.f=(readS (got bs).2.1).fs):=jq (λh0=>by
       rw[<-HBODY.out,hME];exact⟨hge,hkd,h0,rfl,rfl,rfl⟩)
      clear hen hME her hrv hrb hfin hge hkd hgs g1 g2 g3 g4 g5 hbl hmy hll
      go_wp2_with fail
      refine HEN.out.mono ?_;rintro e w20 ⟨rfl,hB20⟩;have hrs20:=hRS.out.later hB20;clear hB20
      by_cases he:er=0
      ·have he1: (er==0)=true:=by simpa using he
       have he2: (er !=0)=false:=by simpa using he
       have m0:=hrs20.man.cell 0;have m1:=hrs20.man.cell 1;have mm2:=hrs20.man.cell 2
       simp at m0 m1 mm2
       rw[<-HLL.out]at mm2
       have hfl:FilesIn w20 ua l:=by
        obtain⟨a',c',e',h1,_⟩:=hrs20.files;cases e';exact h1
       have HC:=jq (HMY.out w20 hfl);have HE0:=jq he;have HRS20:=jq hrs20;clear he hfl hrs20
       go_wp2_with fail
       refine HC.out.mono ?_;rintro e w21 ⟨r,rfl,hr,hB21⟩;have hrs21:=HRS20.out.later hB21;clear hB21;have hnk21:=HNK3.out.below hrs21.below HNK3.out.lt;have hrk21:=HRK3.out.below hrs21.below HRK3.out.lt;have HBW21:=jq (HB3.out.trans (hrs21.below.mono HB3.out.size));have HR:=jq hr;cases r
       ·clear hr hrs21 m0 m1 mm2;have hx0:=hnk21.cell 0;have hx1:=hnk21.cell 1;have hx2:=hnk21.cell 2;have hr0:=hrk21.cell 0;have hr1:=hrk21.cell 1;have hr2:=hrk21.cell 2;have hz0:=hrk21.frozen 0;have hzz1:=hrk21.frozen 1;have hzz2:=hrk21.frozen 2
        simp at hx0 hx1 hx2 hr0 hr1 hr2
        have q':=man_set hrk21 (.int .u64 0) (.int .u32 0) (.slice none 0 0);have q0:=q'.cell 0;have q1:=q'.cell 1;have q2:=q'.cell 2
        simp at q0 q1 q2
        have HE:=jq (HNO.out w21 HBW21.out hrk21);clear hrk21 hnk21 q'
        go_wp2_with fail
        refine bodyPost_ret (v:=.tuple #[.agg #[.int .u64 0,.int .u32 0,.slice none 0 0],.bool false]) (by simp[results,Tryz.results67,go_sem,q0,q1,q2]) rfl (Get9.no HE.out ?_);exact λh=>by have:=HR.out.1 (HGS.out h).2;cases this
       ·have y0:=hrs21.man.cell 0;have y1:=hrs21.man.cell 1;have y2:=hrs21.man.cell 2
        simp at y0 y1 y2
        rw[<-HLL.out]at y2;have hr0:=hrk21.cell 0;have hr1:=hrk21.cell 1;have hr2:=hrk21.cell 2;have hz0:=hrk21.frozen 0;have hzz1:=hrk21.frozen 1;have hzz2:=hrk21.frozen 2
        simp at hr0 hr1 hr2
        have q':=man_set hrk21 (.int .u64 (ver:Int)) (.int .u32 (next:Int)) (.slice ua ll uc);have q0:=q'.cell 0;have q1:=q'.cell 1;have q2:=q'.cell 2
        simp at q0 q1 q2
        have hEB:Below w.heap.size w (((w21.setCell ⟨rb,0,none⟩ (.int .u64 (ver:Int))).setCell ⟨rb,1,none⟩ (.int .u32 (next:Int))).setCell ⟨rb,2,none⟩ (.slice ua ll uc)):=((HBW21.out.setCell HRW.out _).setCell HRW.out _).setCell HRW.out _;have hFE:FilesIn (((w21.setCell ⟨rb,0,none⟩ (.int .u64 (ver:Int))).setCell ⟨rb,1,none⟩ (.int .u32 (next:Int))).setCell ⟨rb,2,none⟩ (.slice ua ll uc)) ua l:=⟨(lies_res hrs21.row HRK3.out.lt _ _ _).1,λx hx=>lies_res (hrs21.blocks x hx) HRK3.out.lt _ _ _⟩;have HEB:=jq hEB
        have HFB:Hid ((∀b,Mem.blk ua=some b->w.heap.size<=b)/\∀x∈l,∀b,Mem.blk x.a=some b->w.heap.size<=b):=jq (by
         obtain⟨a',c',e',-,h2,h3⟩:=hrs21.files;cases e';exact⟨λb hb=>Nat.le_trans HB3.out.size (h2 b hb).1,λx hx b hb=>Nat.le_trans HB3.out.size (h3 x hx b hb).1⟩)
        have HFE:=jq hFE;clear hr hrs21 m0 m1 mm2 hnk21 hrk21 q' hEB hFE
        go_wp2_with fail
        refine bodyPost_ret (v:=.tuple #[.agg #[.int .u64 (ver:Int),.int .u32 (next:Int),.slice ua ll uc],.bool true]) (by simp[results,Tryz.results67,go_sem,q0,q1,q2]) rfl ?_;refine⟨HEB.out,true,ua,uc,ver,next,l,by rw[<-HLL.out],HFE.out,HFB.out.1,HFB.out.2,λ_=>HOK.out HE0.out,⟨λ_=>?_,λ_=>rfl⟩⟩;obtain⟨z1,z2,z3,z4,z5,z6⟩:=HOK.out HE0.out;have z7:=HR.out.2 (by trivial);rw[z4,z5,z6]at z7;exact getS_is z1 z2 z3 z7
      ·have he1: (er==0)=false:=by simpa using he
       have he2: (er !=0)=true:=by simpa using he
       have HE0:=jq he;have hnk20:=HNK3.out.below hrs20.below HNK3.out.lt;have hrk20:=HRK3.out.below hrs20.below HRK3.out.lt;have HBW20:=jq (HB3.out.trans (hrs20.below.mono HB3.out.size));clear hrs20 he;have hx0:=hnk20.cell 0;have hx1:=hnk20.cell 1;have hx2:=hnk20.cell 2;have hr0:=hrk20.cell 0;have hr1:=hrk20.cell 1;have hr2:=hrk20.cell 2;have hz0:=hrk20.frozen 0;have hzz1:=hrk20.frozen 1;have hzz2:=hrk20.frozen 2
       simp at hx0 hx1 hx2 hr0 hr1 hr2
       have q':=man_set hrk20 (.int .u64 0) (.int .u32 0) (.slice none 0 0);have q0:=q'.cell 0;have q1:=q'.cell 1;have q2:=q'.cell 2
       simp at q0 q1 q2
       have HE:=jq (HNO.out w20 HBW20.out hrk20);clear hrk20 hnk20 q'
       go_wp2_with fail
       refine bodyPost_ret (v:=.tuple #[.agg #[.int .u64 0,.int .u32 0,.slice none 0 0],.bool false]) (by simp[results,Tryz.results67,go_sem,q0,q1,q2]) rfl (Get9.no HE.out ?_);exact λh=>HE0.out (HGS.out h).1
    ·have hz1': (s.2==0)=false:=by simpa using hz
     have hfin: (l.map FR.f,s)=F:=by
      have h1:=hFS.out
      cases hk:cnt-ll with
      |zero=>rw[hk]at h1;exact h1
      |succ d=>
       rw[hk]at h1;unfold filesS at h1;rw[if_neg hz]at h1;exact h1
     clear hz;have hME:readS body=⟨ver,next,l.map FR.f,endE s.1 s.2⟩:=by rw[HMM.out,<-hfin]
     obtain⟨er,her⟩:=jl (endE s.1 s.2);have hen:=rend_any (.agg #[.slice ra rn rc,.int .i64 s.2]) s wr hrv;rw[<-her]at hen hME;have hge: (got bs).2.2.2=0:=by rw[<-HGE.out];exact HZ.out
     have hkd: (got bs).1=77:=by
      have h1:=HK.out;rw[HKD.out]at h1;exact UInt8.toNat_inj.1 h1
     have hgs: (getS bs).isSome=true->er=0/\mayB ver next (l.map FR.f)=true:=λh=>by
      have h1:=getS_good h;rw[<-HBODY.out,hME]at h1;exact h1
     have hrl:=readS_le body;rw[hME]at hrl;obtain⟨g1,g2,g3,g4,g5⟩:=hrl;dsimp only at g1 g2 g3 g4 g5;have hbl: (bodyL ver next (l.map FR.f)).length<=900000:=body_got g1 g2 g3 g4 (by have:=HBD.out;have:=HM.out;omega)
     have hmy:∀V:World,FilesIn V ua l->Calls Tryz.prog 104 #[.agg #[.int .u64 (ver:Int),.int .u32 (next:Int),.slice ua ll uc]] V λe w'=>∃r:Bool,e=.returned (.bool r)/\(mayB ver next (l.map FR.f)=true↔r=true)/\Below V.heap.size V w':=λV hV=>by
      have hmem:∀x∈l,x.f∈l.map FR.f:=λx hx=>List.mem_map.2 ⟨x,hx,rfl⟩
      have h4:l.length<=2048:=by rw[jP]at g4;exact g4
      have:=RefF.may09_all ver next ua uc l V hV (λx hx=>⟨by have:=(g3 _ (hmem x hx)).id;omega,by have:=(g3 _ (hmem x hx)).size;omega,λi hi=>by have:=(g3 _ (hmem x hx)).blocks i hi;omega⟩) (λx hx=>by have:=(g3 _ (hmem x hx)).name;omega) (by omega) (λx hx=>⟨by have:=bks_le (hmem x hx);have:=HBD.out;have:=HM.out;omega,by have:=(g3 _ (hmem x hx)).size;omega⟩) (by omega) (by omega) hbl;rw[<-HLL.out]at this;exact this
     have HEN:=jq hen;have HGS:=jq hgs;have HMY:=jq hmy
     have HOK:Hid (er=0->(got bs).2.2.2=0/\(got bs).1=77/\(readS (got bs).2.1).err=0/\ver=(readS (got bs).2.1).ver/\next=(readS (got bs).2.1).next/\l.map FR.f=(readS (got bs).2.1).fs):=jq (λh0=>by
      rw[<-HBODY.out,hME];exact⟨hge,hkd,h0,rfl,rfl,rfl⟩)
     clear hen hME her hrv hrb hfin hge hkd hgs g1 g2 g3 g4 g5 hbl hmy hll
     go_wp2_with fail
     refine HEN.out.mono ?_;rintro e w20 ⟨rfl,hB20⟩;have hrs20:=hRS.out.later hB20;clear hB20
     by_cases he:er=0
     ·have he1: (er==0)=true:=by simpa using he
      have he2: (er !=0)=false:=by simpa using he
      have m0:=hrs20.man.cell 0;have m1:=hrs20.man.cell 1;have mm2:=hrs20.man.cell 2
      simp at m0 m1 mm2
      rw[<-HLL.out]at mm2
      have hfl:FilesIn w20 ua l:=by
       obtain⟨a',c',e',h1,_⟩:=hrs20.files;cases e';exact h1
      have HC:=jq (HMY.out w20 hfl);have HE0:=jq he;have HRS20:=jq hrs20;clear he hfl hrs20
      go_wp2_with fail
      refine HC.out.mono ?_;rintro e w21 ⟨r,rfl,hr,hB21⟩;have hrs21:=HRS20.out.later hB21;clear hB21;have hnk21:=HNK3.out.below hrs21.below HNK3.out.lt;have hrk21:=HRK3.out.below hrs21.below HRK3.out.lt;have HBW21:=jq (HB3.out.trans (hrs21.below.mono HB3.out.size));have HR:=jq hr;cases r
      ·clear hr hrs21 m0 m1 mm2;have hx0:=hnk21.cell 0;have hx1:=hnk21.cell 1;have hx2:=hnk21.cell 2;have hr0:=hrk21.cell 0;have hr1:=hrk21.cell 1;have hr2:=hrk21.cell 2;have hz0:=hrk21.frozen 0;have hzz1:=hrk21.frozen 1;have hzz2:=hrk21.frozen 2
       simp at hx0 hx1 hx2 hr0 hr1 hr2
       have q':=man_set hrk21 (.int .u64 0) (.int .u32 0) (.slice none 0 0);have q0:=q'.cell 0;have q1:=q'.cell 1;have q2:=q'.cell 2
       simp at q0 q1 q2
       have HE:=jq (HNO.out w21 HBW21.out hrk21);clear hrk21 hnk21 q'
       go_wp2_with fail
       refine bodyPost_ret (v:=.tuple #[.agg #[.int .u64 0,.int .u32 0,.slice none 0 0],.bool false]) (by simp[results,Tryz.results67,go_sem,q0,q1,q2]) rfl (Get9.no HE.out ?_);exact λh=>by have:=HR.out.1 (HGS.out h).2;cases this
      ·have y0:=hrs21.man.cell 0;have y1:=hrs21.man.cell 1;have y2:=hrs21.man.cell 2
       simp at y0 y1 y2
       rw[<-HLL.out]at y2;have hr0:=hrk21.cell 0;have hr1:=hrk21.cell 1;have hr2:=hrk21.cell 2;have hz0:=hrk21.frozen 0;have hzz1:=hrk21.frozen 1;have hzz2:=hrk21.frozen 2
       simp at hr0 hr1 hr2
       have q':=man_set hrk21 (.int .u64 (ver:Int)) (.int .u32 (next:Int)) (.slice ua ll uc);have q0:=q'.cell 0;have q1:=q'.cell 1;have q2:=q'.cell 2
       simp at q0 q1 q2
       have hEB:Below w.heap.size w (((w21.setCell ⟨rb,0,none⟩ (.int .u64 (ver:Int))).setCell ⟨rb,1,none⟩ (.int .u32 (next:Int))).setCell ⟨rb,2,none⟩ (.slice ua ll uc)):=((HBW21.out.setCell HRW.out _).setCell HRW.out _).setCell HRW.out _;have hFE:FilesIn (((w21.setCell ⟨rb,0,none⟩ (.int .u64 (ver:Int))).setCell ⟨rb,1,none⟩ (.int .u32 (next:Int))).setCell ⟨rb,2,none⟩ (.slice ua ll uc)) ua l:=⟨(lies_res hrs21.row HRK3.out.lt _ _ _).1,λx hx=>lies_res (hrs21.blocks x hx) HRK3.out.lt _ _ _⟩;have HEB:=jq hEB
       have HFB:Hid ((∀b,Mem.blk ua=some b->w.heap.size<=b)/\∀x∈l,∀b,Mem.blk x.a=some b->w.heap.size<=b):=jq (by
        obtain⟨a',c',e',-,h2,h3⟩:=hrs21.files;cases e';exact⟨λb hb=>Nat.le_trans HB3.out.size (h2 b hb).1,λx hx b hb=>Nat.le_trans HB3.out.size (h3 x hx b hb).1⟩)
       have HFE:=jq hFE;clear hr hrs21 m0 m1 mm2 hnk21 hrk21 q' hEB hFE
       go_wp2_with fail
       refine bodyPost_ret (v:=.tuple #[.agg #[.int .u64 (ver:Int),.int .u32 (next:Int),.slice ua ll uc],.bool true]) (by simp[results,Tryz.results67,go_sem,q0,q1,q2]) rfl ?_;refine⟨HEB.out,true,ua,uc,ver,next,l,by rw[<-HLL.out],HFE.out,HFB.out.1,HFB.out.2,λ_=>HOK.out HE0.out,⟨λ_=>?_,λ_=>rfl⟩⟩;obtain⟨z1,z2,z3,z4,z5,z6⟩:=HOK.out HE0.out;have z7:=HR.out.2 (by trivial);rw[z4,z5,z6]at z7;exact getS_is z1 z2 z3 z7
     ·have he1: (er==0)=false:=by simpa using he
      have he2: (er !=0)=true:=by simpa using he
      have HE0:=jq he;have hnk20:=HNK3.out.below hrs20.below HNK3.out.lt;have hrk20:=HRK3.out.below hrs20.below HRK3.out.lt;have HBW20:=jq (HB3.out.trans (hrs20.below.mono HB3.out.size));clear hrs20 he;have hx0:=hnk20.cell 0;have hx1:=hnk20.cell 1;have hx2:=hnk20.cell 2;have hr0:=hrk20.cell 0;have hr1:=hrk20.cell 1;have hr2:=hrk20.cell 2;have hz0:=hrk20.frozen 0;have hzz1:=hrk20.frozen 1;have hzz2:=hrk20.frozen 2
      simp at hx0 hx1 hx2 hr0 hr1 hr2
      have q':=man_set hrk20 (.int .u64 0) (.int .u32 0) (.slice none 0 0);have q0:=q'.cell 0;have q1:=q'.cell 1;have q2:=q'.cell 2
      simp at q0 q1 q2
      have HE:=jq (HNO.out w20 HBW20.out hrk20);clear hrk20 hnk20 q'
      go_wp2_with fail
      refine bodyPost_ret (v:=.tuple #[.agg #[.int .u64 0,.int .u32 0,.slice none 0 0],.bool false]) (by simp[results,Tryz.results67,go_sem,q0,q1,q2]) rfl (Get9.no HE.out ?_);exact λh=>HE0.out (HGS.out h).1
  ·have hz1: (ge==0)=true:=by simpa using hz
   have hz2: (ge !=0)=false:=by simpa using hz
   have hk1: ((kd:Int)==77)=false:=by simp;omega
   have hk2: ((kd:Int) !=77)=true:=by simp;omega
   have HK:=jq hk;clear hk;have x0:=hnk3.cell 0;have x1:=hnk3.cell 1;have x2:=hnk3.cell 2;have r0:=hrk3.cell 0;have r1:=hrk3.cell 1;have r2:=hrk3.cell 2;have z0:=hrk3.frozen 0;have z1:=hrk3.frozen 1;have z2:=hrk3.frozen 2
   simp at x0 x1 x2 r0 r1 r2
   have q:=man_set hrk3 (.int .u64 0) (.int .u32 0) (.slice none 0 0);have q0:=q.cell 0;have q1:=q.cell 1;have q2:=q.cell 2
   simp at q0 q1 q2
   have HE:=jq (HNO.out w3 HB3.out hrk3);rw[hw3]at x0 x1 x2 r0 r1 r2 z0 z1 z2;clear hrk3 hnk3 hw3 hz q
   go_wp2_with fail
   have e3:=HW3.out;rw[<-e3];clear e3;refine bodyPost_ret (v:=.tuple #[.agg #[.int .u64 0,.int .u32 0,.slice none 0 0],.bool false]) (by simp[results,Tryz.results67,go_sem,q0,q1,q2]) rfl (Get9.no HE.out (getS_bad ?_));exact λh=>HK.out (by rw[HKD.out,h.2];rfl)
 ·have hz1: (ge==0)=false:=by simpa using hz
  have hz2: (ge !=0)=true:=by simpa using hz
  have HZ:=jq hz;have x0:=hnk3.cell 0;have x1:=hnk3.cell 1;have x2:=hnk3.cell 2;have r0:=hrk3.cell 0;have r1:=hrk3.cell 1;have r2:=hrk3.cell 2;have z0:=hrk3.frozen 0;have z1:=hrk3.frozen 1;have z2:=hrk3.frozen 2
  simp at x0 x1 x2 r0 r1 r2
  have q:=man_set hrk3 (.int .u64 0) (.int .u32 0) (.slice none 0 0);have q0:=q.cell 0;have q1:=q.cell 1;have q2:=q.cell 2
  simp at q0 q1 q2
  have HE:=jq (HNO.out w3 HB3.out hrk3);rw[hw3]at x0 x1 x2 r0 r1 r2 z0 z1 z2;clear hrk3 hnk3 hw3 hz q
  go_wp2_with fail
  have e3:=HW3.out;rw[<-e3];clear e3;refine bodyPost_ret (v:=.tuple #[.agg #[.int .u64 0,.int .u32 0,.slice none 0 0],.bool false]) (by simp[results,Tryz.results67,go_sem,q0,q1,q2]) rfl (Get9.no HE.out (getS_bad ?_));exact λh=>HZ.out (by rw[HGE.out,h.1])
end RefD
namespace Full
open Go.RowKit Go.Deep Mem Crc Go.Maps Dk Mani RefF
open Store (Chg none' nv Files setC setC_same setC_other)
open Ext (Tab)
theorem infoStr: (Tryz.prog.info? 9).map (λi=>(i.zero,i.size,i.bytes))=some (some (.string .empty),1,16):=by kernel_rfl
theorem append_nv {base:Nat} (w:World) (ty:TypeId) (v:Value) (l:List (List UInt8)) (h:w.ownsRow base 9 1 v l.length (l.map nv)) (nm:List UInt8) (hm:l.length<=1000000) (hb:base<=w.heap.size):
  ∃v' w',(Builtin.append_ #[36,36] ty #[v,.slice (some ⟨w.heap.size,0,none⟩) 1 1]).run Tryz.prog (w.alloc (.cells #[nv nm] 9))=.ok v' w'/\w'.ownsRow base 9 1 v' (l++ [nm]).length ((l++ [nm]).map nv)/\w.grownBy w' v.ownBlock/\∀k,v'.ownBlock=some k->v.ownBlock=some k\/w.heap.size<=k:=by
 obtain⟨i,hi,hz,h1,h2⟩:=info_parts infoStr;have hB:Below w.heap.size w (w.alloc (.cells #[nv nm] 9)):=(Below.refl _ w).alloc jn _
 obtain⟨v',w',hr,ho,hg,_,hat⟩:=run_append_own_at (P:=Tryz.prog) (w.alloc (.cells #[nv nm] 9)) base 36 ty 9 i (.string .empty) 1 16 Tryz.underlying36 hi hz h1 h2 rfl (by decide) v l.length (l.map nv) (own_later h hB) ⟨w.heap.size,0,none⟩ 1 1 [nv nm] rfl (λj u hu=>by
  have:=lies_add (new_lies w 9 #[nv nm]) j u (by simpa using hu);exact this) (λu hu=>by
  rw[jE.1 hu]
  rfl) (by unfold maxLen;omega) (by omega) (Nat.le_trans hb hB.size)
 refine⟨v',w',hr,?_,grown_later hB hg,λk hk=>?_⟩
 ·rw[jL,List.map_append];exact ho
 ·rcases hat with e|e
  ·exact .inl (by rw[<-e];exact hk)
  ·rw[e]at hk;have: (w.alloc (.cells #[nv nm] 9)).heap.size=k:=by simpa using hk
   have:=hB.size;exact .inr (by omega)
theorem nv_append {x y:List UInt8} {sx sy:ByteArray} (hx:nv x=.string sx) (hy:nv y=.string sy):nv (x++y)=.string (sx++sy):=by
 unfold Store.nv at hx hy⊢;injection hx with hx;injection hy with hy;subst hx hy
 congr 1
theorem add_str (t:TypeId) (a b:ByteArray) (h: (a.size:Int)+(b.size:Int)<=9223372036854775807):binOp .add t (.string a) (.string b)=pure (.string (a++b)):=by
 simp[binOp,Op.stringOp]
 intro h2
 omega
theorem foldP_len2 (nm b:List UInt8) (l:List FF): (foldP nm b l).1.length+(if(foldP nm b l).2 then 0 else 1)<=l.length+1:=by
 have h:∀(l:List FF) (s:List FF×Bool),(l.foldl (stepP nm b) s).1.length+(if(l.foldl (stepP nm b) s).2 then 0 else 1)<=s.1.length+(if s.2 then 0 else 1)+l.length:=by
  intro l
  induction l with
  |nil=>intro s;exact Nat.le_refl _
  |cons x r ih=>
   intro s;have h1:=ih (stepP nm b s x)
   have h2: (stepP nm b s x).1.length+(if(stepP nm b s x).2 then 0 else 1)<=s.1.length+(if s.2 then 0 else 1)+1:=by
    unfold stepP
    split
    ·omega
    ·split
     ·rename_i h3 h4
      rw[h4.1]
      simp
     ·dsimp only;rw[jL,List.length_singleton]
      omega
   rw[List.foldl_cons,List.length_cons]
   omega
 have:=h l ([],false)
 simp at this
 unfold foldP
 omega
theorem putP_len (l:List FF) (nm b:List UInt8): (putP l nm b).length<=l.length+1:=by
 have hh:=foldP_len2 nm b l;unfold RefF.putP
 split
 ·omega
 ·rename_i hd
  rw[if_neg hd]at hh;rw[jL,List.length_singleton]
  omega
theorem putP_mem {l:List FF} {F:Files} (h:IsRow l F) (nm b:List UInt8):∀x∈putP l nm b,x=(nm,b)\/x∈l:=by
 intro x hx;have h2:=(h.put nm b).mem x.1 x.2;have:=h2.1 hx
 by_cases e:x.1=nm
 ·rw[if_pos e]at this;exact .inl (Prod.ext e (Option.some.inj this).symm)
 ·rw[if_neg e]at this;exact .inr ((h.mem x.1 x.2).2 this)
variable {Z:Prop} {B p cnt i:Nat} {w w':World} {S:PD}
theorem Play.wasle (h:Play Z B p cnt i w S) (nm:List UInt8): (ansF (nowF S.C S.H nm)).1.length<=1000*i:=by
 cases hn:nowF S.C S.H nm with
 |none=>exact Nat.zero_le _
 |some b=>exact(h.each (nm,b) ((h.rowN.mem nm b).2 hn)).2
theorem Play.wrote (h:Play Z B p cnt i w S) {w2 w3 w4 w5 w6 w7 w8:World} (nm bnew:List UInt8) (h1:1<=nm.length) (h2:nm.length<=32) (hbn:bnew.length<=1000*(i+1)) (hB2:Below w.heap.size w w2) {Q3:Nat->Prop}
  (hon:On B S.s S.d S.g S.cm w3 Q3 S.m S.ver S.next S.fs (setC S.C nm (some (some bnew))) S.H (i+1)) (hq3:∀k,Q3 k->S.Q k\/w2.heap.size<=k) (hu3:Upon S.Q w2 w3)
  {ap:Option Addr} {cp:Nat} (hput:w4.ownsRow w3.heap.size 69 2 (.slice ap (putP S.L nm bnew).length cp) (putP S.L nm bnew).length (flatP (putP S.L nm bnew))) (hB4:Below w3.heap.size w3 w4)
  (h5:w5=w4.setCell ⟨p,6,none⟩ (.slice ap (putP S.L nm bnew).length cp)) {v':Value} (hrow:w6.ownsRow B 9 1 v' (S.ch++ [nm]).length ((S.ch++ [nm]).map nv)) (hg:w5.grownBy w6 S.vc.ownBlock) (hat:∀k,v'.ownBlock=some k->S.vc.ownBlock=some k\/w5.heap.size<=k)
  (h7:w7=w6.setCell ⟨p,7,none⟩ v') (h8:w8=w7.setCell ⟨p,8,none⟩ (.bool true)):
  Step Z B p cnt (i+1) S w w8:=by
 have hlt3:=hon.lt;have hz2:=hB2.size;have hz3:=hu3.size;have hz4:=hB4.size;have hz5:w5.heap.size=w4.heap.size:=by rw[h5];simp[World.setCell]
 have hz6:=hg.size;have hpl:=h.blk.lt;have hlow:=h.on.low;have hpb3:=(h.blk.below hB2 hpl).upon hu3 h.pq;have hpb4:=hpb3.below hB4 hpb3.lt;have hpb5:=hpb4.set 6 (.slice ap (putP S.L nm bnew).length cp);rw[<-h5]at hpb5;have hpb6:=hpb5.grown hg (λe=>h.pv e.symm);have hpb8:=(hpb6.set 7 v').set 8 (.bool true);rw[<-h7,<-h8]at hpb8;have hu45:Upon (λg=>g=p) w4 w5:=by rw[h5];exact(Upon.refl (λg=>g=p) w4).set (p:=⟨p,6,none⟩) (.inl rfl) _
 have hu56:Upon (λg=>S.vc.ownBlock=some g) w5 w6:=Upon.of_grown hg (λg hg=>.inl hg);have hu68:Upon (λg=>g=p) w6 w8:=by rw[h8,h7];exact((Upon.refl (λg=>g=p) w6).set (p:=⟨p,7,none⟩) (.inl rfl) _).set (p:=⟨p,8,none⟩) (.inl rfl) _
 have hu38:Upon (λg=>g=p\/S.vc.ownBlock=some g) w3 w8:=(((Upon.of_below (P:=λg=>g=p\/S.vc.ownBlock=some g) hB4).trans (hu45.mono (λk hk=>.inl hk)) (λk hk=>.inl hk)).trans (hu56.mono (λk hk=>.inr hk)) (λk hk=>.inl hk)).trans (hu68.mono (λk hk=>.inl hk)) (λk hk=>.inl hk);have hz38:=hu38.size;have hpq3:¬Q3 p:=λhk=>(hq3 p hk).elim h.pq (λh4=>by omega)
 have hvq3:∀k,S.vc.ownBlock=some k->¬Q3 k:=λk hk hk2=>(hq3 k hk2).elim (h.chq k hk) (λh4=>by have:=(h.own.lt k hk).2;omega)
 have hpos:=h.on.pos
 have hon8:=hon.keep hu38 (λk hk=>by
  rcases hk with rfl|hk
  ·exact⟨hpq3,by have:=h.pb;omega⟩
  ·exact⟨hvq3 k hk,by have:=(h.own.lt k hk).1;omega⟩)
 have hu8:Upon (S.D p) w w8:=((Upon.of_below (P:=S.D p) hB2).trans (hu3.mono (λk hk=>Or.inl hk)) (λk hk=>.inl hk)).trans (hu38.mono (λk hk=>by
  rcases hk with rfl|hk
  ·exact Or.inr (Or.inl rfl)
  ·exact Or.inr (Or.inr hk))) (λk hk=>.inl hk)
 have hb3:B<=w3.heap.size:=by omega
 obtain⟨a',c',e',hcap,hLp,hbp,_⟩:=own_shape hput;injection e' with e1 e2 e3;subst e1 e3
 have hnapart:∀k,Mem.blk ap=some k->k≠p/\S.vc.ownBlock≠some k:=λk hk=>by
  have:=hbp k hk;have:=hpb3.lt;refine⟨by omega,λe=>?_⟩;have:=(h.own.lt k e).2
  omega
 have hL8:Lies w8 ap (flatP (putP S.L nm bnew)):=((hLp.upon hu45 (λk hk=>(hnapart k hk).1)).upon hu56 (λk hk=>(hnapart k hk).2)).upon hu68 (λk hk=>(hnapart k hk).1)
 have hO8:w8.ownsRow B 9 1 v' (S.ch++ [nm]).length ((S.ch++ [nm]).map nv):=own_upon hrow hu68 (λg hg2 e=>by
  rcases hat g hg2 with h9|h9
  ·exact h.pv (by rw[<-e];exact h9)
  ·have:=hpb3.lt
   omega)
 have hvn:∀k,v'.ownBlock=some k->¬Q3 k:=λk hk=>(hat k hk).elim (hvq3 k) (λh9 h10=>by have:=hlt3 k h10;omega)
 have hll:=h.ll;have hchl:=h.chl;refine h.next (j:=i+1) (Q':=Q3) (C':=setC S.C nm (some (some bnew))) (L':=putP S.L nm bnew) (ch':=S.ch++ [nm]) (wt':=true) (an':=ap) (nc':=cp) (vc':=v') hu8 (Nat.le_succ i) hon8 (λk hk=>(hq3 k hk).imp id (λh4=>by omega)) hpb8 hvn (λk hk=>(hat k hk).imp id (λh9=>by omega)) hO8 hL8 (λk hk=>?_) (h.rowN.write nm bnew) ⟨λx hx=>?_,λx y hx=>?_⟩ ⟨λe=>(by cases e),λhx=>?_⟩ ?_ ?_ (λx hx=>?_) hcap (λk hk=>.inr (by have:=hbp k hk;omega))
 ·have h9:=hbp k hk;refine⟨λhD=>?_,by omega,?_⟩
  ·rcases hD with hD|hD|hD
   ·have:=hlt3 k hD;omega
   ·exact(hnapart k hk).1 hD
   ·rcases hat k hD with h10|h10
    ·exact(hnapart k hk).2 h10
    ·have:=hu45.size
     omega
  ·have:=hu45.size;have:=hu56.size;have:=hu68.size
   omega
 ·by_cases e:x=nm
  ·rw[e,setC_same]
   simp
  ·rw[setC_other _ e];rcases List.mem_append.1 hx with hx|hx
   ·exact h.chok.some_ x hx
   ·exact absurd (jE.1 hx) e
 ·by_cases e:x=nm
  ·rw[e]
   simp
  ·rw[setC_other _ e]at hx;exact List.mem_append_left _ (h.chok.all_ x y hx)
 ·have:=hx nm;rw[setC_same]at this;cases this
 ·rw[jL,List.length_singleton]
  omega
 ·have:=putP_len S.L nm bnew
  omega
 ·rcases putP_mem h.rowN nm bnew x hx with rfl|hx
  ·exact⟨⟨h1,h2⟩,hbn⟩
  ·have:=h.each x hx;exact⟨this.1,by omega⟩
end Full
namespace RefD
open Go.RowKit Go.Deep Mem Crc Full Mani Go.Proofs.YtbfochdoeibofaaGreatDoor.Frame Go.Proofs.YtbfochdoeibofaaGreatDoor.Read Man
def ManR (w:World) (ver next:Nat) (l:List FR) (a:Option Addr) (o:Option (Nat×Nat×List Fil)):Prop:=FilesIn w a l/\(match o with
 |none=>ver=0/\next=0/\l= []
 |some p=>ver=p.1/\next=p.2.1/\l.map FR.f=p.2.2)
def bestK (bl:List (List UInt8)):Nat->Option (Nat×Nat×List Fil)
 |0=>none
 |1=>getS (slotB bl 0)
 |_=>bestO (getS (slotB bl 0)) (getS (slotB bl 1))
def blankK (bl:List (List UInt8)):Nat->Bool
 |0=>false
 |1=> !(slotB bl 0).any (·!=0)
 |_=> !(slotB bl 0).any (·!=0)|| !(slotB bl 1).any (·!=0)
def Read9 (bl:List (List UInt8)) (w:World) (e:Ending) (w':World):Prop:=∃(ver next c:Nat) (a:Option Addr) (l:List FR),e=.returned (.tuple #[.agg #[.int .u64 (ver:Int),.int .u32 (next:Int),.slice a l.length c],.int .i64 (if(readM bl).1.isNone&& !(readM bl).2 then 5 else 0)])/\ManR w' ver next l a (if(readM bl).1.isNone&& !(readM bl).2 then none else(readM bl).1)/\Below w.heap.size w w'/\(∀b,Mem.blk a=some b->w.heap.size<=b)/\∀x∈l,∀b,Mem.blk x.a=some b->w.heap.size<=b
theorem isNone_not {α:Type} {o:Option α}:o.isNone= !o.isSome:=by cases o <;> rfl
theorem bestK_succ (bl:List (List UInt8)) {k:Nat} (hk:k<2):bestK bl (k+1)=bestO (bestK bl k) (getS (slotB bl k)):=by
 rcases(show k=0\/k=1 by omega)with rfl|rfl
 ·show getS (slotB bl 0)=bestO none (getS (slotB bl 0));cases getS (slotB bl 0) <;> rfl
 ·rfl
theorem blankK_succ (bl:List (List UInt8)) {k:Nat} (hk:k<2):blankK bl (k+1)=(blankK bl k|| !(slotB bl k).any (·!=0)):=by
 rcases(show k=0\/k=1 by omega)with rfl|rfl
 ·show(!(slotB bl 0).any (·!=0))=(false|| !(slotB bl 0).any (·!=0));rw[Bool.false_or]
 ·rfl
theorem ManR.keep {w w':World} {ver next:Nat} {l:List FR} {a:Option Addr} {o:Option (Nat×Nat×List Fil)} (h:ManR w ver next l a o) {X:Nat->Prop} (hu:Upon X w w') (ha:∀b,Mem.blk a=some b->¬X b) (hx:∀x∈l,∀b,Mem.blk x.a=some b->¬X b):ManR w' ver next l a o:=
 ⟨⟨h.1.row.upon hu ha,λx hm=>⟨(h.1.blocks x hm).1.upon hu (hx x hm),(h.1.blocks x hm).2⟩⟩,h.2⟩
theorem getS_val {bs:List UInt8} {ver next:Nat} {fs:List Fil} (h: (getS bs).isSome=true) (h1:ver=(readS (got bs).2.1).ver) (h2:next=(readS (got bs).2.1).next) (h3:fs=(readS (got bs).2.1).fs):getS bs=some (ver,next,fs):=by
 unfold getS at h⊢
 split at h
 ·next hc=>
  rw[if_pos hc]
  split at h
  ·next hd=>rw[if_pos hd,h1,h2,h3]
  ·cases h
 ·cases h
attribute [local go_sem] Oper.semAt_some
theorem read9_any (a:Option Addr) (cp:Nat) (bl:List (List UInt8)) (w:World) (h:Lies w a (flatW (madeL bl))) (h33:33<=bl.length) (hb2:bl.length<=65536) (hlen:∀b∈bl,b.length=128):
  Calls Tryz.prog 37 #[DV bl.length (.slice a 32 cp)] w (Read9 bl w):=by
 obtain⟨nb,hnb⟩:=jl bl.length;obtain⟨W1,hW1⟩:=jl (((w.alloc (.cells #[.int .i64 (nb:Int),.bool false,.int .i64 (-1),.slice a 32 cp,.slice none 0 0] 74)).alloc (.cells #[.int .u64 0,.int .u32 0,.slice none 0 0] 34)).alloc (.cells #[.int .u64 0,.int .u32 0,.slice none 0 0] 34));have hB1:Below w.heap.size w W1:=by rw[hW1];exact(((Below.refl _ w).alloc jn _).alloc (by simp) _).alloc (by simp;omega) _
 obtain⟨db,hdb⟩:=jl w.heap.size;obtain⟨rb,hrb⟩:=jl (w.heap.size+1);obtain⟨mb,hmb⟩:=jl (w.heap.size+1+1)
 have hS:∀(V:World) (k:Nat),Upon (λg=>g=mb) W1 V->k<2->Calls Tryz.prog 64 #[.agg #[.int .i64 (nb:Int),.bool false,.int .i64 (-1),.slice a 32 cp,.slice none 0 0],.int .i64 (k:Int)] V λe w'=>∃v,e=.returned v/\OwnB w' V.heap.size v (slotB bl k)/\Below V.heap.size V w':=λV k hV hk=>by
  have:=slot9_any a cp bl k hk V ((h.later hB1).upon hV (λq hq e=>by
   rcases h with h0|⟨g,o,rfl,hg,_⟩
   ·have:=(List.flatMap_eq_nil_iff.1 h0) (0,bl.getD 0 []) (List.mem_map.2 ⟨0,by simp,rfl⟩);cases this
   ·have:g=q:=by simpa[Mem.blk]using hq
    omega)) h33 hb2 hlen
  unfold DV at this;rw[<-hnb]at this;exact this
 have hdk:Blk W1 db 74 #[.int .i64 (nb:Int),.bool false,.int .i64 (-1),.slice a 32 cp,.slice none 0 0]:=by
  rw[hW1,hdb];exact((Blk.new w _ _).below ((Below.refl _ _).alloc jn _) (by simp)).below ((Below.refl _ _).alloc jn _) (by simp;omega)
 have hrk:Blk W1 rb 34 #[.int .u64 0,.int .u32 0,.slice none 0 0]:=by
  rw[hW1,hrb];have h:=Blk.new (w.alloc (.cells #[.int .i64 (nb:Int),.bool false,.int .i64 (-1),.slice a 32 cp,.slice none 0 0] 74)) 34 #[.int .u64 0,.int .u32 0,.slice none 0 0];have h2:=h.below ((Below.refl _ _).alloc jn (.cells #[.int .u64 0,.int .u32 0,.slice none 0 0] 34)) (by simp)
  simpa using h2
 have hmk:Blk W1 mb 34 #[.int .u64 0,.int .u32 0,.slice none 0 0]:=by
  rw[hW1,hmb];have h:=Blk.new ((w.alloc (.cells #[.int .i64 (nb:Int),.bool false,.int .i64 (-1),.slice a 32 cp,.slice none 0 0] 74)).alloc (.cells #[.int .u64 0,.int .u32 0,.slice none 0 0] 34)) 34 #[.int .u64 0,.int .u32 0,.slice none 0 0]
  simpa using h
 have HDK:=jq hdk;have HRK:=jq hrk;have HMK:Hid (Blk W1 mb 34 #[.int .u64 ((0:Nat):Int),.int .u32 ((0:Nat):Int),.slice none ([]:List FR).length 0]):=jq hmk;have HNE:Hid (db≠mb/\rb≠mb/\w.heap.size<=mb/\w.heap.size<=rb/\mb<W1.heap.size/\rb<W1.heap.size):=jq ⟨by omega,by omega,by omega,by omega,hmk.lt,hrk.lt⟩;clear hdk hrk hmk;unfold DV;rw[<-hnb];have hnd:decide ((nb:Int)<=32)=false:=jf (by omega);have HS:=jq hS;have HB1:=jq hB1;have HLEN:Hid (∀k,k<2->(slotB bl k).length=2048):=jq (λk hk=>Man.slotB_length hlen hk h33);clear h h33 hb2 hlen hnb hB1 hS
 go_enter Tryz.func37,Tryz.ntmps37
 go_wp2_with fail
 rw[<-hW1,<-hmb,<-hrb,<-hdb];clear hW1 hdb hrb hmb
 go_loopw[5,6,7] (λfnd blk n wr=>∃(k ver next c:Nat) (a2:Option Addr) (l:List FR),k<=2/\fnd=.bool (bestK bl k).isSome/\blk=.bool (blankK bl k)/\n=.int .i64 (k:Int)/\Hid (Upon (λg=>g=mb) W1 wr)/\Hid (Blk wr mb 34 #[.int .u64 (ver:Int),.int .u32 (next:Int),.slice a2 l.length c])/\Hid (ManR wr ver next l a2 (bestK bl k))/\Hid (∀b,Mem.blk a2=some b->W1.heap.size<=b)/\Hid (∀x∈l,∀b,Mem.blk x.a=some b->W1.heap.size<=b)) (λ_ _ n _=>2-(intOf n).toNat)
 case atStart=>exact⟨0,0,0,0,none,[],by omega,rfl,rfl,rfl,jq (Upon.refl _ _),HMK,jq ⟨⟨.inl rfl,λx hx=>(by cases hx)⟩,rfl,rfl,rfl⟩,jq (λb hb=>by cases hb),jq (λx hx=>by cases hx)⟩
 case round=>
  obtain⟨k,ver,next,c,a2,l,hk,rfl,rfl,rfl,hU,hM,hR,hA,hX⟩:=hrel
  by_cases hk2:k<2
  ·have hkd:decide ((k:Int) <2)=true:=jd (by omega);have hdk:=HDK.out.upon hU.out HNE.out.1;have d0:=hdk.cell 0;have d1:=hdk.cell 1;have d2:=hdk.cell 2;have d3:=hdk.cell 3;have d4:=hdk.cell 4
   simp at d0 d1 d2 d3 d4
   obtain⟨sl,hsl⟩:=jl (slotB bl k);have hs:=HS.out wr k hU.out hk2;have hb1:=bestK_succ bl hk2;have hb2:=blankK_succ bl hk2;rw[<-hsl]at hs hb1 hb2;have hl2:sl.length=2048:=by rw[hsl];exact HLEN.out k hk2
   have HSK:=jq hs;have HL2:=jq hl2;have HB1K:=jq hb1;have HB2K:=jq hb2;obtain⟨fd,hfd⟩:=jl ((bestK bl k).isSome);obtain⟨bk,hbk⟩:=jl (blankK bl k);rw[<-hfd,<-hbk];have HFD:=jq hfd;have HBKK:=jq hbk;clear hdk hsl hs hb1 hb2 hl2 hfd hbk
   go_wp2_with fail
   refine HSK.out.mono ?_;rintro e w2 ⟨v2,rfl,hO2,hB2⟩;obtain⟨va,vc,rfl,hvc,hL2,-⟩:=own_shape hO2;have hg:=get9_any va vc sl w2 hL2 hvc (by rw[HL2.out];decide);rw[HL2.out]at hg hvc;have HG:=jq hg;have HLI:=jq hL2;have HB2:=jq hB2;rw[HL2.out];clear hO2 hL2 hg hB2 d0 d1 d2 d3 d4
   go_wp2_with fail
   go_loopw[30,9] (λix z wq=>∃j:Nat,j<=2048/\ix=.int .i64 (j:Int)/\z=.bool (!(sl.take j).any (·!=0))/\Hid (wq=w2)) (λix _ _=>2048-(intOf ix).toNat)
   case atStart=>exact⟨0,Nat.zero_le _,rfl,rfl,jq rfl⟩
   case round=>
    obtain⟨j,hj,rfl,rfl,hw⟩:=hrel;obtain rfl:wr=w2:=hw.out
    by_cases hjl:j<2048
    ·have hjd:decide ((j:Int) <2048)=true:=jd (by omega);obtain⟨x,hx⟩:∃x,sl[j]? =some x:=⟨sl[j]'(by rw[HL2.out];exact hjl),jg _⟩;obtain⟨ga,oa,rfl,hca⟩:=lies_get HLI.out hx
     have hst: (!(sl.take (j+1)).any (·!=0))=((!(sl.take j).any (·!=0))&& !(x !=0)):=by
      rw[List.take_add_one,hx,List.any_append]
      simp
     obtain⟨xn,hxn⟩:=jl x.toNat;have hcv:bv x=.int .u8 (xn:Int):=by rw[hxn];rfl
     rw[hcv]at hca
     have hx0: ((xn:Int)==0)= !(x !=0):=by
      by_cases h0:x=0
      ·subst h0;rw[hxn]
       rfl
      ·have h1:xn≠0:=λe=>h0 (UInt8.toNat_inj.1 (by rw[<-hxn,e];rfl))
       have h2: (x !=0)=true:=by simpa using h0
       rw[h2]
       simp
       omega
     obtain⟨z,hz⟩:=jl ( !(sl.take j).any (·!=0));obtain⟨y,hy⟩:=jl ( !(x !=0));rw[<-hz,<-hy]at hst;rw[<-hy]at hx0;rw[<-hz];have HST:=jq hst;clear hst hz hy hxn hcv hx hw;cases z <;> cases y
     all_goals
      go_wp2_with fail
      exact⟨⟨j+1,hjl,by simp,by rw[HST.out];rfl,jq (by trivial)⟩,by simp[intOf];omega⟩
    ·obtain rfl:j=2048:=by omega
     have hjd:decide ((2048:Int) <2048)=false:=rfl;have hall:sl.take 2048=sl:=jW (by rw[HL2.out];exact Nat.le_refl _);rw[hall];obtain⟨z,hz⟩:=jl ( !sl.any (·!=0));rw[<-hz];have HB2Z:Hid (blankK bl (k+1)=(bk||z)):=jq (by rw[HB2K.out,HBKK.out,hz]);clear hall hz hw;cases bk <;> cases z
     all_goals
      go_wp2_with fail
      refine HG.out.mono ?_;rintro e w3 ⟨hB3,ok,ga2,gc,gv,gn,gl,rfl,hgF,hgA,hgX,hgok,hgiff⟩;obtain⟨glen,hgl⟩:=jl gl.length;obtain⟨W4,hW4⟩:=jl (w3.alloc (.cells #[.int .u64 (gv:Int),.int .u32 (gn:Int),.slice ga2 glen gc] 34));have hB34:Below w3.heap.size w3 W4:=by rw[hW4];exact(Below.refl _ w3).alloc jn _
      have hB04:=HB2.out.trans ((hB3.trans (hB34.mono hB3.size)).mono HB2.out.size);have hu4:=hU.out.trans (Upon.of_below (P:=λg=>g=mb) hB04) (λg hg=>.inl hg);have HU4:=jq hu4;have hm4:=hM.out.below hB04 hM.out.lt;have m0:=hm4.cell 0;have m1:=hm4.cell 1;have m2:=hm4.cell 2
      simp at m0 m1 m2
      have z0:=hm4.frozen 0;have z1:=hm4.frozen 1;have z2:=hm4.frozen 2;rw[hW4]at m0 m1 m2 z0 z1 z2;have HM4:=jq hm4;have HR4:=jq (hR.out.keep (X:=λ_=>False) (Upon.of_below hB04) (λ_ _ h=>h) (λ_ _ _ _ h=>h));have hsz:W1.heap.size<=wr.heap.size:=by have:=hU.out.size;have:=HB2.out.size;omega
      have HGA:Hid (∀b,Mem.blk ga2=some b->W1.heap.size<=b):=jq (λb hb=>Nat.le_trans hsz (hgA b hb));have HGX:Hid (∀x∈gl,∀b,Mem.blk x.a=some b->W1.heap.size<=b):=jq (λx hx b hb=>Nat.le_trans hsz (hgX x hx b hb));have HGF:=jq (hgF.later hB34);have HGOK:=jq hgok;have HGIF:=jq hgiff;have HGL:=jq hgl;have HW4:=jq hW4;obtain⟨ll,hll⟩:=jl l.length;rw[<-hll]at m2;rw[<-hgl];clear hB3 hgF hgA hgX hgok hgiff hgl hW4 hB34 hB04 hu4 hm4 hsz hll HG HLI;cases ok
      ·have hnone:getS sl=none:=by
        cases hg:getS sl with
        |none=>rfl
        |some q=>have:=HGIF.out;rw[hg]at this;simp at this
       have HNB2:Hid (bestK bl (k+1)=bestK bl k):=jq (by rw[HB1K.out,hnone];rfl);have HNB:Hid ((bestK bl (k+1)).isSome=fd):=jq (by rw[HNB2.out,HFD.out]);clear hnone
       go_wp2_with fail
       exact⟨⟨k+1,ver,next,c,a2,l,hk2,by rw[HNB.out],by simp[HB2Z.out],by simp,by rw[<-HW4.out];exact HU4,by rw[<-HW4.out];exact HM4,by rw[HNB2.out,<-HW4.out];exact HR4,hA,hX⟩,by simp[intOf];omega⟩
      ·have hsome:=getS_val (HGIF.out.1 rfl) (HGOK.out rfl).2.2.2.1 (HGOK.out rfl).2.2.2.2.1 (HGOK.out rfl).2.2.2.2.2;have hRG:∀o,o=some (gv,gn,gl.map FR.f)->Hid (ManR W4 gv gn gl ga2 o):=λo ho=>jq ⟨HGF.out,by rw[ho];exact⟨rfl,rfl,rfl⟩⟩
       cases fd
       ·have hbn:bestK bl k=none:=by have:=HFD.out;cases hb:bestK bl k with
         |none=>rfl
         |some q=>rw[hb]at this;cases this
        have hbs:bestK bl (k+1)=some (gv,gn,gl.map FR.f):=by rw[HB1K.out,hbn,hsome];rfl
        have HNB:Hid ((bestK bl (k+1)).isSome=true):=jq (by rw[hbs];rfl);have HGR:=hRG _ hbs;clear hsome hRG hbn hbs;have hset:=man_set HM4.out (.int .u64 (gv:Int)) (.int .u32 (gn:Int)) (.slice ga2 glen gc);have hu5:Upon (λg=>g=mb) W4 (((W4.setCell ⟨mb,0,none⟩ (.int .u64 (gv:Int))).setCell ⟨mb,1,none⟩ (.int .u32 (gn:Int))).setCell ⟨mb,2,none⟩ (.slice ga2 glen gc)):=(((Upon.refl (λg=>g=mb) W4).set (p:=⟨mb,0,none⟩) (.inl rfl) _).set (p:=⟨mb,1,none⟩) (.inl rfl) _).set (p:=⟨mb,2,none⟩) (.inl rfl) _;have HSET:Hid (Blk (((W4.setCell ⟨mb,0,none⟩ (.int .u64 (gv:Int))).setCell ⟨mb,1,none⟩ (.int .u32 (gn:Int))).setCell ⟨mb,2,none⟩ (.slice ga2 glen gc)) mb 34 #[.int .u64 (gv:Int),.int .u32 (gn:Int),.slice ga2 gl.length gc]):=jq (by rw[<-HGL.out];exact hset);have HU5:=jq (HU4.out.trans hu5 (λg hg=>.inl hg));have HR5:=jq (HGR.out.keep hu5 (λb hb e=>by have:=HGA.out b hb;have:=HNE.out.2.2.2.2.1;omega) (λx hx b hb e=>by have:=HGX.out x hx b hb;have:=HNE.out.2.2.2.2.1;omega));rw[HW4.out]at HSET HU5 HR5;clear hset hu5
        go_wp2_with fail
        exact⟨⟨k+1,gv,gn,gc,ga2,gl,hk2,by rw[HNB.out],by simp[HB2Z.out],by simp,HU5,HSET,HR5,HGA,HGX⟩,by simp[intOf];omega⟩
       ·obtain⟨q,hq⟩:∃q,bestK bl k=some q:=Option.isSome_iff_exists.1 HFD.out.symm;have hqv:ver=q.1:=by have:=hR.out.2;rw[hq]at this;exact this.1
        by_cases hgt:ver<gv
        ·have hgd:decide ((ver:Int) <(gv:Int))=true:=jd (by omega);have hgd2:decide (ver<gv)=true:=jd hgt;have hbs:bestK bl (k+1)=some (gv,gn,gl.map FR.f):=by rw[HB1K.out,hq,hsome];show(if q.1<gv then _ else _)=_;rw[if_pos (by rw[<-hqv];exact hgt)]
         have HNB:Hid ((bestK bl (k+1)).isSome=true):=jq (by rw[hbs];rfl);have HGR:=hRG _ hbs;clear hsome hRG hq hbs hgt hqv;have hset:=man_set HM4.out (.int .u64 (gv:Int)) (.int .u32 (gn:Int)) (.slice ga2 glen gc);have hu5:Upon (λg=>g=mb) W4 (((W4.setCell ⟨mb,0,none⟩ (.int .u64 (gv:Int))).setCell ⟨mb,1,none⟩ (.int .u32 (gn:Int))).setCell ⟨mb,2,none⟩ (.slice ga2 glen gc)):=(((Upon.refl (λg=>g=mb) W4).set (p:=⟨mb,0,none⟩) (.inl rfl) _).set (p:=⟨mb,1,none⟩) (.inl rfl) _).set (p:=⟨mb,2,none⟩) (.inl rfl) _;have HSET:Hid (Blk (((W4.setCell ⟨mb,0,none⟩ (.int .u64 (gv:Int))).setCell ⟨mb,1,none⟩ (.int .u32 (gn:Int))).setCell ⟨mb,2,none⟩ (.slice ga2 glen gc)) mb 34 #[.int .u64 (gv:Int),.int .u32 (gn:Int),.slice ga2 gl.length gc]):=jq (by rw[<-HGL.out];exact hset);have HU5:=jq (HU4.out.trans hu5 (λg hg=>.inl hg));have HR5:=jq (HGR.out.keep hu5 (λb hb e=>by have:=HGA.out b hb;have:=HNE.out.2.2.2.2.1;omega) (λx hx b hb e=>by have:=HGX.out x hx b hb;have:=HNE.out.2.2.2.2.1;omega));rw[HW4.out]at HSET HU5 HR5;clear hset hu5
         go_wp2_with fail
         exact⟨⟨k+1,gv,gn,gc,ga2,gl,hk2,by rw[HNB.out],by simp[HB2Z.out],by simp,HU5,HSET,HR5,HGA,HGX⟩,by simp[intOf];omega⟩
        ·have hgd:decide ((ver:Int) <(gv:Int))=false:=jf (by omega);have hgd2:decide (ver<gv)=false:=jf hgt;have hbs:bestK bl (k+1)=bestK bl k:=by rw[HB1K.out,hq,hsome];show(if q.1<gv then _ else _)=_;rw[if_neg (by rw[<-hqv];exact hgt)]
         have HNB2:=jq hbs;have HNB:Hid ((bestK bl (k+1)).isSome=true):=jq (by rw[hbs,hq];rfl);clear hsome hRG hq hbs hgt hqv
         go_wp2_with fail
         exact⟨⟨k+1,ver,next,c,a2,l,hk2,by rw[HNB.out],by simp[HB2Z.out],by simp,by rw[<-HW4.out];exact HU4,by rw[<-HW4.out];exact HM4,by rw[HNB2.out,<-HW4.out];exact HR4,hA,hX⟩,by simp[intOf];omega⟩
  ·obtain rfl:k=2:=by omega
   have hkd:decide ((2:Int) <2)=false:=rfl;have hl1: (readM bl).1=bestK bl 2:=(readM_best bl).1;have hl2: (readM bl).2=blankK bl 2:=(readM_best bl).2;have hrk:=HRK.out.upon hU.out HNE.out.2.1;have r0:=hrk.cell 0;have r1:=hrk.cell 1;have r2:=hrk.cell 2
   simp at r0 r1 r2
   have z0:=hrk.frozen 0;have z1:=hrk.frozen 1;have z2:=hrk.frozen 2;have hmk2:=hM.out;have m0:=hmk2.cell 0;have m1:=hmk2.cell 1;have m2:=hmk2.cell 2
   simp at m0 m1 m2
   have hlen0:=HLEN.out;have hBw:Below w.heap.size w wr:=HB1.out.trans (hU.out.below HB1.out.size (λg hg=>by have:=HNE.out.2.2.1;omega));obtain⟨ll,hll⟩:=jl l.length;rw[<-hll]at m2;have HLL:=jq hll;clear hll;obtain⟨fd,hfd⟩:=jl ((bestK bl 2).isSome);obtain⟨bk,hbk⟩:=jl (blankK bl 2);rw[<-hfd,<-hbk];cases fd <;> cases bk
   ·
    have HE:Hid (((readM bl).1.isNone&& !(readM bl).2)=true):=jq (by rw[hl1,hl2,<-hbk,isNone_not,<-hfd];rfl);have hset:=man_set hrk (.int .u64 0) (.int .u32 0) (.slice none 0 0);have q0:=hset.cell 0;have q1:=hset.cell 1;have q2:=hset.cell 2
    simp at q0 q1 q2
    have hu5:Upon (λg=>g=rb) wr (((wr.setCell ⟨rb,0,none⟩ (.int .u64 0)).setCell ⟨rb,1,none⟩ (.int .u32 0)).setCell ⟨rb,2,none⟩ (.slice none 0 0)):=(((Upon.refl (λg=>g=rb) wr).set (p:=⟨rb,0,none⟩) (.inl rfl) _).set (p:=⟨rb,1,none⟩) (.inl rfl) _).set (p:=⟨rb,2,none⟩) (.inl rfl) _;have HBE:Hid (Below w.heap.size w (((wr.setCell ⟨rb,0,none⟩ (.int .u64 0)).setCell ⟨rb,1,none⟩ (.int .u32 0)).setCell ⟨rb,2,none⟩ (.slice none 0 0))):=jq (((hBw.setCell HNE.out.2.2.2.1 _).setCell HNE.out.2.2.2.1 _).setCell HNE.out.2.2.2.1 _);clear hset hu5 hrk hmk2 hBw hl1 hl2 HS hlen0 hfd hbk
    go_wp2_with fail
    refine bodyPost_ret (v:=.tuple #[.agg #[.int .u64 0,.int .u32 0,.slice none 0 0],.int .i64 5]) (by simp[results,Tryz.results37,go_sem,q0,q1,q2]) rfl ?_;refine⟨0,0,0,none,[],?_,?_,HBE.out,λb hb=>(by cases hb),λx hx=>(by cases hx)⟩
    ·rw[HE.out]
     rfl
    ·rw[HE.out];exact⟨⟨.inl rfl,λx hx=>(by cases hx)⟩,rfl,rfl,rfl⟩
   ·
    have HE:Hid (((readM bl).1.isNone&& !(readM bl).2)=false):=jq (by rw[hl1,hl2,<-hbk,isNone_not,<-hfd];rfl);have hset:=man_set hrk (.int .u64 (ver:Int)) (.int .u32 (next:Int)) (.slice a2 ll c);have q0:=hset.cell 0;have q1:=hset.cell 1;have q2:=hset.cell 2
    simp at q0 q1 q2
    have hu5:Upon (λg=>g=rb) wr (((wr.setCell ⟨rb,0,none⟩ (.int .u64 (ver:Int))).setCell ⟨rb,1,none⟩ (.int .u32 (next:Int))).setCell ⟨rb,2,none⟩ (.slice a2 ll c)):=(((Upon.refl (λg=>g=rb) wr).set (p:=⟨rb,0,none⟩) (.inl rfl) _).set (p:=⟨rb,1,none⟩) (.inl rfl) _).set (p:=⟨rb,2,none⟩) (.inl rfl) _;have HBE:Hid (Below w.heap.size w (((wr.setCell ⟨rb,0,none⟩ (.int .u64 (ver:Int))).setCell ⟨rb,1,none⟩ (.int .u32 (next:Int))).setCell ⟨rb,2,none⟩ (.slice a2 ll c))):=jq (((hBw.setCell HNE.out.2.2.2.1 _).setCell HNE.out.2.2.2.1 _).setCell HNE.out.2.2.2.1 _);have HR5:=jq (hR.out.keep hu5 (λb hb e=>by have:=hA.out b hb;have:=HNE.out.2.2.2.2.2;omega) (λx hx b hb e=>by have:=hX.out x hx b hb;have:=HNE.out.2.2.2.2.2;omega));have HL1:=jq hl1;clear hset hu5 hrk hmk2 hBw hl1 hl2 HS hlen0 hfd hbk
    go_wp2_with fail
    refine bodyPost_ret (v:=.tuple #[.agg #[.int .u64 (ver:Int),.int .u32 (next:Int),.slice a2 ll c],.int .i64 0]) (by simp[results,Tryz.results37,go_sem,q0,q1,q2]) rfl ?_;refine⟨ver,next,c,a2,l,?_,?_,HBE.out,λb hb=>Nat.le_trans HB1.out.size (hA.out b hb),λx hx b hb=>Nat.le_trans HB1.out.size (hX.out x hx b hb)⟩
    ·rw[HE.out,HLL.out]
     rfl
    ·rw[HE.out,HL1.out];exact HR5.out
   ·
    have HE:Hid (((readM bl).1.isNone&& !(readM bl).2)=false):=jq (by rw[hl1,hl2,<-hbk,isNone_not,<-hfd];rfl);have hset:=man_set hrk (.int .u64 (ver:Int)) (.int .u32 (next:Int)) (.slice a2 ll c);have q0:=hset.cell 0;have q1:=hset.cell 1;have q2:=hset.cell 2
    simp at q0 q1 q2
    have hu5:Upon (λg=>g=rb) wr (((wr.setCell ⟨rb,0,none⟩ (.int .u64 (ver:Int))).setCell ⟨rb,1,none⟩ (.int .u32 (next:Int))).setCell ⟨rb,2,none⟩ (.slice a2 ll c)):=(((Upon.refl (λg=>g=rb) wr).set (p:=⟨rb,0,none⟩) (.inl rfl) _).set (p:=⟨rb,1,none⟩) (.inl rfl) _).set (p:=⟨rb,2,none⟩) (.inl rfl) _;have HBE:Hid (Below w.heap.size w (((wr.setCell ⟨rb,0,none⟩ (.int .u64 (ver:Int))).setCell ⟨rb,1,none⟩ (.int .u32 (next:Int))).setCell ⟨rb,2,none⟩ (.slice a2 ll c))):=jq (((hBw.setCell HNE.out.2.2.2.1 _).setCell HNE.out.2.2.2.1 _).setCell HNE.out.2.2.2.1 _);have HR5:=jq (hR.out.keep hu5 (λb hb e=>by have:=hA.out b hb;have:=HNE.out.2.2.2.2.2;omega) (λx hx b hb e=>by have:=hX.out x hx b hb;have:=HNE.out.2.2.2.2.2;omega));have HL1:=jq hl1;clear hset hu5 hrk hmk2 hBw hl1 hl2 HS hlen0 hfd hbk
    go_wp2_with fail
    refine bodyPost_ret (v:=.tuple #[.agg #[.int .u64 (ver:Int),.int .u32 (next:Int),.slice a2 ll c],.int .i64 0]) (by simp[results,Tryz.results37,go_sem,q0,q1,q2]) rfl ?_;refine⟨ver,next,c,a2,l,?_,?_,HBE.out,λb hb=>Nat.le_trans HB1.out.size (hA.out b hb),λx hx b hb=>Nat.le_trans HB1.out.size (hX.out x hx b hb)⟩
    ·rw[HE.out,HLL.out]
     rfl
    ·rw[HE.out,HL1.out];exact HR5.out
   ·
    have HE:Hid (((readM bl).1.isNone&& !(readM bl).2)=false):=jq (by rw[hl1,hl2,<-hbk,isNone_not,<-hfd];rfl);have hset:=man_set hrk (.int .u64 (ver:Int)) (.int .u32 (next:Int)) (.slice a2 ll c);have q0:=hset.cell 0;have q1:=hset.cell 1;have q2:=hset.cell 2
    simp at q0 q1 q2
    have hu5:Upon (λg=>g=rb) wr (((wr.setCell ⟨rb,0,none⟩ (.int .u64 (ver:Int))).setCell ⟨rb,1,none⟩ (.int .u32 (next:Int))).setCell ⟨rb,2,none⟩ (.slice a2 ll c)):=(((Upon.refl (λg=>g=rb) wr).set (p:=⟨rb,0,none⟩) (.inl rfl) _).set (p:=⟨rb,1,none⟩) (.inl rfl) _).set (p:=⟨rb,2,none⟩) (.inl rfl) _;have HBE:Hid (Below w.heap.size w (((wr.setCell ⟨rb,0,none⟩ (.int .u64 (ver:Int))).setCell ⟨rb,1,none⟩ (.int .u32 (next:Int))).setCell ⟨rb,2,none⟩ (.slice a2 ll c))):=jq (((hBw.setCell HNE.out.2.2.2.1 _).setCell HNE.out.2.2.2.1 _).setCell HNE.out.2.2.2.1 _);have HR5:=jq (hR.out.keep hu5 (λb hb e=>by have:=hA.out b hb;have:=HNE.out.2.2.2.2.2;omega) (λx hx b hb e=>by have:=hX.out x hx b hb;have:=HNE.out.2.2.2.2.2;omega));have HL1:=jq hl1;clear hset hu5 hrk hmk2 hBw hl1 hl2 HS hlen0 hfd hbk
    go_wp2_with fail
    refine bodyPost_ret (v:=.tuple #[.agg #[.int .u64 (ver:Int),.int .u32 (next:Int),.slice a2 ll c],.int .i64 0]) (by simp[results,Tryz.results37,go_sem,q0,q1,q2]) rfl ?_;refine⟨ver,next,c,a2,l,?_,?_,HBE.out,λb hb=>Nat.le_trans HB1.out.size (hA.out b hb),λx hx b hb=>Nat.le_trans HB1.out.size (hX.out x hx b hb)⟩
    ·rw[HE.out,HLL.out]
     rfl
    ·rw[HE.out,HL1.out];exact HR5.out
end RefD
namespace RefF
open Go.RowKit Go.Deep Mem Crc Mani
theorem neq_str9 (t:TypeId) (a:ByteArray):binOp .neq t (.string a) (.string a)=pure (.bool false):=by simp[binOp,Op.stringOp,bne]
attribute [local go_sem] neq_str9
attribute [local go_sem] Oper.semAt_some
end RefF
end Go.Proofs.YtbfochdoeibofaaGreatDoor
