/- A part of the proof. -/
import Derived.Test.YtbfochdoeibofaaGreatDoorG0
import Derived.Test.YtbfochdoeibofaaGreatDoorG0Q
import Derived.Test.YtbfochdoeibofaaGreatDoorG3
import Derived.WalkSpells
import Derived.Laws.ResultCell
set_option maxHeartbeats 2000000
set_option maxRecDepth 100000
namespace Go.Proofs.YtbfochdoeibofaaGreatDoor
namespace Crc
open Go.RowKit Go.Deep Mem
abbrev OwnB (w:World) (base:Nat) (v:Value) (bs:List UInt8):Prop:=w.ownsRow base 5 1 v bs.length (bs.map bv)
theorem lies_none {w:World} {xs:List Value} (h:Lies w none xs):xs= []:=by
 rcases h with h|⟨g,off,e,_⟩
 ·exact h
 ·cases e
theorem clone_any (a:Option Addr) (cp:Nat) (bs:List UInt8) (w:World) (h:Lies w a (bs.map bv)) (hm:bs.length<=4000000000):
  Calls Tryz.prog 39 #[.slice a bs.length cp] w λe w'=>∃v,e=.returned v/\OwnB w' w.heap.size v bs/\Below w.heap.size w w':=by
 cases a with
 |none=>
  have hb:bs= []:=by simpa using lies_none h
  subst hb;have hne:=λw=>Lib.run_eql_slice_nil (P:=Tryz.prog) w 22 5 none 0 cp 0 0 Tryz.underlying22
  clear h hm
  go_enter Tryz.func39,Tryz.ntmps39
  go_wp2_with fail
  go_ret
  exact⟨_,rfl,World.ownsRow_nil _ _ _ _,Below.refl _ _⟩
 |some ad=>
  obtain⟨i0,hi0,hz0,hz1,hz2⟩:=info_parts infoB8;have hne:=λw=>Lib.run_eql_slice_nil (P:=Tryz.prog) w 22 5 (some ad) bs.length cp 0 0 Tryz.underlying22
  have hal:=(Below.refl w.heap.size w).alloc jn (.cells #[] 5);have hown:=own_empty w 5 1;have HC:=jq (lies_add (h.later hal));have H1:=jq (oneCell_bytes bs);have HA:=jq hal;clear h hal
  go_enter Tryz.func39,Tryz.ntmps39
  go_wp2_with (first|(at_builtin;refine wpList_append_own _ rfl _ _ 22 rfl w.heap.size 5 i0 (.int .u8 0) 1 1 Tryz.underlying22 hi0 hz0 hz1 hz2 rfl (by decide) _ _ _ rfl hown ad bs.length cp (bs.map bv) rfl ?c1 HC.out H1.out ?c3 ?c4 ?c5 ?_))
  case c1=>simp
  case c3=>unfold maxLen;omega
  case c4=>omega
  case c5=>simp
  intro v' w1 hown1 hgrow1 hv;have hB1:Below w.heap.size w w1:=HA.out.grown hgrow1 (by simp) (λq hq=>(hown.lt q hq).1);have HO:=jq (show OwnB w1 w.heap.size v' bs by simpa using hown1);clear hown1 hgrow1 hv
  go_wp2_with fail
  go_ret
  exact⟨v',rfl,HO.out,hB1⟩
theorem equal_any (a b:Option Addr) (ca cb:Nat) (bs cs:List UInt8) (w:World) (h1:Lies w a (bs.map bv)) (h2:Lies w b (cs.map bv)) (hm:bs.length<=4000000000):
  Calls Tryz.prog 107 #[.slice a bs.length ca,.slice b cs.length cb] w λe w'=>e=.returned (.bool (bs==cs))/\∃n,w'=w.drewN n:=by
 by_cases hlm:bs.length=cs.length
 ·have hc:∀n,n<bs.length->∃b1 o1 b2 o2 x y,a=some ⟨b1,o1,none⟩/\b=some ⟨b2,o2,none⟩/\bs[n]? =some x/\cs[n]? =some y/\w.cell? ⟨b1,o1+n,none⟩=some (bv x)/\w.cell? ⟨b2,o2+n,none⟩=some (bv y):=λn hn=>by
   rcases h1 with h1|⟨b1,o1,e1,_,i1⟩
   ·exact absurd hn (by have:bs= []:=(by simpa using h1);subst this;exact Nat.not_lt_zero _)
   ·rcases h2 with h2|⟨b2,o2,e2,_,i2⟩
    ·exact absurd hn (by have:cs= []:=(by simpa using h2);subst this;rw[hlm];exact Nat.not_lt_zero _)
    ·exact⟨b1,o1,b2,o2,bs[n],cs[n],e1,e2,jg hn,jg (by omega),i1 n _ (bv_at (jg hn)),i2 n _ (bv_at (jg (by omega)))⟩
  have HC:=jq hc;have HL:=jq hlm;clear hc h1 h2;rw[<-hlm];clear hlm
  go_enter Tryz.func107,Tryz.ntmps107
  go_wp2_with fail
  go_loopw[13] (λi wr=>∃n:Nat,n<=bs.length/\i=.int .i64 n/\Hid (bs.take n=cs.take n)/\∃q,wr=w.drewN q) (λi _=>bs.length-(intOf i).toNat)
  case atStart=>exact⟨0,Nat.zero_le _,rfl,jq rfl,0,rfl⟩
  case round=>
   obtain⟨n,hn,rfl,htk,q,rfl⟩:=hrel
   by_cases hlt:n<bs.length
   ·obtain⟨b1,o1,b2,o2,x,y,rfl,rfl,hx,hy,c1,c2⟩:=HC.out n hlt;unfold bv at c1 c2;have hp0: (0:Int)<=(n:Int):=by omega
    have hp1: (n:Int) <(bs.length:Int):=by omega
    have HX:=jq hx;have HY:=jq hy;clear HC hx hy
    by_cases exy:x=y
    ·subst exy
     go_wp2_with fail
     go_quiet (fail)
     go_wp2_with fail
     refine⟨⟨n+1,by omega,by simp,jq (by rw[List.take_add_one,List.take_add_one,HX.out,HY.out,htk.out]),⟨_,rfl⟩⟩,?_⟩
     simp[intOf];omega
    ·have exy2: ((x.toNat:Int)==(y.toNat:Int))=false:=by
      simp
      intro e;exact exy (UInt8.toNat_inj.1 (by omega))
     have hno: (bs==cs)=false:=by
      simp
      intro e;subst e;exact exy (Option.some.inj (HX.out.symm.trans HY.out))
     have HNO:=jq hno;clear hno
     go_wp2_with fail
     go_quiet (fail)
     go_wp2_with fail
     go_ret
     exact⟨by rw[HNO.out];rfl,q+nq,by rw[World.drewN_drewN]⟩
   ·have e:n=bs.length:=by omega
    have hyes: (bs==cs)=true:=by
     have h:=htk.out;rw[e,jW jn,HL.out,jW jn]at h
     simp[h]
    have HY:=jq hyes;clear hyes e
    go_wp2_with fail
    go_ret
    exact⟨by rw[HY.out];rfl,q,rfl⟩
 ·have hne:decide (bs.length=cs.length)=false:=by simpa using hlm
  have hne2: ((bs.length:Int)==(cs.length:Int))=false:=by simp;omega
  have hno: (bs==cs)=false:=by
   simp
   intro e;exact hlm (by rw[e])
  rw[hno];clear h1 h2 hlm hno
  go_enter Tryz.func107,Tryz.ntmps107
  go_wp2_with fail
  go_ret
  exact⟨rfl,0,rfl⟩
def four (n:Nat):List UInt8:=[UInt8.ofNat n,UInt8.ofNat (n/256),UInt8.ofNat (n/65536),UInt8.ofNat (n/16777216)]
theorem four_length (n:Nat): (four n).length=4:=rfl
def marked (bs:List UInt8):List UInt8:=bs++four (sumF bs)
theorem mark_length (bs:List UInt8): (marked bs).length=bs.length+4:=by unfold marked;rw[jL,four_length]
theorem bv_of (n:Nat):Value.int .u8 ((n%256:Nat):Int)=bv (UInt8.ofNat n):=by unfold bv;simp
theorem bvI {y:Int} {n:Nat} (h:y=((n%256:Nat):Int)):Value.int .u8 y=bv (UInt8.ofNat n):=by rw[h,bv_of]
theorem one_at {w:World} {t:TypeId} {u v:Value} (h:u=v):∀j x,[v][j]? =some x->(w.alloc (.cells #[u] t)).cell? ((⟨w.heap.size,0,none⟩:Addr).add j)=some x:=λj x hx=>by
 subst h
 match j,hx with
 |0,hx=>
  have e:u=x:=by simpa using hx
  subst e;exact(Blk.new w t #[u]).cell 0
theorem one_cell (b:UInt8):∀u∈[bv b],u.oneCell'=true:=λu hu=>by simp at hu;subst hu;rfl
theorem mark_any (a:Option Addr) (cp:Nat) (bs:List UInt8) (w:World) (h:Lies w a (bs.map bv)) (hm:bs.length<=3000000):
  Calls Tryz.prog 137 #[.slice a bs.length cp] w λe w'=>∃v,e=.returned v/\OwnB w' w.heap.size v (marked bs)/\Below w.heap.size w w':=by
 obtain⟨i0,hi0,hz0,hz1,hz2⟩:=info_parts infoB8;have HC:=jq (clone_any a cp bs w h (by omega));have HH:=jq h;clear h
 go_enter Tryz.func137,Tryz.ntmps137
 go_wp2_with fail
 refine HC.out.mono ?_;rintro e w1 ⟨v,rfl,hown,hB1⟩;have hal:=(Below.refl w1.heap.size w1).alloc jn (.cells #[.slice a bs.length cp] 22);have hL1:=(HH.out.later hB1).later hal;have hsum:=sum_any (some ⟨w1.heap.size,0,none⟩) a 1 cp bs (w1.alloc (.cells #[.slice a bs.length cp] 22)) hL1 (new_lies w1 _ _) (by omega);have HS:=jq hsum;have HO:=jq (own_later hown hal);have HB:=jq (hB1.trans (hal.mono hB1.size));have hs1:=hB1.size;clear hal hL1 hsum hown hB1
 go_wp2_with fail
 refine HS.out.mono ?_;rintro e w2 ⟨rfl,hB2⟩;have HO2:=jq (own_later HO.out hB2);have HB2:=jq (HB.out.trans (hB2.mono (by simp;omega)));obtain⟨x,hx⟩:=jl (sumF bs);have hx32:x<2^32:=by rw[hx];exact sumF_lt bs
 have HM:=jq (show marked bs=bs++four x by rw[hx];rfl);rw[<-hx];clear hB2 HS HO HB HC hx
 go_wp2_with fail
 go_loopw[3,5] (λo i wr=>∃k:Nat,k<=4/\i=.int .i64 k/\Hid (OwnB wr w.heap.size o (bs++(four x).take k))/\Hid (Below w.heap.size w wr)) (λ_ i _=>4-(intOf i).toNat)
 case atStart=>exact⟨0,by omega,rfl,jq (by simpa using HO2.out),HB2⟩
 case round=>
  obtain⟨k,hk,rfl,hown,hB⟩:=hrel;have hBs:=hB.out.size;have hbr:=hown.out;have hl: (bs++(four x).take k).length=bs.length+k:=by rw[jL,jT,four_length];omega
  by_cases h4:k<4
  ·rcases(show k=0\/k=1\/k=2\/k=3 by omega)with rfl|rfl|rfl|rfl
   ·have E0:=jq (show Value.int .u8 ((x:Int)%256)=bv (UInt8.ofNat x)from bvI (by omega))
    go_wp2_with (first|(at_builtin;refine wpList_append_own _ rfl _ _ 22 rfl w.heap.size 5 i0 (.int .u8 0) 1 1 Tryz.underlying22 hi0 hz0 hz1 hz2 rfl (by decide) _ _ _ rfl (hbr.alloc _) ⟨wr.heap.size,0,none⟩ 1 1 [bv (UInt8.ofNat x)] rfl rfl (one_at E0.out) (one_cell _) ?c03 ?c04 ?c05 ?_))
    case c03=>rw[hl];unfold maxLen;omega
    case c04=>rw[hl];omega
    case c05=>simp;omega
    intro v' w3 hown3 hgrow3 _;have hB3:Below w.heap.size w w3:=(hB.out.alloc hBs _).grown hgrow3 (by simp;omega) (λq hq=>(hbr.lt q hq).1)
    have hO3:OwnB w3 w.heap.size v' (bs++(four x).take 1):=by
     have e:bs++(four x).take 1=(bs++(four x).take 0)++ [UInt8.ofNat x]:=by rw[List.append_assoc];rfl
     rw[e];unfold OwnB;rw[List.map_append,jL];exact(show w3.ownsRow _ _ _ _ _ _ by simpa[four_length]using hown3)
    have HB3:=jq hB3;have HO3:=jq hO3;clear hown3 hgrow3 hB3 hO3
    go_wp2_with fail
    go_roundw
    case rel=>exact⟨1,by omega,rfl,HO3,HB3⟩
    case measure=>simp[intOf]
   ·have E1:=jq (show Value.int .u8 ((x:Int)/256%256)=bv (UInt8.ofNat (x/256))from bvI (by omega))
    go_wp2_with (first|(at_builtin;refine wpList_append_own _ rfl _ _ 22 rfl w.heap.size 5 i0 (.int .u8 0) 1 1 Tryz.underlying22 hi0 hz0 hz1 hz2 rfl (by decide) _ _ _ rfl (hbr.alloc _) ⟨wr.heap.size,0,none⟩ 1 1 [bv (UInt8.ofNat (x/256))] rfl rfl (one_at E1.out) (one_cell _) ?c13 ?c14 ?c15 ?_))
    case c13=>rw[hl];unfold maxLen;omega
    case c14=>rw[hl];omega
    case c15=>simp;omega
    intro v' w3 hown3 hgrow3 _;have hB3:Below w.heap.size w w3:=(hB.out.alloc hBs _).grown hgrow3 (by simp;omega) (λq hq=>(hbr.lt q hq).1)
    have hO3:OwnB w3 w.heap.size v' (bs++(four x).take 2):=by
     have e:bs++(four x).take 2=(bs++(four x).take 1)++ [UInt8.ofNat (x/256)]:=by rw[List.append_assoc];rfl
     rw[e];unfold OwnB;rw[List.map_append,jL];exact(show w3.ownsRow _ _ _ _ _ _ by simpa[four_length]using hown3)
    have HB3:=jq hB3;have HO3:=jq hO3;clear hown3 hgrow3 hB3 hO3
    go_wp2_with fail
    go_roundw
    case rel=>exact⟨2,by omega,rfl,HO3,HB3⟩
    case measure=>simp[intOf]
   ·have E2:=jq (show Value.int .u8 ((x:Int)/65536%256)=bv (UInt8.ofNat (x/65536))from bvI (by omega))
    go_wp2_with (first|(at_builtin;refine wpList_append_own _ rfl _ _ 22 rfl w.heap.size 5 i0 (.int .u8 0) 1 1 Tryz.underlying22 hi0 hz0 hz1 hz2 rfl (by decide) _ _ _ rfl (hbr.alloc _) ⟨wr.heap.size,0,none⟩ 1 1 [bv (UInt8.ofNat (x/65536))] rfl rfl (one_at E2.out) (one_cell _) ?c23 ?c24 ?c25 ?_))
    case c23=>rw[hl];unfold maxLen;omega
    case c24=>rw[hl];omega
    case c25=>simp;omega
    intro v' w3 hown3 hgrow3 _;have hB3:Below w.heap.size w w3:=(hB.out.alloc hBs _).grown hgrow3 (by simp;omega) (λq hq=>(hbr.lt q hq).1)
    have hO3:OwnB w3 w.heap.size v' (bs++(four x).take 3):=by
     have e:bs++(four x).take 3=(bs++(four x).take 2)++ [UInt8.ofNat (x/65536)]:=by rw[List.append_assoc];rfl
     rw[e];unfold OwnB;rw[List.map_append,jL];exact(show w3.ownsRow _ _ _ _ _ _ by simpa[four_length]using hown3)
    have HB3:=jq hB3;have HO3:=jq hO3;clear hown3 hgrow3 hB3 hO3
    go_wp2_with fail
    go_roundw
    case rel=>exact⟨3,by omega,rfl,HO3,HB3⟩
    case measure=>simp[intOf]
   ·have E3:=jq (show Value.int .u8 ((x:Int)/16777216)=bv (UInt8.ofNat (x/16777216))from bvI (by omega))
    go_wp2_with (first|(at_builtin;refine wpList_append_own _ rfl _ _ 22 rfl w.heap.size 5 i0 (.int .u8 0) 1 1 Tryz.underlying22 hi0 hz0 hz1 hz2 rfl (by decide) _ _ _ rfl (hbr.alloc _) ⟨wr.heap.size,0,none⟩ 1 1 [bv (UInt8.ofNat (x/16777216))] rfl rfl (one_at E3.out) (one_cell _) ?c33 ?c34 ?c35 ?_))
    case c33=>rw[hl];unfold maxLen;omega
    case c34=>rw[hl];omega
    case c35=>simp;omega
    intro v' w3 hown3 hgrow3 _;have hB3:Below w.heap.size w w3:=(hB.out.alloc hBs _).grown hgrow3 (by simp;omega) (λq hq=>(hbr.lt q hq).1)
    have hO3:OwnB w3 w.heap.size v' (bs++(four x).take 4):=by
     have e:bs++(four x).take 4=(bs++(four x).take 3)++ [UInt8.ofNat (x/16777216)]:=by rw[List.append_assoc];rfl
     rw[e];unfold OwnB;rw[List.map_append,jL];exact(show w3.ownsRow _ _ _ _ _ _ by simpa[four_length]using hown3)
    have HB3:=jq hB3;have HO3:=jq hO3;clear hown3 hgrow3 hB3 hO3
    go_wp2_with fail
    go_roundw
    case rel=>exact⟨4,by omega,rfl,HO3,HB3⟩
    case measure=>simp[intOf]
  ·obtain rfl:k=4:=by omega
   rw[jW (by rw[four_length];exact Nat.le_refl _),<-HM.out]at hbr;have HBR:=jq hbr;clear hbr hown
   go_wp2_with fail
   go_ret
   exact⟨_,rfl,HBR.out,hB.out⟩
end Crc
namespace Crc
open Go.RowKit Go.Deep Mem
def bodyOf (bs:List UInt8):List UInt8:=bs.take (bs.length-4)
def fitsL (bs:List UInt8):List UInt8:=if 4<=bs.length/\marked (bodyOf bs)=bs then bodyOf bs else []
def fitsE (bs:List UInt8):Int:=if bs.length<4 then 2 else if marked (bodyOf bs)=bs then 0 else 5
theorem bodyOf_length (bs:List UInt8): (bodyOf bs).length=bs.length-4:=by unfold bodyOf;rw[jT];omega
theorem bodyOf_mark (bs:List UInt8):bodyOf (marked bs)=bs:=by
 unfold bodyOf;rw[mark_length,Nat.add_sub_cancel];unfold marked;rw[List.take_append_of_le_length jn,jW jn]
theorem fits_mark (bs:List UInt8):fitsL (marked bs)=bs/\fitsE (marked bs)=0:=by
 unfold fitsL fitsE;rw[bodyOf_mark,mark_length];exact⟨by rw[if_pos ⟨by omega,rfl⟩],by rw[if_neg (by omega),if_pos rfl]⟩
theorem fits_any (a:Option Addr) (cp:Nat) (bs:List UInt8) (w:World) (h:Lies w a (bs.map bv)) (hcp:bs.length<=cp) (hm:bs.length<=3000000):
  Calls Tryz.prog 117 #[.slice a bs.length cp] w λe w'=>∃v,e=.returned (.tuple #[v,.int .i64 (fitsE bs)])/\OwnB w' w.heap.size v (fitsL bs)/\Below w.heap.size w w':=by
 by_cases h4:bs.length<4
 ·have e1:fitsE bs=2:=if_pos h4;have e2:fitsL bs= []:=if_neg (by omega);rw[e1,e2];clear h e1 e2
  go_enter Tryz.func117,Tryz.ntmps117
  go_wp2_with fail
  go_ret2
  exact⟨_,rfl,World.ownsRow_nil _ _ _ _,Below.refl _ _⟩
 ·obtain⟨g,off,rfl,hg,hc⟩:=h.resolve_left (λe=>by
   rw[List.map_eq_nil_iff]at e;subst e;exact h4 (by decide))
  have hL:Lies w (some ⟨g,off,none⟩) (bs.map bv):=.inr ⟨g,off,rfl,hg,hc⟩;have hL2:Lies w (some ⟨g,off,none⟩) ((bodyOf bs).map bv):=by unfold bodyOf;rw[List.map_take];exact hL.take _
  obtain⟨m,hm4⟩:∃m,bs.length=m+4:=⟨bs.length-4,by omega⟩;have hol: (bodyOf bs).length=m:=by rw[bodyOf_length];omega
  have hcl:=clone_any (some ⟨g,off,none⟩) cp (bodyOf bs) w hL2 (by omega);rw[hol]at hcl;have HCL:=jq hcl;have HL:=jq hL;have HO:=jq hol;have HM4:=jq hm4;have hw:IntKind.i64.wrap ((m:Int)+4-4)=m:=by rw[show(m:Int)+4-4=m by omega];exact IntWalk.i64_in _ (by omega)
  have hmc:m<=cp:=by omega
  have e1:fitsE bs=if marked (bodyOf bs)=bs then 0 else 5:=if_neg h4
  have E1:=jq e1;rw[hm4];clear hc hg hL hL2 hol hcl e1 h4
  go_enter Tryz.func117,Tryz.ntmps117
  go_wp2_with fail
  refine HCL.out.mono ?_;rintro e w1 ⟨v,rfl,hown,hB1⟩;have hown2:OwnB w1 w.heap.size v (bodyOf bs):=hown;obtain⟨a1,c1,e1,_,hl1,_,_⟩:=own_shape hown2;subst e1;have hmk:=mark_any a1 c1 (bodyOf bs) w1 hl1 (by rw[HO.out];omega);have HMK:=jq hmk;have HOW:=jq hown2;have HB1:=jq hB1;have hs1:=hB1.size;clear hown hown2 hl1 hmk hB1
  go_wp2_with fail
  refine HMK.out.mono ?_;rintro e w2 ⟨v2,rfl,hown3,hB2⟩;obtain⟨a2,c2,e2,_,hl2,_,_⟩:=own_shape hown3;subst e2;have hs2:=hB2.size;have heq:=equal_any a2 (some ⟨g,off,none⟩) c2 cp (marked (bodyOf bs)) bs w2 hl2 ((HL.out.later HB1.out).later hB2) (by rw[mark_length,HO.out];omega);have hml: (marked (bodyOf bs)).length=m+4:=by rw[mark_length,HO.out]
  rw[hml,HM4.out]at heq;rw[hml];have HE:=jq heq;have HB2:=jq (HB1.out.trans (hB2.mono hs1));have HO2:=jq (own_later HOW.out hB2);clear hl2 heq hB2 hown3 hml
  go_wp2_with fail
  refine HE.out.mono ?_;rintro e w3 ⟨rfl,q,rfl⟩
  by_cases hy:marked (bodyOf bs)=bs
  ·have hb: (marked (bodyOf bs)==bs)=true:=by simpa using hy
   have e3:fitsE bs=0:=by rw[E1.out,if_pos hy]
   have e4:fitsL bs=bodyOf bs:=if_pos ⟨by rw[HM4.out];omega,hy⟩;rw[hb];have E3:=jq e3;have E4:=jq e4;clear hy hb e3 e4 HE
   go_wp2_with fail
   go_ret2
   refine⟨_,by rw[E3.out];rfl,?_,below_drewN HB2.out q⟩;rw[E4.out];exact HO2.out
  ·have hb: (marked (bodyOf bs)==bs)=false:=by simpa using hy
   have e3:fitsE bs=5:=by rw[E1.out,if_neg hy]
   have e4:fitsL bs= []:=if_neg (λh=>hy h.2);rw[hb];have E3:=jq e3;have E4:=jq e4;clear hy hb e3 e4 HE
   go_wp2_with fail
   go_ret2
   refine⟨_,by rw[E3.out];rfl,?_,below_drewN HB2.out q⟩;rw[E4.out];exact World.ownsRow_nil _ _ _ _
end Crc
namespace Frame
open Go.RowKit Go.Deep Mem Crc
def head (kind:UInt8) (n:Nat):List UInt8:=[kind,UInt8.ofNat n,UInt8.ofNat (n/256),UInt8.ofNat (n/65536),UInt8.ofNat (n/16777216)]
def frameL (kind:UInt8) (body:List UInt8):List UInt8:=marked (head kind body.length)++marked body
theorem frameL_length (kind:UInt8) (body:List UInt8): (frameL kind body).length=body.length+13:=by
 unfold frameL;rw[jL,mark_length,mark_length]
 simp[head]
 omega
theorem own_some {w:World} {base:Nat} {v:Value} {bs:List UInt8} (h:OwnB w base v bs) (h0:0<bs.length):∃g cap,v=.slice (some ⟨g,0,none⟩) bs.length cap/\bs.length<=cap/\base<=g/\g<w.heap.size:=by
 rcases h.2 with⟨_,e⟩|⟨g,cap,cur,e,r⟩
 ·omega
 ·subst e;exact⟨g,cap,rfl,r.2.2.1,World.ownsRow.lt h g rfl⟩
theorem put_nil (kind:UInt8) (a:Option Addr) (cp:Nat) (body:List UInt8) (w:World) (h:Lies w a (body.map bv)) (hm:body.length<=1048576):
  Calls Tryz.prog 113 #[.slice none 0 0,.agg #[.int .u8 (kind.toNat:Int),.slice a body.length cp]] w λe w'=>∃v,e=.returned (.tuple #[v,.int .i64 0])/\OwnB w' w.heap.size v (frameL kind body)/\Below w.heap.size w w':=by
 obtain⟨i0,hi0,hz0,hz1,hz2⟩:=info_parts infoB8;have hal:=(Below.refl w.heap.size w).alloc jn (.cells #[.int .u8 (kind.toNat:Int),.slice a body.length cp] 155);have hbx:=Blk.new w 155 #[.int .u8 (kind.toNat:Int),.slice a body.length cp];obtain⟨n,hn⟩:=jl body.length;obtain⟨W,hW⟩:=jl (w.alloc (.cells #[.int .u8 (kind.toNat:Int),.slice a body.length cp] 155));rw[<-hW]at hal hbx;rw[<-hn]at hbx;have hhd:=hal.alloc (by have:=hal.size;exact this) (.cells ((head kind n).map bv).toArray 5);have hmk:=mark_any (some ⟨W.heap.size,0,none⟩) 5 (head kind n) (W.alloc (.cells ((head kind n).map bv).toArray 5)) (by have:=new_lies W 5 ((head kind n).map bv).toArray;simpa using this) (by simp[head]);have hWs:W.heap.size=w.heap.size+1:=by rw[hW];simp
 rw[hWs,show(head kind n).length=5 from rfl]at hmk;have HMK:=jq hmk;have HL:=jq h;have HAL:=jq hal;have HHD:=jq hhd;have HBX:=jq (hbx.alloc (.cells ((head kind n).map bv).toArray 5));have HW:=jq hW;have HN:=jq hn;have hsW:=hal.size;have hm2:n<=1048576:=by omega
 have hm3:decide ((1048576:Int) <(n:Int))=false:=by simp;omega
 have E:=jq (show(#[.int .u8 (kind.toNat:Int),.int .u8 ((n:Int)%256),.int .u8 ((n:Int)/256%256),.int .u8 ((n:Int)/65536),.int .u8 ((n:Int)/16777216)]:Array Value)=((head kind n).map bv).toArray by
  rw[bvI (y:=(n:Int)%256) (n:=n) (by omega),bvI (y:=(n:Int)/256%256) (n:=n/256) (by omega),bvI (y:=(n:Int)/65536) (n:=n/65536) (by omega),bvI (y:=(n:Int)/16777216) (n:=n/16777216) (by omega)]
  rfl)
 rw[<-hn]at HW⊢;clear h hal hhd hmk hbx hn hm hWs
 go_enter Tryz.func113,Tryz.ntmps113
 go_wp2_with fail
 rw[E.out,<-HW.out];refine HMK.out.mono ?_;rintro e w1 ⟨v1,rfl,hown1,hB1⟩;obtain⟨g1,c1,e1,hc1,_,hg1⟩:=own_some hown1 (by rw[mark_length];omega);subst e1;have hs1:=hB1.size;have hs0:w.heap.size+2<=(W.alloc (.cells ((head kind n).map bv).toArray 5)).heap.size:=by rw[HW.out];simp
 have hBw:Below w.heap.size w w1:=HHD.out.trans (hB1.mono (by omega));obtain⟨a1,c1',e1',_,hl1,_,_⟩:=own_shape hown1;cases e1';have hml: (marked (head kind n)).length=9:=by rw[mark_length];rfl
 rw[hml];have HL1:=jq (lies_add hl1);have H1:=jq (oneCell_bytes (marked (head kind n)));have hbx1:=HBX.out.below hB1 HBX.out.lt;have x1:=hbx1.cell 1
 simp at x1
 have HML:=jq hml;have HBw:=jq hBw;have HBX1:=jq hbx1;have hnil:=World.ownsRow_nil w1 w.heap.size 5 1;have hsw1:=hBw.size;clear hown1 hl1 hml hbx1 hBw hB1 HMK HHD HAL E HW
 go_wp2_with (first|(at_builtin;refine wpList_append_own _ rfl _ _ 22 rfl w.heap.size 5 i0 (.int .u8 0) 1 1 Tryz.underlying22 hi0 hz0 hz1 hz2 rfl (by decide) _ _ _ rfl hnil ⟨g1,0,none⟩ 9 c1 ((marked (head kind n)).map bv) rfl ?c1 HL1.out H1.out ?c3 ?c4 ?c5 ?_))
 case c1=>rw[jP,HML.out]
 case c3=>decide
 case c4=>decide
 case c5=>exact hsw1
 intro v2 w2 hown2 hgrow2 _;have hB12:Below w1.heap.size w1 w2:=(Below.refl _ w1).grown hgrow2 jn (λk hk=>by cases hk);have hbx2:=HBX1.out.below hB12 HBX1.out.lt;have x2:=hbx2.cell 1
 simp at x2
 have HB2:=jq (HBw.out.trans (hB12.mono hsw1));have hO2:OwnB w2 w.heap.size v2 (marked (head kind n)):=by unfold OwnB;rw[HML.out];exact hown2
 have hmk2:=mark_any a cp body w2 (HL.out.later HB2.out) (by have:=HN.out;omega);rw[<-HN.out]at hmk2;have HMK2:=jq hmk2;have HO2:=jq hO2;have hs2:=HB2.out.size;have hlt2:=hbx2.lt;clear hown2 hgrow2 hbx2 hB12 hO2 hmk2 x1 hnil
 go_wp2_with fail
 refine HMK2.out.mono ?_;rintro e w3 ⟨v3,rfl,hown3,hB3⟩;obtain⟨g3,c3,e3,hc3,_,hg3⟩:=own_some hown3 (by rw[mark_length];omega);subst e3;obtain⟨a3,c3',e3',_,hl3,_,_⟩:=own_shape hown3;cases e3';have hs3:=hB3.size;have HL3:=jq (lies_add hl3);have H3:=jq (oneCell_bytes (marked body));have hO3:=own_later HO2.out hB3;have HB3:=jq (HB2.out.trans (hB3.mono hs2));have hl0: (marked (head kind n)).length+(marked body).length<=1048600:=by rw[HML.out,mark_length,<-HN.out];omega
 clear hown3 hl3 hB3 HMK2 x2
 go_wp2_with (first|(at_builtin;refine wpList_append_own _ rfl _ _ 22 rfl w.heap.size 5 i0 (.int .u8 0) 1 1 Tryz.underlying22 hi0 hz0 hz1 hz2 rfl (by decide) _ _ _ rfl hO3 ⟨g3,0,none⟩ (marked body).length c3 ((marked body).map bv) rfl ?d1 HL3.out H3.out ?d3 ?d4 ?d5 ?_))
 case d1=>simp
 case d3=>unfold maxLen;omega
 case d4=>omega
 case d5=>omega
 intro v4 w4 hown4 hgrow4 _;have hB4:=HB3.out.grown hgrow4 (by omega) (λq hq=>(hO3.lt q hq).1)
 have hO4:OwnB w4 w.heap.size v4 (frameL kind body):=by
  unfold OwnB frameL;rw[List.map_append,jL,<-HN.out];exact hown4
 have HO4:=jq hO4;clear hown4 hgrow4 hO4 hO3
 go_wp2_with fail
 go_ret2
 exact⟨v4,rfl,HO4.out,hB4⟩
end Frame
namespace Frame
open Go.RowKit Go.Deep Mem Crc
def num (h:List UInt8):Nat:=(h.getD 1 0).toNat+(h.getD 2 0).toNat*256+(h.getD 3 0).toNat*65536+(h.getD 4 0).toNat*16777216
def got (bs:List UInt8):UInt8×List UInt8×Nat×Int:=
 if bs.length<9 then(0,[],0,2)
 else if fitsE (bs.take 9)=5 then(0,[],0,5)
 else if 1048576<num (bodyOf (bs.take 9))then(0,[],0,4)
 else if bs.length<13+num (bodyOf (bs.take 9))then(0,[],0,2)
 else if fitsE ((bs.drop 9).take (num (bodyOf (bs.take 9))+4))=5 then(0,[],0,5)
 else((bs.take 9).getD 0 0,bodyOf ((bs.drop 9).take (num (bodyOf (bs.take 9))+4)),13+num (bodyOf (bs.take 9)),0)
theorem fitsE_cases {bs:List UInt8} (h:4<=bs.length):fitsE bs=0\/fitsE bs=5:=by
 unfold fitsE;rw[if_neg (by omega)]
 split
 ·exact .inl rfl
 ·exact .inr rfl
theorem fitsL_ok {bs:List UInt8} (h:4<=bs.length) (h2:fitsE bs=0):fitsL bs=bodyOf bs:=by
 unfold fitsE at h2;rw[if_neg (by omega)]at h2;unfold fitsL
 by_cases hm:marked (bodyOf bs)=bs
 ·rw[if_pos ⟨h,hm⟩]
 ·rw[if_neg hm]at h2;cases h2
theorem i64_or_nat (a b:Nat) (ha:a<9223372036854775808) (hb:b<9223372036854775808):bits .or .i64 (a:Int) (b:Int)=((a ||| b:Nat):Int):=by
 have hx:a ||| b<2^63:=Nat.or_lt_two_pow (by omega) (by omega)
 show IntKind.i64.wrap ((BitVec.ofInt 64 (a:Int) ||| BitVec.ofInt 64 (b:Int)).toNat:Int)=_;rw[BitVec.toNat_or,ofInt_u64 a (by omega),ofInt_u64 b (by omega)];exact IntWalk.i64_in _ (by omega)
theorem or_four (a b c d:Nat) (ha:a<256) (hb:b<256) (hc:c<256) (hd:d<256):
  bits .or .i64 (bits .or .i64 (bits .or .i64 (a:Int) ((b:Int)*256)) ((c:Int)*65536)) ((d:Int)*16777216)=((a+b*256+c*65536+d*16777216:Nat):Int):=by
 have e1:bits .or .i64 (a:Int) ((b:Int)*256)=((a+b*256:Nat):Int):=by
  have:=i64_or_nat a (b*256) (by omega) (by omega);rw[Nat.or_comm,nat_join 8 (b*256) a (by omega) (by omega)]at this;rw[show((b:Int)*256)=((b*256:Nat):Int)by omega,this]
  congr 1
  omega
 have e2:bits .or .i64 ((a+b*256:Nat):Int) ((c:Int)*65536)=((a+b*256+c*65536:Nat):Int):=by
  have:=i64_or_nat (a+b*256) (c*65536) (by omega) (by omega);rw[Nat.or_comm,nat_join 16 (c*65536) (a+b*256) (by omega) (by omega)]at this;rw[show((c:Int)*65536)=((c*65536:Nat):Int)by omega,this]
  congr 1
  omega
 have:=i64_or_nat (a+b*256+c*65536) (d*16777216) (by omega) (by omega);rw[Nat.or_comm,nat_join 24 (d*16777216) (a+b*256+c*65536) (by omega) (by omega)]at this;rw[e1,e2,show((d:Int)*16777216)=((d*16777216:Nat):Int)by omega,this]
 congr 1
 omega
theorem box_set {w:World} {b:Nat} {t:TypeId} {p q:Value} (h:Blk w b t #[p,q]) (x y:Value):Blk ((w.setCell ⟨b,0,none⟩ x).setCell ⟨b,1,none⟩ y) b t #[x,y]:=(h.set 0 x).set 1 y
structure Got (bs:List UInt8) (w:World) (e:Ending) (w':World):Prop where
 out:∃v,e=.returned (.tuple #[.agg #[bv (got bs).1,v],.int .i64 (got bs).2.2.1,.int .i64 (got bs).2.2.2])/\OwnB w' w.heap.size v (got bs).2.1
 below:Below w.heap.size w w'
theorem get_any (a:Option Addr) (cp:Nat) (bs:List UInt8) (w:World) (h:Lies w a (bs.map bv)) (hcp:bs.length<=cp) (hm:bs.length<=3000000):
  Calls Tryz.prog 84 #[.slice a bs.length cp] w λe w'=>Got bs w e w':=by
 by_cases h9:bs.length<9
 ·have e0:got bs=(0,[],0,2):=if_pos h9;clear h hcp
  go_enter Tryz.func84,Tryz.ntmps84
  go_wp2_with fail
  refine bodyPost_ret (v:=.tuple #[.agg #[.int .u8 0,.slice none 0 0],.int .i64 0,.int .i64 2]) (by simp[results,Tryz.results84,go_sem]) rfl ⟨⟨.slice none 0 0,by rw[e0];rfl,by rw[e0];exact World.ownsRow_nil _ _ _ _⟩,(Below.refl _ w).alloc jn _⟩
 ·obtain⟨g,off,rfl,hg,hc⟩:=h.resolve_left (λe=>by
   rw[List.map_eq_nil_iff]at e;subst e;exact h9 (by decide))
  have hL:Lies w (some ⟨g,off,none⟩) (bs.map bv):=.inr ⟨g,off,rfl,hg,hc⟩;obtain⟨h,hh⟩:=jl (bs.take 9);have hhl:h.length=9:=by rw[hh,jT];omega
  have hL9:Lies (w.alloc (.cells #[.int .u8 0,.slice none 0 0] 155)) (some ⟨g,off,none⟩) (h.map bv):=by
   rw[hh,List.map_take];exact(hL.later ((Below.refl _ w).alloc jn _)).take _
  have hfit:=fits_any (some ⟨g,off,none⟩) cp h _ hL9 (by omega) (by omega);rw[hhl]at hfit;have HF:=jq hfit;have h9c: (9:Nat)<=cp:=by omega
  have hb9:decide ((bs.length:Int) <9)=false:=by simp;omega
  have HL:=jq hL;have hal:=(Below.refl w.heap.size w).alloc jn (.cells #[.int .u8 0,.slice none 0 0] 155);have hbx:=Blk.new w 155 #[.int .u8 0,.slice none 0 0];have HAL:=jq hal;have HBX:=jq hbx;have HH:=jq hh;clear hc hg hL hL9 hfit hal hbx hh
  go_enter Tryz.func84,Tryz.ntmps84
  go_wp2_with fail
  refine HF.out.mono ?_;rintro e w1 ⟨v1,rfl,hown1,hB1⟩;have hbx1:=HBX.out.below hB1 HBX.out.lt;have x0:=hbx1.cell 0;have x1:=hbx1.cell 1
  simp at x0 x1
  have z0:=hbx1.frozen 0;have z1:=hbx1.frozen 1;have hlt1:=hbx1.lt;have HBX1:=jq hbx1;have HB1:=jq (HAL.out.trans (hB1.mono (by simp)));have HOW1:=jq hown1;clear hbx1 hB1 hown1 HF;have hend:∀(w2:World) (x y:Value),Below w.heap.size w w2->Below w.heap.size w ((w2.setCell ⟨w.heap.size,0,none⟩ x).setCell ⟨w.heap.size,1,none⟩ y):=λw2 x y hb=>(hb.setCell jn _).setCell jn _
  have HEND:=jq hend;clear hend;rcases fitsE_cases (bs:=h) (by omega)with hf|hf
  ·have hlb:fitsL h=bodyOf h:=fitsL_ok (by omega) hf;have hbl: (bodyOf h).length=5:=by rw[bodyOf_length];omega
   have hown:=HOW1.out;rw[hlb]at hown;obtain⟨g1,c1,e1,hc1,hg1,hg1'⟩:=own_some hown (by omega);obtain⟨a1,c1',e1',_,hl1,_,_⟩:=own_shape hown;rw[e1]at e1';cases e1';rw[hbl]at e1
   have hcell:∀j,j<5->w1.cell? ⟨g1,j,none⟩=some (.int .u8 (((bodyOf h).getD j 0).toNat:Int)):=λj hj=>by
    obtain⟨q,o,e,_,hq⟩:=hl1.resolve_left (by intro e;rw[List.map_eq_nil_iff]at e;rw[e]at hbl;cases hbl);cases e;have:=hq j _ (bv_at (jg (by omega)));rw[Nat.zero_add]at this;rw[this,List.getD_eq_getElem?_getD,jg (by omega)]
    rfl
   have b1:=hcell 1 (by omega);have b2:=hcell 2 (by omega);have b3:=hcell 3 (by omega);have b4:=hcell 4 (by omega);obtain⟨n1,m1⟩:=jl (((bodyOf h).getD 1 0).toNat);obtain⟨n2,m2⟩:=jl (((bodyOf h).getD 2 0).toNat);obtain⟨n3,m3⟩:=jl (((bodyOf h).getD 3 0).toNat);obtain⟨n4,m4⟩:=jl (((bodyOf h).getD 4 0).toNat);have l1:n1<256:=by rw[m1];exact UInt8.toNat_lt _
   have l2:n2<256:=by rw[m2];exact UInt8.toNat_lt _
   have l3:n3<256:=by rw[m3];exact UInt8.toNat_lt _
   have l4:n4<256:=by rw[m4];exact UInt8.toNat_lt _
   rw[<-m1]at b1;rw[<-m2]at b2;rw[<-m3]at b3;rw[<-m4]at b4;obtain⟨N,hN⟩:=jl (n1+n2*256+n3*65536+n4*16777216);have hor:=or_four n1 n2 n3 n4 l1 l2 l3 l4;rw[<-hN]at hor;have hnum:num (bodyOf h)=N:=by rw[hN,m1,m2,m3,m4];rfl
   have HNUM:=jq hnum;have hNlt:N<4294967296:=by omega
   have HCELL:=jq hcell;have HF0:=jq hf;rw[hf];subst e1;clear hown hl1 hcell m1 m2 m3 m4 hN hnum hf hlb
   go_wp2_with fail
   go_quiet (fail)
   have hw13:IntKind.i64.wrap (9+(N:Int))=9+N:=IntWalk.i64_in _ (by omega);have hw14:IntKind.i64.wrap (9+(N:Int)+4)=9+N+4:=IntWalk.i64_in _ (by omega)
   by_cases hN1:1048576<N
   ·have e0:got bs=(0,[],0,4):=by
     unfold got;rw[if_neg h9,if_neg (by rw[<-HH.out,HF0.out];decide),if_pos (by rw[<-HH.out,HNUM.out];exact hN1)]
    have E0:=jq e0;have q:=box_set (HBX1.out.drewN nq) (.int .u8 0) (.slice none 0 0);have q0:=q.cell 0;have q1:=q.cell 1
    simp at q0 q1
    have hB2:=HEND.out (w1.drewN nq) (.int .u8 0) (.slice none 0 0) (below_drewN HB1.out nq);clear e0 q;have d0:decide ((1048576:Int) <(N:Int))=true:=by simp;omega
    go_wp2_with fail
    refine bodyPost_ret (v:=.tuple #[.agg #[.int .u8 0,.slice none 0 0],.int .i64 0,.int .i64 4]) (by simp[results,Tryz.results84,go_sem,q0,q1]) rfl ⟨⟨.slice none 0 0,by rw[E0.out];rfl,by rw[E0.out];exact World.ownsRow_nil _ _ _ _⟩,hB2⟩
   ·have d0:decide ((1048576:Int) <(N:Int))=false:=by simp;omega
    by_cases hN2:bs.length<13+N
    ·have e0:got bs=(0,[],0,2):=by
      unfold got;rw[if_neg h9,if_neg (by rw[<-HH.out,HF0.out];decide),if_neg (by rw[<-HH.out,HNUM.out];exact hN1),if_pos (by rw[<-HH.out,HNUM.out];exact hN2)]
     have E0:=jq e0;have q:=box_set (HBX1.out.drewN nq) (.int .u8 0) (.slice none 0 0);have q0:=q.cell 0;have q1:=q.cell 1
     simp at q0 q1
     have hB2:=HEND.out (w1.drewN nq) (.int .u8 0) (.slice none 0 0) (below_drewN HB1.out nq);clear e0 q;have d1:decide ((bs.length:Int) <9+(N:Int)+4)=true:=by simp;omega
     go_wp2_with fail
     refine bodyPost_ret (v:=.tuple #[.agg #[.int .u8 0,.slice none 0 0],.int .i64 0,.int .i64 2]) (by simp[results,Tryz.results84,go_sem,q0,q1]) rfl ⟨⟨.slice none 0 0,by rw[E0.out];rfl,by rw[E0.out];exact World.ownsRow_nil _ _ _ _⟩,hB2⟩
    ·have d1:decide ((bs.length:Int) <9+(N:Int)+4)=false:=by simp;omega
     obtain⟨o,ho⟩:=jl ((bs.drop 9).take (N+4));have hol:o.length=N+4:=by rw[ho,jT,List.length_drop];omega
     have hLo:Lies (w1.drewN nq) (some ⟨g,off+9,none⟩) (o.map bv):=by
      rw[ho,List.map_take];refine Lies.take ?_ _;rw[List.map_drop];exact((HL.out.later HB1.out).drop 9).drewN nq
     have hfit2:=fits_any (some ⟨g,off+9,none⟩) (cp-9) o (w1.drewN nq) hLo (by omega) (by omega);rw[show o.length=9+N-5 by omega]at hfit2;have HF2:=jq hfit2;have HO:=jq ho;have HOL:=jq hol;have h13:13+N<=cp:=by omega
     clear hfit2 hLo ho hol
     go_wp2_with fail
     refine HF2.out.mono ?_;rintro e w2 ⟨v2,rfl,hown2,hB2⟩;have hbx2:=(HBX1.out.drewN nq).below hB2 HBX1.out.lt;have y0:=hbx2.cell 0;have y1:=hbx2.cell 1
     simp at y0 y1
     have u0:=hbx2.frozen 0;have u1:=hbx2.frozen 1;have hlt2:=hbx2.lt;have c0:=((below_drewN (Below.refl w1.heap.size w1) nq).trans hB2).cell (p:=⟨g1,0,none⟩) hg1' |>.trans (HCELL.out 0 (by omega))
     obtain⟨kd,hkd⟩:=jl (((bodyOf h).getD 0 0).toNat);rw[<-hkd]at c0;have HKD:=jq hkd;have HBX2:=jq hbx2;have HB2:=jq ((below_drewN HB1.out nq).trans (hB2.mono HB1.out.size));have HOW2:=jq hown2;have hsz1:=HB1.out.size;clear hbx2 hB2 hown2 x0 x1 hkd;rcases fitsE_cases (bs:=o) (by rw[HOL.out];omega)with hf|hf
     ·have e0:got bs=((bodyOf h).getD 0 0,bodyOf o,13+N,0):=by
       unfold got;rw[if_neg h9,if_neg (by rw[<-HH.out,HF0.out];decide),if_neg (by rw[<-HH.out,HNUM.out];exact hN1),if_neg (by rw[<-HH.out,HNUM.out];exact hN2),<-HH.out,HNUM.out,<-HO.out,if_neg (by rw[hf];decide)]
       have e9: (bodyOf h).getD 0 0=h.getD 0 0:=by
        unfold bodyOf;rw[List.getD_eq_getElem?_getD,List.getD_eq_getElem?_getD,List.getElem?_take,if_pos (by omega)]
       rw[e9]
      have hlb:fitsL o=bodyOf o:=fitsL_ok (by rw[HOL.out];omega) hf;have hown3:=HOW2.out;rw[hlb]at hown3;have E0:=jq e0;obtain⟨a2,c2,e2,_,_,hb2,_⟩:=own_shape hown3;subst e2;have q:=box_set HBX2.out (.int .u8 (kd:Int)) (.slice a2 (bodyOf o).length c2);have q0:=q.cell 0;have q1:=q.cell 1
      simp at q0 q1
      have hB3:=HEND.out w2 (.int .u8 (kd:Int)) (.slice a2 (bodyOf o).length c2) HB2.out
      have hown4:OwnB ((w2.setCell ⟨w.heap.size,0,none⟩ (.int .u8 (kd:Int))).setCell ⟨w.heap.size,1,none⟩ (.slice a2 (bodyOf o).length c2)) w.heap.size (.slice a2 (bodyOf o).length c2) (bodyOf o):=by
       have hne: (Value.slice a2 (bodyOf o).length c2).ownBlock≠some w.heap.size:=λe=>by
        have:=(hown3.lt _ e).1
        simp at this
        omega
       exact own_mono (own_far (own_far hown3 hne _) hne _) hsz1
      have HO4:=jq hown4;rw[hf];clear e0 hlb hown3 q hf hb2 hown4
      go_wp2_with fail
      have e9: (9+(N:Int)+4)=((13+N:Nat):Int):=by omega
      refine bodyPost_ret (v:=.tuple #[.agg #[.int .u8 (kd:Int),.slice a2 (bodyOf o).length c2],.int .i64 (9+(N:Int)+4),.int .i64 0]) (by simp[results,Tryz.results84,go_sem,q0,q1]) rfl ⟨⟨.slice a2 (bodyOf o).length c2,?_,by rw[E0.out];exact HO4.out⟩,hB3⟩;rw[E0.out,e9,HKD.out]
      rfl
     ·have e0:got bs=(0,[],0,5):=by
       unfold got;rw[if_neg h9,if_neg (by rw[<-HH.out,HF0.out];decide),if_neg (by rw[<-HH.out,HNUM.out];exact hN1),if_neg (by rw[<-HH.out,HNUM.out];exact hN2),<-HH.out,HNUM.out,<-HO.out,if_pos hf]
      have E0:=jq e0;have q:=box_set HBX2.out (.int .u8 0) (.slice none 0 0);have q0:=q.cell 0;have q1:=q.cell 1
      simp at q0 q1
      have hB3:=HEND.out w2 (.int .u8 0) (.slice none 0 0) HB2.out;rw[hf];clear e0 q hf
      go_wp2_with fail
      refine bodyPost_ret (v:=.tuple #[.agg #[.int .u8 0,.slice none 0 0],.int .i64 0,.int .i64 5]) (by simp[results,Tryz.results84,go_sem,q0,q1]) rfl ⟨⟨.slice none 0 0,by rw[E0.out];rfl,by rw[E0.out];exact World.ownsRow_nil _ _ _ _⟩,hB3⟩
  ·rw[hf];have e0:got bs=(0,[],0,5):=by unfold got;rw[if_neg h9,if_pos (by rw[<-HH.out];exact hf)]
   have E0:=jq e0;have q:=box_set HBX1.out (.int .u8 0) (.slice none 0 0);have q0:=q.cell 0;have q1:=q.cell 1
   simp at q0 q1
   have hB2:=HEND.out w1 (.int .u8 0) (.slice none 0 0) HB1.out;clear e0 hf q
   go_wp2_with fail
   refine bodyPost_ret (v:=.tuple #[.agg #[.int .u8 0,.slice none 0 0],.int .i64 0,.int .i64 5]) (by simp[results,Tryz.results84,go_sem,q0,q1]) rfl ⟨⟨.slice none 0 0,by rw[E0.out];rfl,by rw[E0.out];exact World.ownsRow_nil _ _ _ _⟩,hB2⟩
end Frame
end Go.Proofs.YtbfochdoeibofaaGreatDoor
