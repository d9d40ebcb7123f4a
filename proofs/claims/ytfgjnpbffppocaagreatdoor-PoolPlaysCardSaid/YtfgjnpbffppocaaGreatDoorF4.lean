/- Part. -/
import Derived.Test.YtfgjnpbffppocaaGreatDoorF0
import Derived.Test.YtfgjnpbffppocaaGreatDoorF0Q
import Derived.Test.YtfgjnpbffppocaaGreatDoorF3
import Derived.WalkSpells
import Derived.Laws.ResultCell
import Derived.Laws.IdiomStrings
set_option maxHeartbeats 2000000
set_option maxRecDepth 100000
namespace Go.Proofs.YtfgjnpbffppocaaGreatDoor
namespace Crc
open Go.RowKit Go.Deep Mem
abbrev OwnB (w:World) (base:Nat) (v:Value) (bs:List UInt8):Prop:=w.ownsRow base 5 1 v bs.length (bs.map bv)
theorem lies_none {w:World} {xs:List Value} (h:Lies w none xs):xs= []:=by
 rcases h with h|⟨g,off,e,_⟩
 ·exact h
 ·cases e
theorem clone_any (a:Option Addr) (cp:Nat) (bs:List UInt8) (w:World) (h:Lies w a (bs.map bv)) (hm:bs.length<=4000000000):
  Calls Tryz.prog 65 #[.slice a bs.length cp] w λe w'=>∃v,e=.returned v/\OwnB w' w.heap.size v bs/\Below w.heap.size w w':=by
 cases a with
 |none=>
  have hb:bs= []:=by simpa using lies_none h
  subst hb;have hne:=λw=>Lib.run_eql_slice_nil (P:=Tryz.prog) w 27 5 none 0 cp 0 0 Tryz.underlying27
  clear h hm
  go_enter Tryz.func65,Tryz.ntmps65
  go_wp2_with fail
  go_ret
  exact⟨_,rfl,World.ownsRow_nil _ _ _ _,Below.refl _ _⟩
 |some ad=>
  obtain⟨i0,hi0,hz0,hz1,hz2⟩:=info_parts infoB8;have hne:=λw=>Lib.run_eql_slice_nil (P:=Tryz.prog) w 27 5 (some ad) bs.length cp 0 0 Tryz.underlying27
  have hal:=(Below.refl w.heap.size w).alloc jn (.cells #[] 5);have hown:=own_empty w 5 1;have HC:=jq (lies_add (h.later hal));have H1:=jq (oneCell_bytes bs);have HA:=jq hal;clear h hal
  go_enter Tryz.func65,Tryz.ntmps65
  go_wp2_with (first|(at_builtin;refine wpList_append_own _ rfl _ _ 27 rfl w.heap.size 5 i0 (.int .u8 0) 1 1 Tryz.underlying27 hi0 hz0 hz1 hz2 rfl (by decide) _ _ _ rfl hown ad bs.length cp (bs.map bv) rfl ?c1 HC.out H1.out ?c3 ?c4 ?c5 ?_))
  case c1=>simp
  case c3=>unfold maxLen;omega
  case c4=>omega
  case c5=>simp
  intro v' w1 hown1 hgrow1 hv;have hB1:Below w.heap.size w w1:=HA.out.grown hgrow1 (by simp) (λq hq=>(hown.lt q hq).1);have HO:=jq (show OwnB w1 w.heap.size v' bs by simpa using hown1);clear hown1 hgrow1 hv
  go_wp2_with fail
  go_ret
  exact⟨v',rfl,HO.out,hB1⟩
theorem equal_any (a b:Option Addr) (ca cb:Nat) (bs cs:List UInt8) (w:World) (h1:Lies w a (bs.map bv)) (h2:Lies w b (cs.map bv)) (hm:bs.length<=4000000000):
  Calls Tryz.prog 131 #[.slice a bs.length ca,.slice b cs.length cb] w λe w'=>e=.returned (.bool (bs==cs))/\∃n,w'=w.drewN n:=by
 by_cases hlm:bs.length=cs.length
 ·have hc:∀n,n<bs.length->∃b1 o1 b2 o2 x y,a=some ⟨b1,o1,none⟩/\b=some ⟨b2,o2,none⟩/\bs[n]? =some x/\cs[n]? =some y/\w.cell? ⟨b1,o1+n,none⟩=some (bv x)/\w.cell? ⟨b2,o2+n,none⟩=some (bv y):=λn hn=>by
   rcases h1 with h1|⟨b1,o1,e1,_,i1⟩
   ·exact absurd hn (by have:bs= []:=(by simpa using h1);subst this;exact Nat.not_lt_zero _)
   ·rcases h2 with h2|⟨b2,o2,e2,_,i2⟩
    ·exact absurd hn (by have:cs= []:=(by simpa using h2);subst this;rw[hlm];exact Nat.not_lt_zero _)
    ·exact⟨b1,o1,b2,o2,bs[n],cs[n],e1,e2,jg hn,jg (by omega),i1 n _ (bv_at (jg hn)),i2 n _ (bv_at (jg (by omega)))⟩
  have HC:=jq hc;have HL:=jq hlm;clear hc h1 h2;rw[<-hlm];clear hlm
  go_enter Tryz.func131,Tryz.ntmps131
  go_wp2_with fail
  go_loopw[13] (λi wr=>∃n:Nat,n<=bs.length/\i=.int .i64 n/\Hid (bs.take n=cs.take n)/\∃q,wr=w.drewN q) (λi _=>bs.length-(intOf i).toNat)
  case atStart=>exact⟨0,Nat.zero_le _,rfl,jq rfl,0,rfl⟩
  case round=>
   obtain⟨n,hn,rfl,htk,q,rfl⟩:=hrel
   by_cases hlt:n<bs.length
   ·obtain⟨b1,o1,b2,o2,x,y,rfl,rfl,hx,hy,c1,c2⟩:=HC.out n hlt;unfold bv at c1 c2;have hp0: (0:Int)<=(n:Int):=by omega
    have hp1: (n:Int) <(bs.length:Int):=by omega
    have HX:=jq hx;have HY:=jq hy;clear HC hx hy
    by_cases exy:x=y
    ·subst exy
     go_wp2_with fail
     go_quiet (fail)
     go_wp2_with fail
     refine⟨⟨n+1,by omega,by simp,jq (by rw[List.take_add_one,List.take_add_one,HX.out,HY.out,htk.out]),⟨_,rfl⟩⟩,?_⟩
     simp[intOf];omega
    ·have exy2: ((x.toNat:Int)==(y.toNat:Int))=false:=by
      simp
      intro e;exact exy (UInt8.toNat_inj.1 (by omega))
     have hno: (bs==cs)=false:=by
      simp
      intro e;subst e;exact exy (Option.some.inj (HX.out.symm.trans HY.out))
     have HNO:=jq hno;clear hno
     go_wp2_with fail
     go_quiet (fail)
     go_wp2_with fail
     go_ret
     exact⟨by rw[HNO.out];rfl,q+nq,by rw[World.drewN_drewN]⟩
   ·have e:n=bs.length:=by omega
    have hyes: (bs==cs)=true:=by
     have h:=htk.out;rw[e,jW jn,HL.out,jW jn]at h
     simp[h]
    have HY:=jq hyes;clear hyes e
    go_wp2_with fail
    go_ret
    exact⟨by rw[HY.out];rfl,q,rfl⟩
 ·have hne:decide (bs.length=cs.length)=false:=by simpa using hlm
  have hne2: ((bs.length:Int)==(cs.length:Int))=false:=by simp;omega
  have hno: (bs==cs)=false:=by
   simp
   intro e;exact hlm (by rw[e])
  rw[hno];clear h1 h2 hlm hno
  go_enter Tryz.func131,Tryz.ntmps131
  go_wp2_with fail
  go_ret
  exact⟨rfl,0,rfl⟩
def four (n:Nat):List UInt8:=[UInt8.ofNat n,UInt8.ofNat (n/256),UInt8.ofNat (n/65536),UInt8.ofNat (n/16777216)]
theorem four_length (n:Nat): (four n).length=4:=rfl
def marked (bs:List UInt8):List UInt8:=bs++four (sumF bs)
theorem mark_length (bs:List UInt8): (marked bs).length=bs.length+4:=by unfold marked;rw[jL,four_length]
theorem bv_of (n:Nat):Value.int .u8 ((n%256:Nat):Int)=bv (UInt8.ofNat n):=by unfold bv;simp
theorem bvI {y:Int} {n:Nat} (h:y=((n%256:Nat):Int)):Value.int .u8 y=bv (UInt8.ofNat n):=by rw[h,bv_of]
theorem one_at {w:World} {t:TypeId} {u v:Value} (h:u=v):∀j x,[v][j]? =some x->(w.alloc (.cells #[u] t)).cell? ((⟨w.heap.size,0,none⟩:Addr).add j)=some x:=λj x hx=>by
 subst h
 match j,hx with
 |0,hx=>
  have e:u=x:=by simpa using hx
  subst e;exact(Blk.new w t #[u]).cell 0
theorem one_cell (b:UInt8):∀u∈[bv b],u.oneCell'=true:=λu hu=>by simp at hu;subst hu;rfl
theorem mark_any (a:Option Addr) (cp:Nat) (bs:List UInt8) (w:World) (h:Lies w a (bs.map bv)) (hm:bs.length<=3000000):
  Calls Tryz.prog 108 #[.slice a bs.length cp] w λe w'=>∃v,e=.returned v/\OwnB w' w.heap.size v (marked bs)/\Below w.heap.size w w':=by
 obtain⟨i0,hi0,hz0,hz1,hz2⟩:=info_parts infoB8;have HC:=jq (clone_any a cp bs w h (by omega));have HH:=jq h;clear h
 go_enter Tryz.func108,Tryz.ntmps108
 go_wp2_with fail
 refine HC.out.mono ?_;rintro e w1 ⟨v,rfl,hown,hB1⟩;have hal:=(Below.refl w1.heap.size w1).alloc jn (.cells #[.slice a bs.length cp] 27);have hL1:=(HH.out.later hB1).later hal;have hsum:=sum_any (some ⟨w1.heap.size,0,none⟩) a 1 cp bs (w1.alloc (.cells #[.slice a bs.length cp] 27)) hL1 (new_lies w1 _ _) (by omega);have HS:=jq hsum;have HO:=jq (own_later hown hal);have HB:=jq (hB1.trans (hal.mono hB1.size));have hs1:=hB1.size;clear hal hL1 hsum hown hB1
 go_wp2_with fail
 refine HS.out.mono ?_;rintro e w2 ⟨rfl,hB2⟩;have HO2:=jq (own_later HO.out hB2);have HB2:=jq (HB.out.trans (hB2.mono (by simp;omega)));obtain⟨x,hx⟩:=jl (sumF bs);have hx32:x<2^32:=by rw[hx];exact sumF_lt bs
 have HM:=jq (show marked bs=bs++four x by rw[hx];rfl);rw[<-hx];clear hB2 HS HO HB HC hx
 go_wp2_with fail
 go_loopw[3,5] (λo i wr=>∃k:Nat,k<=4/\i=.int .i64 k/\Hid (OwnB wr w.heap.size o (bs++(four x).take k))/\Hid (Below w.heap.size w wr)) (λ_ i _=>4-(intOf i).toNat)
 case atStart=>exact⟨0,by omega,rfl,jq (by simpa using HO2.out),HB2⟩
 case round=>
  obtain⟨k,hk,rfl,hown,hB⟩:=hrel;have hBs:=hB.out.size;have hbr:=hown.out;have hl: (bs++(four x).take k).length=bs.length+k:=by rw[jL,jT,four_length];omega
  by_cases h4:k<4
  ·rcases(show k=0\/k=1\/k=2\/k=3 by omega)with rfl|rfl|rfl|rfl
   ·have E0:=jq (show Value.int .u8 ((x:Int)%256)=bv (UInt8.ofNat x)from bvI (by omega))
    go_wp2_with (first|(at_builtin;refine wpList_append_own _ rfl _ _ 27 rfl w.heap.size 5 i0 (.int .u8 0) 1 1 Tryz.underlying27 hi0 hz0 hz1 hz2 rfl (by decide) _ _ _ rfl (hbr.alloc _) ⟨wr.heap.size,0,none⟩ 1 1 [bv (UInt8.ofNat x)] rfl rfl (one_at E0.out) (one_cell _) ?c03 ?c04 ?c05 ?_))
    case c03=>rw[hl];unfold maxLen;omega
    case c04=>rw[hl];omega
    case c05=>simp;omega
    intro v' w3 hown3 hgrow3 _;have hB3:Below w.heap.size w w3:=(hB.out.alloc hBs _).grown hgrow3 (by simp;omega) (λq hq=>(hbr.lt q hq).1)
    have hO3:OwnB w3 w.heap.size v' (bs++(four x).take 1):=by
     have e:bs++(four x).take 1=(bs++(four x).take 0)++ [UInt8.ofNat x]:=by rw[List.append_assoc];rfl
     rw[e];unfold OwnB;rw[List.map_append,jL];exact(show w3.ownsRow _ _ _ _ _ _ by simpa[four_length]using hown3)
    have HB3:=jq hB3;have HO3:=jq hO3;clear hown3 hgrow3 hB3 hO3
    go_wp2_with fail
    go_roundw
    case rel=>exact⟨1,by omega,rfl,HO3,HB3⟩
    case measure=>simp[intOf]
   ·have E1:=jq (show Value.int .u8 ((x:Int)/256%256)=bv (UInt8.ofNat (x/256))from bvI (by omega))
    go_wp2_with (first|(at_builtin;refine wpList_append_own _ rfl _ _ 27 rfl w.heap.size 5 i0 (.int .u8 0) 1 1 Tryz.underlying27 hi0 hz0 hz1 hz2 rfl (by decide) _ _ _ rfl (hbr.alloc _) ⟨wr.heap.size,0,none⟩ 1 1 [bv (UInt8.ofNat (x/256))] rfl rfl (one_at E1.out) (one_cell _) ?c13 ?c14 ?c15 ?_))
    case c13=>rw[hl];unfold maxLen;omega
    case c14=>rw[hl];omega
    case c15=>simp;omega
    intro v' w3 hown3 hgrow3 _;have hB3:Below w.heap.size w w3:=(hB.out.alloc hBs _).grown hgrow3 (by simp;omega) (λq hq=>(hbr.lt q hq).1)
    have hO3:OwnB w3 w.heap.size v' (bs++(four x).take 2):=by
     have e:bs++(four x).take 2=(bs++(four x).take 1)++ [UInt8.ofNat (x/256)]:=by rw[List.append_assoc];rfl
     rw[e];unfold OwnB;rw[List.map_append,jL];exact(show w3.ownsRow _ _ _ _ _ _ by simpa[four_length]using hown3)
    have HB3:=jq hB3;have HO3:=jq hO3;clear hown3 hgrow3 hB3 hO3
    go_wp2_with fail
    go_roundw
    case rel=>exact⟨2,by omega,rfl,HO3,HB3⟩
    case measure=>simp[intOf]
   ·have E2:=jq (show Value.int .u8 ((x:Int)/65536%256)=bv (UInt8.ofNat (x/65536))from bvI (by omega))
    go_wp2_with (first|(at_builtin;refine wpList_append_own _ rfl _ _ 27 rfl w.heap.size 5 i0 (.int .u8 0) 1 1 Tryz.underlying27 hi0 hz0 hz1 hz2 rfl (by decide) _ _ _ rfl (hbr.alloc _) ⟨wr.heap.size,0,none⟩ 1 1 [bv (UInt8.ofNat (x/65536))] rfl rfl (one_at E2.out) (one_cell _) ?c23 ?c24 ?c25 ?_))
    case c23=>rw[hl];unfold maxLen;omega
    case c24=>rw[hl];omega
    case c25=>simp;omega
    intro v' w3 hown3 hgrow3 _;have hB3:Below w.heap.size w w3:=(hB.out.alloc hBs _).grown hgrow3 (by simp;omega) (λq hq=>(hbr.lt q hq).1)
    have hO3:OwnB w3 w.heap.size v' (bs++(four x).take 3):=by
     have e:bs++(four x).take 3=(bs++(four x).take 2)++ [UInt8.ofNat (x/65536)]:=by rw[List.append_assoc];rfl
     rw[e];unfold OwnB;rw[List.map_append,jL];exact(show w3.ownsRow _ _ _ _ _ _ by simpa[four_length]using hown3)
    have HB3:=jq hB3;have HO3:=jq hO3;clear hown3 hgrow3 hB3 hO3
    go_wp2_with fail
    go_roundw
    case rel=>exact⟨3,by omega,rfl,HO3,HB3⟩
    case measure=>simp[intOf]
   ·have E3:=jq (show Value.int .u8 ((x:Int)/16777216)=bv (UInt8.ofNat (x/16777216))from bvI (by omega))
    go_wp2_with (first|(at_builtin;refine wpList_append_own _ rfl _ _ 27 rfl w.heap.size 5 i0 (.int .u8 0) 1 1 Tryz.underlying27 hi0 hz0 hz1 hz2 rfl (by decide) _ _ _ rfl (hbr.alloc _) ⟨wr.heap.size,0,none⟩ 1 1 [bv (UInt8.ofNat (x/16777216))] rfl rfl (one_at E3.out) (one_cell _) ?c33 ?c34 ?c35 ?_))
    case c33=>rw[hl];unfold maxLen;omega
    case c34=>rw[hl];omega
    case c35=>simp;omega
    intro v' w3 hown3 hgrow3 _;have hB3:Below w.heap.size w w3:=(hB.out.alloc hBs _).grown hgrow3 (by simp;omega) (λq hq=>(hbr.lt q hq).1)
    have hO3:OwnB w3 w.heap.size v' (bs++(four x).take 4):=by
     have e:bs++(four x).take 4=(bs++(four x).take 3)++ [UInt8.ofNat (x/16777216)]:=by rw[List.append_assoc];rfl
     rw[e];unfold OwnB;rw[List.map_append,jL];exact(show w3.ownsRow _ _ _ _ _ _ by simpa[four_length]using hown3)
    have HB3:=jq hB3;have HO3:=jq hO3;clear hown3 hgrow3 hB3 hO3
    go_wp2_with fail
    go_roundw
    case rel=>exact⟨4,by omega,rfl,HO3,HB3⟩
    case measure=>simp[intOf]
  ·obtain rfl:k=4:=by omega
   rw[jW (by rw[four_length];exact Nat.le_refl _),<-HM.out]at hbr;have HBR:=jq hbr;clear hbr hown
   go_wp2_with fail
   go_ret
   exact⟨_,rfl,HBR.out,hB.out⟩
end Crc
namespace Crc
open Go.RowKit Go.Deep Mem
def bodyOf (bs:List UInt8):List UInt8:=bs.take (bs.length-4)
def fitsL (bs:List UInt8):List UInt8:=if 4<=bs.length/\marked (bodyOf bs)=bs then bodyOf bs else []
def fitsE (bs:List UInt8):Int:=if bs.length<4 then 2 else if marked (bodyOf bs)=bs then 0 else 5
theorem bodyOf_length (bs:List UInt8): (bodyOf bs).length=bs.length-4:=by unfold bodyOf;rw[jT];omega
theorem bodyOf_mark (bs:List UInt8):bodyOf (marked bs)=bs:=by
 unfold bodyOf;rw[mark_length,Nat.add_sub_cancel];unfold marked;rw[List.take_append_of_le_length jn,jW jn]
theorem fits_mark (bs:List UInt8):fitsL (marked bs)=bs/\fitsE (marked bs)=0:=by
 unfold fitsL fitsE;rw[bodyOf_mark,mark_length];exact⟨by rw[if_pos ⟨by omega,rfl⟩],by rw[if_neg (by omega),if_pos rfl]⟩
theorem fits_any (a:Option Addr) (cp:Nat) (bs:List UInt8) (w:World) (h:Lies w a (bs.map bv)) (hcp:bs.length<=cp) (hm:bs.length<=3000000):
  Calls Tryz.prog 119 #[.slice a bs.length cp] w λe w'=>∃v,e=.returned (.tuple #[v,.int .i64 (fitsE bs)])/\OwnB w' w.heap.size v (fitsL bs)/\Below w.heap.size w w':=by
 by_cases h4:bs.length<4
 ·have e1:fitsE bs=2:=if_pos h4;have e2:fitsL bs= []:=if_neg (by omega);rw[e1,e2];clear h e1 e2
  go_enter Tryz.func119,Tryz.ntmps119
  go_wp2_with fail
  go_ret2
  exact⟨_,rfl,World.ownsRow_nil _ _ _ _,Below.refl _ _⟩
 ·obtain⟨g,off,rfl,hg,hc⟩:=h.resolve_left (λe=>by
   rw[List.map_eq_nil_iff]at e;subst e;exact h4 (by decide))
  have hL:Lies w (some ⟨g,off,none⟩) (bs.map bv):=.inr ⟨g,off,rfl,hg,hc⟩;have hL2:Lies w (some ⟨g,off,none⟩) ((bodyOf bs).map bv):=by unfold bodyOf;rw[List.map_take];exact hL.take _
  obtain⟨m,hm4⟩:∃m,bs.length=m+4:=⟨bs.length-4,by omega⟩;have hol: (bodyOf bs).length=m:=by rw[bodyOf_length];omega
  have hcl:=clone_any (some ⟨g,off,none⟩) cp (bodyOf bs) w hL2 (by omega);rw[hol]at hcl;have HCL:=jq hcl;have HL:=jq hL;have HO:=jq hol;have HM4:=jq hm4;have hw:IntKind.i64.wrap ((m:Int)+4-4)=m:=by rw[show(m:Int)+4-4=m by omega];exact IntWalk.i64_in _ (by omega)
  have hmc:m<=cp:=by omega
  have e1:fitsE bs=if marked (bodyOf bs)=bs then 0 else 5:=if_neg h4
  have E1:=jq e1;rw[hm4];clear hc hg hL hL2 hol hcl e1 h4
  go_enter Tryz.func119,Tryz.ntmps119
  go_wp2_with fail
  refine HCL.out.mono ?_;rintro e w1 ⟨v,rfl,hown,hB1⟩;have hown2:OwnB w1 w.heap.size v (bodyOf bs):=hown;obtain⟨a1,c1,e1,_,hl1,_,_⟩:=own_shape hown2;subst e1;have hmk:=mark_any a1 c1 (bodyOf bs) w1 hl1 (by rw[HO.out];omega);have HMK:=jq hmk;have HOW:=jq hown2;have HB1:=jq hB1;have hs1:=hB1.size;clear hown hown2 hl1 hmk hB1
  go_wp2_with fail
  refine HMK.out.mono ?_;rintro e w2 ⟨v2,rfl,hown3,hB2⟩;obtain⟨a2,c2,e2,_,hl2,_,_⟩:=own_shape hown3;subst e2;have hs2:=hB2.size;have heq:=equal_any a2 (some ⟨g,off,none⟩) c2 cp (marked (bodyOf bs)) bs w2 hl2 ((HL.out.later HB1.out).later hB2) (by rw[mark_length,HO.out];omega);have hml: (marked (bodyOf bs)).length=m+4:=by rw[mark_length,HO.out]
  rw[hml,HM4.out]at heq;rw[hml];have HE:=jq heq;have HB2:=jq (HB1.out.trans (hB2.mono hs1));have HO2:=jq (own_later HOW.out hB2);clear hl2 heq hB2 hown3 hml
  go_wp2_with fail
  refine HE.out.mono ?_;rintro e w3 ⟨rfl,q,rfl⟩
  by_cases hy:marked (bodyOf bs)=bs
  ·have hb: (marked (bodyOf bs)==bs)=true:=by simpa using hy
   have e3:fitsE bs=0:=by rw[E1.out,if_pos hy]
   have e4:fitsL bs=bodyOf bs:=if_pos ⟨by rw[HM4.out];omega,hy⟩;rw[hb];have E3:=jq e3;have E4:=jq e4;clear hy hb e3 e4 HE
   go_wp2_with fail
   go_ret2
   refine⟨_,by rw[E3.out];rfl,?_,below_drewN HB2.out q⟩;rw[E4.out];exact HO2.out
  ·have hb: (marked (bodyOf bs)==bs)=false:=by simpa using hy
   have e3:fitsE bs=5:=by rw[E1.out,if_neg hy]
   have e4:fitsL bs= []:=if_neg (λh=>hy h.2);rw[hb];have E3:=jq e3;have E4:=jq e4;clear hy hb e3 e4 HE
   go_wp2_with fail
   go_ret2
   refine⟨_,by rw[E3.out];rfl,?_,below_drewN HB2.out q⟩;rw[E4.out];exact World.ownsRow_nil _ _ _ _
end Crc
namespace Frame
open Go.RowKit Go.Deep Mem Crc
def head (kind:UInt8) (n:Nat):List UInt8:=[kind,UInt8.ofNat n,UInt8.ofNat (n/256),UInt8.ofNat (n/65536),UInt8.ofNat (n/16777216)]
def frameL (kind:UInt8) (body:List UInt8):List UInt8:=marked (head kind body.length)++marked body
theorem frameL_length (kind:UInt8) (body:List UInt8): (frameL kind body).length=body.length+13:=by
 unfold frameL;rw[jL,mark_length,mark_length]
 simp[head]
 omega
theorem own_some {w:World} {base:Nat} {v:Value} {bs:List UInt8} (h:OwnB w base v bs) (h0:0<bs.length):∃g cap,v=.slice (some ⟨g,0,none⟩) bs.length cap/\bs.length<=cap/\base<=g/\g<w.heap.size:=by
 rcases h.2 with⟨_,e⟩|⟨g,cap,cur,e,r⟩
 ·omega
 ·subst e;exact⟨g,cap,rfl,r.2.2.1,World.ownsRow.lt h g rfl⟩
theorem put_nil (kind:UInt8) (a:Option Addr) (cp:Nat) (body:List UInt8) (w:World) (h:Lies w a (body.map bv)) (hm:body.length<=1048576):
  Calls Tryz.prog 71 #[.slice none 0 0,.agg #[.int .u8 (kind.toNat:Int),.slice a body.length cp]] w λe w'=>∃v,e=.returned (.tuple #[v,.int .i64 0])/\OwnB w' w.heap.size v (frameL kind body)/\Below w.heap.size w w':=by
 obtain⟨i0,hi0,hz0,hz1,hz2⟩:=info_parts infoB8;have hal:=(Below.refl w.heap.size w).alloc jn (.cells #[.int .u8 (kind.toNat:Int),.slice a body.length cp] 128);have hbx:=Blk.new w 128 #[.int .u8 (kind.toNat:Int),.slice a body.length cp];obtain⟨n,hn⟩:=jl body.length;obtain⟨W,hW⟩:=jl (w.alloc (.cells #[.int .u8 (kind.toNat:Int),.slice a body.length cp] 128));rw[<-hW]at hal hbx;rw[<-hn]at hbx;have hhd:=hal.alloc (by have:=hal.size;exact this) (.cells ((head kind n).map bv).toArray 5);have hmk:=mark_any (some ⟨W.heap.size,0,none⟩) 5 (head kind n) (W.alloc (.cells ((head kind n).map bv).toArray 5)) (by have:=new_lies W 5 ((head kind n).map bv).toArray;simpa using this) (by simp[head]);have hWs:W.heap.size=w.heap.size+1:=by rw[hW];simp
 rw[hWs,show(head kind n).length=5 from rfl]at hmk;have HMK:=jq hmk;have HL:=jq h;have HAL:=jq hal;have HHD:=jq hhd;have HBX:=jq (hbx.alloc (.cells ((head kind n).map bv).toArray 5));have HW:=jq hW;have HN:=jq hn;have hsW:=hal.size;have hm2:n<=1048576:=by omega
 have hm3:decide ((1048576:Int) <(n:Int))=false:=by simp;omega
 have E:=jq (show(#[.int .u8 (kind.toNat:Int),.int .u8 ((n:Int)%256),.int .u8 ((n:Int)/256%256),.int .u8 ((n:Int)/65536),.int .u8 ((n:Int)/16777216)]:Array Value)=((head kind n).map bv).toArray by
  rw[bvI (y:=(n:Int)%256) (n:=n) (by omega),bvI (y:=(n:Int)/256%256) (n:=n/256) (by omega),bvI (y:=(n:Int)/65536) (n:=n/65536) (by omega),bvI (y:=(n:Int)/16777216) (n:=n/16777216) (by omega)]
  rfl)
 rw[<-hn]at HW⊢;clear h hal hhd hmk hbx hn hm hWs
 go_enter Tryz.func71,Tryz.ntmps71
 go_wp2_with fail
 rw[E.out,<-HW.out];refine HMK.out.mono ?_;rintro e w1 ⟨v1,rfl,hown1,hB1⟩;obtain⟨g1,c1,e1,hc1,_,hg1⟩:=own_some hown1 (by rw[mark_length];omega);subst e1;have hs1:=hB1.size;have hs0:w.heap.size+2<=(W.alloc (.cells ((head kind n).map bv).toArray 5)).heap.size:=by rw[HW.out];simp
 have hBw:Below w.heap.size w w1:=HHD.out.trans (hB1.mono (by omega));obtain⟨a1,c1',e1',_,hl1,_,_⟩:=own_shape hown1;cases e1';have hml: (marked (head kind n)).length=9:=by rw[mark_length];rfl
 rw[hml];have HL1:=jq (lies_add hl1);have H1:=jq (oneCell_bytes (marked (head kind n)));have hbx1:=HBX.out.below hB1 HBX.out.lt;have x1:=hbx1.cell 1
 simp at x1
 have HML:=jq hml;have HBw:=jq hBw;have HBX1:=jq hbx1;have hnil:=World.ownsRow_nil w1 w.heap.size 5 1;have hsw1:=hBw.size;clear hown1 hl1 hml hbx1 hBw hB1 HMK HHD HAL E HW
 go_wp2_with (first|(at_builtin;refine wpList_append_own _ rfl _ _ 27 rfl w.heap.size 5 i0 (.int .u8 0) 1 1 Tryz.underlying27 hi0 hz0 hz1 hz2 rfl (by decide) _ _ _ rfl hnil ⟨g1,0,none⟩ 9 c1 ((marked (head kind n)).map bv) rfl ?c1 HL1.out H1.out ?c3 ?c4 ?c5 ?_))
 case c1=>rw[jP,HML.out]
 case c3=>decide
 case c4=>decide
 case c5=>exact hsw1
 intro v2 w2 hown2 hgrow2 _;have hB12:Below w1.heap.size w1 w2:=(Below.refl _ w1).grown hgrow2 jn (λk hk=>by cases hk);have hbx2:=HBX1.out.below hB12 HBX1.out.lt;have x2:=hbx2.cell 1
 simp at x2
 have HB2:=jq (HBw.out.trans (hB12.mono hsw1));have hO2:OwnB w2 w.heap.size v2 (marked (head kind n)):=by unfold OwnB;rw[HML.out];exact hown2
 have hmk2:=mark_any a cp body w2 (HL.out.later HB2.out) (by have:=HN.out;omega);rw[<-HN.out]at hmk2;have HMK2:=jq hmk2;have HO2:=jq hO2;have hs2:=HB2.out.size;have hlt2:=hbx2.lt;clear hown2 hgrow2 hbx2 hB12 hO2 hmk2 x1 hnil
 go_wp2_with fail
 refine HMK2.out.mono ?_;rintro e w3 ⟨v3,rfl,hown3,hB3⟩;obtain⟨g3,c3,e3,hc3,_,hg3⟩:=own_some hown3 (by rw[mark_length];omega);subst e3;obtain⟨a3,c3',e3',_,hl3,_,_⟩:=own_shape hown3;cases e3';have hs3:=hB3.size;have HL3:=jq (lies_add hl3);have H3:=jq (oneCell_bytes (marked body));have hO3:=own_later HO2.out hB3;have HB3:=jq (HB2.out.trans (hB3.mono hs2));have hl0: (marked (head kind n)).length+(marked body).length<=1048600:=by rw[HML.out,mark_length,<-HN.out];omega
 clear hown3 hl3 hB3 HMK2 x2
 go_wp2_with (first|(at_builtin;refine wpList_append_own _ rfl _ _ 27 rfl w.heap.size 5 i0 (.int .u8 0) 1 1 Tryz.underlying27 hi0 hz0 hz1 hz2 rfl (by decide) _ _ _ rfl hO3 ⟨g3,0,none⟩ (marked body).length c3 ((marked body).map bv) rfl ?d1 HL3.out H3.out ?d3 ?d4 ?d5 ?_))
 case d1=>simp
 case d3=>unfold maxLen;omega
 case d4=>omega
 case d5=>omega
 intro v4 w4 hown4 hgrow4 _;have hB4:=HB3.out.grown hgrow4 (by omega) (λq hq=>(hO3.lt q hq).1)
 have hO4:OwnB w4 w.heap.size v4 (frameL kind body):=by
  unfold OwnB frameL;rw[List.map_append,jL,<-HN.out];exact hown4
 have HO4:=jq hO4;clear hown4 hgrow4 hO4 hO3
 go_wp2_with fail
 go_ret2
 exact⟨v4,rfl,HO4.out,hB4⟩
end Frame
namespace Walk
open Go.RowKit Go.Deep Mem Crc
def ok (x:List Nat):Prop:=x.length=7/\∀n∈x,n<4294967296
def vals (x:List Nat):List Value:=x.map (λn:Nat=>Value.int .u32 (n:Int))
def flatW (l:List (List Nat)):List Value:=l.flatMap vals
def bytes (x:List Nat):List UInt8:=x.flatMap four
def all (l:List (List Nat)):List UInt8:=l.flatMap bytes
theorem ok_seven {x:List Nat} (h:ok x):∃a b c d e f g:Nat,x= [a,b,c,d,e,f,g]:=by
 obtain⟨hl,_⟩:=h
 match x,hl with
 | [a,b,c,d,e,f,g],_=>exact⟨a,b,c,d,e,f,g,rfl⟩
theorem apart_any (x:List Nat) (w:World) (h:ok x):
  Calls Tryz.prog 109 #[.agg (vals x).toArray] w λe w'=>e=.returned (.agg (vals x).toArray)/\Below w.heap.size w w':=by
 obtain⟨a,b,c,d,e,f,g,rfl⟩:=ok_seven h;clear h;simp only[vals,List.map]
 go_enter Tryz.func109,Tryz.ntmps109
 go_wp2_with fail
 refine bodyPost_ret (v:=.agg #[.int .u32 a,.int .u32 b,.int .u32 c,.int .u32 d,.int .u32 e,.int .u32 f,.int .u32 g]) (by simp[results,Tryz.results109,go_sem]) rfl ⟨rfl,?_⟩;exact((Below.refl _ w).alloc jn _).alloc (by simp) _
theorem together_any (x:List Nat) (w:World) (h:ok x):
  Calls Tryz.prog 87 #[.agg (vals x).toArray] w λe w'=>e=.returned (.agg (vals x).toArray)/\Below w.heap.size w w':=by
 obtain⟨a,b,c,d,e,f,g,rfl⟩:=ok_seven h;clear h;simp only[vals,List.map]
 go_enter Tryz.func87,Tryz.ntmps87
 go_wp2_with fail
 refine bodyPost_ret (v:=.agg #[.int .u32 a,.int .u32 b,.int .u32 c,.int .u32 d,.int .u32 e,.int .u32 f,.int .u32 g]) (by simp[results,Tryz.results87,go_sem]) rfl ⟨rfl,?_⟩;exact((Below.refl _ w).alloc jn _).alloc (by simp) _
end Walk
namespace Walk
open Go.RowKit Go.Deep Mem Crc
theorem vals_length (x:List Nat): (vals x).length=x.length:=by simp[vals]
theorem flatW_length (l:List (List Nat)) (h:∀x∈l,ok x): (flatW l).length=l.length*7:=by
 unfold flatW
 induction l with
 |nil=>rfl
 |cons x r ih=>
  rw[jC,jL,ih (λy hy=>h y (List.mem_cons_of_mem _ hy)),vals_length,(h x (List.mem_cons_self ..)).1,List.length_cons]
  omega
theorem bytes_length (x:List Nat) (h:ok x): (bytes x).length=28:=by
 obtain⟨a,b,c,d,e,f,g,rfl⟩:=ok_seven h
 rfl
theorem all_length (l:List (List Nat)) (h:∀x∈l,ok x): (all l).length=l.length*28:=by
 unfold all
 induction l with
 |nil=>rfl
 |cons x r ih=>
  rw[jC,jL,ih (λy hy=>h y (List.mem_cons_of_mem _ hy)),bytes_length x (h x (List.mem_cons_self ..)),List.length_cons]
  omega
theorem flatW_at {l:List (List Nat)} (h:∀x∈l,ok x) {i j:Nat} {x:List Nat} (hx:l[i]? =some x) (hj:j<7): (flatW l)[i*7+j]? =(vals x)[j]?:=by
 induction l generalizing i with
 |nil=>simp at hx
 |cons y r ih=>
  unfold flatW;rw[jC];have hy:=(h y (List.mem_cons_self ..)).1
  cases i with
  |zero=>
   obtain rfl:y=x:=by simpa using hx
   rw[Nat.zero_mul,Nat.zero_add,List.getElem?_append_left (by rw[vals_length];omega)]
  |succ i=>
   rw[List.getElem?_append_right (by rw[vals_length];omega),vals_length,hy,show(i+1)*7+j-7=i*7+j by omega];exact ih (λz hz=>h z (List.mem_cons_of_mem _ hz)) (by simpa using hx)
theorem cells_at {w:World} {g off:Nat} {l:List (List Nat)} (h:∀x∈l,ok x) (hL:Lies w (some ⟨g,off,none⟩) (flatW l)) {i:Nat} {x:List Nat} (hx:l[i]? =some x) (j:Nat) (u:Value) (hu: (vals x)[j]? =some u):w.cell? ⟨g,off+(i*7+j),none⟩=some u:=by
 have hj:j<7:=by
  have:=(jS.1 hu).1;rw[vals_length,(h x (jM hx)).1]at this;exact this
 rcases hL with h0|⟨g',off',e,_,hc⟩
 ·have:=flatW_length l h;rw[h0]at this;have hi:=(jS.1 hx).1
  simp at this
  omega
 ·cases e;exact hc _ u (by rw[flatW_at h hx hj];exact hu)
theorem all_snoc (l:List (List Nat)) (i:Nat) (x:List Nat) (h:l[i]? =some x):all (l.take (i+1))=all (l.take i)++bytes x:=by
 unfold all;rw[List.take_add_one,h,List.flatMap_append]
 simp
theorem bytes_snoc (x:List Nat) (i n:Nat) (h:x[i]? =some n):bytes (x.take (i+1))=bytes (x.take i)++four n:=by
 unfold bytes;rw[List.take_add_one,h,List.flatMap_append]
 simp
theorem index0 (a b c d e f g:Nat) (w:World): (Instr.index 165 (.agg #[.int .u32 (a:Int),.int .u32 (b:Int),.int .u32 (c:Int),.int .u32 (d:Int),.int .u32 (e:Int),.int .u32 (f:Int),.int .u32 (g:Int)]) (.int .i64 0)).run Tryz.prog w=.ok (.int .u32 (a:Int)) w:=by kernel_rfl
theorem index1 (a b c d e f g:Nat) (w:World): (Instr.index 165 (.agg #[.int .u32 (a:Int),.int .u32 (b:Int),.int .u32 (c:Int),.int .u32 (d:Int),.int .u32 (e:Int),.int .u32 (f:Int),.int .u32 (g:Int)]) (.int .i64 1)).run Tryz.prog w=.ok (.int .u32 (b:Int)) w:=by kernel_rfl
theorem index2 (a b c d e f g:Nat) (w:World): (Instr.index 165 (.agg #[.int .u32 (a:Int),.int .u32 (b:Int),.int .u32 (c:Int),.int .u32 (d:Int),.int .u32 (e:Int),.int .u32 (f:Int),.int .u32 (g:Int)]) (.int .i64 2)).run Tryz.prog w=.ok (.int .u32 (c:Int)) w:=by kernel_rfl
theorem index3 (a b c d e f g:Nat) (w:World): (Instr.index 165 (.agg #[.int .u32 (a:Int),.int .u32 (b:Int),.int .u32 (c:Int),.int .u32 (d:Int),.int .u32 (e:Int),.int .u32 (f:Int),.int .u32 (g:Int)]) (.int .i64 3)).run Tryz.prog w=.ok (.int .u32 (d:Int)) w:=by kernel_rfl
theorem index4 (a b c d e f g:Nat) (w:World): (Instr.index 165 (.agg #[.int .u32 (a:Int),.int .u32 (b:Int),.int .u32 (c:Int),.int .u32 (d:Int),.int .u32 (e:Int),.int .u32 (f:Int),.int .u32 (g:Int)]) (.int .i64 4)).run Tryz.prog w=.ok (.int .u32 (e:Int)) w:=by kernel_rfl
theorem index5 (a b c d e f g:Nat) (w:World): (Instr.index 165 (.agg #[.int .u32 (a:Int),.int .u32 (b:Int),.int .u32 (c:Int),.int .u32 (d:Int),.int .u32 (e:Int),.int .u32 (f:Int),.int .u32 (g:Int)]) (.int .i64 5)).run Tryz.prog w=.ok (.int .u32 (f:Int)) w:=by kernel_rfl
theorem index6 (a b c d e f g:Nat) (w:World): (Instr.index 165 (.agg #[.int .u32 (a:Int),.int .u32 (b:Int),.int .u32 (c:Int),.int .u32 (d:Int),.int .u32 (e:Int),.int .u32 (f:Int),.int .u32 (g:Int)]) (.int .i64 6)).run Tryz.prog w=.ok (.int .u32 (g:Int)) w:=by kernel_rfl
theorem index_at (a b c d e f g:Nat) (j n:Nat) (w:World) (hn: [a,b,c,d,e,f,g][j]? =some n): (Instr.index 165 (.agg #[.int .u32 (a:Int),.int .u32 (b:Int),.int .u32 (c:Int),.int .u32 (d:Int),.int .u32 (e:Int),.int .u32 (f:Int),.int .u32 (g:Int)]) (.int .i64 (j:Int))).run Tryz.prog w=.ok (.int .u32 (n:Int)) w:=by
 match j,hn with
 |0,hn=>cases hn;exact index0 a b c d e f g w
 |1,hn=>cases hn;exact index1 a b c d e f g w
 |2,hn=>cases hn;exact index2 a b c d e f g w
 |3,hn=>cases hn;exact index3 a b c d e f g w
 |4,hn=>cases hn;exact index4 a b c d e f g w
 |5,hn=>cases hn;exact index5 a b c d e f g w
 |6,hn=>cases hn;exact index6 a b c d e f g w
 |_+7,hn=>simp at hn
theorem put_nil (a:Option Addr) (cp:Nat) (l:List (List Nat)) (w:World) (h:Lies w a (flatW l)) (hok:∀x∈l,ok x) (hm:l.length<=100000):
  Calls Tryz.prog 72 #[.slice none 0 0,.slice a l.length cp] w λe w'=>∃v,e=.returned v/\OwnB w' w.heap.size v (all l)/\Below w.heap.size w w':=by
 obtain⟨i0,hi0,hz0,hz1,hz2⟩:=info_parts infoB8;have HL:=jq h;have HOK:=jq hok;clear h hok
 go_enter Tryz.func72,Tryz.ntmps72
 go_wp2_with fail
 go_loopw[0,11] (λb i wr=>∃k:Nat,k<=l.length/\i=.int .i64 k/\Hid (OwnB wr w.heap.size b (all (l.take k)))/\Hid (Below w.heap.size w wr)) (λ_ i _=>l.length-(intOf i).toNat)
 case atStart=>exact⟨0,Nat.zero_le _,rfl,jq (World.ownsRow_nil _ _ _ _),jq (Below.refl _ _)⟩
 case round=>
  obtain⟨k,hk,rfl,hO,hB⟩:=hrel
  by_cases hlt:k<l.length
  ·obtain⟨x,hx⟩:∃x,l[k]? =some x:=⟨_,jg hlt⟩;have hxk:=HOK.out x (jM hx);obtain⟨x0,x1,x2,x3,x4,x5,x6,ex⟩:=ok_seven hxk
   obtain⟨g,off,rfl,_,_⟩:=HL.out.resolve_left (λe=>by
    have:=flatW_length l HOK.out;rw[e]at this
    simp at this
    omega)
   have hc:=cells_at HOK.out (HL.out.later hB.out) hx;rw[ex]at hc;have c0:=hc 0 _ rfl;have c1:=hc 1 _ rfl;have c2:=hc 2 _ rfl;have c3:=hc 3 _ rfl;have c4:=hc 4 _ rfl;have c5:=hc 5 _ rfl;have c6:=hc 6 _ rfl;simp only[Nat.add_zero,<-Nat.add_assoc]at c0 c1 c2 c3 c4 c5 c6;have hap:=apart_any x (wr.alloc (.cells (vals x).toArray 26)) hxk;rw[ex]at hap;simp only[vals,List.map]at hap;have HAP:=jq hap;clear hc hap;have hal:=(Below.refl wr.heap.size wr).alloc jn (.cells #[.int .u32 x0,.int .u32 x1,.int .u32 x2,.int .u32 x3,.int .u32 x4,.int .u32 x5,.int .u32 x6] 26);have HAL:=jq hal;have hBs:=hB.out.size;have hxlt:∀n∈x,n<4294967296:=hxk.2;have HX:=jq hx;have HXK:=jq hxk;have HEX:=jq ex;have HXLT:=jq hxlt;have hix:∀(j:Nat) (n:Nat) (w:World),x[j]? =some n->(Instr.index 165 (.agg #[.int .u32 x0,.int .u32 x1,.int .u32 x2,.int .u32 x3,.int .u32 x4,.int .u32 x5,.int .u32 x6]) (.int .i64 (j:Int))).run Tryz.prog w=.ok (.int .u32 (n:Int)) w:=λj n w hn=>index_at _ _ _ _ _ _ _ j n w (by rw[<-ex];exact hn)
   have HIX:=jq hix;clear hal hx hxk ex hxlt hix
   go_wp2_with fail
   refine HAP.out.mono ?_;rintro e w1 ⟨rfl,hB1⟩;have HO1:=jq (own_later (own_later hO.out HAL.out) hB1);have HB1:=jq ((hB.out.trans (HAL.out.mono hBs)).trans (hB1.mono (by simp;omega)));clear hB1
   go_wp2_with fail
   go_loopw[0,17] (λb i wq=>∃j:Nat,j<=7/\i=.int .i64 j/\Hid (OwnB wq w.heap.size b (all (l.take k)++bytes (x.take j)))/\Hid (Below w.heap.size w wq)) (λ_ i _=>7-(intOf i).toNat)
   case atStart=>exact⟨0,by omega,rfl,jq (by simpa[bytes]using HO1.out),HB1⟩
   case round=>
    obtain⟨j,hj,rfl,hO,hB⟩:=hrel
    by_cases hj7:j<7
    ·obtain⟨n,hn⟩:∃n,x[j]? =some n:=⟨_,jg (by have:=HXK.out.1;omega)⟩;have hn32:=HXLT.out n (jM hn);have hin:=λw=>HIX.out j n w hn
     have hd7:decide ((j:Int) <7)=true:=by simp;omega
     have HN:=jq hn;clear hn;obtain⟨pre,hpre⟩:=jl (all (l.take k)++bytes (x.take j))
     have hpl:pre.length<=2800028:=by
      rw[hpre,jL,all_length _ (λy hy=>HOK.out y (List.mem_of_mem_take hy)),jT]
      have h1: (bytes (x.take j)).length<=28:=by
       have h2: (bytes x).length=28:=bytes_length x HXK.out;have h3:bytes x=bytes (x.take j)++bytes (x.drop j):=by unfold bytes;rw[<-List.flatMap_append,List.take_append_drop]
       rw[h3,jL]at h2
       omega
      omega
     have HPRE:=jq hpre;have HO':=jq (show OwnB _ w.heap.size u0 pre by rw[hpre];exact hO.out);clear hpre
     go_wp2_with fail
     go_loopw[0,8,20] (λb q i wq=>∃k:Nat,k<=4/\i=.int .i64 k/\q=.int .u32 ((n/256^k:Nat):Int)/\Hid (OwnB wq w.heap.size b (pre++(four n).take k))/\Hid (Below w.heap.size w wq)) (λ_ _ i _=>4-(intOf i).toNat)
     case atStart=>exact⟨0,by omega,rfl,by simp,jq (by simpa using HO'.out),hB⟩
     case round=>
      obtain⟨k4,hk4,rfl,rfl,hown,hB⟩:=hrel;have hBs:=hB.out.size;have hbr:=hown.out;have hl: (pre++(four n).take k4).length=pre.length+k4:=by rw[jL,jT,four_length];omega
      by_cases h4:k4<4
      ·rcases(show k4=0\/k4=1\/k4=2\/k4=3 by omega)with rfl|rfl|rfl|rfl
       ·have E0:=jq (show Value.int .u8 ((n:Int)%256)=bv (UInt8.ofNat n)from bvI (by omega))
        go_wp2_with (first|(at_builtin;refine wpList_append_own _ rfl _ _ 27 rfl w.heap.size 5 i0 (.int .u8 0) 1 1 Tryz.underlying27 hi0 hz0 hz1 hz2 rfl (by decide) _ _ _ rfl (hbr.alloc _) ⟨wr.heap.size,0,none⟩ 1 1 [bv (UInt8.ofNat n)] rfl rfl (one_at E0.out) (one_cell _) ?c03 ?c04 ?c05 ?_))
        case c03=>rw[hl];unfold maxLen;omega
        case c04=>rw[hl];omega
        case c05=>simp;omega
        intro v' w3 hown3 hgrow3 _;have hB3:Below w.heap.size w w3:=(hB.out.alloc hBs _).grown hgrow3 (by simp;omega) (λq hq=>(hbr.lt q hq).1)
        have hO3:OwnB w3 w.heap.size v' (pre++(four n).take 1):=by
         have e:pre++(four n).take 1=(pre++(four n).take 0)++ [UInt8.ofNat n]:=by rw[List.append_assoc];rfl
         rw[e];unfold OwnB;rw[List.map_append,jL];exact(show w3.ownsRow _ _ _ _ _ _ by simpa[four_length]using hown3)
        have HB3:=jq hB3;have HO3:=jq hO3;clear hown3 hgrow3 hB3 hO3
        go_wp2_with fail
        go_roundw
        case rel=>exact⟨1,by omega,rfl,by simp,HO3,HB3⟩
        case measure=>simp[intOf]
       ·have E1:=jq (show Value.int .u8 (((n/256:Nat):Int)%256)=bv (UInt8.ofNat (n/256))from bvI (by omega))
        go_wp2_with (first|(at_builtin;refine wpList_append_own _ rfl _ _ 27 rfl w.heap.size 5 i0 (.int .u8 0) 1 1 Tryz.underlying27 hi0 hz0 hz1 hz2 rfl (by decide) _ _ _ rfl (hbr.alloc _) ⟨wr.heap.size,0,none⟩ 1 1 [bv (UInt8.ofNat (n/256))] rfl rfl (one_at E1.out) (one_cell _) ?c13 ?c14 ?c15 ?_))
        case c13=>rw[hl];unfold maxLen;omega
        case c14=>rw[hl];omega
        case c15=>simp;omega
        intro v' w3 hown3 hgrow3 _;have hB3:Below w.heap.size w w3:=(hB.out.alloc hBs _).grown hgrow3 (by simp;omega) (λq hq=>(hbr.lt q hq).1)
        have hO3:OwnB w3 w.heap.size v' (pre++(four n).take 2):=by
         have e:pre++(four n).take 2=(pre++(four n).take 1)++ [UInt8.ofNat (n/256)]:=by rw[List.append_assoc];rfl
         rw[e];unfold OwnB;rw[List.map_append,jL];exact(show w3.ownsRow _ _ _ _ _ _ by simpa[four_length]using hown3)
        have HB3:=jq hB3;have HO3:=jq hO3;clear hown3 hgrow3 hB3 hO3
        go_wp2_with fail
        go_roundw
        case rel=>exact⟨2,by omega,rfl,by simp;omega,HO3,HB3⟩
        case measure=>simp[intOf]
       ·have E2:=jq (show Value.int .u8 (((n/65536:Nat):Int)%256)=bv (UInt8.ofNat (n/65536))from bvI (by omega))
        go_wp2_with (first|(at_builtin;refine wpList_append_own _ rfl _ _ 27 rfl w.heap.size 5 i0 (.int .u8 0) 1 1 Tryz.underlying27 hi0 hz0 hz1 hz2 rfl (by decide) _ _ _ rfl (hbr.alloc _) ⟨wr.heap.size,0,none⟩ 1 1 [bv (UInt8.ofNat (n/65536))] rfl rfl (one_at E2.out) (one_cell _) ?c23 ?c24 ?c25 ?_))
        case c23=>rw[hl];unfold maxLen;omega
        case c24=>rw[hl];omega
        case c25=>simp;omega
        intro v' w3 hown3 hgrow3 _;have hB3:Below w.heap.size w w3:=(hB.out.alloc hBs _).grown hgrow3 (by simp;omega) (λq hq=>(hbr.lt q hq).1)
        have hO3:OwnB w3 w.heap.size v' (pre++(four n).take 3):=by
         have e:pre++(four n).take 3=(pre++(four n).take 2)++ [UInt8.ofNat (n/65536)]:=by rw[List.append_assoc];rfl
         rw[e];unfold OwnB;rw[List.map_append,jL];exact(show w3.ownsRow _ _ _ _ _ _ by simpa[four_length]using hown3)
        have HB3:=jq hB3;have HO3:=jq hO3;clear hown3 hgrow3 hB3 hO3
        go_wp2_with fail
        go_roundw
        case rel=>exact⟨3,by omega,rfl,by simp;omega,HO3,HB3⟩
        case measure=>simp[intOf]
       ·have E3:=jq (show Value.int .u8 (((n/16777216:Nat):Int))=bv (UInt8.ofNat (n/16777216))from bvI (by omega))
        go_wp2_with (first|(at_builtin;refine wpList_append_own _ rfl _ _ 27 rfl w.heap.size 5 i0 (.int .u8 0) 1 1 Tryz.underlying27 hi0 hz0 hz1 hz2 rfl (by decide) _ _ _ rfl (hbr.alloc _) ⟨wr.heap.size,0,none⟩ 1 1 [bv (UInt8.ofNat (n/16777216))] rfl rfl (one_at E3.out) (one_cell _) ?c33 ?c34 ?c35 ?_))
        case c33=>rw[hl];unfold maxLen;omega
        case c34=>rw[hl];omega
        case c35=>simp;omega
        intro v' w3 hown3 hgrow3 _;have hB3:Below w.heap.size w w3:=(hB.out.alloc hBs _).grown hgrow3 (by simp;omega) (λq hq=>(hbr.lt q hq).1)
        have hO3:OwnB w3 w.heap.size v' (pre++(four n).take 4):=by
         have e:pre++(four n).take 4=(pre++(four n).take 3)++ [UInt8.ofNat (n/16777216)]:=by rw[List.append_assoc];rfl
         rw[e];unfold OwnB;rw[List.map_append,jL];exact(show w3.ownsRow _ _ _ _ _ _ by simpa[four_length]using hown3)
        have HB3:=jq hB3;have HO3:=jq hO3;clear hown3 hgrow3 hB3 hO3
        go_wp2_with fail
        go_roundw
        case rel=>exact⟨4,by omega,rfl,by simp;omega,HO3,HB3⟩
        case measure=>simp[intOf]
      ·obtain rfl:k4=4:=by omega
       have e:pre++(four n).take 4=all (l.take k)++bytes (x.take (j+1)):=by
        rw[bytes_snoc x j n HN.out,HPRE.out,List.append_assoc]
        rfl
       have hfin:=hbr;rw[e]at hfin;clear e;have HFIN:=jq hfin;clear hfin hbr hown
       go_wp2_with fail
       go_roundw
       case rel=>exact⟨j+1,by omega,by simp,HFIN,hB⟩
       case measure=>simp[intOf];omega
    ·obtain rfl:j=7:=by omega
     have e:all (l.take k)++bytes (x.take 7)=all (l.take (k+1)):=by
      rw[all_snoc l k x HX.out,show x.take 7=x from jW (by have:=HXK.out.1;omega)]
     have hfin:=hO.out;rw[e]at hfin;clear e;have HFIN:=jq hfin;clear hfin
     go_wp2_with fail
     go_roundw
     case rel=>exact⟨k+1,by omega,by simp,HFIN,hB⟩
     case measure=>simp[intOf];omega
  ·obtain rfl:k=l.length:=by omega
   have hfin:=hO.out;rw[jW jn]at hfin;have HFIN:=jq hfin;clear hfin hO
   go_wp2_with fail
   go_ret
   exact⟨_,rfl,HFIN.out,hB.out⟩
end Walk
namespace Pool
open Go.RowKit Go.Deep Mem Crc Walk
theorem walker_at {w:World} {a:Option Addr} {l:List (List Nat)} (hok:∀x∈l,ok x) (hL:Lies w a (flatW l)) {k:Nat} {x:List Nat} (hx:l[k]? =some x):∃g o,a=some ⟨g,o,none⟩/\∀j u,(vals x)[j]? =some u->w.cell? ⟨g,o+(k*7+j),none⟩=some u:=by
 have hne:flatW l≠[]:=λe=>by
  have:=flatW_length l hok;rw[e]at this;have hk:=(jS.1 hx).1
  simp at this
  omega
 obtain⟨g,o,rfl,hg,hc⟩:=hL.resolve_left hne;exact⟨g,o,rfl,λj u hu=>cells_at hok (.inr ⟨g,o,rfl,hg,hc⟩) hx j u hu⟩
end Pool
namespace Text
open Go.RowKit Go.Deep Mem Crc
def dig (n:Nat):UInt8:=UInt8.ofNat (48+n%10)
def decA:Nat->Nat->List UInt8->List UInt8
 |0,_,acc=>acc
 |f+1,n,acc=>if n/10=0 then dig n ::acc else decA f (n/10) (dig n ::acc)
def dec (n:Nat):List UInt8:=decA 20 n []
theorem decA_length:∀(f n:Nat) (acc:List UInt8),(decA f n acc).length<=acc.length+f
 |0,_,_=>Nat.le_refl _
 |f+1,n,acc=>by
  unfold decA
  split
  ·simp
  ·have:=decA_length f (n/10) (dig n ::acc)
   simp at this
   omega
theorem dig_nat (n:Nat): (dig n).toNat=48+n%10:=by unfold dig;simp;omega
abbrev z20:Array Value:=#[.int .u8 0,.int .u8 0,.int .u8 0,.int .u8 0,.int .u8 0,.int .u8 0,.int .u8 0,.int .u8 0,.int .u8 0,.int .u8 0,.int .u8 0,.int .u8 0,.int .u8 0,.int .u8 0,.int .u8 0,.int .u8 0,.int .u8 0,.int .u8 0,.int .u8 0,.int .u8 0]
theorem zeros20:z20.toList=List.replicate 20 (Value.int .u8 0):=rfl
structure Digits (g k:Nat) (acc:List UInt8) (w:World):Prop where
 len:acc.length=k
 top:k<=20
 blk:∃cs,Blk w g 161 cs/\cs.size=20/\(∀j,j<20-k->cs[j]? =some (.int .u8 0))/\∀j x,acc[j]? =some x->cs[20-k+j]? =some (bv x)
theorem len20:Tryz.prog.arrayLen 161=20:=by kernel_rfl
theorem elem20:Tryz.prog.elem 161=5:=by kernel_rfl
theorem und20:Tryz.prog.underlying 161=some (.array (Tryz.prog.arrayLen 161) (Tryz.prog.elem 161)):=by rw[len20,elem20];exact Tryz.underlying161
theorem size8 (w:World): (sizeOf 5).run Tryz.prog w=.ok 1 w:=by kernel_rfl
theorem slice20 (g j:Nat) (hj:j<20) (w:World): (Instr.sliceAt 161 (.pointer (some ⟨g,0,none⟩)) (some (.int .i64 (j:Int))) none none).run Tryz.prog w=.ok (.slice (some ⟨g,j,none⟩) (20-j) (20-j)) w:=by
 rw[run_sliceAt_array_l w 161 ⟨g,0,none⟩ und20 .i64 (j:Int) (by omega) (by rw[len20];omega),elem20,size8,len20];have:¬20=j:=by omega
 simp[slicedAt,Addr.add,Result.andThen,this]
 omega
theorem put_nil (n:Nat) (w:World) (hn:n<18446744073709551616):
  Calls Tryz.prog 54 #[.slice none 0 0,.int .u64 n] w λe w'=>∃v,e=.returned v/\OwnB w' w.heap.size v (dec n)/\Below w.heap.size w w':=by
 obtain⟨i0,hi0,hz0,hz1,hz2⟩:=info_parts infoB8;have hz:z20.size=20:=by rw[<-Array.length_toList,zeros20,List.length_replicate]
 have hal:=(Below.refl w.heap.size w).alloc jn (.cells z20 161)
 have hb1:Digits w.heap.size 0 [] (w.alloc (Obj.cells z20 161)):=by
  refine⟨rfl,by omega,_,Blk.new w _ _,hz,λj hj=>?_,λj x hx=>by simp at hx⟩;rw[<-Array.getElem?_toList,zeros20,List.getElem?_replicate,if_pos hj]
 have HAL:=jq hal;have HB1:=jq hb1;clear hal hb1 hz
 go_enter Tryz.func54,Tryz.ntmps54
 go_wp2_with fail
 go_loopw[1,6] (λx i wr=>∃(k m:Nat) (acc:List UInt8),k<20/\i=.int .i64 ((20-k:Nat):Int)/\x=.int .u64 m/\m<18446744073709551616/\m*10^k<18446744073709551616/\(k=0\/0<m)/\Hid (dec n=decA (20-k) m acc)/\Hid (Digits w.heap.size k acc wr)/\Hid (Below w.heap.size w wr)) (λx _ _=>(intOf x).toNat)
 case atStart=>exact⟨0,n,[],by omega,rfl,rfl,hn,by omega,.inl rfl,jq rfl,HB1,HAL⟩
 case round=>
  obtain⟨k,m,acc,hk,rfl,rfl,hm,hmk,hk0,hd,hD,hB⟩:=hrel;obtain⟨hacc,_,cs,hcs,hsz,hzr,hat⟩:=hD.out;obtain⟨j,hj⟩:=jl (19-k);have hj20:20-k=j+1:=by omega
  have c0:=(hcs.cell j).trans (hzr j (by omega));have fz:=hcs.frozen j;rw[hj20];have hdg:=dig_nat m;have HC:=jq hcs;have HZ:=jq hzr;have HA:=jq hat;have HS:=jq hsz;have hw1:IntKind.i64.wrap (((j+1:Nat):Int)-1)=j:=by rw[show((j+1:Nat):Int)-1=j by omega];exact IntWalk.i64_in _ (by omega)
  have hset:=(hcs.set j (.int .u8 (48+(m:Int)%10)));have hbel:=hB.out.setCell (show w.heap.size<=(⟨w.heap.size,j,none⟩:Addr).block from Nat.le_refl _) (.int .u8 (48+(m:Int)%10))
  have hD2:Digits w.heap.size (k+1) (dig m ::acc) (wr.setCell ⟨w.heap.size,j,none⟩ (.int .u8 (48+(m:Int)%10))):=by
   refine⟨by simp[hacc],by omega,_,hset,by rw[Array.size_setIfInBounds];exact hsz,λq hq=>?_,λq x hx=>?_⟩
   ·rw[Array.getElem?_setIfInBounds,if_neg (by omega)];exact hzr q (by omega)
   ·cases q with
    |zero=>
     have e:dig m=x:=by simpa using hx
     subst e;rw[Array.getElem?_setIfInBounds,if_pos (by omega),if_pos (by omega)];unfold bv;rw[hdg]
     congr 2
    |succ q=>
     have hx':acc[q]? =some x:=by simpa using hx
     rw[Array.getElem?_setIfInBounds,if_neg (by omega)];have:=hat q x hx';rw[show 20-(k+1)+(q+1)=20-k+q by omega];exact this
  have HD2:=jq hD2;have HB2:=jq hbel;clear hset hbel hD2 hcs hzr hat hsz hdg hj
  by_cases hlast:m/10=0
  ·have hq: ((m:Int)/10==0)=true:=by simp;omega
   have hsl:=λw'=>slice20 w.heap.size j (by omega) w'
   obtain⟨hl2,_,cs2,hcs2,hsz2,_,hat2⟩:=HD2.out
   have hlies:∀q u,((dig m ::acc).map bv)[q]? =some u->(wr.setCell ⟨w.heap.size,j,none⟩ (.int .u8 (48+(m:Int)%10))).cell? ((⟨w.heap.size,j,none⟩:Addr).add q)=some u:=λq u hu=>by
    have e: (⟨w.heap.size,j,none⟩:Addr).add q=⟨w.heap.size,j+q,none⟩:=by unfold Addr.add;split <;> simp_all
    rw[List.getElem?_map]at hu
    cases hx: (dig m ::acc)[q]? with
    |none=>rw[hx]at hu;cases hu
    |some x=>
     rw[hx]at hu;have:=hat2 q x hx;rw[e,hcs2.cell,show j+q=20-(k+1)+q by omega,this];exact hu
   have HLS:=jq hlies;have H1:=jq (oneCell_bytes (dig m ::acc));have hnil:=World.ownsRow_nil (wr.setCell ⟨w.heap.size,j,none⟩ (.int .u8 (48+(m:Int)%10))) w.heap.size 5 1
   have hdec:dec n=dig m ::acc:=by
    rw[hd.out,hj20];unfold decA;rw[if_pos hlast]
   have HDEC:=jq hdec;have hl3: (dig m ::acc).length=20-j:=by rw[hl2];omega
   have HL3:=jq hl3;have hsz3:=HB2.out.size;clear hlies hdec hl3 hcs2 hat2 hsz2
   go_wp2_with (first|(at_builtin;refine wpList_append_own _ rfl _ _ 27 rfl w.heap.size 5 i0 (.int .u8 0) 1 1 Tryz.underlying27 hi0 hz0 hz1 hz2 rfl (by decide) _ _ _ rfl hnil ⟨w.heap.size,j,none⟩ (20-j) (20-j) ((dig m ::acc).map bv) rfl ?c1 HLS.out H1.out ?c3 ?c4 ?c5 ?_))
   case c1=>rw[jP,HL3.out,Nat.mul_one]
   case c3=>unfold maxLen;omega
   case c4=>omega
   case c5=>exact hsz3
   intro v' w2 hown2 hgrow2 _;have hB3:=HB2.out.grown hgrow2 hsz3 (λq hq=>by cases hq)
   have hO2:OwnB w2 w.heap.size v' (dec n):=by
    unfold OwnB;rw[HDEC.out,HL3.out]
    simpa using hown2
   have HO2:=jq hO2;clear hown2 hgrow2 hO2 hnil
   go_wp2_with fail
   go_ret
   exact⟨v',rfl,HO2.out,hB3⟩
  ·have hq: ((m:Int)/10==0)=false:=by simp;omega
   have hk19:k<19:=by
    apply Nat.lt_of_not_le
    intro h19;have h1:10^19<=10^k:=Nat.pow_le_pow_right (by decide) h19;have h2:10<=m:=by omega
    have h3:10*10^19<=m*10^k:=Nat.mul_le_mul h2 h1;have h4: (10:Nat)*10^19=100000000000000000000:=by decide
    omega
   have hpow:m/10*10^(k+1) <18446744073709551616:=by
    rw[Nat.pow_succ,Nat.mul_comm (10^k) 10,<-Nat.mul_assoc];exact Nat.lt_of_le_of_lt (Nat.mul_le_mul_right _ (Nat.div_mul_le_self m 10)) hmk
   have hdec:dec n=decA (20-(k+1)) (m/10) (dig m ::acc):=by
    rw[hd.out,hj20]
    conv=>lhs;unfold decA
    rw[if_neg hlast,show 20-(k+1)=j by omega]
   have HDEC:=jq hdec;have HPOW:=jq hpow;clear hdec hpow hmk
   go_wp2_with fail
   refine⟨⟨k+1,m/10,dig m ::acc,by omega,?_,by simp,by omega,HPOW.out,.inr (by omega),HDEC,HD2,HB2⟩,?_⟩
   ·rw[show 20-(k+1)=j by omega]
   ·simp[intOf];omega
end Text
namespace Pool
open Go.RowKit Go.Deep Mem Crc
def pname (i:Nat):List UInt8:=112 ::Go.Proofs.YtfgjnpbffppocaaGreatDoor.Text.dec i
theorem decA_ne:∀(f n:Nat) (acc:List UInt8),(f≠0\/acc≠[])->Go.Proofs.YtfgjnpbffppocaaGreatDoor.Text.decA f n acc≠[]
 |0,_,acc,h=>by
  rcases h with h|h
  ·exact absurd rfl h
  ·exact h
 |f+1,n,acc,_=>by
  unfold Go.Proofs.YtfgjnpbffppocaaGreatDoor.Text.decA
  split
  ·simp
  ·exact decA_ne f _ _ (.inr (by simp))
theorem dec_ne (i:Nat):Go.Proofs.YtfgjnpbffppocaaGreatDoor.Text.dec i≠[]:=decA_ne 20 i [] (.inl (by decide))
theorem dec_len (i:Nat): (Go.Proofs.YtfgjnpbffppocaaGreatDoor.Text.dec i).length<=20:=by
 have:=Go.Proofs.YtfgjnpbffppocaaGreatDoor.Text.decA_length 20 i [];rw[List.length_nil,Nat.zero_add]at this;exact this
theorem pname_len (i:Nat):1<=(pname i).length/\(pname i).length<=32:=by
 have:=dec_len i;unfold pname
 simp
 omega
theorem app_p (ds:List UInt8): ((⟨#[112]⟩:ByteArray)++(⟨ds.toArray⟩:ByteArray))=⟨(112 ::ds).toArray⟩:=by
 apply ByteArray.ext
 simp
theorem name_any (i:Nat) (hi:i<=1000000) (w:World):
  Calls Tryz.prog 22 #[.int .i64 (i:Int)] w λe w'=>e=.returned (.string ⟨(pname i).toArray⟩)/\Below w.heap.size w w':=by
 have hw:IntKind.u64.wrap (i:Int)=i:=IntWalk.u64_in _ (by omega);have HP:=jq (Go.Proofs.YtfgjnpbffppocaaGreatDoor.Text.put_nil i w (by omega))
 go_enter Tryz.func22,Tryz.ntmps22
 go_wp2_with fail
 refine HP.out.mono ?_;rintro e w1 ⟨v,rfl,hO,hB⟩;obtain⟨va,vc,rfl,_,hL,_,_⟩:=own_shape hO
 have hconv: (convert 27 9 (.slice va (Go.Proofs.YtfgjnpbffppocaaGreatDoor.Text.dec i).length vc)).run Tryz.prog w1=.ok (.string ⟨(Go.Proofs.YtfgjnpbffppocaaGreatDoor.Text.dec i).toArray⟩) w1:=by
  obtain⟨g,off,rfl,_,hc⟩:=hL.resolve_left (λe=>by
   rw[List.map_eq_nil_iff]at e;exact dec_ne i e)
  exact run_convert_bytes_back w1 27 9 5 _ vc _ Tryz.underlying27 Tryz.underlying5 Tryz.underlying9 (λj hj=>lies_add (.inr ⟨g,off,rfl,by assumption,hc⟩) j _ (by simp[hj,bv]))
 obtain⟨ds,hds⟩:=jl (Go.Proofs.YtfgjnpbffppocaaGreatDoor.Text.dec i);have er:pname i=112 ::ds:=by rw[hds];rfl
 rw[<-hds]at hconv⊢;have HE:=jq er;have hlim:1+ds.length<=9223372036854775807:=by rw[hds];have:=dec_len i;omega
 have HB:=jq hB;clear hO hL hds er hB
 go_wp2_with fail
 go_ret
 refine⟨?_,HB.out⟩;rw[HE.out,<-app_p]
 rfl
end Pool
namespace Frame
open Go.RowKit Go.Deep Mem Crc
def num (h:List UInt8):Nat:=(h.getD 1 0).toNat+(h.getD 2 0).toNat*256+(h.getD 3 0).toNat*65536+(h.getD 4 0).toNat*16777216
def got (bs:List UInt8):UInt8×List UInt8×Nat×Int:=
 if bs.length<9 then(0,[],0,2)
 else if fitsE (bs.take 9)=5 then(0,[],0,5)
 else if 1048576<num (bodyOf (bs.take 9))then(0,[],0,4)
 else if bs.length<13+num (bodyOf (bs.take 9))then(0,[],0,2)
 else if fitsE ((bs.drop 9).take (num (bodyOf (bs.take 9))+4))=5 then(0,[],0,5)
 else((bs.take 9).getD 0 0,bodyOf ((bs.drop 9).take (num (bodyOf (bs.take 9))+4)),13+num (bodyOf (bs.take 9)),0)
theorem fitsE_cases {bs:List UInt8} (h:4<=bs.length):fitsE bs=0\/fitsE bs=5:=by
 unfold fitsE;rw[if_neg (by omega)]
 split
 ·exact .inl rfl
 ·exact .inr rfl
theorem fitsL_ok {bs:List UInt8} (h:4<=bs.length) (h2:fitsE bs=0):fitsL bs=bodyOf bs:=by
 unfold fitsE at h2;rw[if_neg (by omega)]at h2;unfold fitsL
 by_cases hm:marked (bodyOf bs)=bs
 ·rw[if_pos ⟨h,hm⟩]
 ·rw[if_neg hm]at h2;cases h2
theorem i64_or_nat (a b:Nat) (ha:a<9223372036854775808) (hb:b<9223372036854775808):bits .or .i64 (a:Int) (b:Int)=((a ||| b:Nat):Int):=by
 have hx:a ||| b<2^63:=Nat.or_lt_two_pow (by omega) (by omega)
 show IntKind.i64.wrap ((BitVec.ofInt 64 (a:Int) ||| BitVec.ofInt 64 (b:Int)).toNat:Int)=_;rw[BitVec.toNat_or,ofInt_u64 a (by omega),ofInt_u64 b (by omega)];exact IntWalk.i64_in _ (by omega)
theorem or_four (a b c d:Nat) (ha:a<256) (hb:b<256) (hc:c<256) (hd:d<256):
  bits .or .i64 (bits .or .i64 (bits .or .i64 (a:Int) ((b:Int)*256)) ((c:Int)*65536)) ((d:Int)*16777216)=((a+b*256+c*65536+d*16777216:Nat):Int):=by
 have e1:bits .or .i64 (a:Int) ((b:Int)*256)=((a+b*256:Nat):Int):=by
  have:=i64_or_nat a (b*256) (by omega) (by omega);rw[Nat.or_comm,nat_join 8 (b*256) a (by omega) (by omega)]at this;rw[show((b:Int)*256)=((b*256:Nat):Int)by omega,this]
  congr 1
  omega
 have e2:bits .or .i64 ((a+b*256:Nat):Int) ((c:Int)*65536)=((a+b*256+c*65536:Nat):Int):=by
  have:=i64_or_nat (a+b*256) (c*65536) (by omega) (by omega);rw[Nat.or_comm,nat_join 16 (c*65536) (a+b*256) (by omega) (by omega)]at this;rw[show((c:Int)*65536)=((c*65536:Nat):Int)by omega,this]
  congr 1
  omega
 have:=i64_or_nat (a+b*256+c*65536) (d*16777216) (by omega) (by omega);rw[Nat.or_comm,nat_join 24 (d*16777216) (a+b*256+c*65536) (by omega) (by omega)]at this;rw[e1,e2,show((d:Int)*16777216)=((d*16777216:Nat):Int)by omega,this]
 congr 1
 omega
theorem box_set {w:World} {b:Nat} {t:TypeId} {p q:Value} (h:Blk w b t #[p,q]) (x y:Value):Blk ((w.setCell ⟨b,0,none⟩ x).setCell ⟨b,1,none⟩ y) b t #[x,y]:=(h.set 0 x).set 1 y
structure Got (bs:List UInt8) (w:World) (e:Ending) (w':World):Prop where
 out:∃v,e=.returned (.tuple #[.agg #[bv (got bs).1,v],.int .i64 (got bs).2.2.1,.int .i64 (got bs).2.2.2])/\OwnB w' w.heap.size v (got bs).2.1
 below:Below w.heap.size w w'
theorem get_any (a:Option Addr) (cp:Nat) (bs:List UInt8) (w:World) (h:Lies w a (bs.map bv)) (hcp:bs.length<=cp) (hm:bs.length<=3000000):
  Calls Tryz.prog 86 #[.slice a bs.length cp] w λe w'=>Got bs w e w':=by
 by_cases h9:bs.length<9
 ·have e0:got bs=(0,[],0,2):=if_pos h9;clear h hcp
  go_enter Tryz.func86,Tryz.ntmps86
  go_wp2_with fail
  refine bodyPost_ret (v:=.tuple #[.agg #[.int .u8 0,.slice none 0 0],.int .i64 0,.int .i64 2]) (by simp[results,Tryz.results86,go_sem]) rfl ⟨⟨.slice none 0 0,by rw[e0];rfl,by rw[e0];exact World.ownsRow_nil _ _ _ _⟩,(Below.refl _ w).alloc jn _⟩
 ·obtain⟨g,off,rfl,hg,hc⟩:=h.resolve_left (λe=>by
   rw[List.map_eq_nil_iff]at e;subst e;exact h9 (by decide))
  have hL:Lies w (some ⟨g,off,none⟩) (bs.map bv):=.inr ⟨g,off,rfl,hg,hc⟩;obtain⟨h,hh⟩:=jl (bs.take 9);have hhl:h.length=9:=by rw[hh,jT];omega
  have hL9:Lies (w.alloc (.cells #[.int .u8 0,.slice none 0 0] 128)) (some ⟨g,off,none⟩) (h.map bv):=by
   rw[hh,List.map_take];exact(hL.later ((Below.refl _ w).alloc jn _)).take _
  have hfit:=fits_any (some ⟨g,off,none⟩) cp h _ hL9 (by omega) (by omega);rw[hhl]at hfit;have HF:=jq hfit;have h9c: (9:Nat)<=cp:=by omega
  have hb9:decide ((bs.length:Int) <9)=false:=by simp;omega
  have HL:=jq hL;have hal:=(Below.refl w.heap.size w).alloc jn (.cells #[.int .u8 0,.slice none 0 0] 128);have hbx:=Blk.new w 128 #[.int .u8 0,.slice none 0 0];have HAL:=jq hal;have HBX:=jq hbx;have HH:=jq hh;clear hc hg hL hL9 hfit hal hbx hh
  go_enter Tryz.func86,Tryz.ntmps86
  go_wp2_with fail
  refine HF.out.mono ?_;rintro e w1 ⟨v1,rfl,hown1,hB1⟩;have hbx1:=HBX.out.below hB1 HBX.out.lt;have x0:=hbx1.cell 0;have x1:=hbx1.cell 1
  simp at x0 x1
  have z0:=hbx1.frozen 0;have z1:=hbx1.frozen 1;have hlt1:=hbx1.lt;have HBX1:=jq hbx1;have HB1:=jq (HAL.out.trans (hB1.mono (by simp)));have HOW1:=jq hown1;clear hbx1 hB1 hown1 HF;have hend:∀(w2:World) (x y:Value),Below w.heap.size w w2->Below w.heap.size w ((w2.setCell ⟨w.heap.size,0,none⟩ x).setCell ⟨w.heap.size,1,none⟩ y):=λw2 x y hb=>(hb.setCell jn _).setCell jn _
  have HEND:=jq hend;clear hend;rcases fitsE_cases (bs:=h) (by omega)with hf|hf
  ·have hlb:fitsL h=bodyOf h:=fitsL_ok (by omega) hf;have hbl: (bodyOf h).length=5:=by rw[bodyOf_length];omega
   have hown:=HOW1.out;rw[hlb]at hown;obtain⟨g1,c1,e1,hc1,hg1,hg1'⟩:=own_some hown (by omega);obtain⟨a1,c1',e1',_,hl1,_,_⟩:=own_shape hown;rw[e1]at e1';cases e1';rw[hbl]at e1
   have hcell:∀j,j<5->w1.cell? ⟨g1,j,none⟩=some (.int .u8 (((bodyOf h).getD j 0).toNat:Int)):=λj hj=>by
    obtain⟨q,o,e,_,hq⟩:=hl1.resolve_left (by intro e;rw[List.map_eq_nil_iff]at e;rw[e]at hbl;cases hbl);cases e;have:=hq j _ (bv_at (jg (by omega)));rw[Nat.zero_add]at this;rw[this,List.getD_eq_getElem?_getD,jg (by omega)]
    rfl
   have b1:=hcell 1 (by omega);have b2:=hcell 2 (by omega);have b3:=hcell 3 (by omega);have b4:=hcell 4 (by omega);obtain⟨n1,m1⟩:=jl (((bodyOf h).getD 1 0).toNat);obtain⟨n2,m2⟩:=jl (((bodyOf h).getD 2 0).toNat);obtain⟨n3,m3⟩:=jl (((bodyOf h).getD 3 0).toNat);obtain⟨n4,m4⟩:=jl (((bodyOf h).getD 4 0).toNat);have l1:n1<256:=by rw[m1];exact UInt8.toNat_lt _
   have l2:n2<256:=by rw[m2];exact UInt8.toNat_lt _
   have l3:n3<256:=by rw[m3];exact UInt8.toNat_lt _
   have l4:n4<256:=by rw[m4];exact UInt8.toNat_lt _
   rw[<-m1]at b1;rw[<-m2]at b2;rw[<-m3]at b3;rw[<-m4]at b4;obtain⟨N,hN⟩:=jl (n1+n2*256+n3*65536+n4*16777216);have hor:=or_four n1 n2 n3 n4 l1 l2 l3 l4;rw[<-hN]at hor;have hnum:num (bodyOf h)=N:=by rw[hN,m1,m2,m3,m4];rfl
   have HNUM:=jq hnum;have hNlt:N<4294967296:=by omega
   have HCELL:=jq hcell;have HF0:=jq hf;rw[hf];subst e1;clear hown hl1 hcell m1 m2 m3 m4 hN hnum hf hlb
   go_wp2_with fail
   go_quiet (fail)
   have hw13:IntKind.i64.wrap (9+(N:Int))=9+N:=IntWalk.i64_in _ (by omega);have hw14:IntKind.i64.wrap (9+(N:Int)+4)=9+N+4:=IntWalk.i64_in _ (by omega)
   by_cases hN1:1048576<N
   ·have e0:got bs=(0,[],0,4):=by
     unfold got;rw[if_neg h9,if_neg (by rw[<-HH.out,HF0.out];decide),if_pos (by rw[<-HH.out,HNUM.out];exact hN1)]
    have E0:=jq e0;have q:=box_set (HBX1.out.drewN nq) (.int .u8 0) (.slice none 0 0);have q0:=q.cell 0;have q1:=q.cell 1
    simp at q0 q1
    have hB2:=HEND.out (w1.drewN nq) (.int .u8 0) (.slice none 0 0) (below_drewN HB1.out nq);clear e0 q;have d0:decide ((1048576:Int) <(N:Int))=true:=by simp;omega
    go_wp2_with fail
    refine bodyPost_ret (v:=.tuple #[.agg #[.int .u8 0,.slice none 0 0],.int .i64 0,.int .i64 4]) (by simp[results,Tryz.results86,go_sem,q0,q1]) rfl ⟨⟨.slice none 0 0,by rw[E0.out];rfl,by rw[E0.out];exact World.ownsRow_nil _ _ _ _⟩,hB2⟩
   ·have d0:decide ((1048576:Int) <(N:Int))=false:=by simp;omega
    by_cases hN2:bs.length<13+N
    ·have e0:got bs=(0,[],0,2):=by
      unfold got;rw[if_neg h9,if_neg (by rw[<-HH.out,HF0.out];decide),if_neg (by rw[<-HH.out,HNUM.out];exact hN1),if_pos (by rw[<-HH.out,HNUM.out];exact hN2)]
     have E0:=jq e0;have q:=box_set (HBX1.out.drewN nq) (.int .u8 0) (.slice none 0 0);have q0:=q.cell 0;have q1:=q.cell 1
     simp at q0 q1
     have hB2:=HEND.out (w1.drewN nq) (.int .u8 0) (.slice none 0 0) (below_drewN HB1.out nq);clear e0 q;have d1:decide ((bs.length:Int) <9+(N:Int)+4)=true:=by simp;omega
     go_wp2_with fail
     refine bodyPost_ret (v:=.tuple #[.agg #[.int .u8 0,.slice none 0 0],.int .i64 0,.int .i64 2]) (by simp[results,Tryz.results86,go_sem,q0,q1]) rfl ⟨⟨.slice none 0 0,by rw[E0.out];rfl,by rw[E0.out];exact World.ownsRow_nil _ _ _ _⟩,hB2⟩
    ·have d1:decide ((bs.length:Int) <9+(N:Int)+4)=false:=by simp;omega
     obtain⟨o,ho⟩:=jl ((bs.drop 9).take (N+4));have hol:o.length=N+4:=by rw[ho,jT,List.length_drop];omega
     have hLo:Lies (w1.drewN nq) (some ⟨g,off+9,none⟩) (o.map bv):=by
      rw[ho,List.map_take];refine Lies.take ?_ _;rw[List.map_drop];exact((HL.out.later HB1.out).drop 9).drewN nq
     have hfit2:=fits_any (some ⟨g,off+9,none⟩) (cp-9) o (w1.drewN nq) hLo (by omega) (by omega);rw[show o.length=9+N-5 by omega]at hfit2;have HF2:=jq hfit2;have HO:=jq ho;have HOL:=jq hol;have h13:13+N<=cp:=by omega
     clear hfit2 hLo ho hol
     go_wp2_with fail
     refine HF2.out.mono ?_;rintro e w2 ⟨v2,rfl,hown2,hB2⟩;have hbx2:=(HBX1.out.drewN nq).below hB2 HBX1.out.lt;have y0:=hbx2.cell 0;have y1:=hbx2.cell 1
     simp at y0 y1
     have u0:=hbx2.frozen 0;have u1:=hbx2.frozen 1;have hlt2:=hbx2.lt;have c0:=((below_drewN (Below.refl w1.heap.size w1) nq).trans hB2).cell (p:=⟨g1,0,none⟩) hg1' |>.trans (HCELL.out 0 (by omega))
     obtain⟨kd,hkd⟩:=jl (((bodyOf h).getD 0 0).toNat);rw[<-hkd]at c0;have HKD:=jq hkd;have HBX2:=jq hbx2;have HB2:=jq ((below_drewN HB1.out nq).trans (hB2.mono HB1.out.size));have HOW2:=jq hown2;have hsz1:=HB1.out.size;clear hbx2 hB2 hown2 x0 x1 hkd;rcases fitsE_cases (bs:=o) (by rw[HOL.out];omega)with hf|hf
     ·have e0:got bs=((bodyOf h).getD 0 0,bodyOf o,13+N,0):=by
       unfold got;rw[if_neg h9,if_neg (by rw[<-HH.out,HF0.out];decide),if_neg (by rw[<-HH.out,HNUM.out];exact hN1),if_neg (by rw[<-HH.out,HNUM.out];exact hN2),<-HH.out,HNUM.out,<-HO.out,if_neg (by rw[hf];decide)]
       have e9: (bodyOf h).getD 0 0=h.getD 0 0:=by
        unfold bodyOf;rw[List.getD_eq_getElem?_getD,List.getD_eq_getElem?_getD,List.getElem?_take,if_pos (by omega)]
       rw[e9]
      have hlb:fitsL o=bodyOf o:=fitsL_ok (by rw[HOL.out];omega) hf;have hown3:=HOW2.out;rw[hlb]at hown3;have E0:=jq e0;obtain⟨a2,c2,e2,_,_,hb2,_⟩:=own_shape hown3;subst e2;have q:=box_set HBX2.out (.int .u8 (kd:Int)) (.slice a2 (bodyOf o).length c2);have q0:=q.cell 0;have q1:=q.cell 1
      simp at q0 q1
      have hB3:=HEND.out w2 (.int .u8 (kd:Int)) (.slice a2 (bodyOf o).length c2) HB2.out
      have hown4:OwnB ((w2.setCell ⟨w.heap.size,0,none⟩ (.int .u8 (kd:Int))).setCell ⟨w.heap.size,1,none⟩ (.slice a2 (bodyOf o).length c2)) w.heap.size (.slice a2 (bodyOf o).length c2) (bodyOf o):=by
       have hne: (Value.slice a2 (bodyOf o).length c2).ownBlock≠some w.heap.size:=λe=>by
        have:=(hown3.lt _ e).1
        simp at this
        omega
       exact own_mono (own_far (own_far hown3 hne _) hne _) hsz1
      have HO4:=jq hown4;rw[hf];clear e0 hlb hown3 q hf hb2 hown4
      go_wp2_with fail
      have e9: (9+(N:Int)+4)=((13+N:Nat):Int):=by omega
      refine bodyPost_ret (v:=.tuple #[.agg #[.int .u8 (kd:Int),.slice a2 (bodyOf o).length c2],.int .i64 (9+(N:Int)+4),.int .i64 0]) (by simp[results,Tryz.results86,go_sem,q0,q1]) rfl ⟨⟨.slice a2 (bodyOf o).length c2,?_,by rw[E0.out];exact HO4.out⟩,hB3⟩;rw[E0.out,e9,HKD.out]
      rfl
     ·have e0:got bs=(0,[],0,5):=by
       unfold got;rw[if_neg h9,if_neg (by rw[<-HH.out,HF0.out];decide),if_neg (by rw[<-HH.out,HNUM.out];exact hN1),if_neg (by rw[<-HH.out,HNUM.out];exact hN2),<-HH.out,HNUM.out,<-HO.out,if_pos hf]
      have E0:=jq e0;have q:=box_set HBX2.out (.int .u8 0) (.slice none 0 0);have q0:=q.cell 0;have q1:=q.cell 1
      simp at q0 q1
      have hB3:=HEND.out w2 (.int .u8 0) (.slice none 0 0) HB2.out;rw[hf];clear e0 q hf
      go_wp2_with fail
      refine bodyPost_ret (v:=.tuple #[.agg #[.int .u8 0,.slice none 0 0],.int .i64 0,.int .i64 5]) (by simp[results,Tryz.results86,go_sem,q0,q1]) rfl ⟨⟨.slice none 0 0,by rw[E0.out];rfl,by rw[E0.out];exact World.ownsRow_nil _ _ _ _⟩,hB3⟩
  ·rw[hf];have e0:got bs=(0,[],0,5):=by unfold got;rw[if_neg h9,if_pos (by rw[<-HH.out];exact hf)]
   have E0:=jq e0;have q:=box_set HBX1.out (.int .u8 0) (.slice none 0 0);have q0:=q.cell 0;have q1:=q.cell 1
   simp at q0 q1
   have hB2:=HEND.out w1 (.int .u8 0) (.slice none 0 0) HB1.out;clear e0 hf q
   go_wp2_with fail
   refine bodyPost_ret (v:=.tuple #[.agg #[.int .u8 0,.slice none 0 0],.int .i64 0,.int .i64 5]) (by simp[results,Tryz.results86,go_sem,q0,q1]) rfl ⟨⟨.slice none 0 0,by rw[E0.out];rfl,by rw[E0.out];exact World.ownsRow_nil _ _ _ _⟩,hB2⟩
end Frame
namespace Frame
open Go.RowKit Go.Deep Mem Crc
def allF:Nat->List UInt8->List (UInt8×List UInt8)×Int
 |0,_=>([],0)
 |f+1,bs=>
  if bs= []then([],0)
  else if(got bs).2.2.2=0 then
   let r:=allF f (bs.drop (got bs).2.2.1)
   if r.2=0 then(((got bs).1,(got bs).2.1)::r.1,0)else([],r.2)
  else([],(got bs).2.2.2)
structure Sec where
 kind:UInt8
 body:List UInt8
 a:Option Addr
 cp:Nat
def Sec.vs (s:Sec):List Value:=[bv s.kind,.slice s.a s.body.length s.cp]
def flatS (l:List Sec):List Value:=l.flatMap Sec.vs
theorem flatS_snoc (l:List Sec) (s:Sec):flatS (l++ [s])=flatS l++s.vs:=by unfold flatS;rw[List.flatMap_append];simp
def Sec.kb (s:Sec):UInt8×List UInt8:=(s.kind,s.body)
def Bodies (B:Nat) (w:World) (l:List Sec):Prop:=∀s∈l,OwnB w B (.slice s.a s.body.length s.cp) s.body
theorem got_pos {bs:List UInt8} (h: (got bs).2.2.2=0):13<=(got bs).2.2.1/\(got bs).2.2.1<=bs.length:=by
 unfold got at h⊢
 split at h
 ·cases h
 ·rename_i h1
  rw[if_neg h1]
  split at h
  ·cases h
  ·rename_i h2
   rw[if_neg h2]
   split at h
   ·cases h
   ·rename_i h3
    rw[if_neg h3]
    split at h
    ·cases h
    ·rename_i h4
     rw[if_neg h4]
     split at h
     ·cases h
     ·rename_i h5
      rw[if_neg h5]
      constructor
      ·show 13<=13+_;omega
      ·show 13+_<=_;omega
theorem allF_fuel:∀(f f':Nat) (bs:List UInt8),bs.length<f->bs.length<f'->allF f bs=allF f' bs
 |0,_,_,h,_=>absurd h (Nat.not_lt_zero _)
 |_+1,0,_,_,h=>absurd h (Nat.not_lt_zero _)
 |f+1,f'+1,bs,h,h'=>by
  unfold allF
  split
  ·rfl
  ·rename_i hne
   split
   ·rename_i h0
    have hp:=got_pos h0;have hl: (bs.drop (got bs).2.2.1).length<bs.length:=by rw[List.length_drop];omega
    rw[allF_fuel f f' _ (by omega) (by omega)]
   ·rfl
def glue (l:List (UInt8×List UInt8)) (r:List (UInt8×List UInt8)×Int):List (UInt8×List UInt8)×Int:=if r.2=0 then(l++r.1,0)else([],r.2)
theorem allF_nil (F:Nat):allF F []=([],0):=by cases F <;> rfl
theorem allF_bad {F:Nat} {bs:List UInt8} (hF:bs.length<F) (hne:bs≠[]) (h:¬(got bs).2.2.2=0):allF F bs=([],(got bs).2.2.2):=by
 cases F with
 |zero=>omega
 |succ f=>unfold allF;rw[if_neg hne,if_neg h]
theorem allF_step {F:Nat} {bs:List UInt8} (hF:bs.length<F) (hne:bs≠[]) (h: (got bs).2.2.2=0) (l:List (UInt8×List UInt8)):glue l (allF F bs)=glue (l++ [((got bs).1,(got bs).2.1)]) (allF F (bs.drop (got bs).2.2.1)):=by
 cases F with
 |zero=>omega
 |succ f=>
  have hp:=got_pos h;have hl: (bs.drop (got bs).2.2.1).length<bs.length:=by rw[List.length_drop];omega
  have e:allF (f+1) bs=if(allF (f+1) (bs.drop (got bs).2.2.1)).2=0 then(((got bs).1,(got bs).2.1)::(allF (f+1) (bs.drop (got bs).2.2.1)).1,0)else([],(allF (f+1) (bs.drop (got bs).2.2.1)).2):=by
   rw[allF_fuel (f+1) f (bs.drop (got bs).2.2.1) (by omega) (by omega)]
   conv=>lhs;unfold allF
   rw[if_neg hne,if_pos h]
  rw[e];generalize allF (f+1) (bs.drop (got bs).2.2.1)=r;obtain⟨r1,r2⟩:=r;unfold glue
  by_cases hr:r2=0
  ·subst hr
   simp
  ·simp[hr]
theorem infoS: (Tryz.prog.info? 128).map (λi=>(i.zero,i.size,i.bytes))=some (some (.agg #[.int .u8 0,.slice none 0 0]),2,32):=by kernel_rfl
def lenOf:Value->Nat
 |.slice _ n _=>n
 |_=>0
theorem glue_nil (r:List (UInt8×List UInt8)×Int) (h:r.2=0\/r.1= []):glue [] r=r:=by
 obtain⟨r1,r2⟩:=r;unfold glue
 by_cases hr:r2=0
 ·subst hr;simp
 ·rcases h with h|h
  ·exact absurd h hr
  ·simp at h;subst h;simp[hr]
theorem allF_shape (F:Nat) (bs:List UInt8): (allF F bs).2=0\/(allF F bs).1= []:=by
 cases F with
 |zero=>exact .inl rfl
 |succ f=>
  unfold allF
  split
  ·exact .inl rfl
  ·split
   ·dsimp only
    split
    ·exact .inl rfl
    ·exact .inr rfl
   ·exact .inr rfl
structure AllGot (bs:List UInt8) (w:World) (e:Ending) (w':World):Prop where
 out:∃v l,e=.returned (.tuple #[v,.int .i64 (allF (bs.length+1) bs).2])/\w'.ownsRow w.heap.size 128 2 v l.length (flatS l)/\l.map Sec.kb=(allF (bs.length+1) bs).1/\Bodies w.heap.size w' l
 below:Below w.heap.size w w'
theorem all_any (a:Option Addr) (cp:Nat) (bs:List UInt8) (w:World) (h:Lies w a (bs.map bv)) (hcp:bs.length<=cp) (hm:bs.length<=3000000):
  Calls Tryz.prog 55 #[.slice a bs.length cp] w λe w'=>AllGot bs w e w':=by
 obtain⟨i0,hi0,hz0,hz1,hz2⟩:=info_parts infoS;have HL:=jq h;clear h
 go_enter Tryz.func55,Tryz.ntmps55
 go_wp2_with fail
 go_loopw[0,4] (λb o wr=>∃(a':Option Addr) (cp':Nat) (l:List Sec) (rest:List UInt8),b=.slice a' rest.length cp'/\rest.length<=cp'/\l.length+rest.length<=bs.length/\Hid (Lies w a' (rest.map bv))/\Hid (wr.ownsRow w.heap.size 128 2 o l.length (flatS l))/\Hid (Bodies w.heap.size wr l)/\Hid (allF (bs.length+1) bs=glue (l.map Sec.kb) (allF (bs.length+1) rest))/\Hid (Below w.heap.size w wr)) (λb _ _=>lenOf b)
 case atStart=>exact⟨a,cp,[],bs,rfl,hcp,by simp,HL,jq (World.ownsRow_nil _ _ _ _),jq (λs hs=>by simp at hs),jq (glue_nil _ (allF_shape _ _)).symm,jq (Below.refl _ _)⟩
 case round=>
  obtain⟨a',cp',l,rest,rfl,hc',hlr,hL,hO,hBo,hA,hB⟩:=hrel;have hBs:=hB.out.size;obtain⟨n,hn⟩:=jl rest.length;rw[<-hn]at hc' hlr⊢;have HN:=jq hn
  by_cases h0:0<n
  ·have hne:rest≠[]:=λe=>by subst e;simp at hn;omega
   have hgt:=get_any a' cp' rest wr (hL.out.later hB.out) (by omega) (by omega);rw[<-hn]at hgt;have HG:=jq hgt;have HNE:=jq hne;have hd0:decide ((0:Int) <(n:Int))=true:=by simp;omega
   clear hgt hne hn
   go_wp2_with fail
   refine HG.out.mono ?_;rintro e w1 ⟨⟨v,rfl,hown⟩,hB1⟩;obtain⟨va,vc,ev,hvc,hvl,hvb,_⟩:=own_shape hown;subst ev;obtain⟨kd,hkd⟩:=jl ((got rest).1);obtain⟨bd,hbd⟩:=jl ((got rest).2.1);obtain⟨m,hm'⟩:=jl ((got rest).2.2.1);obtain⟨er,her⟩:=jl ((got rest).2.2.2);rw[<-hbd]at hvc hvl;rw[<-hkd,<-hbd,<-hm',<-her];unfold bv;have HOWN:=jq (show OwnB w1 wr.heap.size (.slice va bd.length vc) bd by rw[hbd];exact hown);have HVL:=jq hvl;have HVB:=jq hvb;have HKD:=jq hkd;have HBD:=jq hbd;have HM':=jq hm';have HER:=jq her;have HB1:=jq hB1;clear hown hvl hvb hkd hbd hm' her hB1
   by_cases he:er=0
   ·subst he;have hgp:=got_pos (bs:=rest) (by rw[<-HER.out]);have hm13:13<=m:=by rw[HM'.out];exact hgp.1
    have hmn:m<=n:=by rw[HM'.out,HN.out];exact hgp.2
    have halA:=(Below.refl w1.heap.size w1).alloc jn (.cells #[.int .u8 (kd.toNat:Int),.slice va bd.length vc] 128);have halB:=halA.alloc (by simp) (.cells #[.int .u8 (kd.toNat:Int),.slice va bd.length vc] 128);have hO1:=own_later (own_later hO.out HB1.out) halB;have hBs1:=HB1.out.size
    have hcel:∀j u,([.int .u8 (kd.toNat:Int),.slice va bd.length vc]:List Value)[j]? =some u->((w1.alloc (.cells #[.int .u8 (kd.toNat:Int),.slice va bd.length vc] 128)).alloc (.cells #[.int .u8 (kd.toNat:Int),.slice va bd.length vc] 128)).cell? ((⟨w1.heap.size+1,0,none⟩:Addr).add j)=some u:=λj u hu=>by
     have h9:=lies_add (new_lies (w1.alloc (.cells #[.int .u8 (kd.toNat:Int),.slice va bd.length vc] 128)) 128 #[.int .u8 (kd.toNat:Int),.slice va bd.length vc]) j u hu;rw[World.size_alloc]at h9;exact h9
    have HCEL:=jq hcel;have HALB:=jq halB;clear hcel halA halB
    go_wp2_with (first|(at_builtin;refine wpList_append_own _ rfl _ _ 124 rfl w.heap.size 128 i0 (.agg #[.int .u8 0,.slice none 0 0]) 2 32 Tryz.underlying124 hi0 hz0 hz1 hz2 rfl (by decide) _ _ _ rfl hO1 ⟨w1.heap.size+1,0,none⟩ 1 1 [.int .u8 (kd.toNat:Int),.slice va bd.length vc] rfl rfl HCEL.out ?c2 ?c3 ?c4 ?c5 ?_))
    case c2=>intro u hu;simp at hu;rcases hu with rfl|rfl <;> rfl
    case c3=>unfold maxLen;omega
    case c4=>omega
    case c5=>simp;omega
    intro v' w2 hown2 hgrow2 _;have hB2:Below w.heap.size w w2:=((hB.out.trans (HB1.out.mono hBs)).trans (HALB.out.mono (by omega))).grown hgrow2 (by simp;omega) (λq hq=>(hO1.lt q hq).1)
    have hBo2:Bodies w.heap.size w2 (l++ [⟨(got rest).1,bd,va,vc⟩]):=λx hx=>by
     have h1:OwnB ((w1.alloc (.cells #[.int .u8 (kd.toNat:Int),.slice va bd.length vc] 128)).alloc (.cells #[.int .u8 (kd.toNat:Int),.slice va bd.length vc] 128)) w.heap.size (.slice x.a x.body.length x.cp) x.body:=by
      rcases List.mem_append.1 hx with hx|hx
      ·exact own_later (own_later (hBo.out x hx) HB1.out) HALB.out
      ·obtain rfl:x=(⟨(got rest).1,bd,va,vc⟩:Sec):=by simpa using hx
       exact own_mono (own_later HOWN.out HALB.out) hBs
     exact World.ownsRow.kept h1 hgrow2 (own_apart h1 hO1 (by decide))
    have hO2:w2.ownsRow w.heap.size 128 2 v' (l++ [(⟨(got rest).1,bd,va,vc⟩:Sec)]).length (flatS (l++ [(⟨(got rest).1,bd,va,vc⟩:Sec)])):=by
     rw[jL,flatS_snoc,Sec.vs,<-HKD.out];exact hown2
    have hA2:allF (bs.length+1) bs=glue ((l++ [(⟨(got rest).1,bd,va,vc⟩:Sec)]).map Sec.kb) (allF (bs.length+1) (rest.drop m)):=by
     have hne:rest≠[]:=HNE.out;rw[hA.out,allF_step (by have:=HN.out;omega) hne HER.out.symm,List.map_append,<-HM'.out,<-HBD.out]
     rfl
    have hdl: (rest.drop m).length=n-m:=by rw[List.length_drop,<-HN.out]
    obtain⟨ga,oa,ea,hga,hca⟩:=hL.out.resolve_left (λe=>HNE.out (by simpa using e))
    have hLd:Lies w (some ⟨ga,oa+m,none⟩) ((rest.drop m).map bv):=by
     rw[List.map_drop];exact Lies.drop (.inr ⟨ga,oa,rfl,hga,hca⟩) m
    have HLD:=jq hLd;have HBO2:=jq hBo2;have HO2:=jq hO2;have HA2:=jq hA2;have HB2:=jq hB2;have HDL:=jq hdl;subst ea;clear hown2 hgrow2 hO1 hB2 hBo2 hO2 hA2 hdl hLd hca hgp HALB HCEL;have hmc:m<=cp':=by omega
    by_cases hlast:m=cp'
    ·subst hlast;obtain rfl:n=m:=by omega
     have hnil:rest.drop n= []:=List.eq_nil_of_length_eq_zero (by rw[HDL.out];omega);have hA3:=HA2.out;rw[hnil]at hA3;have HA3:=jq hA3;clear hnil hA3
     go_wp2_with fail
     go_roundw
     case rel=>exact⟨_,_,l++ [(⟨(got rest).1,bd,va,vc⟩:Sec)],[],by simp;exact⟨rfl,rfl⟩,Nat.zero_le _,by simp;omega,jq (.inl rfl),HO2,HBO2,HA3,HB2⟩
     case measure=>simp[lenOf];omega
    ·have hlt9:m<cp':=by omega
     go_wp2_with fail
     go_roundw
     case rel=>exact⟨_,_,l++ [(⟨(got rest).1,bd,va,vc⟩:Sec)],rest.drop m,by rw[HDL.out],by rw[HDL.out];omega,by rw[HDL.out];simp;omega,HLD,HO2,HBO2,HA2,HB2⟩
     case measure=>simp[lenOf];omega
   ·have hbad:allF (bs.length+1) bs=([],er):=by
     rw[hA.out,allF_bad (by have:=HN.out;omega) HNE.out (by rw[<-HER.out];exact he),<-HER.out];unfold glue;rw[if_neg he]
    have HBAD:=jq hbad;have hs1:=HB1.out.size;have hde: (er==0)=false:=by simpa using he
    clear hbad
    go_wp2_with fail
    go_ret2
    refine⟨⟨_,[],by rw[HBAD.out];rfl,World.ownsRow_nil _ _ _ _,by rw[HBAD.out];rfl,λx hx=>by simp at hx⟩,?_⟩;exact(hB.out.trans (HB1.out.mono hBs)).trans ((Below.refl w1.heap.size w1).alloc jn _ |>.mono (by omega))
  ·obtain rfl:n=0:=by omega
   have hr:rest= []:=List.eq_nil_of_length_eq_zero hn.symm
   have hfin:allF (bs.length+1) bs=(l.map Sec.kb,0):=by
    rw[hA.out,hr,allF_nil];unfold glue
    simp
   have HFIN:=jq hfin;clear hfin hr hn
   go_wp2_with fail
   go_ret2
   exact⟨⟨_,l,by rw[HFIN.out];rfl,hO.out,by rw[HFIN.out],hBo.out⟩,hB.out⟩
end Frame
namespace Frame
open Mem Crc
theorem num_head (k:UInt8) (n:Nat) (h:n<=1048576):num (head k n)=n:=by
 unfold num head;simp only[List.getD_cons_succ,List.getD_cons_zero,UInt8.toNat_ofNat']
 omega
theorem got_frame (k:UInt8) (b:List UInt8) (hb:b.length<=1048576):got (frameL k b)=(k,b,13+b.length,0):=by
 have hl:=frameL_length k b;have hh: (marked (head k b.length)).length=9:=by rw[mark_length];rfl
 have e1: (frameL k b).take 9=marked (head k b.length):=by
  unfold frameL;rw[List.take_append_of_le_length (by omega),jW (by omega)]
 have e2: (frameL k b).drop 9=marked b:=by
  unfold frameL;rw[List.drop_append,List.drop_eq_nil_of_le (by omega),hh]
  simp
 have h1:=(fits_mark (head k b.length)).2;have h2:=(fits_mark b).2;have e3: (marked b).take (b.length+4)=marked b:=jW (by rw[mark_length];omega);have e4:bodyOf (marked (head k b.length))=head k b.length:=bodyOf_mark _;unfold got;rw[e1,e2,e4,num_head k b.length hb,e3,h1,h2,bodyOf_mark,hl];rw[if_neg (by omega),if_neg (by decide),if_neg (by omega),if_neg (by omega),if_neg (by decide)]
 rfl
theorem all_frame (k:UInt8) (b:List UInt8) (hb:b.length<=1048576):allF ((frameL k b).length+1) (frameL k b)=([(k,b)],0):=by
 have hl:=frameL_length k b;have hne:frameL k b≠[]:=λe=>by rw[e]at hl;simp at hl
 have hg:=got_frame k b hb;unfold allF;rw[if_neg hne,hg];have hd: (frameL k b).drop (13+b.length)= []:=List.drop_eq_nil_of_le (by omega);simp only[hd,allF_nil]
 rfl
end Frame
end Go.Proofs.YtfgjnpbffppocaaGreatDoor
