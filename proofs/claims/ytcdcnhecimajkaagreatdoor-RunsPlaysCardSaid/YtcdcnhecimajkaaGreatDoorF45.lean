/- Part. -/
import Derived.Test.YtcdcnhecimajkaaGreatDoorF0
import Derived.Test.YtcdcnhecimajkaaGreatDoorF0H
import Derived.Test.YtcdcnhecimajkaaGreatDoorF0Q
import Derived.Test.YtcdcnhecimajkaaGreatDoorF5
import Derived.Test.YtcdcnhecimajkaaGreatDoorF14
import Derived.Test.YtcdcnhecimajkaaGreatDoorF18
import Derived.Test.YtcdcnhecimajkaaGreatDoorF40
import Derived.Test.YtcdcnhecimajkaaGreatDoorF42
import Derived.Test.YtcdcnhecimajkaaGreatDoorF43
import Derived.Test.YtcdcnhecimajkaaGreatDoorF44
import Derived.Deep.RegionHeld3
import Derived.Deep.DeepCutAuto
import Derived.Deep.RegionLaw
import Derived.StillTailTactics
set_option maxHeartbeats 8000000
set_option maxRecDepth 100000
namespace Go.Proofs.YtcdcnhecimajkaaGreatDoor
namespace Runs
open Go.RowKit Go.Deep Go.Shelf Mem Crc Merge RefF Full
open Store (nv Files)
attribute [local go_sem] Oper.semAt_some
theorem refRows_any (A:Fi) (hok:A.ok) (held:List B) (L:List FF) (F:Files) (mh an:Option Addr) (mc nc ne:Nat) (w:World) (hrow:IsRow L F) (hne:ne<=90) (hF:∀j,j<ne->F (rname A.pf j)≠none) (hsz:∀nm b,F nm=some b->b.length<=10000) (hh:held.length<=4096) (hM:Lies w mh (held.map strB)) (hN:Lies w an (flatP L)) (hL:L.length<=100000):
  Calls Tryz.prog 12 #[sV A mh held.length mc ne,.slice an L.length nc] w (RowsOut A F ne held w):=by
 obtain⟨k1,k2,k3,k4,k5,k6⟩:=id hok;obtain⟨wd,hwd⟩:∃z:Int,z=A.wd:=⟨_,rfl⟩;obtain⟨rm,hrmz⟩:∃z:Int,z=A.rm:=⟨_,rfl⟩;obtain⟨sp,hsp⟩:∃s:ByteArray,nv A.pf=.string s:=⟨_,rfl⟩;obtain⟨hn,hhn⟩:=jl held.length;obtain⟨ln,hln⟩:=jl L.length;have hsv:sV A mh held.length mc ne=.agg #[.string sp,.int .i64 wd,.int .i64 rm,.slice mh hn mc,.int .i64 ne]:=by unfold sV;rw[hsp,hwd,hrmz,hhn]
 obtain⟨W1,hW1⟩:=jl (w.alloc (.cells #[.string sp,.int .i64 wd,.int .i64 rm,.slice mh hn mc,.int .i64 ne] 38));have hB1:Below w.heap.size w W1:=by rw[hW1];exact(Below.refl _ w).alloc jn _
 have hbx:Blk W1 w.heap.size 38 #[.string sp,.int .i64 wd,.int .i64 rm,.slice mh hn mc,.int .i64 ne]:=by rw[hW1];exact Blk.new w _ _
 have hz1:W1.heap.size=w.heap.size+1:=by rw[hW1];simp
 obtain⟨W2,hW2⟩:=jl (W1.alloc (.cells #[] 9));have hB2:Below W1.heap.size W1 W2:=by rw[hW2];exact(Below.refl _ W1).alloc jn _
 have hO2:OwnS W2 W1.heap.size (.slice (some ⟨W1.heap.size,0,none⟩) 0 0) []:=by rw[hW2];exact own_empty W1 9 1
 obtain⟨a3,c3,W3,hr3,hO3,hg3⟩:=run_append_strs W2 36 _ _ hO2 mh mc held ((hM.later hB1).later hB2) (by simp;omega) hB2.size;rw[List.nil_append,<-hhn]at hr3;rw[List.nil_append]at hO3;have hB13:Below W1.heap.size W1 W3:=hB2.grown hg3 hB2.size (λq hq=>(hO2.lt q hq).1);have hbx2:=hbx.below hB2 hbx.lt;have x3:=hbx2.cell 3
 simp at x3
 have y0:=(hbx.below hB13 hbx.lt).cell 0;rw[hW2,hz1,hW1]at hr3;rw[hW2,hW1]at x3;obtain⟨xb,hxb⟩:=jl w.heap.size;have HBX:=jq (show Blk W3 w.heap.size 38 #[.string sp,.int .i64 wd,.int .i64 rm,.slice mh hn mc,.int .i64 ne]from hbx.below hB13 hbx.lt);have HB:=jq (hB1.trans (hB13.mono hB1.size));have HO:=jq (show OwnS W3 (w.heap.size+1) (.slice a3 hn c3) held by rw[hhn,<-hz1];exact hO3)
 have HNM:Hid (∀(k:Nat) (V:World),k<=1000000->Calls Tryz.prog 21 #[.agg #[.string sp,.int .i64 wd,.int .i64 rm,.slice mh hn mc,.int .i64 ne],.int .i64 k] V λe w'=>e=.returned (nv (rname A.pf k))/\Below V.heap.size V w'):=jq (λk V hk=>by
  have:=refName_any A.pf k2 wd rm ne mh hn mc k hk V;rw[hsp]at this;exact this)
 have HRD:Hid (∀(b:List UInt8) (V:World),b.length<=10000->Calls Tryz.prog 35 #[nv b,.int .i64 wd] V (ReadAns (readR A.wd b) V)):=jq (λb V hb=>by
  rw[hwd];exact refRead_any A.wd k3 k4 b V (by omega))
 have HN:=jq hN;have HHN:=jq hhn;have HLN:=jq hln;have HF:=jq hF;have HSZ:=jq hsz;have HROW:=jq hrow;have HL:=jq hL;have HH:=jq hh;have HOK:=jq hok;rw[hsv,<-hln];clear hsp hwd hrmz hsv hhn hln hB1 hB2 hO2 hO3 hg3 hB13 hbx hbx2 hW1 hW2 hz1 hM hN hF hsz hrow hL hh hok k1 k2 k3 k4 k5 k6 y0 hxb
 go_enter Tryz.func12,Tryz.ntmps12
 go_wp2_with (first|(at_builtin;refine Lib.wpList_append_run _ rfl _ _ _ _ rfl _ _ rfl rfl _ _ hr3 ?_))
 clear hr3 x3
 go_loopw[6,7] (λo i wr=>∃(k n:Nat) (ls:List (List B)) (oa:Option Addr) (oc:Nat),k<=ne/\i=.int .i64 (k:Int)/\o=.slice oa n oc/\Hid (n=(held++ls.flatten).length)/\Hid (runsR A F k=some ls)/\Hid (OwnS wr (w.heap.size+1) (.slice oa n oc) (held++ls.flatten))/\Hid (Blk wr w.heap.size 38 #[.string sp,.int .i64 wd,.int .i64 rm,.slice mh hn mc,.int .i64 ne])/\Hid (Below w.heap.size w wr)) (λ_ i _=>ne-(intOf i).toNat)
 case atStart=>exact⟨0,hn,[],a3,c3,Nat.zero_le _,rfl,rfl,jq (by simp[HHN.out]),jq rfl,jq (by simpa using HO.out),HBX,HB⟩
 case round=>
  obtain⟨k,n,ls,oa,oc,hk,rfl,rfl,HNN,HRR,HOU,HBR,HBB⟩:=hrel;have q0:=HBR.out.cell 0;have q1:=HBR.out.cell 1;have q2:=HBR.out.cell 2;have q3:=HBR.out.cell 3;have q4:=HBR.out.cell 4
  simp at q0 q1 q2 q3 q4
  by_cases hlt:k<ne
  ·have hkd:decide ((k:Int) <(ne:Int))=true:=jd (by omega);obtain⟨b,hb⟩:=Option.ne_none_iff_exists'.1 (HF.out k hlt);obtain⟨sn,hsn⟩:∃s:ByteArray,nv (rname A.pf k)=.string s:=⟨_,rfl⟩;have hnm:=HNM.out k wr (by omega);rw[hsn]at hnm;obtain⟨f1,f2⟩:=HROW.out.find (rname A.pf k);obtain⟨ix,hix⟩:=jl (findP L (rname A.pf k));rw[<-hix]at f1 f2;have hixl:ix<L.length:=f1.2 (by rw[hb];exact λe=>by cases e);have hx:=f2 b hb;obtain⟨lg,lo,rfl,cc0,cc1⟩:=cells_at (HN.out.later HBB.out) hx;obtain⟨sb,hsb⟩:∃s:ByteArray,nv b=.string s:=⟨_,rfl⟩;dsimp only at cc1;rw[hsb]at cc1
   have HFI:Hid (∀V:World,Below w.heap.size w V->Calls Tryz.prog 20 #[.slice (some ⟨lg,lo,none⟩) ln nc,.string sn] V λe w'=>e=.returned (.tuple #[.int .i64 (ix:Int),.bool true])/\w'=V):=jq (λV hV=>by
    have:=find_any (some ⟨lg,lo,none⟩) nc L (rname A.pf k) V (HN.out.later hV) (by have:=HL.out;omega);rw[hsn,<-HLN.out,<-hix,HLN.out,if_pos hixl,jd hixl,<-HLN.out]at this;exact this)
   rw[<-HLN.out]at hixl;have HNK:=jq hnm;have HRB:=jq (λV=>HRD.out b V (HSZ.out _ _ hb));have HFB:=jq hb;have HXB:=jq HBR.out.lt;rw[hsb]at HRB;clear hnm hix f1 f2 hx hsb cc0 hsn hb
   cases hrr:readR A.wd b with
   |none=>
    have HNO:=jq (show runsR A F ne=none from runsR_none (by omega) (runsR_stop HRR.out HFB.out hrr));rw[hrr]at HRB;clear hrr
    go_wp2_with fail
    refine HNK.out.mono ?_;rintro e w3 ⟨rfl,hB3⟩;have HB03:=jq (HBB.out.trans (hB3.mono HBB.out.size));have HF3:=jq (HFI.out w3 HB03.out);have c1:=(hB3.cell (p:=⟨lg,lo+ix*2+1,none⟩) (World.block_lt_of_cell? wr _ cc1)).trans cc1;have b1:=(hB3.cell (p:=⟨w.heap.size,1,none⟩) HXB.out).trans q1;clear hB3 q0 q1 q2 q3 q4 cc1
    go_wp2_with fail
    refine HF3.out.mono ?_;rintro e w4 ⟨rfl,rfl⟩;have hRW:=HRB.out w4.drew;have HB4:=jq HB03.out
    go_wp2_with fail
    go_region_held3 (λw'=>w'.cell? ⟨lg,lo+ix*2+1,none⟩=some (.string sb)/\w'.cell? ⟨w.heap.size,1,none⟩=some (.int .i64 wd)) (first|exact⟨c1,b1⟩|exact hk5) ((go_at_call 35;refine hRW.mono ?_;rintro e w5 ⟨hB5,ra,rc,rfl⟩;have hB5:=((Below.refl w4.heap.size w4).drew).trans hB5;have hk5:=And.intro ((hB5.cell (p:=⟨lg,lo+ix*2+1,none⟩) (World.block_lt_of_cell? w4 _ c1)).trans c1) ((hB5.cell (p:=⟨w.heap.size,1,none⟩) (World.block_lt_of_cell? w4 _ b1)).trans b1);dsimp only))
    obtain⟨W9,hW9⟩:=jl (w5.alloc (.cells #[] 9));have HE:=jq (show RowsOut A F ne held w (.returned (.tuple #[.slice (some ⟨w5.heap.size,0,none⟩) 0 0,.int .i64 5])) W9 from⟨by rw[hW9];exact((HB4.out.trans (hB5.mono HB4.out.size)).alloc (Nat.le_trans HB4.out.size hB5.size) _),by rw[HNO.out];exact⟨_,_,rfl⟩⟩);rw[hW9]at HE;clear hB5 hk5 hW9 c1 b1 hRW
    go_wp2_with fail
    go_ret2
    exact HE.out
   |some lk=>
    have HNX:=jq (show runsR A F (k+1)=some (ls++ [lk])from runsR_next HRR.out HFB.out hrr);have HLK:=jq (show lk.length<=10000 from Nat.le_trans (readR_len (by have:=HOK.out.2.2.1;omega) hrr) (HSZ.out _ _ HFB.out));rw[hrr]at HRB;clear hrr
    go_wp2_with fail
    refine HNK.out.mono ?_;rintro e w3 ⟨rfl,hB3⟩;have HB03:=jq (HBB.out.trans (hB3.mono HBB.out.size));have HF3:=jq (HFI.out w3 HB03.out);have c1:=(hB3.cell (p:=⟨lg,lo+ix*2+1,none⟩) (World.block_lt_of_cell? wr _ cc1)).trans cc1;have b1:=(hB3.cell (p:=⟨w.heap.size,1,none⟩) HXB.out).trans q1;have HO3:=jq (own_later HOU.out hB3);have HX3:=jq (HBR.out.below hB3 HBR.out.lt);clear hB3 q0 q1 q2 q3 q4 cc1
    go_wp2_with fail
    refine HF3.out.mono ?_;rintro e w4 ⟨rfl,rfl⟩;have hRW:=HRB.out w4.drew;have HB4:=jq HB03.out
    go_wp2_with fail
    go_region_held3 (λw'=>w'.cell? ⟨lg,lo+ix*2+1,none⟩=some (.string sb)/\w'.cell? ⟨w.heap.size,1,none⟩=some (.int .i64 wd)) (first|exact⟨c1,b1⟩|exact hk5) ((go_at_call 35;refine hRW.mono ?_;rintro e w5 ⟨hB5,ra,rc,rfl,hOr⟩;have hB5:=((Below.refl w4.heap.size w4).drew).trans hB5;have hk5:=And.intro ((hB5.cell (p:=⟨lg,lo+ix*2+1,none⟩) (World.block_lt_of_cell? w4 _ c1)).trans c1) ((hB5.cell (p:=⟨w.heap.size,1,none⟩) (World.block_lt_of_cell? w4 _ b1)).trans b1);dsimp only))
    obtain⟨ra',rc',e5,_,hLr,_,_⟩:=own_shape hOr;injection e5 with e6 e7 e8;rw[<-e6]at hLr;have hO5:OwnS w5 (w.heap.size+1) (.slice oa n oc) (held++ls.flatten):=own_later HO3.out hB5;have hX5:=HX3.out.below hB5 HX3.out.lt;have hcnt:=runsR_count (m:=10000) (by have:=HOK.out.2.2.1;omega) HSZ.out HRR.out;have hz5:w.heap.size+1<=w5.heap.size:=by have:=HX3.out.lt;have:=hB5.size;omega
    obtain⟨a6,c6,w6,hr6,hO6,hg6⟩:=run_append_strs w5 36 _ _ hO5 ra rc lk hLr (by
     have:=HH.out;have:=HLK.out;have:=Nat.mul_le_mul_right 10000 hk;have:=Nat.mul_le_mul_right 10000 hne;rw[jL]
     omega) hz5
    have hB06:Below w.heap.size w w6:=(HB4.out.trans (hB5.mono HB4.out.size)).grown hg6 (by omega) (λq hq=>by have:=(hO5.lt q hq).1;omega);have hX6:=(hg6.block w.heap.size hX5.lt (λe=>by have:=(hO5.lt w.heap.size e.symm).1;omega)).trans hX5;obtain⟨n6,hn6⟩:=jl ((held++(ls++ [lk]).flatten).length);have hfe:held++ls.flatten++lk=held++(ls++ [lk]).flatten:=by simp
    rw[hfe,<-hn6]at hr6 hO6;obtain⟨nl,hnl⟩:=jl lk.length;rw[<-hnl]at hr6⊢;have HN6:=jq hn6;have HO6:=jq hO6;have HX6:=jq (show Blk w6 w.heap.size 38 #[.string sp,.int .i64 wd,.int .i64 rm,.slice mh hn mc,.int .i64 ne]from hX6);have HB06:=jq hB06;clear hB5 hk5 c1 b1 hRW hOr e6 e7 e8 hLr hO5 hX5 hcnt hz5 hO6 hg6 hB06 hX6 hn6 hfe hnl
    go_wp2_with (first|(at_builtin;refine Lib.wpList_append_run _ rfl _ _ _ _ rfl _ _ rfl rfl _ _ hr6 ?_))
    go_roundw
    case rel=>exact⟨k+1,n6,ls++ [lk],a6,c6,by omega,by simp,rfl,HN6,HNX,HO6,HX6,HB06⟩
    case measure=>simp[intOf];omega
  ·obtain rfl:k=ne:=by omega
   have hkd:decide ((k:Int) <(k:Int))=false:=jf (by omega);obtain⟨oa',oc',e1,_,hLo,_,_⟩:=own_shape HOU.out;injection e1 with e1 e2 e3
   have hso:=refSorted_any wr oa oc (held++ls.flatten) (by rw[e1];exact hLo) (by
    have:=runsR_count (by have:=HOK.out.2.2.1;omega) HSZ.out HRR.out;have:=HH.out;rw[jL];have:=Nat.mul_le_mul_right 10000 hne
    omega)
   rw[<-HNN.out]at hso;have HSO:=jq hso;clear e1 e2 e3 hLo hso q0 q1 q2 q3
   go_wp2_with fail
   with_reducible refine HSO.out.mono ?_
   rintro e w5 ⟨v5,rfl,hO5,hB5⟩;obtain⟨sa,sc,rfl,_,hL5,_,_⟩:=own_shape hO5
   have HE:=jq (show RowsOut A F k held w (.returned (.tuple #[.slice sa n sc,.int .i64 0])) w5 from⟨HBB.out.trans (hB5.mono HBB.out.size),by
    rw[HRR.out];exact⟨sa,sc,by rw[<-HNN.out],hL5⟩⟩)
   clear hO5 hL5 hB5
   go_wp2_with fail
   go_ret2
   exact HE.out
end Runs
namespace Runs
open Go.RowKit Go.Deep Go.Shelf Mem Crc Merge RefF
open Store (nv)
def rewP (L:List FF) (A:Fi) (ne:Nat) (l:List B):List FF:=if l= []then rmP L A.pf ne else putP (rmP L A.pf ne) (rname A.pf 0) (Frame.frameL 82 l.flatten)
attribute [local go_sem] Oper.semAt_some
theorem refRewrite_any (A:Fi) (hok:A.ok) (L:List FF) (l:List B) (mh an la:Option Addr) (hn mc nc lc ne:Nat) (w:World) (hne:ne<=100000) (hN:Lies w an (flatP L)) (hL:L.length<=100000) (hla:Lies w la (l.map strB)) (hl:l.length<=10000) (hfl:l.flatten.length<=900000):
  Calls Tryz.prog 33 #[sV A mh hn mc ne,.slice an L.length nc,.slice la l.length lc] w λe w'=>∃ma an' nc',e=.returned (.tuple #[sV A ma 0 0 (rewN l),.slice an' (rewP L A ne l).length nc'])/\OwnS w' w.heap.size (.slice ma 0 0) []/\RowP w.heap.size w' an an' L (rewP L A ne l)/\Below w.heap.size w w':=by
 obtain⟨k1,k2,k3,k4,k5,k6⟩:=id hok;obtain⟨wd,hwd⟩:∃z:Int,z=A.wd:=⟨_,rfl⟩;obtain⟨rm,hrmz⟩:∃z:Int,z=A.rm:=⟨_,rfl⟩;obtain⟨sp,hsp⟩:∃s:ByteArray,nv A.pf=.string s:=⟨_,rfl⟩;have hS:=sbox_new w (.string sp) (.int .i64 wd) (.int .i64 rm) (.slice mh hn mc) (.int .i64 ne);obtain⟨x0,x1,x2,x3,x4⟩:=hS.cells;have hsv:∀(a:Option Addr) (k c j:Nat),sV A a k c j=.agg #[.string sp,.int .i64 wd,.int .i64 rm,.slice a k c,.int .i64 j]:=λa k c j=>by unfold sV;rw[hsp,hwd,hrmz]
 have hC:=refClear_any A hok L mh an hn mc nc ne _ hne (hN.later hS.below) hL
 have hNM:∀(ma:Option Addr) (V:World),Calls Tryz.prog 21 #[.agg #[.string sp,.int .i64 wd,.int .i64 rm,.slice ma 0 0,.int .i64 0],.int .i64 0] V λe w'=>e=.returned (nv (rname A.pf 0))/\Below V.heap.size V w':=λma V=>by
  have:=refName_any A.pf k2 wd rm 0 ma 0 0 0 (by omega) V;rw[hsp]at this;exact this
 obtain⟨pn,hpn⟩:=jl ((rmP L A.pf ne).length);obtain⟨ln,hln⟩:=jl L.length;obtain⟨nl,hnl⟩:=jl l.length;rw[<-hln,<-hpn,hsv]at hC;simp only[hsv]at hC;rw[hsv,<-hln,<-hnl];have HNM:=jq hNM;have HSV:=jq hsv;have HC:=jq hC;have HS:=jq hS;have HN0:=jq hN;have HLA:=jq hla;have HNL:=jq hnl;have HPN:=jq hpn;have HFL:=jq hfl;have HLB:=jq (show(rmP L A.pf ne).length<=100000 from Nat.le_trans (rmP_len L A.pf ne) hL);have HL1:=jq hl;clear hsp hwd hrmz hS hC hln hpn hN hsv hok hL hne hNM hla hnl hfl k1 k2 k3 k4 k5 k6 hl
 go_enter Tryz.func33,Tryz.ntmps33
 go_wp2_with fail
 refine HC.out.mono ?_;rintro e w3 ⟨ma,an',nc',rfl,hOe,hRow,hB3⟩;have hS3:=HS.out.later hB3;obtain⟨y0,y1,y2,y3,y4⟩:=hS3.cells;obtain⟨u0,u1,u2,u3,u4,_,_,g0,g1,g2,g3,g4⟩:=hS3.res;have hS4:=hS3.sets (.string sp) (.int .i64 wd) (.int .i64 rm) (.slice ma 0 0) (.int .i64 0);obtain⟨t0,t1,t2,t3,t4⟩:=hS4.cells;obtain⟨v0,v1,v2,v3,v4,⟨r0,r1,r2,r3,r4⟩,⟨z0,z1,z2,z3,z4⟩,⟨j0,j1,j2,j3,j4⟩⟩:=hS4.res;obtain⟨W4,hW4⟩:=jl (((((w3.setCell ⟨w.heap.size,0,none⟩ (.string sp)).setCell ⟨w.heap.size,1,none⟩ (.int .i64 wd)).setCell ⟨w.heap.size,2,none⟩ (.int .i64 rm)).setCell ⟨w.heap.size,3,none⟩ (.slice ma 0 0)).setCell ⟨w.heap.size,4,none⟩ (.int .i64 0));rw[<-hW4]at hS4;have hu34:Upon (λg=>g=w.heap.size\/g=w.heap.size+1) w3 W4:=by rw[hW4];exact(((((Upon.refl (λg=>g=w.heap.size\/g=w.heap.size+1) w3).set (p:=⟨w.heap.size,0,none⟩) (.inl (.inl rfl)) _).set (p:=⟨w.heap.size,1,none⟩) (.inl (.inl rfl)) _).set (p:=⟨w.heap.size,2,none⟩) (.inl (.inl rfl)) _).set (p:=⟨w.heap.size,3,none⟩) (.inl (.inl rfl)) _).set (p:=⟨w.heap.size,4,none⟩) (.inl (.inl rfl)) _
 have hz2:w.heap.size+2<=w3.heap.size:=by have:=hB3.size;simp at this;omega
 have hrow4:RowP (w.heap.size+2) W4 an an' L (rmP L A.pf ne):=by
  have h1:=hRow.upon HN0.out (xb:=w.heap.size) (rb:=w.heap.size+1) ⟨Nat.le_refl _,by simp <;> omega⟩ ⟨by omega,by simp <;> omega⟩ hu34;exact h1.mono (by simp <;> omega)
 have hOe4:OwnS W4 (w.heap.size+2) (.slice ma 0 0) []:=own_mono (hS3.row hu34 hOe (by decide)) (by simp <;> omega);have HR4:=jq hrow4;have HO4:=jq hOe4;have HS4:=jq hS4;have HZ4:=jq (show w.heap.size+2<=W4.heap.size from Nat.le_trans hz2 hu34.size);clear hRow hOe hrow4 hOe4 hS3 hu34 hz2 hB3 hS4
 by_cases h0:nl=0
 ·have hd:decide (0<nl)=false:=jf (by omega);have hl0:l= []:=List.eq_nil_of_length_eq_zero (by rw[<-HNL.out];exact h0);have HL0:=jq hl0;have HW4:=jq hW4;clear hl0 h0 hW4
  go_wp2_with fail
  refine bodyPost_ret (v:=.tuple #[.agg #[.string sp,.int .i64 wd,.int .i64 rm,.slice ma 0 0,.int .i64 0],.slice an' pn nc']) (by simp[results,Tryz.f33,go_sem,r0,r1,r2,r3,r4]) rfl ?_;rw[<-HW4.out];have hu:=((((((Upon.refl (λg=>g=w.heap.size\/g=w.heap.size+1) W4).set (p:=⟨w.heap.size+1,0,none⟩) (.inl (.inr rfl)) (.string sp)).set (p:=⟨w.heap.size+1,1,none⟩) (.inl (.inr rfl)) (.int .i64 wd)).set (p:=⟨w.heap.size+1,2,none⟩) (.inl (.inr rfl)) (.int .i64 rm)).set (p:=⟨w.heap.size+1,3,none⟩) (.inl (.inr rfl)) (.slice ma 0 0)).set (p:=⟨w.heap.size+1,4,none⟩) (.inl (.inr rfl)) (.int .i64 0));have hrw:rewP L A ne l=rmP L A.pf ne:=if_pos HL0.out;have hrn:rewN l=0:=if_pos HL0.out;rw[hrw,hrn];refine⟨ma,an',nc',by rw[HSV.out,HPN.out];rfl,own_mono (HS4.out.row hu HO4.out (by decide)) (by omega),((HR4.out.upon HN0.out ⟨Nat.le_refl _,by omega⟩ ⟨by omega,by omega⟩ hu).mono (by omega)),HS4.out.done hu⟩
 ·have hd:decide (0<nl)=true:=jd (by omega);have HL0:=jq (show¬l= []from λe=>h0 (by rw[HNL.out,e];rfl));have HNW:=jq (HNM.out ma W4);obtain⟨sn,hsn⟩:∃s:ByteArray,nv (rname A.pf 0)=.string s:=⟨_,rfl⟩;rw[hsn]at HNW;have HSN:=jq hsn;clear h0 hsn
  go_wp2_with fail
  rw[<-hW4];clear hW4 t0 t1 t2 t3 t4 r0 r1 r2 r3 r4 z0 z1 z2 z3 z4 j0 j1 j2 j3 j4 y0 y1 y2 y3 y4 g0 g1 g2 g3 g4 x0 x1 x2 x3 x4;refine HNW.out.mono ?_;rintro e w5 ⟨rfl,hB5⟩;have hlw:Lies w5 la (l.map strB):=(HLA.out.later HS4.out.below).later hB5;have hrun:=refRun_any la lc l w5 hlw HFL.out (by have:=HL1.out;omega);obtain⟨sr,hsr⟩:∃s:ByteArray,nv (Frame.frameL 82 l.flatten)=.string s:=⟨_,rfl⟩;rw[hsr,<-HNL.out]at hrun;have HRUN:=jq hrun;have HSR:=jq hsr;have HB5:=jq hB5;clear hlw hrun hsr hB5
  go_wp2_with fail
  refine HRUN.out.mono ?_;rintro e w6 ⟨rfl,hB6⟩;have hB46:Below W4.heap.size W4 w6:=HB5.out.trans (hB6.mono HB5.out.size);have hput:=put_any an' nc' (rmP L A.pf ne) (rname A.pf 0) (Frame.frameL 82 l.flatten) w6 (HR4.out.later hB46).lies HLB.out;rw[HSN.out,HSR.out,<-HPN.out]at hput;have HPUT:=jq hput;have HB46:=jq hB46;clear hput hB6 hB46
  go_wp2_with fail
  refine HPUT.out.mono ?_;rintro e w7 ⟨v7,rfl,hO7,hB7⟩;obtain⟨a7,c7,rfl,_,hL7,hb7,hk7⟩:=own_shape hO7;have hB47:Below W4.heap.size W4 w7:=HB46.out.trans (hB7.mono HB46.out.size);have hS7:=HS4.out.later hB47;obtain⟨t0,t1,t2,t3,t4⟩:=hS7.cells;obtain⟨v0,v1,v2,v3,v4,⟨r0,r1,r2,r3,r4⟩,⟨z0,z1,z2,z3,z4⟩,⟨j0,j1,j2,j3,j4⟩⟩:=hS7.res;obtain⟨p7,hp7⟩:=jl ((putP (rmP L A.pf ne) (rname A.pf 0) (Frame.frameL 82 l.flatten)).length);have hz4:=HZ4.out;have hz6:=HB46.out.size;have HR7:=jq (show RowP (w.heap.size+2) w7 an a7 L (putP (rmP L A.pf ne) (rname A.pf 0) (Frame.frameL 82 l.flatten))from⟨hL7,.inr (λg hg=>⟨by have:=hb7 g hg;omega,(hO7.lt g (hk7.trans hg)).2⟩)⟩);rw[<-hp7];have HP7:=jq hp7;have HS7:=jq hS7;have HO7:=jq (own_later HO4.out hB47);clear hO7 hB7 hL7 hb7 hk7 hB47 hS7 hp7 hz4 hz6
  go_wp2_with fail
  refine bodyPost_ret (v:=.tuple #[.agg #[.string sp,.int .i64 wd,.int .i64 rm,.slice ma 0 0,.int .i64 1],.slice a7 p7 c7]) (by simp[results,Tryz.f33,go_sem,r0,r1,r2,r3,r4]) rfl ?_;have hu:=(((((((Upon.refl (λg=>g=w.heap.size\/g=w.heap.size+1) w7).set (p:=⟨w.heap.size,4,none⟩) (.inl (.inl rfl)) (.int .i64 1)).set (p:=⟨w.heap.size+1,0,none⟩) (.inl (.inr rfl)) (.string sp)).set (p:=⟨w.heap.size+1,1,none⟩) (.inl (.inr rfl)) (.int .i64 wd)).set (p:=⟨w.heap.size+1,2,none⟩) (.inl (.inr rfl)) (.int .i64 rm)).set (p:=⟨w.heap.size+1,3,none⟩) (.inl (.inr rfl)) (.slice ma 0 0)).set (p:=⟨w.heap.size+1,4,none⟩) (.inl (.inr rfl)) (.int .i64 1));have hrw:rewP L A ne l=putP (rmP L A.pf ne) (rname A.pf 0) (Frame.frameL 82 l.flatten):=if_neg HL0.out;have hrn:rewN l=1:=if_neg HL0.out;rw[hrw,hrn];refine⟨ma,a7,c7,by rw[HSV.out,HP7.out];rfl,own_mono (HS7.out.row hu HO7.out (by decide)) (by omega),((HR7.out.upon HN0.out ⟨Nat.le_refl _,by omega⟩ ⟨by omega,by omega⟩ hu).mono (by omega)),HS7.out.done hu⟩
end Runs
namespace Runs
open Go.RowKit Go.Deep Go.Shelf Mem Crc Go.Maps Merge Full RefF
open Store (Sto Files setF setF_same setF_other nv)
structure RowK (B:Nat) (D:Nat->Prop) (p:Nat) (w:World) (a:Option Addr) (xs:List Value):Prop where
 lies:Lies w a xs
 away:∀k,Mem.blk a=some k->(¬D k/\k≠p)/\B<=k/\k<w.heap.size
theorem RowK.none {B:Nat} {D:Nat->Prop} {p:Nat} {w:World}:RowK B D p w none []:=⟨.inl rfl,λk hk=>by cases hk⟩
theorem RowK.step {B:Nat} {D D':Nat->Prop} {p:Nat} {w w':World} {a:Option Addr} {xs:List Value} (h:RowK B D p w a xs) (hu:Upon (λk=>D k\/k=p) w w') (hd:∀k,D' k->D k\/w.heap.size<=k):RowK B D' p w' a xs:=
 ⟨h.lies.upon hu (λk hk=>λhq=>hq.elim (h.away k hk).1.1 (h.away k hk).1.2),λk hk=>by
  obtain⟨⟨h1,h2⟩,h3,h4⟩:=h.away k hk;exact⟨⟨λh5=>(hd k h5).elim h1 (λh6=>by omega),h2⟩,h3,Nat.lt_of_lt_of_le h4 hu.size⟩⟩
theorem RowK.fresh {B:Nat} {D:Nat->Prop} {p b:Nat} {w:World} {e:TypeId} {size n:Nat} {a:Option Addr} {c:Nat} {xs:List Value} (h:w.ownsRow b e size (.slice a n c) n xs) (hB:B<=b) (hD:∀k,D k->k<b) (hp:p<b):RowK B D p w a xs:=by
 obtain⟨_,_,e1,_,hL,hb,hk⟩:=own_shape h;injection e1 with e1 _ _;subst e1;refine⟨hL,λk hk2=>?_⟩;have h1:=hb k hk2;have h2:=(h.lt k (hk.trans hk2)).2;exact⟨⟨λh3=>by have:=hD k h3;omega,by omega⟩,by omega,h2⟩
structure RD where
 s:Nat
 d:Nat
 x:Nat
 pf:List UInt8
 wd:Nat
 rm:Nat
 D:Nat->Prop
 F:Files
 H:Files
 n:Nat
 ne:Nat
 held:List B
 mh:Option Addr
 mc:Nat
 L:List FF
 an:Option Addr
 nc:Nat
 LH:List FF
 ah:Option Addr
 hc:Nat
def RD.A (S:RD):Fi:=⟨S.s,S.pf,S.wd,S.rm⟩
def RD.cells (S:RD):Array Value:=#[.pointer (some ⟨S.d,0,none⟩),.pointer (some ⟨S.s,0,none⟩),.pointer (some ⟨S.x,0,none⟩),nv S.pf,.int .i64 S.wd,.int .i64 S.rm,.slice S.mh S.held.length S.mc,.int .i64 S.ne,.slice S.an S.L.length S.nc,.slice S.ah S.LH.length S.hc]
structure RPlay (B p:Nat) (o:Option Obj) (i:Nat) (w:World) (S:RD):Prop where
 live:InG (stoX B S.s S.d 400 o S.H) S.A S.D w S.x S.ne S.F S.held S.n
 runs:∀j,j<S.ne->S.F (rname S.pf j)≠none
 base:∀k,S.D k->B<=k\/k=1
 blk:Blk w p 44 S.cells
 pD:¬S.D p
 pB:B<=p
 ml:RowK B S.D p w S.mh (S.held.map strB)
 nl:RowK B S.D p w S.an (flatP S.L)
 hl:RowK B S.D p w S.ah (flatP S.LH)
 rowN:IsRow S.L S.F
 rowH:IsRow S.LH S.H
 ni:S.n<=20000+100*i
 li:S.L.length<=i
 lhi:S.LH.length<=i
 hi:S.held.length<=i
 sz:∀nm b,S.F nm=some b->b.length<=10000
 szH:∀nm b,S.H nm=some b->b.length<=10000
def RStep (B p:Nat) (o:Option Obj) (i:Nat) (S:RD) (w w':World):Prop:=∃S',RPlay B p o (i+1) w' S'/\(S'.pf=S.pf/\S'.wd=S.wd/\S'.rm=S.rm)/\(∀k,S'.D k->S.D k\/w.heap.size<=k)/\Upon (λk=>S.D k\/k=p) w w'
variable {B p i:Nat} {o:Option Obj} {w w':World} {S:RD}
theorem RPlay.later (h:RPlay B p o i w S) (hB:Below w.heap.size w w'):RPlay B p o i w' S:=by
 have hu:Upon (λk=>S.D k\/k=p) w w':=Upon.of_below hB;exact⟨h.live.later hB,h.runs,h.base,h.blk.below hB h.blk.lt,h.pD,h.pB,h.ml.step hu (λk hk=>.inl hk),h.nl.step hu (λk hk=>.inl hk),h.hl.step hu (λk hk=>.inl hk),h.rowN,h.rowH,h.ni,h.li,h.lhi,h.hi,h.sz,h.szH⟩
theorem RPlay.mono {j:Nat} (h:RPlay B p o i w S) (hj:i<=j):RPlay B p o j w S:=
 ⟨h.live,h.runs,h.base,h.blk,h.pD,h.pB,h.ml,h.nl,h.hl,h.rowN,h.rowH,Nat.le_trans h.ni (by omega),Nat.le_trans h.li hj,Nat.le_trans h.lhi hj,Nat.le_trans h.hi hj,h.sz,h.szH⟩
theorem RPlay.same (h:RPlay B p o i w S) (hB:Below w.heap.size w w'):RStep B p o i S w w':=⟨S,(h.later hB).mono (Nat.le_succ i),⟨rfl,rfl,rfl⟩,λ_ hk=>.inl hk,Upon.of_below hB⟩
theorem RPlay.zero (h:RPlay B p o i w S):w.heap[1]? =o/\1<B/\B<=w.heap.size:=by
 obtain⟨Q,R,hv,vs,hs⟩:=h.live;obtain⟨-,-,h1,h2,h3⟩:=stoX_base hs.srt.sto;exact⟨h3,h1,h2⟩
theorem RStep.below (h:RPlay B p o i w S) (hs:RStep B p o i S w w'):Below B w w':=by
 obtain⟨S',h1,-,-,hu⟩:=hs;obtain⟨z1,z2,z3⟩:=h.zero;obtain⟨z4,-,-⟩:=h1.zero;refine⟨hu.os,hu.tape,hu.output,hu.size,λk hk=>?_⟩
 by_cases e:k=1
 ·rw[e,z1,z4]
 ·refine hu.block k (by omega) (λhq=>?_);rcases hq with hq|rfl
  ·rcases h.base k hq with h2|h2
   ·omega
   ·exact e h2
  ·have:=h.pB
   omega
theorem runs_few {L:List FF} {F:Files} {pf:List UInt8} {ne:Nat} (h:IsRow L F) (hr:∀j,j<ne->F (rname pf j)≠none) (hn:ne<10^20):ne<=L.length:=by
 have hlm: (L.map Prod.fst).length=L.length:=by simp
 rw[<-hlm];refine among_le (rname pf) ne _ (λi j hi hj e=>rname_inj (by omega) (by omega) e) (λj hj=>?_);have:=hr j hj;refine Classical.byContradiction (λhm=>this ((h.none_ _).2 (λx hx e=>hm ?_)));exact List.mem_map.2 ⟨x,hx,e⟩
end Runs
namespace Runs
open Go.RowKit Go.Deep Go.Shelf Mem Crc Go.Maps Merge Full RefF
open Store (Sto Files setF setF_same setF_other nv)
variable {B p i:Nat} {o:Option Obj} {w w':World} {S:RD}
theorem RPlay.up {s' x' ne' n':Nat} {H' F':Files} {A':Fi} {D':Nat->Prop} {held':List (List UInt8)} {w1:World} (h:RPlay B p o i w S) (hl:InG (stoX B s' S.d 400 o H') A' D' w1 x' ne' F' held' n') (hu:Upon (λk=>S.D k\/k=p) w w1):Below B w w1:=by
 obtain⟨Q,R,hv,vs,hs⟩:=hl;obtain⟨-,-,-,-,z4⟩:=stoX_base hs.srt.sto;obtain⟨z1,z2,z3⟩:=h.zero;refine⟨hu.os,hu.tape,hu.output,hu.size,λk hk=>?_⟩
 by_cases e:k=1
 ·rw[e,z1,z4]
 ·refine hu.block k (by omega) (λhq=>?_);rcases hq with hq|rfl
  ·rcases h.base k hq with h2|h2
   ·omega
   ·exact e h2
  ·have:=h.pB
   omega
theorem RPlay.next (h:RPlay B p o i w S) {w1 w2 w3:World} {D':Nat->Prop} {F':Files} {ne' n' mc' nc':Nat} {held':List (List UInt8)} {mh' an':Option Addr} {L':List FF}
  (live:InG (stoX B S.s S.d 400 o S.H) S.A D' w1 S.x ne' F' held' n') (hd:∀k,D' k->S.D k\/(w.heap.size<=k/\k<w1.heap.size)) (hu1:Upon S.D w w1) (hB2:Below w1.heap.size w1 w2) (hu3:Upon (λk=>k=p) w2 w3) (runs:∀j,j<ne'->F' (rname S.pf j)≠none)
  (blk:Blk w3 p 44 (RD.cells {S with D:=D',F:=F',n:=n',ne:=ne',held:=held',mh:=mh',mc:=mc',L:=L',an:=an',nc:=nc'}))
  (hm: (mh'=S.mh/\held'=S.held)\/OwnS w2 w1.heap.size (.slice mh' held'.length mc') held') (hn:RowP w1.heap.size w2 S.an an' S.L L') (rowN:IsRow L' F') (ni:n'<=S.n+100) (li:L'.length<=S.L.length+1) (hi:held'.length<=S.held.length+1) (sz:∀nm b,F' nm=some b->b.length<=10000):
  RStep B p o i S w w3:=by
 have hpl:=h.blk.lt;have hz1:=hu1.size;have hz2:=hB2.size;have hz3:=hu3.size;obtain⟨zo,zb,zs⟩:=h.zero;have hd0:∀k,D' k->S.D k\/w.heap.size<=k:=λk hk=>(hd k hk).imp id (λh=>h.1)
 have hpD:¬D' p:=λhk=>(hd p hk).elim h.pD (λh1=>by omega)
 have hu12:Upon (λk=>S.D k\/k=p) w w2:=(hu1.mono (λk hk=>Or.inl hk)).trans (Upon.of_below (P:=λk=>S.D k\/k=p) hB2) (λk hk=>.inl hk);have hu:Upon (λk=>S.D k\/k=p) w w3:=hu12.trans (hu3.mono (λk hk=>Or.inr hk)) (λk hk=>.inl hk)
 have hDlt:∀k,D' k->k<w1.heap.size:=λk hk=>by
  obtain⟨Q,R,hv,vs,hs⟩:=live;exact hs.lt k hk
 have live3:=(live.later hB2).keep hu3 (λg hg e=>hpD (by rw[<-e];exact hg))
 have fresh:∀{a:Option Addr} {xs:List Value},Lies w2 a xs->(∀g,Mem.blk a=some g->w1.heap.size<=g/\g<w2.heap.size)->RowK B D' p w3 a xs:=fun{a xs} hL hg=>⟨hL.upon hu3 (λg hg2 e=>by have:=hg g hg2;omega),λg hg2=>by
  have h1:=hg g hg2;exact⟨⟨λh2=>by have:=hDlt g h2;omega,by omega⟩,by omega,by omega⟩⟩
 refine⟨{S with D:=D',F:=F',n:=n',ne:=ne',held:=held',mh:=mh',mc:=mc',L:=L',an:=an',nc:=nc'},⟨live3,runs,λk hk=>(hd k hk).elim (h.base k) (λh1=>.inl (by omega)),blk,hpD,h.pB,?_,?_,h.hl.step hu hd0,rowN,h.rowH,by have:=h.ni;dsimp only;omega,by have:=h.li;dsimp only;omega,by have:=h.lhi;dsimp only;omega,by have:=h.hi;dsimp only;omega,sz,h.szH⟩,⟨rfl,rfl,rfl⟩,hd0,hu⟩
 ·rcases hm with⟨rfl,rfl⟩|hm
  ·exact h.ml.step hu hd0
  ·obtain⟨_,_,e1,_,hL,hb,hk⟩:=own_shape hm;injection e1 with e1 _ _;subst e1;exact fresh hL (λg hg=>hb g hg)
 ·rcases hn.new with⟨rfl,rfl⟩|h2
  ·exact h.nl.step hu hd0
  ·exact fresh hn.lies h2
end Runs
namespace Runs
open Go.RowKit Go.Deep Go.Shelf Mem Crc Go.Maps Merge Full RefF
open Store (Sto Files setF setF_same setF_other nv)
variable {B p i:Nat} {o:Option Obj} {w w':World} {S:RD}
theorem RPlay.cells (h:RPlay B p o i w S) {sp:ByteArray} (hsp:nv S.pf=.string sp):w.cell? ⟨p,0,none⟩=some (.pointer (some ⟨S.d,0,none⟩))/\w.cell? ⟨p,1,none⟩=some (.pointer (some ⟨S.s,0,none⟩))/\w.cell? ⟨p,2,none⟩=some (.pointer (some ⟨S.x,0,none⟩))/\w.cell? ⟨p,3,none⟩=some (.string sp)/\w.cell? ⟨p,4,none⟩=some (.int .i64 S.wd)/\w.cell? ⟨p,5,none⟩=some (.int .i64 S.rm)/\w.cell? ⟨p,6,none⟩=some (.slice S.mh S.held.length S.mc)/\w.cell? ⟨p,7,none⟩=some (.int .i64 S.ne)/\w.cell? ⟨p,8,none⟩=some (.slice S.an S.L.length S.nc)/\w.cell? ⟨p,9,none⟩=some (.slice S.ah S.LH.length S.hc):=by
 have h:=h.blk;unfold RD.cells at h;rw[hsp]at h;exact⟨by rw[h.cell];rfl,by rw[h.cell];rfl,by rw[h.cell];rfl,by rw[h.cell];rfl,by rw[h.cell];rfl,by rw[h.cell];rfl,by rw[h.cell];rfl,by rw[h.cell];rfl,by rw[h.cell];rfl,by rw[h.cell];rfl⟩
structure FR where
 ma:Option Addr
 n:Nat
 c:Nat
 ne:Nat
 an:Option Addr
 ln:Nat
 nc:Nat
theorem end1 {w3:World} {p b0 b1:Nat} {t:TypeId} {a0 a1 a2 a3 a4 a5 a6 a7 a8 a9:Value} (h:Blk w3 p t #[a0,a1,a2,a3,a4,a5,a6,a7,a8,a9]) (v3 v4 v5 v6 v7 v8:Value) (o:Obj):
  Upon (λk=>k=p\/(b0<=k/\k<b1)) w3 (((((((w3.setCell ⟨p,3,none⟩ v3).setCell ⟨p,4,none⟩ v4).setCell ⟨p,5,none⟩ v5).setCell ⟨p,6,none⟩ v6).setCell ⟨p,7,none⟩ v7).setCell ⟨p,8,none⟩ v8).alloc o)/\Blk (((((((w3.setCell ⟨p,3,none⟩ v3).setCell ⟨p,4,none⟩ v4).setCell ⟨p,5,none⟩ v5).setCell ⟨p,6,none⟩ v6).setCell ⟨p,7,none⟩ v7).setCell ⟨p,8,none⟩ v8).alloc o) p t #[a0,a1,a2,v3,v4,v5,v6,v7,v8,a9]:=
 ⟨Upon.alloc (Upon.set (Upon.set (Upon.set (Upon.set (Upon.set (Upon.set (Upon.refl _ _) (.inl (.inl rfl)) _) (.inl (.inl rfl)) _) (.inl (.inl rfl)) _) (.inl (.inl rfl)) _) (.inl (.inl rfl)) _) (.inl (.inl rfl)) _) _,((((((h.set 3 v3).set 4 v4).set 5 v5).set 6 v6).set 7 v7).set 8 v8).alloc o⟩
theorem end2 {w3:World} {p b b0 b1:Nat} {t:TypeId} {a0 a1 a2 a3 a4 a5 a6 a7 a8 a9:Value} (h:Blk w3 p t #[a0,a1,a2,a3,a4,a5,a6,a7,a8,a9]) (hne:p≠b) (u0 u1 u2 u3 u4 v3 v4 v5 v6 v7 v8:Value) (h0:b0<=b) (h1:b<b1):
  Upon (λk=>k=p\/(b0<=k/\k<b1)) w3 (((((((((((w3.setCell ⟨b,0,none⟩ u0).setCell ⟨b,1,none⟩ u1).setCell ⟨b,2,none⟩ u2).setCell ⟨b,3,none⟩ u3).setCell ⟨b,4,none⟩ u4).setCell ⟨p,3,none⟩ v3).setCell ⟨p,4,none⟩ v4).setCell ⟨p,5,none⟩ v5).setCell ⟨p,6,none⟩ v6).setCell ⟨p,7,none⟩ v7).setCell ⟨p,8,none⟩ v8)/\Blk (((((((((((w3.setCell ⟨b,0,none⟩ u0).setCell ⟨b,1,none⟩ u1).setCell ⟨b,2,none⟩ u2).setCell ⟨b,3,none⟩ u3).setCell ⟨b,4,none⟩ u4).setCell ⟨p,3,none⟩ v3).setCell ⟨p,4,none⟩ v4).setCell ⟨p,5,none⟩ v5).setCell ⟨p,6,none⟩ v6).setCell ⟨p,7,none⟩ v7).setCell ⟨p,8,none⟩ v8) p t #[a0,a1,a2,v3,v4,v5,v6,v7,v8,a9]:=by
 have hb: (λk=>k=p\/(b0<=k/\k<b1)) b\/w3.heap.size<=b:=.inl (.inr ⟨h0,h1⟩);exact⟨Upon.set (Upon.set (Upon.set (Upon.set (Upon.set (Upon.set (Upon.set (Upon.set (Upon.set (Upon.set (Upon.set (Upon.refl _ _) hb _) hb _) hb _) hb _) hb _) (.inl (.inl rfl)) _) (.inl (.inl rfl)) _) (.inl (.inl rfl)) _) (.inl (.inl rfl)) _) (.inl (.inl rfl)) _) (.inl (.inl rfl)) _,((((((((((h.far hne u0).far hne u1).far hne u2).far hne u3).far hne u4).set 3 v3).set 4 v4).set 5 v5).set 6 v6).set 7 v7).set 8 v8⟩
theorem blk_new_lt (w:World) (t:TypeId) (cs:Array Value):w.heap.size<(w.alloc (.cells cs t)).drew.heap.size:=(Blk.drew (Blk.new w t cs)).lt
end Runs
namespace Runs
open Go.RowKit Go.Deep Go.Shelf Mem Crc Go.Maps Merge Full RefF
open Store (Sto Files setF setF_same setF_other nv)
variable {B p i:Nat} {o:Option Obj} {w w':World} {S:RD}
attribute [local go_sem] Oper.semAt_some
theorem does_flushW (h:RPlay B p o i w S) {RF:Int->World->World->Prop} {RR:World->FR->World->Prop} (ab la:Option Addr) (bn bc ln lc:Nat) (nn:Int)
  (HFL:∀W1,Below w.heap.size w W1->Calls Tryz.prog 23 #[.pointer (some ⟨S.x,0,none⟩)] W1 λe w2=>∃n,e=.returned (.int .i64 n)/\Upon S.D W1 w2/\RF n W1 w2)
  (HRF:∀n W1 w2 V,Below w.heap.size w W1->Upon S.D W1 w2->RF n W1 w2->Below w2.heap.size w2 V->Calls Tryz.prog 24 #[sV S.A S.mh S.held.length S.mc S.ne,.slice S.an S.L.length S.nc] V λe w'=>∃r:FR,e=.returned (.tuple #[sV S.A r.ma r.n r.c r.ne,.slice r.an r.ln r.nc])/\Below V.heap.size V w'/\RR V r w'):
  Calls Tryz.prog 8 #[.pointer (some ⟨p,0,none⟩),.agg #[.int .i64 1,.slice ab bn bc,.int .u8 nn,.slice la ln lc]] w λe w'=>∃n W1 w2 V r w3,Below w.heap.size w W1/\Upon S.D W1 w2/\RF n W1 w2/\Below w2.heap.size w2 V/\Below V.heap.size V w3/\RR V r w3/\e=.returned (.tuple #[.bool (n==0),.bool true])/\Upon (λk=>k=p\/(w2.heap.size<=k/\k<V.heap.size)) w3 w'/\Blk w' p 44 #[.pointer (some ⟨S.d,0,none⟩),.pointer (some ⟨S.s,0,none⟩),.pointer (some ⟨S.x,0,none⟩),nv S.pf,.int .i64 S.wd,.int .i64 S.rm,.slice r.ma r.n r.c,.int .i64 r.ne,.slice r.an r.ln r.nc,.slice S.ah S.LH.length S.hc]:=by
 obtain⟨sp,hsp⟩:∃s:ByteArray,nv S.pf=.string s:=⟨_,rfl⟩;obtain⟨W1,hW1⟩:=jl (w.alloc (.cells #[.int .i64 1,.slice ab bn bc,.int .u8 nn,.slice la ln lc] 27));have hB1:Below w.heap.size w W1:=by rw[hW1];exact(Below.refl _ w).alloc jn _
 have hP1:=h.later hB1;obtain⟨c0,c1,c2,c3,c4,c5,c6,c7,c8,c9⟩:=hP1.cells hsp;have hbk:=hP1.blk;unfold RD.cells at hbk;rw[hsp]at hbk⊢;have HFL:=jq (HFL _ hB1);unfold sV RD.A at HRF;dsimp only at HRF;rw[hsp]at HRF;have HRF:=jq HRF;obtain⟨hl,hhl⟩:=jl S.held.length;obtain⟨pn,hpn⟩:=jl S.L.length;obtain⟨hn,hhn⟩:=jl S.LH.length;rw[<-hhl,<-hpn,<-hhn]at hbk;rw[<-hhl,<-hpn]at HRF;rw[<-hhl]at c6;rw[<-hpn]at c8;rw[<-hhn]at c9⊢;have HBK:=jq hbk;have HPD:=jq hP1.pD;have HB1:=jq hB1;have H1:=jq hhl;have H2:=jq hpn;have H3:=jq hhn;have H4:=jq hsp;clear hP1 h hB1 hpn hhl hhn hsp hbk;subst hW1
 go_enter Tryz.func8,Tryz.ntmps8
 go_wp2_with fail
 refine HFL.out.mono ?_;rintro e w2 ⟨n,rfl,hu2,hF2⟩;have hb2:=HBK.out.upon hu2 HPD.out;have q2:w2.cell? ⟨p,2,none⟩=some (.pointer (some ⟨S.x,0,none⟩)):=by rw[hb2.cell];rfl
 have q3:w2.cell? ⟨p,3,none⟩=some (.string sp):=by rw[hb2.cell];rfl
 have q4:w2.cell? ⟨p,4,none⟩=some (.int .i64 S.wd):=by rw[hb2.cell];rfl
 have q5:w2.cell? ⟨p,5,none⟩=some (.int .i64 S.rm):=by rw[hb2.cell];rfl
 have q6:w2.cell? ⟨p,6,none⟩=some (.slice S.mh hl S.mc):=by rw[hb2.cell];rfl
 have q7:w2.cell? ⟨p,7,none⟩=some (.int .i64 S.ne):=by rw[hb2.cell];rfl
 have q8:w2.cell? ⟨p,8,none⟩=some (.slice S.an pn S.nc):=by rw[hb2.cell];rfl
 have HR:Hid (∀V:World,Below w2.heap.size w2 V->Calls Tryz.prog 24 #[.agg #[.string sp,.int .i64 S.wd,.int .i64 S.rm,.slice S.mh hl S.mc,.int .i64 S.ne],.slice S.an pn S.nc] V λe w'=>∃r:FR,e=.returned (.tuple #[.agg #[.string sp,.int .i64 S.wd,.int .i64 S.rm,.slice r.ma r.n r.c,.int .i64 r.ne],.slice r.an r.ln r.nc])/\Hid (Below w2.heap.size w2 V)/\Hid (Below V.heap.size V w')/\Hid (RR V r w')/\Hid (Blk w' p 44 #[.pointer (some ⟨S.d,0,none⟩),.pointer (some ⟨S.s,0,none⟩),.pointer (some ⟨S.x,0,none⟩),.string sp,.int .i64 S.wd,.int .i64 S.rm,.slice S.mh hl S.mc,.int .i64 S.ne,.slice S.an pn S.nc,.slice S.ah hn S.hc])):=jq (λV hV=>(HRF.out _ _ _ V HB1.out hu2 hF2 hV).mono (by
  rintro e w' ⟨r,h1,h2,h3⟩;exact⟨r,h1,jq hV,jq h2,jq h3,jq ((hb2.below hV hb2.lt).below h2 (Nat.lt_of_lt_of_le hb2.lt hV.size))⟩))
 have HU2:=jq hu2;have HF2:=jq hF2;have HB2:=jq hb2;have hpl:=hb2.lt;clear hu2 hF2 hb2
 go_wp2_with fail
 go_region_law ((first|(go_simp;go_at_call 24;refine(HR.out _ (by first|exact(Below.refl _ _).drew|exact((Below.refl _ _).alloc jn _).drew)).mono ?_;rintro e w3 ⟨r,rfl,HV,HB3,HR3,HB4⟩;have e3:w3.cell? ⟨p,3,none⟩=some (.string sp):=(by rw[HB4.out.cell];rfl);have g3:=HB4.out.frozen 3;have e4:w3.cell? ⟨p,4,none⟩=some (.int .i64 S.wd):=(by rw[HB4.out.cell];rfl);have g4:=HB4.out.frozen 4;have e5:w3.cell? ⟨p,5,none⟩=some (.int .i64 S.rm):=(by rw[HB4.out.cell];rfl);have g5:=HB4.out.frozen 5;have e6:w3.cell? ⟨p,6,none⟩=some (.slice S.mh hl S.mc):=(by rw[HB4.out.cell];rfl);have g6:=HB4.out.frozen 6;have e7:w3.cell? ⟨p,7,none⟩=some (.int .i64 S.ne):=(by rw[HB4.out.cell];rfl);have g7:=HB4.out.frozen 7;have e8:w3.cell? ⟨p,8,none⟩=some (.slice S.an pn S.nc):=(by rw[HB4.out.cell];rfl);have g8:=HB4.out.frozen 8;have hpl3:=HB4.out.lt;first|(have hz:=(Blk.drew (Blk.new w2 _ _)).below HB3.out (Blk.drew (Blk.new w2 _ _)).lt;have z0:w3.cell? ⟨w2.heap.size,0,none⟩=some (.string ⟨#[]⟩):=(by rw[hz.cell];rfl);have z1:w3.cell? ⟨w2.heap.size,1,none⟩=some (.int .i64 0):=(by rw[hz.cell];rfl);have z2:w3.cell? ⟨w2.heap.size,2,none⟩=some (.int .i64 0):=(by rw[hz.cell];rfl);have z3:w3.cell? ⟨w2.heap.size,3,none⟩=some (.slice none 0 0):=(by rw[hz.cell];rfl);have z4:w3.cell? ⟨w2.heap.size,4,none⟩=some (.int .i64 0):=(by rw[hz.cell];rfl);have f0:=hz.frozen 0;have f1:=hz.frozen 1;have f2:=hz.frozen 2;have f3:=hz.frozen 3;have f4:=hz.frozen 4;have HZ:=jq hz;clear hz;dsimp only)|dsimp only)))
 all_goals go_wp2_with fail
 all_goals go_ret2
 all_goals refine⟨n,_,w2,_,r,w3,HB1.out,HU2.out,HF2.out,HV.out,HB3.out,HR3.out,rfl,?_⟩
 all_goals first|(with_reducible refine end1 HB4.out _ _ _ _ _ _ _)|(with_reducible refine end2 HB4.out (Nat.ne_of_lt hpl) _ _ _ _ _ _ _ _ _ _ _ jn ?_;exact blk_new_lt _ _ _)
end Runs
namespace Runs
open Go.RowKit Go.Deep Go.Shelf Mem Crc Go.Maps Merge Full RefF
open Store (Sto Files setF setF_same setF_other nv)
variable {B p i:Nat} {o:Option Obj} {w w':World} {S:RD}
attribute [local go_sem] Oper.semAt_some
theorem does_clearW (h:RPlay B p o i w S) {RF:Int->World->World->Prop} {RR:World->FR->World->Prop} (ab la:Option Addr) (bn bc ln lc:Nat) (nn:Int)
  (HFL:∀W1,Below w.heap.size w W1->Calls Tryz.prog 26 #[.pointer (some ⟨S.x,0,none⟩)] W1 λe w2=>∃n,e=.returned (.int .i64 n)/\Upon S.D W1 w2/\RF n W1 w2)
  (HRF:∀n W1 w2 V,Below w.heap.size w W1->Upon S.D W1 w2->RF n W1 w2->Below w2.heap.size w2 V->Calls Tryz.prog 27 #[sV S.A S.mh S.held.length S.mc S.ne,.slice S.an S.L.length S.nc] V λe w'=>∃r:FR,e=.returned (.tuple #[sV S.A r.ma r.n r.c r.ne,.slice r.an r.ln r.nc])/\Below V.heap.size V w'/\RR V r w'):
  Calls Tryz.prog 8 #[.pointer (some ⟨p,0,none⟩),.agg #[.int .i64 4,.slice ab bn bc,.int .u8 nn,.slice la ln lc]] w λe w'=>∃n W1 w2 V r w3,Below w.heap.size w W1/\Upon S.D W1 w2/\RF n W1 w2/\Below w2.heap.size w2 V/\Below V.heap.size V w3/\RR V r w3/\e=.returned (.tuple #[.bool (n==0),.bool true])/\Upon (λk=>k=p\/(w2.heap.size<=k/\k<V.heap.size)) w3 w'/\Blk w' p 44 #[.pointer (some ⟨S.d,0,none⟩),.pointer (some ⟨S.s,0,none⟩),.pointer (some ⟨S.x,0,none⟩),nv S.pf,.int .i64 S.wd,.int .i64 S.rm,.slice r.ma r.n r.c,.int .i64 r.ne,.slice r.an r.ln r.nc,.slice S.ah S.LH.length S.hc]:=by
 obtain⟨sp,hsp⟩:∃s:ByteArray,nv S.pf=.string s:=⟨_,rfl⟩;obtain⟨W1,hW1⟩:=jl (w.alloc (.cells #[.int .i64 4,.slice ab bn bc,.int .u8 nn,.slice la ln lc] 27));have hB1:Below w.heap.size w W1:=by rw[hW1];exact(Below.refl _ w).alloc jn _
 have hP1:=h.later hB1;obtain⟨c0,c1,c2,c3,c4,c5,c6,c7,c8,c9⟩:=hP1.cells hsp;have hbk:=hP1.blk;unfold RD.cells at hbk;rw[hsp]at hbk⊢;have HFL:=jq (HFL _ hB1);unfold sV RD.A at HRF;dsimp only at HRF;rw[hsp]at HRF;have HRF:=jq HRF;obtain⟨hl,hhl⟩:=jl S.held.length;obtain⟨pn,hpn⟩:=jl S.L.length;obtain⟨hn,hhn⟩:=jl S.LH.length;rw[<-hhl,<-hpn,<-hhn]at hbk;rw[<-hhl,<-hpn]at HRF;rw[<-hhl]at c6;rw[<-hpn]at c8;rw[<-hhn]at c9⊢;have HBK:=jq hbk;have HPD:=jq hP1.pD;have HB1:=jq hB1;have H1:=jq hhl;have H2:=jq hpn;have H3:=jq hhn;have H4:=jq hsp;clear hP1 h hB1 hpn hhl hhn hsp hbk;subst hW1
 go_enter Tryz.func8,Tryz.ntmps8
 go_wp2_with fail
 refine HFL.out.mono ?_;rintro e w2 ⟨n,rfl,hu2,hF2⟩;have hb2:=HBK.out.upon hu2 HPD.out;have q2:w2.cell? ⟨p,2,none⟩=some (.pointer (some ⟨S.x,0,none⟩)):=by rw[hb2.cell];rfl
 have q3:w2.cell? ⟨p,3,none⟩=some (.string sp):=by rw[hb2.cell];rfl
 have q4:w2.cell? ⟨p,4,none⟩=some (.int .i64 S.wd):=by rw[hb2.cell];rfl
 have q5:w2.cell? ⟨p,5,none⟩=some (.int .i64 S.rm):=by rw[hb2.cell];rfl
 have q6:w2.cell? ⟨p,6,none⟩=some (.slice S.mh hl S.mc):=by rw[hb2.cell];rfl
 have q7:w2.cell? ⟨p,7,none⟩=some (.int .i64 S.ne):=by rw[hb2.cell];rfl
 have q8:w2.cell? ⟨p,8,none⟩=some (.slice S.an pn S.nc):=by rw[hb2.cell];rfl
 have HR:Hid (∀V:World,Below w2.heap.size w2 V->Calls Tryz.prog 27 #[.agg #[.string sp,.int .i64 S.wd,.int .i64 S.rm,.slice S.mh hl S.mc,.int .i64 S.ne],.slice S.an pn S.nc] V λe w'=>∃r:FR,e=.returned (.tuple #[.agg #[.string sp,.int .i64 S.wd,.int .i64 S.rm,.slice r.ma r.n r.c,.int .i64 r.ne],.slice r.an r.ln r.nc])/\Hid (Below w2.heap.size w2 V)/\Hid (Below V.heap.size V w')/\Hid (RR V r w')/\Hid (Blk w' p 44 #[.pointer (some ⟨S.d,0,none⟩),.pointer (some ⟨S.s,0,none⟩),.pointer (some ⟨S.x,0,none⟩),.string sp,.int .i64 S.wd,.int .i64 S.rm,.slice S.mh hl S.mc,.int .i64 S.ne,.slice S.an pn S.nc,.slice S.ah hn S.hc])):=jq (λV hV=>(HRF.out _ _ _ V HB1.out hu2 hF2 hV).mono (by
  rintro e w' ⟨r,h1,h2,h3⟩;exact⟨r,h1,jq hV,jq h2,jq h3,jq ((hb2.below hV hb2.lt).below h2 (Nat.lt_of_lt_of_le hb2.lt hV.size))⟩))
 have HU2:=jq hu2;have HF2:=jq hF2;have HB2:=jq hb2;have hpl:=hb2.lt;clear hu2 hF2 hb2
 go_wp2_with fail
 go_region_law ((first|(go_simp;go_at_call 27;refine(HR.out _ (by first|exact(Below.refl _ _).drew|exact((Below.refl _ _).alloc jn _).drew)).mono ?_;rintro e w3 ⟨r,rfl,HV,HB3,HR3,HB4⟩;have e3:w3.cell? ⟨p,3,none⟩=some (.string sp):=(by rw[HB4.out.cell];rfl);have g3:=HB4.out.frozen 3;have e4:w3.cell? ⟨p,4,none⟩=some (.int .i64 S.wd):=(by rw[HB4.out.cell];rfl);have g4:=HB4.out.frozen 4;have e5:w3.cell? ⟨p,5,none⟩=some (.int .i64 S.rm):=(by rw[HB4.out.cell];rfl);have g5:=HB4.out.frozen 5;have e6:w3.cell? ⟨p,6,none⟩=some (.slice S.mh hl S.mc):=(by rw[HB4.out.cell];rfl);have g6:=HB4.out.frozen 6;have e7:w3.cell? ⟨p,7,none⟩=some (.int .i64 S.ne):=(by rw[HB4.out.cell];rfl);have g7:=HB4.out.frozen 7;have e8:w3.cell? ⟨p,8,none⟩=some (.slice S.an pn S.nc):=(by rw[HB4.out.cell];rfl);have g8:=HB4.out.frozen 8;have hpl3:=HB4.out.lt;first|(have hz:=(Blk.drew (Blk.new w2 _ _)).below HB3.out (Blk.drew (Blk.new w2 _ _)).lt;have z0:w3.cell? ⟨w2.heap.size,0,none⟩=some (.string ⟨#[]⟩):=(by rw[hz.cell];rfl);have z1:w3.cell? ⟨w2.heap.size,1,none⟩=some (.int .i64 0):=(by rw[hz.cell];rfl);have z2:w3.cell? ⟨w2.heap.size,2,none⟩=some (.int .i64 0):=(by rw[hz.cell];rfl);have z3:w3.cell? ⟨w2.heap.size,3,none⟩=some (.slice none 0 0):=(by rw[hz.cell];rfl);have z4:w3.cell? ⟨w2.heap.size,4,none⟩=some (.int .i64 0):=(by rw[hz.cell];rfl);have f0:=hz.frozen 0;have f1:=hz.frozen 1;have f2:=hz.frozen 2;have f3:=hz.frozen 3;have f4:=hz.frozen 4;have HZ:=jq hz;clear hz;dsimp only)|dsimp only)))
 all_goals go_wp2_with fail
 all_goals go_ret2
 all_goals refine⟨n,_,w2,_,r,w3,HB1.out,HU2.out,HF2.out,HV.out,HB3.out,HR3.out,rfl,?_⟩
 all_goals first|(with_reducible refine end1 HB4.out _ _ _ _ _ _ _)|(with_reducible refine end2 HB4.out (Nat.ne_of_lt hpl) _ _ _ _ _ _ _ _ _ _ _ jn ?_;exact blk_new_lt _ _ _)
end Runs
namespace Runs
open Go.RowKit Go.Deep Go.Shelf Mem Crc Go.Maps Merge Full RefF
open Store (Sto Files setF setF_same setF_other nv)
variable {B p i:Nat} {o:Option Obj} {w w':World} {S:RD}
theorem RPlay.next2 (h:RPlay B p o i w S) {w1 w2 w3:World} {c:Nat} {D':Nat->Prop} {F':Files} {ne' n' mc' nc':Nat} {held':List (List UInt8)} {mh' an':Option Addr} {L':List FF}
  (live:InG (stoX B S.s S.d 400 o S.H) S.A D' w1 S.x ne' F' held' n') (hd:∀k,D' k->S.D k\/(w.heap.size<=k/\k<w1.heap.size)) (hu1:Upon S.D w w1) (hB2:Below w1.heap.size w1 w2) (hc:w1.heap.size<=c) (hu3:Upon (λk=>k=p\/(w1.heap.size<=k/\k<c)) w2 w3) (runs:∀j,j<ne'->F' (rname S.pf j)≠none)
  (blk:Blk w3 p 44 (RD.cells {S with D:=D',F:=F',n:=n',ne:=ne',held:=held',mh:=mh',mc:=mc',L:=L',an:=an',nc:=nc'}))
  (hm: (mh'=S.mh/\held'=S.held)\/OwnS w2 c (.slice mh' held'.length mc') held') (hn:RowP c w2 S.an an' S.L L') (rowN:IsRow L' F') (ni:n'<=S.n+100) (li:L'.length<=S.L.length+1) (hi:held'.length<=S.held.length+1) (sz:∀nm b,F' nm=some b->b.length<=10000):
  RStep B p o i S w w3:=by
 have hpl:=h.blk.lt;have hz1:=hu1.size;have hz2:=hB2.size;have hz3:=hu3.size;obtain⟨zo,zb,zs⟩:=h.zero;have hd0:∀k,D' k->S.D k\/w.heap.size<=k:=λk hk=>(hd k hk).imp id (λh=>h.1)
 have hpD:¬D' p:=λhk=>(hd p hk).elim h.pD (λh1=>by omega)
 have hu12:Upon (λk=>S.D k\/k=p) w w2:=(hu1.mono (λk hk=>Or.inl hk)).trans (Upon.of_below (P:=λk=>S.D k\/k=p) hB2) (λk hk=>.inl hk);have hu:Upon (λk=>S.D k\/k=p) w w3:=hu12.trans hu3 (λk hk=>hk.elim (λh1=>.inl (.inr h1)) (λh1=>.inr (Nat.le_trans hz1 h1.1)))
 have hDlt:∀k,D' k->k<w1.heap.size:=λk hk=>by
  obtain⟨Q,R,hv,vs,hs⟩:=live;exact hs.lt k hk
 have live3:=(live.later hB2).keep hu3 (λg hg e=>e.elim (λe=>hpD (by rw[<-e];exact hg)) (λe=>by have:=hDlt g hg;omega))
 have fresh:∀{a:Option Addr} {xs:List Value},Lies w2 a xs->(∀g,Mem.blk a=some g->c<=g/\g<w2.heap.size)->RowK B D' p w3 a xs:=fun{a xs} hL hg=>⟨hL.upon hu3 (λg hg2 e=>by have:=hg g hg2;have:=h.blk.lt;rcases e with e|e <;> omega),λg hg2=>by
  have h1:=hg g hg2;exact⟨⟨λh2=>by have:=hDlt g h2;omega,by omega⟩,by omega,by omega⟩⟩
 refine⟨{S with D:=D',F:=F',n:=n',ne:=ne',held:=held',mh:=mh',mc:=mc',L:=L',an:=an',nc:=nc'},⟨live3,runs,λk hk=>(hd k hk).elim (h.base k) (λh1=>.inl (by omega)),blk,hpD,h.pB,?_,?_,h.hl.step hu hd0,rowN,h.rowH,by have:=h.ni;dsimp only;omega,by have:=h.li;dsimp only;omega,by have:=h.lhi;dsimp only;omega,by have:=h.hi;dsimp only;omega,sz,h.szH⟩,⟨rfl,rfl,rfl⟩,hd0,hu⟩
 ·rcases hm with⟨rfl,rfl⟩|hm
  ·exact h.ml.step hu hd0
  ·obtain⟨_,_,e1,_,hL,hb,hk⟩:=own_shape hm;injection e1 with e1 _ _;subst e1;exact fresh hL (λg hg=>hb g hg)
 ·rcases hn.new with⟨rfl,rfl⟩|h2
  ·exact h.nl.step hu hd0
  ·exact fresh hn.lies h2
theorem foldP_le (nm b:List UInt8) (l:List FF): (foldP nm b l).1.length+(if(foldP nm b l).2 then 0 else 1)<=l.length+1:=by
 have h:∀(l:List FF) (s:List FF×Bool),(l.foldl (stepP nm b) s).1.length+(if(l.foldl (stepP nm b) s).2 then 0 else 1)<=s.1.length+(if s.2 then 0 else 1)+l.length:=by
  intro l
  induction l with
  |nil=>intro s;exact Nat.le_refl _
  |cons x r ih=>
   intro s;have h1:=ih (stepP nm b s x)
   have h2: (stepP nm b s x).1.length+(if(stepP nm b s x).2 then 0 else 1)<=s.1.length+(if s.2 then 0 else 1)+1:=by
    unfold stepP
    split
    ·omega
    ·split
     ·rename_i h3 h4
      rw[h4.1]
      simp
     ·dsimp only;rw[jL,List.length_singleton]
      omega
   rw[List.foldl_cons,List.length_cons]
   omega
 have:=h l ([],false)
 simp at this
 unfold foldP
 omega
theorem putP_le (l:List FF) (nm b:List UInt8): (putP l nm b).length<=l.length+1:=by
 have hh:=foldP_le nm b l;unfold RefF.putP
 split
 ·omega
 ·rename_i hd
  rw[if_neg hd]at hh;rw[jL,List.length_singleton]
  omega
theorem isRow_put {L:List FF} {F:Files} (h:IsRow L F) (nm b:List UInt8):IsRow (putP L nm b) (setF F nm (some b)):=by
 have:=h.put nm b
 have e:setF F nm (some b)=λx=>if x=nm then some b else F x:=by
  funext x
  by_cases hx:x=nm
  ·rw[hx,setF_same,if_pos rfl]
  ·rw[setF_other _ hx,if_neg hx]
 rw[e];exact this
theorem sz_set {F:Files} (h:∀nm b,F nm=some b->b.length<=10000) (nm b:List UInt8) (hb:b.length<=10000):∀nm' b',setF F nm (some b) nm'=some b'->b'.length<=10000:=by
 intro nm' b' e
 by_cases hx:nm'=nm
 ·rw[hx,setF_same]at e;cases e;exact hb
 ·rw[setF_other _ hx]at e;exact h _ _ e
theorem RPlay.few (h:RPlay B p o i w S):S.ne<=i:=by
 obtain⟨-,-,-,h4,-⟩:=h.live.room;exact Nat.le_trans (runs_few h.rowN h.runs (Nat.lt_of_le_of_lt h4 (by decide))) h.li
theorem does_flush (h:RPlay B p o i w S) (h6:i<=60) (ab la:Option Addr) (bn bc ln lc:Nat) (nn:Int):
  Calls Tryz.prog 8 #[.pointer (some ⟨p,0,none⟩),.agg #[.int .i64 1,.slice ab bn bc,.int .u8 nn,.slice la ln lc]] w λe w'=>e=.returned (.tuple #[.bool true,.bool true])/\RStep B p o i S w w':=by
 have hfew:=h.few;have hni:=h.ni;have hli:=h.li;have hhi:=h.hi
 by_cases h0:S.held= []
 ·refine(does_flushW h (RF:=λn W1 w2=>n=0/\w2=W1) (RR:=λV r w3=>r=⟨S.mh,S.held.length,S.mc,S.ne,S.an,S.L.length,S.nc⟩) ab la bn bc ln lc nn ?_ ?_).mono ?_
  ·intro W1 hB;have hl:=(h.later hB).live;rw[h0]at hl;refine(g_flushNone hl).mono ?_;rintro e w2 ⟨rfl,rfl⟩;exact⟨0,rfl,Upon.refl _ _,rfl,rfl⟩
  ·intro n W1 w2 V hB hu hf hV;rw[h0];refine(refFlush_none S.A S.mh S.an S.mc S.L.length S.nc S.ne V).mono ?_;rintro e w' ⟨rfl,hb⟩;exact⟨_,rfl,hb,rfl⟩
  ·rintro e w' ⟨n,W1,w2,V,r,w3,hB1,hu2,⟨rfl,rfl⟩,hV,hB3,rfl,rfl,hu,hb⟩;have hB23:Below w2.heap.size w2 w3:=hV.trans (hB3.mono hV.size);exact⟨rfl,h.next2 (c:=V.heap.size) (h.later hB1).live (λk hk=>.inl hk) (Upon.of_below hB1) hB23 hV.size hu h.runs hb (.inl ⟨rfl,rfl⟩) ⟨(h.nl.lies.later hB1).later hB23,.inl ⟨rfl,rfl⟩⟩ h.rowN (by omega) (by omega) (by omega) h.sz⟩
 ·obtain⟨hr,hok,hw,-,-⟩:=h.live.room;refine(does_flushW h (RF:=λn W1 w2=>n=0/\InG (stoX B S.s S.d 400 o S.H) S.A (Mid S.D W1 w2) w2 S.x (S.ne+1) (setF S.F (rname S.A.pf S.ne) (some (runB S.held))) [] (S.n+1)) (RR:=λV r w3=>r.n=0/\r.ne=S.ne+1/\r.ln=(putP S.L (rname S.A.pf S.ne) (runB S.held)).length/\OwnS w3 V.heap.size (.slice r.ma 0 r.c) []/\w3.ownsRow V.heap.size 83 2 (.slice r.an r.ln r.nc) r.ln (flatP (putP S.L (rname S.A.pf S.ne) (runB S.held)))) ab la bn bc ln lc nn ?_ ?_).mono ?_
  ·intro W1 hB;refine(g_flush (h.later hB).live h0 (by omega) (by omega)).mono ?_;rintro e w2 ⟨rfl,h1,h2⟩;exact⟨0,rfl,h2,rfl,h1⟩
  ·intro n W1 w2 V hB hu hf hV;have hu2:Upon (λk=>S.D k\/k=p) w w2:=(Upon.of_below hB).trans (hu.mono (λk hk=>Or.inl hk)) (λk hk=>.inl hk);refine(refFlush_some S.A hok S.held S.L S.mh S.an S.mc S.nc S.ne V h0 hw hr (by omega) ((h.ml.step hu2 (λk hk=>.inl hk)).lies.later hV) ((h.nl.step hu2 (λk hk=>.inl hk)).lies.later hV) (by omega)).mono ?_;rintro e w' ⟨ma,mc',an',nc',rfl,h1,h2,h3⟩;exact⟨⟨ma,0,mc',S.ne+1,an',_,nc'⟩,rfl,h3,rfl,rfl,rfl,h1,h2⟩
  ·rintro e w' ⟨n,W1,w2,V,r,w3,hB1,hu2,⟨rfl,hl⟩,hV,hB3,⟨r1,r2,r3,r4,r5⟩,rfl,hu,hb⟩;have hB23:Below w2.heap.size w2 w3:=hV.trans (hB3.mono hV.size);obtain⟨ma,rn,rc,rne,ran,rln,rnc⟩:=r;dsimp only at r1 r2 r3 r4 r5 hb;subst r1 r2 r3;obtain⟨_,_,e1,_,hL,hbk,hk⟩:=own_shape r5;injection e1 with e1 _ _;subst e1;have hz:=hB1.size;refine⟨rfl,h.next2 (c:=V.heap.size) hl (λk hk=>hk.imp id (λh1=>⟨Nat.le_trans hz h1.1,h1.2⟩)) ((Upon.of_below hB1).trans hu2 (λk hk=>.inl hk)) hB23 hV.size hu (λj hj=>?_) hb (.inr r4) ⟨hL,.inr (λg hg=>hbk g hg)⟩ (isRow_put h.rowN _ _) (by omega) (putP_le _ _ _) (Nat.zero_le _) (sz_set h.sz _ _ ?_)⟩
   ·by_cases hx:rname S.pf j=rname S.A.pf S.ne
    ·rw[hx,setF_same];exact λe=>by cases e
    ·rw[setF_other _ hx];refine h.runs j ?_;have:j≠S.ne:=λe=>hx (by rw[e];rfl)
     omega
   ·rw[runB_len hw];obtain⟨k1,k2,k3,k4,k5,k6⟩:=hok;have:S.held.length*S.A.wd<=60*64:=Nat.mul_le_mul (by omega) k4
    omega
end Runs
namespace Runs
open Go.RowKit Go.Deep Go.Shelf Mem Crc Go.Maps Merge Full RefF
open Store (Sto Files setF setF_same setF_other nv)
variable {B p i:Nat} {o:Option Obj} {w w':World} {S:RD}
theorem isRow_without {L:List FF} {F:Files} (h:IsRow L F) (nm:List UInt8):IsRow (withoutP L nm) (setF F nm none):=by
 have:=h.without nm
 have e:setF F nm none=λx=>if x=nm then none else F x:=by
  funext x
  by_cases hx:x=nm
  ·rw[hx,setF_same,if_pos rfl]
  ·rw[setF_other _ hx,if_neg hx]
 rw[e];exact this
theorem isRow_rm {L:List FF} {F:Files} (h:IsRow L F) (pf:List UInt8):∀k,IsRow (rmP L pf k) (rmF F pf k)
 |0=>h
 |k+1=>isRow_without (isRow_rm h pf k) _
theorem sz_rm {F:Files} (h:∀nm b,F nm=some b->b.length<=10000) (pf:List UInt8):∀k nm b,rmF F pf k nm=some b->b.length<=10000
 |0,nm,b,e=>h nm b e
 |k+1,nm,b,e=>by
  unfold rmF at e
  by_cases hx:nm=rname pf k
  ·rw[hx,setF_same]at e;cases e
  ·rw[setF_other _ hx]at e;exact sz_rm h pf k nm b e
theorem does_clear (h:RPlay B p o i w S) (h6:i<=60) (ab la:Option Addr) (bn bc ln lc:Nat) (nn:Int):
  Calls Tryz.prog 8 #[.pointer (some ⟨p,0,none⟩),.agg #[.int .i64 4,.slice ab bn bc,.int .u8 nn,.slice la ln lc]] w λe w'=>e=.returned (.tuple #[.bool true,.bool true])/\RStep B p o i S w w':=by
 have hfew:=h.few;have hni:=h.ni;have hli:=h.li;obtain⟨hr,hok,hw,-,-⟩:=h.live.room;refine(does_clearW h (RF:=λn W1 w2=>n=0/\InG (stoX B S.s S.d 400 o S.H) S.A (Mid S.D W1 w2) w2 S.x 0 (rmF S.F S.A.pf S.ne) [] (S.n+S.ne)) (RR:=λV r w3=>r.n=0/\r.c=0/\r.ne=0/\r.ln=(rmP S.L S.A.pf S.ne).length/\OwnS w3 V.heap.size (.slice r.ma 0 0) []/\RowP V.heap.size w3 S.an r.an S.L (rmP S.L S.A.pf S.ne)) ab la bn bc ln lc nn ?_ ?_).mono ?_
 ·intro W1 hB;refine(g_clear (h.later hB).live (by omega) h.runs).mono ?_;rintro e w2 ⟨rfl,h1,h2⟩;exact⟨0,rfl,h2,rfl,h1⟩
 ·intro n W1 w2 V hB hu hf hV;have hu2:Upon (λk=>S.D k\/k=p) w w2:=(Upon.of_below hB).trans (hu.mono (λk hk=>Or.inl hk)) (λk hk=>.inl hk);refine(refClear_any S.A hok S.L S.mh S.an S.held.length S.mc S.nc S.ne V (by omega) ((h.nl.step hu2 (λk hk=>.inl hk)).lies.later hV) (by omega)).mono ?_;rintro e w' ⟨ma,an',nc',rfl,h1,h2,h3⟩;exact⟨⟨ma,0,0,0,an',_,nc'⟩,rfl,h3,rfl,rfl,rfl,rfl,h1,h2⟩
 ·rintro e w' ⟨n,W1,w2,V,r,w3,hB1,hu2,⟨rfl,hl⟩,hV,hB3,⟨r1,r2,r3,r4,r5,r6⟩,rfl,hu,hb⟩;have hB23:Below w2.heap.size w2 w3:=hV.trans (hB3.mono hV.size);obtain⟨ma,rn,rc,rne,ran,rln,rnc⟩:=r;dsimp only at r1 r2 r3 r4 r5 r6 hb;subst r1 r2 r3 r4;have hz:=hB1.size;exact⟨rfl,h.next2 (c:=V.heap.size) hl (λk hk=>hk.imp id (λh1=>⟨Nat.le_trans hz h1.1,h1.2⟩)) ((Upon.of_below hB1).trans hu2 (λk hk=>.inl hk)) hB23 hV.size hu (λj hj=>absurd hj (Nat.not_lt_zero j)) hb (.inr r5) r6 (isRow_rm h.rowN _ _) (by omega) (Nat.le_succ_of_le (rmP_len _ _ _)) (Nat.zero_le _) (sz_rm h.sz _ _)⟩
end Runs
namespace Runs
open Go.RowKit Go.Deep Go.Shelf Mem Crc Go.Maps Merge Full RefF
open Store (Sto Files setF setF_same setF_other nv)
variable {B p i:Nat} {o:Option Obj} {w w':World} {S:RD}
attribute [local go_sem] Oper.semAt_some
theorem set_alloc (w:World) (a:Addr) (v:Value) (o:Obj) (h:a.block<w.heap.size): (w.setCell a v).alloc o=(w.alloc o).setCell a v:=by
 unfold World.setCell World.alloc
 congr 1
 apply Array.ext_getElem?
 intro i;simp only[Array.getElem?_modify,Array.getElem?_push,Array.size_modify]
 by_cases h1:i=w.heap.size
 ·subst h1;have h2:a.block≠w.heap.size:=Nat.ne_of_lt h
  simp[h2]
 ·simp[h1]
theorem does_forget (h:RPlay B p o i w S) (ab la:Option Addr) (bn bc ln lc:Nat) (nn:Int):
  Calls Tryz.prog 8 #[.pointer (some ⟨p,0,none⟩),.agg #[.int .i64 6,.slice ab bn bc,.int .u8 nn,.slice la ln lc]] w λe w'=>e=.returned (.tuple #[.bool true,.bool true])/\RStep B p o i S w w':=by
 obtain⟨sp,hsp⟩:∃s:ByteArray,nv S.pf=.string s:=⟨_,rfl⟩;obtain⟨W1,hW1⟩:=jl (w.alloc (.cells #[.int .i64 6,.slice ab bn bc,.int .u8 nn,.slice la ln lc] 27));have hB1:Below w.heap.size w W1:=by rw[hW1];exact(Below.refl _ w).alloc jn _
 have hP1:=h.later hB1;obtain⟨c0,c1,c2,c3,c4,c5,c6,c7,c8,c9⟩:=hP1.cells hsp;have hbk:=hP1.blk;have HG:=jq (g_forget hP1.live);have HBK:=jq hbk;have HPD:=jq hP1.pD;have HB1:=jq hB1;have H0:=jq h;have HSP:=jq hsp;clear hP1 h hB1 hbk hsp;subst hW1
 go_enter Tryz.func8,Tryz.ntmps8
 go_wp2_with fail
 refine HG.out.mono ?_;rintro e w2 ⟨rfl,hg,hu2⟩;have hb2:=HBK.out.upon hu2 HPD.out;have q6:w2.cell? ⟨p,6,none⟩=some (.slice S.mh S.held.length S.mc):=by rw[hb2.cell];rfl
 have g6:=hb2.frozen 6;have hpl:=hb2.lt;have HU2:=jq hu2;have HG2:=jq hg;have HB2:=jq hb2;clear hu2 hg hb2
 go_wp2_with fail
 all_goals go_ret2
 refine⟨rfl,?_⟩;rw[set_alloc _ _ _ _ hpl];have hBA:Below w2.heap.size w2 (w2.alloc (.cells #[] 9)):=(Below.refl _ _).alloc jn _;have hB1:=HB1.out;have h:=H0.out;have hB2:=HB2.out.below hBA hpl;have hS2:w2.heap.size<=(w2.alloc (.cells #[] 9)).heap.size:=hBA.size;refine h.next2 (w1:=w2) (w2:=w2.alloc (.cells #[] 9)) (c:=w2.heap.size) HG2.out (λk hk=>.inl hk) ((Upon.of_below hB1).trans HU2.out (λk hk=>.inl hk)) hBA jn (Upon.set (P:=λk=>k=p\/(w2.heap.size<=k/\k<w2.heap.size)) (Upon.refl _ _) (p:=⟨p,6,none⟩) (Or.inl (Or.inl rfl)) _) h.runs (mc':=0) (mh':=some ⟨w2.heap.size,0,none⟩) (an':=S.an) (nc':=S.nc) (L':=S.L) ?_ (.inr ?_) ⟨?_,.inl ⟨rfl,rfl⟩⟩ h.rowN (Nat.le_add_right _ _) (Nat.le_succ _) (Nat.zero_le _) h.sz
 ·have:=hB2.set 6 (.slice (some ⟨w2.heap.size,0,none⟩) 0 0);unfold RD.cells;exact this
 ·exact own_empty w2 _ _
 ·have hu2:Upon (λk=>S.D k\/k=p) w w2:=(Upon.of_below hB1).trans (HU2.out.mono (λk hk=>Or.inl hk)) (λk hk=>.inl hk);exact(h.nl.step hu2 (λk hk=>.inl hk)).lies.later hBA
end Runs
namespace Runs
open Go.RowKit Go.Deep Go.Shelf Mem Crc Go.Maps Merge Full RefF
open Store (Sto Files setF setF_same setF_other nv)
variable {B p i:Nat} {o:Option Obj} {w w':World} {S:RD}
def RDone (B p:Nat) (o:Option Obj) (i:Nat) (S:RD) (w:World) (e:Ending) (w':World):Prop:=(e=.returned (.tuple #[.bool true,.bool true])/\RStep B p o i S w w')\/(e=.returned (.tuple #[.bool true,.bool false])/\Below B w w')
theorem g_commit {s d x ne n:Nat} {H F:Files} {A:Fi} {D:Nat->Prop} {held:List (List UInt8)} (h:InG (stoX B s d 400 o H) A D w x ne F held n) (hn:n<=29000):
  Calls Tryz.prog 25 #[.pointer (some ⟨s,0,none⟩)] w λe w'=>∃z:Int,e=.returned (.int .i64 z)/\((z=0/\InG (stoX B s d 400 o F) A (Mid D w w') w' x ne F held 20000/\Upon D w w')\/(z=7/\Below w.heap.size w w')):=by
 obtain⟨Q,R,hv,vs,h⟩:=h;refine(stoX_commit h.srt.sto hn).mono ?_;rintro e w' (⟨rfl,Q',hs,hq,hu⟩|⟨rfl,hB⟩)
 ·have hlt:∀k,R k->¬Q' k:=λk hk hq'=>(hq k hq').elim (h.srt.rq k hk).1 (λh1=>by have:=h.lt k (h.r k hk);omega)
  have hlv:∀k,hv.ownBlock=some k->¬Q' k:=λk hk hq'=>(hq k hq').elim (h.srt.hq k hk).1 (λh1=>by have:=h.lt k (h.h k hk);omega)
  have hlx:¬Q' x:=λhq'=>(hq x hq').elim h.srt.xq (λh1=>by have:=h.lt x h.x;omega)
  exact⟨0,rfl,.inl ⟨rfl,⟨Q',R,hv,vs,⟨h.srt.sIs,h.srt.blk.upon hu h.srt.xq,hs,h.srt.mem.keep hu (λg hg=>(h.srt.rq g hg).1) (λg hg=>(h.srt.hq g hg).1),λg hg=>⟨hlt g hg,(h.srt.rq g hg).2⟩,λg hg=>⟨hlv g hg,(h.srt.hq g hg).2⟩,hlx,h.srt.ok,h.srt.room,h.srt.few⟩,λk hk=>(hq k hk).imp (h.q k) (λh1=>⟨h1,(stoX B s d 400 o F).lt hs k hk⟩),λk hk=>.inl (h.r k hk),.inl h.x,λk hk=>.inl (h.h k hk),λk hk=>hk.elim (λh1=>Nat.lt_of_lt_of_le (h.lt k h1) hu.size) (λh1=>h1.2)⟩,hu.mono h.q⟩⟩
 ·exact⟨7,rfl,.inr ⟨rfl,hB⟩⟩
theorem commit_end {z:Int} {W1 w2:World} (h:RPlay B p o i w S) (hB1:Below w.heap.size w W1) (hz: (z=0/\InG (stoX B S.s S.d 400 o S.F) S.A (Mid S.D W1 w2) w2 S.x S.ne S.F S.held 20000/\Upon S.D W1 w2)\/(z=7/\Below W1.heap.size W1 w2)) (hb2:Blk w2 p 44 S.cells):
  RDone B p o i S w (.returned (.tuple #[.bool (z==0||z==7),.bool (z==0)])) (w2.setCell ⟨p,9,none⟩ (.slice S.an S.L.length S.nc)):=by
 have hpl:=h.blk.lt;obtain⟨zo,zb,zs⟩:=h.zero;have h1s:=hB1.size;have hb3:=hb2.set 9 (.slice S.an S.L.length S.nc);have hu3:Upon (λk=>k=p) w2 (w2.setCell ⟨p,9,none⟩ (.slice S.an S.L.length S.nc)):=Upon.set (P:=λk=>k=p) (Upon.refl _ _) (p:=⟨p,9,none⟩) (.inl rfl) _;rcases hz with⟨rfl,hl,hu⟩|⟨rfl,hB⟩
 ·have hD0:∀k,Mid S.D W1 w2 k->S.D k\/w.heap.size<=k:=λk hk=>hk.imp id (λh1=>Nat.le_trans h1s h1.1)
  have hpD:¬Mid S.D W1 w2 p:=λhk=>hk.elim h.pD (λh1=>by omega)
  have hu2:Upon (λk=>S.D k\/k=p) w w2:=(Upon.of_below hB1).trans (hu.mono (λk hk=>Or.inl hk)) (λk hk=>.inl hk);have hu':=hu2.trans (hu3.mono (λk hk=>(Or.inr hk:S.D k\/k=p))) (λk hk=>.inl hk);refine .inl ⟨rfl,{S with D:=Mid S.D W1 w2,H:=S.F,n:=20000,LH:=S.L,ah:=S.an,hc:=S.nc},⟨hl.keep hu3 (λg hg e=>hpD (by rw[<-e];exact hg)),h.runs,λk hk=>(hD0 k hk).elim (h.base k) (λh1=>.inl (by omega)),hb3,hpD,h.pB,h.ml.step hu' hD0,h.nl.step hu' hD0,h.nl.step hu' hD0,h.rowN,h.rowN,Nat.le_add_right _ _,Nat.le_succ_of_le h.li,Nat.le_succ_of_le h.li,Nat.le_succ_of_le h.hi,h.sz,h.sz⟩,⟨rfl,rfl,rfl⟩,hD0,hu'⟩
 ·refine .inr ⟨rfl,?_⟩;have h2:Below w.heap.size w w2:=hB1.trans (hB.mono h1s);have h3:Upon (λk=>k=p) w (w2.setCell ⟨p,9,none⟩ (.slice S.an S.L.length S.nc)):=(Upon.of_below h2).trans hu3 (λk hk=>.inl hk);exact h3.below zs (λg e=>by rw[e];exact h.pB)
attribute [local go_sem] Oper.semAt_some
theorem does_commit (h:RPlay B p o i w S) (h6:i<=60) (ab la:Option Addr) (bn bc ln lc:Nat) (nn:Int):
  Calls Tryz.prog 8 #[.pointer (some ⟨p,0,none⟩),.agg #[.int .i64 2,.slice ab bn bc,.int .u8 nn,.slice la ln lc]] w (RDone B p o i S w):=by
 obtain⟨sp,hsp⟩:∃s:ByteArray,nv S.pf=.string s:=⟨_,rfl⟩;obtain⟨W1,hW1⟩:=jl (w.alloc (.cells #[.int .i64 2,.slice ab bn bc,.int .u8 nn,.slice la ln lc] 27));have hB1:Below w.heap.size w W1:=by rw[hW1];exact(Below.refl _ w).alloc jn _
 have hP1:=h.later hB1;have hni:=h.ni;have hli:=h.li;obtain⟨c0,c1,c2,c3,c4,c5,c6,c7,c8,c9⟩:=hP1.cells hsp;have hbk:=hP1.blk;have HG:=jq (g_commit hP1.live (by omega));have HBK:=jq hbk;have HPD:=jq hP1.pD;have HB1:=jq hB1;have H0:=jq h;have HSP:=jq hsp;have HN:=jq hni;have HL:=jq hli;obtain⟨pn,hpn⟩:=jl S.L.length;obtain⟨hn,hhn⟩:=jl S.LH.length;have HPN:=jq hpn;have HHN:=jq hhn;rw[<-hpn]at c8;rw[<-hhn]at c9;clear hP1 h hB1 hbk hsp hni hli hpn hhn;subst hW1
 go_enter Tryz.func8,Tryz.ntmps8
 go_wp2_with fail
 refine HG.out.mono ?_;rintro e w2 ⟨z,rfl,hz⟩;have hb2:Blk w2 p 44 S.cells:=hz.elim (λh1=>HBK.out.upon h1.2.2 HPD.out) (λh1=>HBK.out.below h1.2 HBK.out.lt);have q8:w2.cell? ⟨p,8,none⟩=some (.slice S.an pn S.nc):=by rw[HPN.out,hb2.cell];rfl
 have q9:w2.cell? ⟨p,9,none⟩=some (.slice S.ah hn S.hc):=by rw[HHN.out,hb2.cell];rfl
 have g9:=hb2.frozen 9;have hpl:=hb2.lt;have HZ:=jq hz;have HB2:=jq hb2;clear hz hb2
 go_wp2_with fail
 all_goals go_ret2
 all_goals(have e:=HPN.out;subst e)
 ·obtain rfl:z=0:=by first|assumption|(trace_state;simp_all)
  exact commit_end H0.out HB1.out HZ.out HB2.out
 ·exact commit_end H0.out HB1.out HZ.out HB2.out
end Runs
namespace Runs
open Go.RowKit Go.Deep Go.Shelf Mem Crc Go.Maps Merge Full RefF
open Store (Sto Files setF setF_same setF_other nv)
variable {B p i:Nat} {o:Option Obj} {w w':World} {S:RD}
def RowsTell (ss:List ByteArray) (z:Int) (w:World) (e:Ending) (w':World):Prop:=∃a c,e=.returned (.tuple #[.slice a ss.length c,.int .i64 z])/\Lies w' a (ss.map .string)/\Below w.heap.size w w'
theorem rows_at (A:Fi) (F:Files) (ne:Nat) (held:List (List UInt8)) (h0:0<A.wd) (hh:held.length<=4096) (hne:ne<=90) (hsz:∀nm b,F nm=some b->b.length<=10000):∃ss z,ss.length<=1000000/\∀w e w',RowsOut A F ne held w e w'->RowsTell ss z w e w':=by
 cases hr:runsR A F ne with
 |some ls=>
  have hc:=runsR_count h0 hsz hr;have hm:=Nat.mul_le_mul_right 10000 hne;have hl: ((sortB (held++ls.flatten)).map (λb=>(⟨b.toArray⟩:ByteArray))).length=(held++ls.flatten).length:=by rw[jP,(sortB_perm _).length_eq]
  refine⟨(sortB (held++ls.flatten)).map (λb=>⟨b.toArray⟩),0,by rw[hl,jL];omega,λw e w' ha=>?_⟩;unfold RowsOut at ha;rw[hr]at ha;obtain⟨hB,a,c,rfl,hL⟩:=ha;exact⟨a,c,by rw[hl],by rw[List.map_map];exact hL,hB⟩
 |none=>
  refine⟨[],5,Nat.zero_le _,λw e w' ha=>?_⟩;unfold RowsOut at ha;rw[hr]at ha;obtain⟨hB,a,c,rfl⟩:=ha;exact⟨a,c,rfl,.inl rfl,hB⟩
theorem RPlay.rows (h:RPlay B p o i w S) (h6:i<=60):∃ss z,ss.length<=1000000/\(∀W,Below w.heap.size w W->Calls Tryz.prog 11 #[.pointer (some ⟨S.x,0,none⟩)] W (RowsTell ss z W))/\∀W,Below w.heap.size w W->Calls Tryz.prog 12 #[sV S.A S.mh S.held.length S.mc S.ne,.slice S.an S.L.length S.nc] W (RowsTell ss z W):=by
 obtain⟨hr,hok,hw,-,-⟩:=h.live.room;have hfew:=h.few;have hli:=h.li;have hhi:=h.hi;obtain⟨k1,k2,k3,k4,k5,k6⟩:=id hok;obtain⟨ss,z,h1,h2⟩:=rows_at S.A S.F S.ne S.held (by omega) (by omega) (by omega) h.sz;refine⟨ss,z,h1,λW hW=>?_,λW hW=>?_⟩
 ·exact(g_rows (h.later hW).live (by omega) h.runs h.sz).mono (λe w'=>h2 W e w')
 ·exact(refRows_any S.A hok S.held S.L S.F S.mh S.an S.mc S.nc S.ne W h.rowN (by omega) h.runs h.sz (by omega) (h.ml.lies.later hW) (h.nl.lies.later hW) (by omega)).mono (λe w'=>h2 W e w')
attribute [local go_sem] Oper.semAt_some
theorem does_rows (h:RPlay B p o i w S) (h6:i<=60) {kd:Int} (hk:kd<0\/7<kd) (ab la:Option Addr) (bn bc ln lc:Nat) (nn:Int):
  Calls Tryz.prog 8 #[.pointer (some ⟨p,0,none⟩),.agg #[.int .i64 kd,.slice ab bn bc,.int .u8 nn,.slice la ln lc]] w λe w'=>e=.returned (.tuple #[.bool true,.bool true])/\RStep B p o i S w w':=by
 obtain⟨sp,hsp⟩:∃s:ByteArray,nv S.pf=.string s:=⟨_,rfl⟩;obtain⟨W1,hW1⟩:=jl (w.alloc (.cells #[.int .i64 kd,.slice ab bn bc,.int .u8 nn,.slice la ln lc] 27));have hB1:Below w.heap.size w W1:=by rw[hW1];exact(Below.refl _ w).alloc jn _
 have hP1:=h.later hB1;obtain⟨c0,c1,c2,c3,c4,c5,c6,c7,c8,c9⟩:=hP1.cells hsp;obtain⟨ss,z,hss,hg,hr⟩:=hP1.rows h6;have hg:=hg W1 (Below.refl _ _);obtain⟨hl,hhl⟩:=jl S.held.length;obtain⟨pn,hpn⟩:=jl S.L.length;unfold sV RD.A at hr;dsimp only at hr;rw[hsp,<-hhl,<-hpn]at hr;have hbk:=hP1.blk;unfold RD.cells at hbk;rw[hsp,<-hhl,<-hpn]at hbk;have t0: (kd==0)=false:=beq_eq_false_iff_ne.2 (by omega);have t1: (kd==1)=false:=beq_eq_false_iff_ne.2 (by omega);have t2: (kd==2)=false:=beq_eq_false_iff_ne.2 (by omega);have t3: (kd==3)=false:=beq_eq_false_iff_ne.2 (by omega);have t4: (kd==4)=false:=beq_eq_false_iff_ne.2 (by omega);have t5: (kd==5)=false:=beq_eq_false_iff_ne.2 (by omega);have t6: (kd==6)=false:=beq_eq_false_iff_ne.2 (by omega);have t7: (kd==7)=false:=beq_eq_false_iff_ne.2 (by omega);have HG:=jq hg;have HR:=jq hr;have HBK:=jq hbk;have HB1:=jq hB1;have H0:=jq h;have HSS:=jq hss;clear hP1 h hB1 hbk hsp hg hr hhl hpn hk hss;subst hW1
 go_enter Tryz.func8,Tryz.ntmps8
 go_wp2_with fail
 refine HG.out.mono ?_;rintro e w2 ⟨a2,d2,rfl,hL2,hB2⟩;have hb2:=HBK.out.below hB2 HBK.out.lt;have q3:w2.cell? ⟨p,3,none⟩=some (.string sp):=by rw[hb2.cell];rfl
 have q4:w2.cell? ⟨p,4,none⟩=some (.int .i64 S.wd):=by rw[hb2.cell];rfl
 have q5:w2.cell? ⟨p,5,none⟩=some (.int .i64 S.rm):=by rw[hb2.cell];rfl
 have q6:w2.cell? ⟨p,6,none⟩=some (.slice S.mh hl S.mc):=by rw[hb2.cell];rfl
 have q7:w2.cell? ⟨p,7,none⟩=some (.int .i64 S.ne):=by rw[hb2.cell];rfl
 have q8:w2.cell? ⟨p,8,none⟩=some (.slice S.an pn S.nc):=by rw[hb2.cell];rfl
 obtain⟨sn,hsn⟩:=jl ss.length;rw[<-hsn];have HB2:=jq hB2;have HL2:=jq hL2;have HSN:=jq hsn;have HR2:=jq (HR.out w2.drew (hB2.drew));have HK2:=jq hb2;clear hb2 hL2 hsn hB2
 go_wp2_with fail
 go_region_held3 (λw'=>w'.cell? ⟨p,3,none⟩=some (.string sp)/\w'.cell? ⟨p,4,none⟩=some (.int .i64 S.wd)/\w'.cell? ⟨p,5,none⟩=some (.int .i64 S.rm)/\w'.cell? ⟨p,6,none⟩=some (.slice S.mh hl S.mc)/\w'.cell? ⟨p,7,none⟩=some (.int .i64 S.ne)/\w'.cell? ⟨p,8,none⟩=some (.slice S.an pn S.nc)) (first|exact⟨q3,q4,q5,q6,q7,q8⟩|exact hk3) ((go_at_call 12;refine HR2.out.mono ?_;rintro e w3 ⟨a3,d3,rfl,hL3,hB3⟩;have hb3:=HK2.out.drew.below hB3 HK2.out.drew.lt;have hk3:w3.cell? ⟨p,3,none⟩=some (.string sp)/\w3.cell? ⟨p,4,none⟩=some (.int .i64 S.wd)/\w3.cell? ⟨p,5,none⟩=some (.int .i64 S.rm)/\w3.cell? ⟨p,6,none⟩=some (.slice S.mh hl S.mc)/\w3.cell? ⟨p,7,none⟩=some (.int .i64 S.ne)/\w3.cell? ⟨p,8,none⟩=some (.slice S.an pn S.nc):=⟨by rw[hb3.cell];rfl,by rw[hb3.cell];rfl,by rw[hb3.cell];rfl,by rw[hb3.cell];rfl,by rw[hb3.cell];rfl,by rw[hb3.cell];rfl⟩;dsimp only))
 rename_i hHeld
 clear hHeld;have hL2:=(HL2.out.later (Below.refl _ w2).drew).later hB3;have HSM:=jq (same_yes w3 a2 a3 d2 d3 ss hL2 hL3 HSS.out);rw[<-HSN.out]at HSM⊢;have HB3:=jq hB3;clear hL2 hL3 hB3 hb3 hk3
 go_wp2_with fail
 refine HSM.out.mono ?_;rintro e w4 ⟨rfl,m,hw4⟩;have HB4:Hid (Below w3.heap.size w3 w4):=jq (by rw[hw4];exact⟨rfl,rfl,rfl,Nat.le_refl _,λ_ _=>rfl⟩);clear hw4
 go_wp2_with fail
 all_goals go_ret2
 have h1:=HB1.out.trans (HB2.out.mono HB1.out.size);have h2:=h1.drew;have h3:=h2.trans (HB3.out.mono h2.size);exact⟨rfl,H0.out.same (h3.trans (HB4.out.mono h3.size))⟩
end Runs
namespace Runs
open Go.RowKit Go.Deep Go.Shelf Mem Crc Go.Maps Merge Full RefF
open Store (Sto Files setF setF_same setF_other nv)
variable {B p i:Nat} {o:Option Obj} {w w':World} {S:RD}
attribute [local go_sem] Oper.semAt_some
theorem does_rewriteB (h:RPlay B p o i w S) (h6:i<=60) {la:Option Addr} {lc:Nat} {vs:List SL} {l:List (List UInt8)} (hL:Lies w la (vs.map sl)) (hR:RecsIn w (vs.map sl) l) (hc:vs.length<=lc) (hn:l.length<=100) (hm:¬MayR S.wd l) (ab:Option Addr) (bn bc:Nat) (nn:Int):
  Calls Tryz.prog 8 #[.pointer (some ⟨p,0,none⟩),.agg #[.int .i64 7,.slice ab bn bc,.int .u8 nn,.slice la vs.length lc]] w λe w'=>e=.returned (.tuple #[.bool true,.bool true])/\RStep B p o i S w w':=by
 obtain⟨sp,hsp⟩:∃s:ByteArray,nv S.pf=.string s:=⟨_,rfl⟩;obtain⟨ln,hln⟩:=jl vs.length;obtain⟨W1,hW1⟩:=jl (w.alloc (.cells #[.int .i64 7,.slice ab bn bc,.int .u8 nn,.slice la ln lc] 27));have hB1:Below w.heap.size w W1:=by rw[hW1];exact(Below.refl _ w).alloc jn _
 obtain⟨qb,hqb⟩:=jl w.heap.size;have hbA:Blk W1 qb 27 #[.int .i64 7,.slice ab bn bc,.int .u8 nn,.slice la ln lc]:=by rw[hW1,hqb];exact Blk.new w _ _
 have hP1:=h.later hB1;have hfew:=h.few;have hni:=h.ni;obtain⟨c0,c1,c2,c3,c4,c5,c6,c7,c8,c9⟩:=hP1.cells hsp
 have HG:Hid (∀V,Below w.heap.size w V->Calls Tryz.prog 31 #[.pointer (some ⟨S.x,0,none⟩),.slice la ln lc] V λe w'=>e=.returned (.int .i64 3)/\Below V.heap.size V w'):=jq (λV hV=>by
  have:=g_rewrite (h.later hV).live (by omega) h.runs (hL.later hV) (hR.later hV) hc (by omega);rw[<-hln]at this;refine this.mono ?_;rintro e w' (⟨h1,-⟩|⟨-,h1,h2⟩)
  ·exact absurd h1 hm
  ·exact⟨h1,h2⟩)
 have HRI:Hid (∀V,Below w.heap.size w V->Calls Tryz.prog 32 #[.slice la ln lc,.int .i64 S.wd] V λe w'=>e=.returned (.bool false)/\Below V.heap.size V w'):=jq (λV hV=>by
  have:=refRises_any S.wd (c:=lc) V (hL.later hV) (hR.later hV) (by omega);rw[<-hln,jf hm]at this;exact this)
 have HBK:=jq hP1.blk;have HBA:=jq hbA;have HB1:=jq hB1;have H0:=jq h;rw[<-hln];have HG1:=jq (HG.out W1.drew hB1.drew);clear hP1 h hB1 hsp hL hR hc hn hm hbA hfew hni hln HG;have r3:W1.cell? ⟨qb,3,none⟩=some (.slice la ln lc):=by rw[HBA.out.cell];rfl
 go_enter Tryz.func8,Tryz.ntmps8
 go_wp2_with fail
 rw[<-hW1,<-hqb];clear hW1 hqb
 go_still_tail 6,(by kernel_rfl)
 change wpList _ _ _ _ _ W1.drew
 go_wp2_with fail
 refine HG1.out.mono ?_;rintro e w2 ⟨rfl,hB2⟩;have hB02:=(HB1.out.drew).trans (hB2.mono HB1.out.drew.size);have hb2:=(HBK.out.drew).below hB2 HBK.out.drew.lt;have ha2:=(HBA.out.drew).below hB2 HBA.out.drew.lt;have r3:w2.cell? ⟨qb,3,none⟩=some (.slice la ln lc):=by rw[ha2.cell];rfl
 unfold RD.cells at hb2;have q4:w2.cell? ⟨p,4,none⟩=some (.int .i64 S.wd):=by rw[hb2.cell];rfl
 have HB2:=jq hB02;have HR2:=jq (HRI.out w2.drew hB02.drew);clear hb2 ha2 hB02 hB2
 go_wp2_with fail
 go_still_tail 7,(by kernel_rfl)
 change wpList _ _ _ _ _ w2.drew
 go_wp2_with fail
 refine HR2.out.mono ?_;rintro e w3 ⟨rfl,hB3⟩;have HB3:=jq hB3;clear hB3
 go_wp2_with fail
 all_goals go_ret2
 exact⟨rfl,H0.out.same (HB2.out.drew.trans (HB3.out.mono HB2.out.drew.size))⟩
end Runs
namespace Runs
open Go.RowKit Go.Deep Mem Crc
theorem tk1 {P:Program} {ops:Array Oper} {Q:Exit->Act->World->Prop} {md:Region.Mode} {S:World->Prop} (i:Nat) {oi:Oper} {v:Value} {fuel:Nat} {listed:Array Bool} {a:Act} {w:World} (h:wpAnyH P md ops Q S fuel (listed.setIfInBounds i true) (a.put oi.dst v) w) (hi:ops[i]? =some oi:=by(simp only[jt,jb,ja];rfl)) (hh:Region.wanted oi (yielded ops a.tmps)=true:=by rfl) (hy:∀w,S w->(execOp a.eval oi).run P w=.ok (.value v) w:=by(intro w' hSw;(try dsimp only at hSw);go_split_ands;go_simp;try with_reducible rfl)) (hs:Region.noSelect ops=true:=by kernel_rfl) (hf:Region.free md ops listed i=true:=by kernel_rfl) (hr: (Region.ready md ops listed).contains i=true:=by kernel_rfl) (hQ:∀c a w,Q (.panic c) (a.put oi.dst v) w->Q (.panic c) a w:=by exact λ_ _ _ h=>h) (hS:S w:=by assumption):wpAnyH P md ops Q S (fuel+1) listed a w:=
 wpAnyH_take hi hs hf hr hQ (Or.inl ⟨hh,hy⟩) hS h
theorem jX {α:Type} (a0 a1 a2 a3 a4 a5 a6 a7 a8 a9 a10 a11 a12 a13 a14 a15 a16 a17 a18 a19 a20 a21 a22 a23 a24 a25 a26 a27 a28 a29 a30 a31 a32 a33 a34 a35 a36 a37 a38 a39 a40 a41 a42 a43 a44 a45 a46 a47:α) (l:List α) (n:Nat) (v:α): (a0::a1::a2::a3::a4::a5::a6::a7::a8::a9::a10::a11::a12::a13::a14::a15::a16::a17::a18::a19::a20::a21::a22::a23::a24::a25::a26::a27::a28::a29::a30::a31::a32::a33::a34::a35::a36::a37::a38::a39::a40::a41::a42::a43::a44::a45::a46::a47::l).set (n+48) v=a0::a1::a2::a3::a4::a5::a6::a7::a8::a9::a10::a11::a12::a13::a14::a15::a16::a17::a18::a19::a20::a21::a22::a23::a24::a25::a26::a27::a28::a29::a30::a31::a32::a33::a34::a35::a36::a37::a38::a39::a40::a41::a42::a43::a44::a45::a46::a47::l.set n v:=rfl
theorem jY {α:Type} (a0 a1 a2 a3 a4 a5 a6 a7:α) (l:List α) (n:Nat) (v:α): (a0::a1::a2::a3::a4::a5::a6::a7::l).set (n+8) v=a0::a1::a2::a3::a4::a5::a6::a7::l.set n v:=rfl
theorem five_facts {V:World} {b:Nat} {t:TypeId} {x0 x1 x2 x3 x4:Value} (h:Blk V b t #[x0,x1,x2,x3,x4]): (V.frozen? ⟨b,0,none⟩=false/\V.frozen? ⟨b,1,none⟩=false/\V.frozen? ⟨b,2,none⟩=false/\V.frozen? ⟨b,3,none⟩=false/\V.frozen? ⟨b,4,none⟩=false)/\V.cell? ⟨b,0,none⟩=some x0/\V.cell? ⟨b,1,none⟩=some x1/\V.cell? ⟨b,2,none⟩=some x2/\V.cell? ⟨b,3,none⟩=some x3/\V.cell? ⟨b,4,none⟩=some x4:=⟨⟨h.frozen 0,h.frozen 1,h.frozen 2,h.frozen 3,h.frozen 4⟩,h.cell 0,h.cell 1,h.cell 2,h.cell 3,h.cell 4⟩
theorem box_set {V:World} {b:Nat} {t:TypeId} {x0 x1 x2 x3 x4:Value} (h:Blk V b t #[x0,x1,x2,x3,x4]) (a0 a1 a2 a3 a4:Value):Blk (((((V.setCell ⟨b,0,none⟩ a0).setCell ⟨b,1,none⟩ a1).setCell ⟨b,2,none⟩ a2).setCell ⟨b,3,none⟩ a3).setCell ⟨b,4,none⟩ a4) b t #[a0,a1,a2,a3,a4]/\Upon (λk=>k=b) V (((((V.setCell ⟨b,0,none⟩ a0).setCell ⟨b,1,none⟩ a1).setCell ⟨b,2,none⟩ a2).setCell ⟨b,3,none⟩ a3).setCell ⟨b,4,none⟩ a4):=
 ⟨((((h.set 0 a0).set 1 a1).set 2 a2).set 3 a3).set 4 a4,Upon.set (P:=λk=>k=b) (Upon.set (P:=λk=>k=b) (Upon.set (P:=λk=>k=b) (Upon.set (P:=λk=>k=b) (Upon.set (P:=λk=>k=b) (Upon.refl _ _) (.inl rfl) _) (.inl rfl) _) (.inl rfl) _) (.inl rfl) _) (.inl rfl) _⟩
structure Past (wr V w7 wx:World) (rb:Nat):Prop where
 call:Below wr.heap.size wr V
 ran:Below V.heap.size V w7
 box:Upon (λk=>wr.heap.size<=k/\k<V.heap.size) w7 wx
 low:wr.heap.size<=rb
theorem Past.below {wr V w7 wx:World} {rb:Nat} (h:Past wr V w7 wx rb):Below wr.heap.size wr wx:=by
 have h1:=h.call.trans (h.ran.mono h.call.size);exact h1.trans (h.box.below h1.size (λk hk=>hk.1))
theorem past_late {wr V w7:World} (h1:Below wr.heap.size wr V) (h2:Below V.heap.size V w7) (o:Obj) (a0 a1 a2 a3 a4:Value):Past wr V w7 ((((((w7.alloc o).setCell ⟨w7.heap.size,0,none⟩ a0).setCell ⟨w7.heap.size,1,none⟩ a1).setCell ⟨w7.heap.size,2,none⟩ a2).setCell ⟨w7.heap.size,3,none⟩ a3).setCell ⟨w7.heap.size,4,none⟩ a4) w7.heap.size:=by
 have hb: (λk=>wr.heap.size<=k/\k<V.heap.size) w7.heap.size\/w7.heap.size<=w7.heap.size:=.inr jn;exact⟨h1,h2,Upon.set (Upon.set (Upon.set (Upon.set (Upon.set (Upon.alloc (Upon.refl _ _) _) hb _) hb _) hb _) hb _) hb _,Nat.le_trans h1.size h2.size⟩
theorem past_early {wr V w7:World} {rb:Nat} (h1:Below wr.heap.size wr V) (h2:Below V.heap.size V w7) (hb:wr.heap.size<=rb) (hb2:rb<V.heap.size) (a0 a1 a2 a3 a4:Value):Past wr V w7 (((((w7.setCell ⟨rb,0,none⟩ a0).setCell ⟨rb,1,none⟩ a1).setCell ⟨rb,2,none⟩ a2).setCell ⟨rb,3,none⟩ a3).setCell ⟨rb,4,none⟩ a4) rb:=by
 have hb: (λk=>wr.heap.size<=k/\k<V.heap.size) rb\/w7.heap.size<=rb:=.inl ⟨hb,hb2⟩;exact⟨h1,h2,Upon.set (Upon.set (Upon.set (Upon.set (Upon.set (Upon.refl _ _) hb _) hb _) hb _) hb _) hb _,hb.elim (λh=>h.1) (λh=>Nat.le_trans (Nat.le_trans h1.size h2.size) h)⟩
theorem end_p {w3:World} {p:Nat} {t:TypeId} {a0 a1 a2 a3 a4 a5 a6 a7 a8 a9:Value} (h:Blk w3 p t #[a0,a1,a2,a3,a4,a5,a6,a7,a8,a9]) (v3 v4 v5 v6 v7 v8:Value):
  Upon (λk=>k=p) w3 ((((((w3.setCell ⟨p,3,none⟩ v3).setCell ⟨p,4,none⟩ v4).setCell ⟨p,5,none⟩ v5).setCell ⟨p,6,none⟩ v6).setCell ⟨p,7,none⟩ v7).setCell ⟨p,8,none⟩ v8)/\Blk ((((((w3.setCell ⟨p,3,none⟩ v3).setCell ⟨p,4,none⟩ v4).setCell ⟨p,5,none⟩ v5).setCell ⟨p,6,none⟩ v6).setCell ⟨p,7,none⟩ v7).setCell ⟨p,8,none⟩ v8) p t #[a0,a1,a2,v3,v4,v5,v6,v7,v8,a9]:=
 ⟨Upon.set (P:=λk=>k=p) (Upon.set (P:=λk=>k=p) (Upon.set (P:=λk=>k=p) (Upon.set (P:=λk=>k=p) (Upon.set (P:=λk=>k=p) (Upon.set (P:=λk=>k=p) (Upon.refl _ _) (.inl rfl) _) (.inl rfl) _) (.inl rfl) _) (.inl rfl) _) (.inl rfl) _) (.inl rfl) _,(((((h.set 3 v3).set 4 v4).set 5 v5).set 6 v6).set 7 v7).set 8 v8⟩
theorem end_p5 {w3:World} {p:Nat} {t:TypeId} {a0 a1 a2 a3 a4 a5 a6 a7 a8 a9:Value} (h:Blk w3 p t #[a0,a1,a2,a3,a4,a5,a6,a7,a8,a9]) (v3 v4 v5 v6 v7:Value):
  Upon (λk=>k=p) w3 (((((w3.setCell ⟨p,3,none⟩ v3).setCell ⟨p,4,none⟩ v4).setCell ⟨p,5,none⟩ v5).setCell ⟨p,6,none⟩ v6).setCell ⟨p,7,none⟩ v7)/\Blk (((((w3.setCell ⟨p,3,none⟩ v3).setCell ⟨p,4,none⟩ v4).setCell ⟨p,5,none⟩ v5).setCell ⟨p,6,none⟩ v6).setCell ⟨p,7,none⟩ v7) p t #[a0,a1,a2,v3,v4,v5,v6,v7,a8,a9]:=
 ⟨Upon.set (P:=λk=>k=p) (Upon.set (P:=λk=>k=p) (Upon.set (P:=λk=>k=p) (Upon.set (P:=λk=>k=p) (Upon.set (P:=λk=>k=p) (Upon.refl _ _) (.inl rfl) _) (.inl rfl) _) (.inl rfl) _) (.inl rfl) _) (.inl rfl) _,((((h.set 3 v3).set 4 v4).set 5 v5).set 6 v6).set 7 v7⟩
end Runs
namespace Runs
open Go.RowKit Go.Deep Go.Shelf Mem Crc Go.Maps Merge Full RefF
open Store (Sto Files setF setF_same setF_other nv)
variable {B p i:Nat} {o:Option Obj} {w w':World} {S:RD}
attribute [local go_sem] Oper.semAt_some
theorem does_rewriteW (h:RPlay B p o i w S) {RF:World->World->Prop} {RR:World->FR->World->Prop} {la:Option Addr} {lc:Nat} {vs:List SL} {l:List (List UInt8)} (hrl:vs.length=l.length) (hn:l.length<=100) (ab:Option Addr) (bn bc:Nat) (nn:Int)
  (HFL:∀W1,Below w.heap.size w W1->Calls Tryz.prog 31 #[.pointer (some ⟨S.x,0,none⟩),.slice la vs.length lc] W1 λe w2=>e=.returned (.int .i64 0)/\Upon S.D W1 w2/\RF W1 w2/\Lies w2 la (vs.map sl)/\RecsIn w2 (vs.map sl) l)
  (HRI:∀V,Lies V la (vs.map sl)->RecsIn V (vs.map sl) l->Calls Tryz.prog 32 #[.slice la vs.length lc,.int .i64 S.wd] V λe w'=>e=.returned (.bool true)/\Below V.heap.size V w')
  (HRF:∀W1 w2 V oa oc,Below w.heap.size w W1->Upon S.D W1 w2->RF W1 w2->Below w2.heap.size w2 V->Lies V oa (l.map strB)->Calls Tryz.prog 33 #[sV S.A S.mh S.held.length S.mc S.ne,.slice S.an S.L.length S.nc,.slice oa l.length oc] V λe w'=>∃r:FR,e=.returned (.tuple #[sV S.A r.ma r.n r.c r.ne,.slice r.an r.ln r.nc])/\Below V.heap.size V w'/\RR V r w'):
  Calls Tryz.prog 8 #[.pointer (some ⟨p,0,none⟩),.agg #[.int .i64 7,.slice ab bn bc,.int .u8 nn,.slice la vs.length lc]] w λe w'=>∃W1 w2 V r w3,Below w.heap.size w W1/\Upon S.D W1 w2/\RF W1 w2/\Below w2.heap.size w2 V/\Below V.heap.size V w3/\RR V r w3/\e=.returned (.tuple #[.bool true,.bool true])/\Upon (λk=>k=p\/(w2.heap.size<=k/\k<V.heap.size)) w3 w'/\Blk w' p 44 #[.pointer (some ⟨S.d,0,none⟩),.pointer (some ⟨S.s,0,none⟩),.pointer (some ⟨S.x,0,none⟩),nv S.pf,.int .i64 S.wd,.int .i64 S.rm,.slice r.ma r.n r.c,.int .i64 r.ne,.slice r.an r.ln r.nc,.slice S.ah S.LH.length S.hc]:=by
 obtain⟨sp,hsp⟩:∃s:ByteArray,nv S.pf=.string s:=⟨_,rfl⟩;obtain⟨ln,hln⟩:=jl vs.length;obtain⟨W1,hW1⟩:=jl (w.alloc (.cells #[.int .i64 7,.slice ab bn bc,.int .u8 nn,.slice la ln lc] 27));have hB1:Below w.heap.size w W1:=by rw[hW1];exact(Below.refl _ w).alloc jn _
 obtain⟨qb,hqb⟩:=jl w.heap.size;have hbA:Blk W1 qb 27 #[.int .i64 7,.slice ab bn bc,.int .u8 nn,.slice la ln lc]:=by rw[hW1,hqb];exact Blk.new w _ _
 have hP1:=h.later hB1;obtain⟨c0,c1,c2,c3,c4,c5,c6,c7,c8,c9⟩:=hP1.cells hsp
 have hqD:¬S.D qb:=λhk=>by
  obtain⟨Q,R,hv,vs,hg⟩:=h.live;have:=hg.lt qb hk
  omega
 have hpq:p≠qb:=by have:=h.blk.lt;omega
 obtain⟨hl,hhl⟩:=jl S.held.length;obtain⟨pn,hpn⟩:=jl S.L.length;obtain⟨hn',hhn⟩:=jl S.LH.length;have hbk:=hP1.blk;unfold RD.cells at hbk;rw[hsp,<-hhl,<-hpn,<-hhn]at hbk;have HG1:=jq (HFL W1.drew hB1.drew);unfold sV RD.A at HRF;dsimp only at HRF;rw[hsp,<-hhl,<-hpn]at HRF;rw[hrl]at hln;have hn2:ln<=100:=by omega
 rw[<-hln]at HRF;rw[hrl,<-hln]at HG1 HRI;rw[hrl,hsp,<-hln,<-hhn];have HRF:=jq HRF;have HRI:=jq HRI;have HBK:=jq hbk;have HBA:=jq hbA;have HPD:=jq (And.intro hP1.pD (And.intro hqD hpq));have HB1:=jq hB1;have HLN:=jq hln;have HRL:=jq hrl;clear hP1 h hB1 hsp hrl hn hbA hbk hln hqD hhl hpn hhn hpq HFL;have r3:W1.cell? ⟨qb,3,none⟩=some (.slice la ln lc):=by rw[HBA.out.cell];rfl
 go_enter Tryz.func8,Tryz.ntmps8
 go_wp2_with fail
 rw[<-hW1,<-hqb];clear hW1 hqb
 go_still_tail 6,(by kernel_rfl)
 change wpList _ _ _ _ _ W1.drew
 go_wp2_with fail
 refine HG1.out.mono ?_;rintro e w2 ⟨rfl,hu2,hF2,hL2,hR2⟩;have hb2:=(HBK.out.drew).upon hu2 HPD.out.1;have ha2:=(HBA.out.drew).upon hu2 HPD.out.2.1;have r3:w2.cell? ⟨qb,3,none⟩=some (.slice la ln lc):=by rw[ha2.cell];rfl
 have q4:w2.cell? ⟨p,4,none⟩=some (.int .i64 S.wd):=by rw[hb2.cell];rfl
 have HB2:=jq hb2;have HA2:=jq ha2;have HU2:=jq hu2;have HF2:=jq hF2;have HL2:=jq hL2;have HR2:=jq hR2;have HI2:=jq (HRI.out w2.drew (hL2.later (Below.refl _ w2).drew) (hR2.later (Below.refl _ w2).drew));clear hb2 ha2 hu2 hF2 hL2 hR2 HG1
 go_wp2_with fail
 go_still_tail 7,(by kernel_rfl)
 change wpList _ _ _ _ _ w2.drew
 go_wp2_with fail
 refine HI2.out.mono ?_;rintro e w3 ⟨rfl,hB3⟩;have hB23:Below w2.heap.size w2 w3:=(Below.refl _ w2).drew.trans hB3;have HB3:=jq hB23;clear hB3 hB23 HI2
 go_wp2_with fail
 obtain⟨W4,hW4⟩:=jl (w3.alloc (.cells #[] 9));obtain⟨ob,hob⟩:=jl w3.heap.size;have hB34:Below w3.heap.size w3 W4:=by rw[hW4];exact(Below.refl _ w3).alloc jn _
 have hO4:OwnS W4 w2.heap.size (.slice (some ⟨ob,0,none⟩) 0 0) []:=by rw[hW4,hob];exact own_mono (own_empty w3 9 1) HB3.out.size
 rw[<-hW4,<-hob];have HOB:=jq hob;have HB4:=jq (HB3.out.trans (hB34.mono HB3.out.size));have HO4:=jq hO4;clear hW4 hob hB34 hO4
 go_loopw[27,28] (λu v wr=>∃(k oc:Nat) (oa:Option Addr),k<=ln/\u=.slice oa k oc/\v=.int .i64 k/\Hid (OwnS wr w2.heap.size (.slice oa k oc) (l.take k))/\Hid (Below w2.heap.size w2 wr)) (λ_ v _=>ln-(intOf v).toNat)
 case atStart=>exact⟨0,0,_,Nat.zero_le _,rfl,rfl,HO4,HB4⟩
 case round=>
  obtain⟨k,oc,oa,hk,rfl,rfl,HO,HB⟩:=hrel;have ha:=HA2.out.below HB.out HA2.out.lt;have r3:wr.cell? ⟨qb,3,none⟩=some (.slice la ln lc):=by rw[ha.cell];rfl
  have HA:=jq ha;clear ha
  by_cases hlt:k<ln
  ·have hlk:k<l.length:=by have:=HLN.out;omega
   obtain⟨b,hb⟩:∃b,l[k]? =some b:=⟨l[k],jg hlk⟩;obtain⟨y,hy⟩:∃y,vs[k]? =some y:=⟨vs[k]'(by rw[HRL.out];exact hlk),jg _⟩;obtain⟨ya,yc,hye,-,hyL⟩:=HR2.out.at_ k (sl y) b (by simp[hy]) hb;obtain⟨g,off,rfl,cy⟩:=Mani.lies_at (HL2.out.later HB.out) (k:=k) (u:=sl y) (by simp[hy]);rw[hye]at cy;obtain⟨sb,hsb⟩:∃s:ByteArray,strB b=.string s:=⟨_,rfl⟩
   have hcv: (convert 24 9 (.slice ya b.length yc)).run Tryz.prog wr=.ok (.string sb) wr:=by
    have:=Full.conv_any (vc:=yc) (hyL.later HB.out);rw[show nv b=.string sb from hsb]at this;exact this
   have htk:l.take (k+1)=l.take k++ [b]:=by rw[List.take_add_one,hb];rfl
   have hkl: (l.take k).length=k:=by rw[jT];omega
   obtain⟨W5,hW5⟩:=jl (wr.alloc (.cells #[.string sb] 9));have hB5:Below wr.heap.size wr W5:=by rw[hW5];exact(Below.refl _ wr).alloc jn _
   have hL5:Lies W5 (some ⟨wr.heap.size,0,none⟩) ([b].map strB):=by
    rw[hW5];have:=new_lies wr 9 #[.string sb]
    simpa[hsb]using this
   have hO5:OwnS W5 w2.heap.size (.slice oa k oc) (l.take k):=own_later HO.out hB5;obtain⟨a6,c6,w6,hr6,hO6,hg6⟩:=run_append_strs W5 36 _ _ hO5 (some ⟨wr.heap.size,0,none⟩) 1 [b] hL5 (by rw[hkl];simp;omega) (Nat.le_trans HB.out.size hB5.size);rw[<-htk,show(l.take (k+1)).length=k+1 by rw[jT];omega]at hr6 hO6;have hB6:Below w2.heap.size w2 w6:=(HB.out.trans (hB5.mono HB.out.size)).grown hg6 (Nat.le_trans HB.out.size hB5.size) (λq hq=>(hO5.lt q hq).1);simp only[List.length_singleton]at hr6;rw[hW5]at hr6;have HB6:=jq hB6;have HO6:=jq hO6;clear hb hy hye hyL hsb htk hkl hW5 hB5 hL5 hO5 hO6 hg6 hB6 hlk
   go_wp2_with (first|(at_builtin;refine Lib.wpList_append_run _ rfl _ _ _ _ rfl _ _ rfl rfl _ _ hr6 ?_))
   go_roundw
   case rel=>exact⟨k+1,c6,a6,by omega,rfl,by simp,HO6,HB6⟩
   case measure=>simp[intOf];omega
  ·obtain rfl:k=ln:=by omega
   have htk:l.take k=l:=jW (by have:=HLN.out;omega);have hO:=HO.out;rw[htk]at hO;obtain⟨_,_,e1,_,hLO,_,_⟩:=own_shape hO;injection e1 with e1 e1b e1c;subst e1;clear e1b e1c;have hkd:decide ((k:Int) <(k:Int))=false:=jf (by omega);have hb2:=HB2.out.below HB.out HB2.out.lt
   have HR:Hid (∀V:World,Below wr.heap.size wr V->Calls Tryz.prog 33 #[.agg #[.string sp,.int .i64 S.wd,.int .i64 S.rm,.slice S.mh hl S.mc,.int .i64 S.ne],.slice S.an pn S.nc,.slice oa k oc] V λe w'=>∃r:FR,e=.returned (.tuple #[.agg #[.string sp,.int .i64 S.wd,.int .i64 S.rm,.slice r.ma r.n r.c,.int .i64 r.ne],.slice r.an r.ln r.nc])/\Hid (Below w2.heap.size w2 V)/\Hid (Below V.heap.size V w')/\Hid (RR V r w')/\Hid (Below wr.heap.size wr w')/\Hid (Blk w' p 44 #[.pointer (some ⟨S.d,0,none⟩),.pointer (some ⟨S.s,0,none⟩),.pointer (some ⟨S.x,0,none⟩),.string sp,.int .i64 S.wd,.int .i64 S.rm,.slice S.mh hl S.mc,.int .i64 S.ne,.slice S.an pn S.nc,.slice S.ah hn' S.hc])):=jq (λV hV=>(HRF.out _ _ V oa oc HB1.out.drew HU2.out HF2.out (HB.out.trans (hV.mono HB.out.size)) (hLO.later hV)).mono (by
    rintro e w' ⟨r,h1,h2,h3⟩;exact⟨r,h1,jq (HB.out.trans (hV.mono HB.out.size)),jq h2,jq h3,jq (hV.trans (h2.mono hV.size)),jq ((hb2.below hV hb2.lt).below h2 (Nat.lt_of_lt_of_le hb2.lt hV.size))⟩))
   have HC:Hid (∀w',Below wr.heap.size wr w'->w'.cell? ⟨p,3,none⟩=some (.string sp)/\w'.cell? ⟨p,4,none⟩=some (.int .i64 S.wd)/\w'.cell? ⟨p,5,none⟩=some (.int .i64 S.rm)/\w'.cell? ⟨p,6,none⟩=some (.slice S.mh hl S.mc)/\w'.cell? ⟨p,7,none⟩=some (.int .i64 S.ne)/\w'.cell? ⟨p,8,none⟩=some (.slice S.an pn S.nc)):=jq (λV hV=>⟨by rw[(hb2.below hV hb2.lt).cell];rfl,by rw[(hb2.below hV hb2.lt).cell];rfl,by rw[(hb2.below hV hb2.lt).cell];rfl,by rw[(hb2.below hV hb2.lt).cell];rfl,by rw[(hb2.below hV hb2.lt).cell];rfl,by rw[(hb2.below hV hb2.lt).cell];rfl⟩);have HBP:=jq hb2;clear htk hO hLO hb2
   go_wp2_with fail
   go_cut[29,30] (λs9 s10 wx=>∃(rb:Nat) (V w7:World) (r:FR),s9=.pointer (some ⟨rb,0,none⟩)/\s10=.slice r.an r.ln r.nc/\Hid (RR V r w7)/\Hid (Past wr V w7 wx rb)/\Hid (Blk wx rb 38 #[.string sp,.int .i64 S.wd,.int .i64 S.rm,.slice r.ma r.n r.c,.int .i64 r.ne]))
   case first=>
    have hS0:=HC.out wr.drew (Below.refl _ wr).drew;refine wp_region_noPanic ?_;refine wp_region_held_drew (S:=λw'=>w'.cell? ⟨p,3,none⟩=some (.string sp)/\w'.cell? ⟨p,4,none⟩=some (.int .i64 S.wd)/\w'.cell? ⟨p,5,none⟩=some (.int .i64 S.rm)/\w'.cell? ⟨p,6,none⟩=some (.slice S.mh hl S.mc)/\w'.cell? ⟨p,7,none⟩=some (.int .i64 S.ne)/\w'.cell? ⟨p,8,none⟩=some (.slice S.an pn S.nc)) (by kernel_rfl) hS0 (λhHeld=>?_);clear hS0;obtain⟨X0,hX0⟩:=jl wr.drew;have HX0:Hid (Below wr.heap.size wr X0):=jq (by rw[hX0];exact(Below.refl _ wr).drew);rw[<-hX0]at hHeld⊢;clear hX0;refine' tk1 0 ?_;simp only[Act.put,ji,jX];simp only[ju,js]
    refine' tk1 1 ?_;simp only[Act.put,ji,jX];simp only[ju,js]
    refine' tk1 2 ?_;simp only[Act.put,ji,jX];simp only[ju,js]
    refine' tk1 3 ?_;simp only[Act.put,ji,jX];simp only[jY,js]
    refine' tk1 4 ?_;simp only[Act.put,ji,jX];simp only[jY];simp only[ju,js]
    refine' tk1 5 ?_;simp only[Act.put,ji,jX];simp only[jY];simp only[ju,js]
    refine' tk1 6 ?_;simp only[Act.put,ji,jX];simp only[jY];simp only[ju,js]
    refine' tk1 7 ?_;simp only[Act.put,ji,jX];simp only[jY];simp only[ju,js]
    refine' tk1 8 ?_;simp only[Act.put,ji,jX];simp only[jY];simp only[ju,js]
    refine wpAnyH_ready (rs:=[9,13]) (by kernel_rfl) (by simp) ?_;refine AllReadyH.cons (by(simp only[jt,jb,ja];rfl)) (λK hK=>?_) (AllReadyH.cons (by(simp only[jt,jb,ja];rfl)) (λK hK=>?_) AllReadyH.nil)
    ·skip
     go_simp
     (go_at_call 33;with_reducible refine(HR.out X0 HX0.out).mono ?_;rintro e w7 ⟨r,rfl,HV,HB7,HR7,HW8,HB8⟩)
     have HW7:Hid (Below wr.heap.size wr w7):=jq (HX0.out.trans (HB7.out.mono HX0.out.size));dsimp only;refine hK.out _ _ ?_ (λhHeld=>?_)
     ·exact HC.out _ HW7.out
     clear hK K
     try(simp only[Act.put,ji,jX];simp only[jY];simp only[ju,js])
     refine' tk1 10 ?_;simp only[Act.put,ji,jX];simp only[ju,js]
     refine' tk1 11 ?_;simp only[Act.put,ji,jX];simp only[jY];simp only[ju,js]
     refine' tk1 12 ?_;simp only[Act.put,ji,jX];simp only[jY,js]
     refine wpAnyH_ready (rs:=[13]) (by kernel_rfl) (by simp) ?_;refine AllReadyH.cons (by(simp only[jt,jb,ja];rfl)) (λK hK=>?_) AllReadyH.nil;go_simp;refine hK.out _ _ ?_ (λhHeld=>?_)
     ·exact HC.out _ (HW7.out.alloc HW7.out.size _)
     clear hK K
     try(simp only[Act.put,ji];simp only[jY];simp only[ju,js])
     obtain⟨V2,hV2⟩:=jl (w7.alloc (.cells #[.string ⟨#[]⟩,.int .i64 0,.int .i64 0,.slice none 0 0,.int .i64 0] 38));obtain⟨rb,hrb⟩:=jl w7.heap.size;have HBX:Hid (Blk V2 rb 38 #[.string ⟨#[]⟩,.int .i64 0,.int .i64 0,.slice none 0 0,.int .i64 0]):=jq (by rw[hV2,hrb];exact Blk.new _ _ _);have HV2:Hid (V2=w7.alloc (.cells #[.string ⟨#[]⟩,.int .i64 0,.int .i64 0,.slice none 0 0,.int .i64 0] 38)/\rb=w7.heap.size/\Below wr.heap.size wr V2):=jq ⟨hV2,hrb,by rw[hV2];exact HW7.out.alloc HW7.out.size _⟩;rw[<-hV2]at hHeld⊢;rw[<-hrb];clear hV2 hrb;have HRB:Hid (wr.heap.size<=rb):=jq (by rw[HV2.out.2.1];exact HW7.out.size);have HL2:Hid (Below wr.heap.size wr V2):=jq HV2.out.2.2;refine wpAnyH_ready (rs:=[14]) (by kernel_rfl) (by simp) ?_;refine AllReadyH.cons (by(simp only[jt,jb,ja];rfl)) (λK hK=>?_) AllReadyH.nil;have hbx:=HBX.out;obtain⟨⟨r0,r1,r2,r3,r4⟩,s0,s1,s2,s3,s4⟩:=five_facts hbx;obtain⟨hbs,hus⟩:=box_set hbx (.string sp) (.int .i64 S.wd) (.int .i64 S.rm) (.slice r.ma r.n r.c) (.int .i64 r.ne);have HBS:=jq hbs;have hbl:=HL2.out.trans (hus.below HL2.out.size (λk e=>by rw[e];exact HRB.out));have HBL:=jq hbl;clear hbx hbs hus hbl;go_simp;refine hK.out _ _ ?_ (λhHeld=>?_)
     ·exact HC.out _ HBL.out
     clear hK K r0 r1 r2 r3 r4 s0 s1 s2 s3 s4
     try(simp only[Act.put])
     refine' tk1 15 ?_;simp only[Act.put,ji];simp only[jY];simp only[ju,js]
     refine wpAnyH_done (by kernel_rfl) ?_ _;refine NoPanic.normal ?_;clear hHeld
     go_wp2_with fail
     go_meet
     exact⟨rb,X0,w7,r,rfl,rfl,HR7,jq (by rw[HV2.out.1,HV2.out.2.1];exact past_late HX0.out HB7.out _ _ _ _ _ _),HBS⟩
    ·skip
     go_simp;refine hK.out _ _ ?_ (λhHeld=>?_)
     ·exact HC.out _ (HX0.out.alloc HX0.out.size _)
     clear hK K
     try(simp only[Act.put,ji];simp only[jY];simp only[ju,js])
     obtain⟨V2,hV2⟩:=jl (X0.alloc (.cells #[.string ⟨#[]⟩,.int .i64 0,.int .i64 0,.slice none 0 0,.int .i64 0] 38));obtain⟨rb,hrb⟩:=jl X0.heap.size;have HBX:Hid (Blk V2 rb 38 #[.string ⟨#[]⟩,.int .i64 0,.int .i64 0,.slice none 0 0,.int .i64 0]):=jq (by rw[hV2,hrb];exact Blk.new _ _ _);have HV2:Hid (V2=X0.alloc (.cells #[.string ⟨#[]⟩,.int .i64 0,.int .i64 0,.slice none 0 0,.int .i64 0] 38)/\rb=X0.heap.size/\Below wr.heap.size wr V2):=jq ⟨hV2,hrb,by rw[hV2];exact HX0.out.alloc HX0.out.size _⟩;rw[<-hV2]at hHeld⊢;rw[<-hrb];clear hV2 hrb;have HRB:Hid (wr.heap.size<=rb):=jq (by rw[HV2.out.2.1];exact HX0.out.size);have HL2:Hid (Below wr.heap.size wr V2):=jq HV2.out.2.2;refine wpAnyH_ready (rs:=[9]) (by kernel_rfl) (by simp) ?_;refine AllReadyH.cons (by(simp only[jt,jb,ja];rfl)) (λK hK=>?_) AllReadyH.nil;go_simp
     (go_at_call 33;refine(HR.out V2 HL2.out).mono ?_;rintro e w7 ⟨r,rfl,HV,HB7,HR7,HW8,HB8⟩)
     have HW7:Hid (Below wr.heap.size wr w7):=jq (HL2.out.trans (HB7.out.mono HL2.out.size));dsimp only;refine hK.out _ _ ?_ (λhHeld=>?_)
     ·exact HC.out _ HW7.out
     clear hK K
     try(simp only[Act.put,ji,jX];simp only[jY];simp only[ju,js])
     refine' tk1 10 ?_;simp only[Act.put,ji,jX];simp only[ju,js]
     refine' tk1 11 ?_;simp only[Act.put,ji,jX];simp only[jY];simp only[ju,js]
     refine' tk1 12 ?_;simp only[Act.put,ji,jX];simp only[jY,js]
     refine wpAnyH_ready (rs:=[14]) (by kernel_rfl) (by simp) ?_;refine AllReadyH.cons (by(simp only[jt,jb,ja];rfl)) (λK hK=>?_) AllReadyH.nil;have hbx:=HBX.out.below HB7.out HBX.out.lt;obtain⟨⟨r0,r1,r2,r3,r4⟩,s0,s1,s2,s3,s4⟩:=five_facts hbx;obtain⟨hbs,hus⟩:=box_set hbx (.string sp) (.int .i64 S.wd) (.int .i64 S.rm) (.slice r.ma r.n r.c) (.int .i64 r.ne);have HBS:=jq hbs;have hbl:=HW7.out.trans (hus.below HW7.out.size (λk e=>by rw[e];exact HRB.out));have HBL:=jq hbl;clear hbx hbs hus hbl;go_simp;refine hK.out _ _ ?_ (λhHeld=>?_)
     ·exact HC.out _ HBL.out
     clear hK K r0 r1 r2 r3 r4 s0 s1 s2 s3 s4
     try(simp only[Act.put])
     refine' tk1 15 ?_;simp only[Act.put,ji];simp only[jY];simp only[ju,js]
     refine wpAnyH_done (by kernel_rfl) ?_ _;refine NoPanic.normal ?_;clear hHeld
     go_wp2_with fail
     go_meet
     exact⟨rb,V2,w7,r,rfl,rfl,HR7,jq (past_early HL2.out HB7.out HRB.out HBX.out.lt _ _ _ _ _),HBS⟩
   case rest=>
    obtain⟨rb,V,w7,r,rfl,rfl,HR7,HPA,HBX⟩:=hcut;have hbp:=HBP.out.below HPA.out.below HBP.out.lt;have g3:=hbp.frozen 3;have g4:=hbp.frozen 4;have g5:=hbp.frozen 5;have g6:=hbp.frozen 6;have g7:=hbp.frozen 7;have g8:=hbp.frozen 8;have e3:=hbp.cell 3;have e4:=hbp.cell 4;have e5:=hbp.cell 5;have e6:=hbp.cell 6;have e7:=hbp.cell 7;have e8:=hbp.cell 8;obtain⟨-,s0,s1,s2,s3,s4⟩:=five_facts HBX.out;simp only[jt,ja,jb]at e3 e4 e5 e6 e7 e8;have HE:=jq (end_p hbp (.string sp) (.int .i64 S.wd) (.int .i64 S.rm) (.slice r.ma r.n r.c) (.int .i64 r.ne) (.slice r.an r.ln r.nc));clear hbp
    go_wp2_with fail
    go_ret2
    have hz:=HB.out.size;exact⟨_,w2,V,r,w7,HB1.out.drew,HU2.out,HF2.out,HB.out.trans (HPA.out.call.mono hz),HPA.out.ran,HR7.out,rfl,(HPA.out.box.mono (λk hk=>Or.inr ⟨Nat.le_trans hz hk.1,hk.2⟩)).trans (HE.out.1.mono (λk hk=>Or.inl hk)) (λk hk=>.inl hk),HE.out.2⟩
end Runs
namespace Runs
open Go.RowKit Go.Deep Go.Shelf Mem Crc Go.Maps Merge Full RefF
open Store (Sto Files setF setF_same setF_other nv)
variable {B p i:Nat} {o:Option Obj} {w w':World} {S:RD}
attribute [local go_sem] Oper.semAt_some
theorem does_putW (h:RPlay B p o i w S) {RF:Int->World->World->Prop} {RR:Int->World->FR->World->Prop} {ab:Option Addr} {b:List UInt8} {bc:Nat} (hL:Lies w ab (b.map bv)) (hLk:∀W1 w2,Below w.heap.size w W1->Upon S.D W1 w2->∀z,RF z W1 w2->Lies w2 ab (b.map bv)) (hLw:b= []\/∀g,Mem.blk ab=some g->g<w.heap.size) (hbl:b.length<=300) (la:Option Addr) (ln lc:Nat) (nn:Int)
  (HFL:∀W1 a c,Below w.heap.size w W1->Lies W1 a (b.map bv)->(∀g,Mem.blk a=some g->w.heap.size<=g)->Calls Tryz.prog 14 #[.pointer (some ⟨S.x,0,none⟩),.slice a b.length c] W1 λe w2=>∃z,e=.returned (.int .i64 z)/\Upon S.D W1 w2/\RF z W1 w2)
  (HRF:∀z W1 w2 wr V,Below w.heap.size w W1->Upon S.D W1 w2->RF z W1 w2->Upon (λk=>w.heap.size<=k/\k<W1.heap.size) w2 wr->Below wr.heap.size wr V->Calls Tryz.prog 22 #[sV S.A S.mh S.held.length S.mc S.ne,.slice S.an S.L.length S.nc,nv b] V λe w'=>∃r:FR,e=.returned (.tuple #[sV S.A r.ma r.n r.c r.ne,.slice r.an r.ln r.nc,.int .i64 z])/\Below V.heap.size V w'/\RR z V r w'):
  Calls Tryz.prog 8 #[.pointer (some ⟨p,0,none⟩),.agg #[.int .i64 0,.slice ab b.length bc,.int .u8 nn,.slice la ln lc]] w λe w'=>∃z W1 w2 wr V r w3,Below w.heap.size w W1/\Upon S.D W1 w2/\RF z W1 w2/\Upon (λk=>w.heap.size<=k/\k<W1.heap.size) w2 wr/\Below wr.heap.size wr V/\Below V.heap.size V w3/\RR z V r w3/\e=.returned (.tuple #[.bool true,.bool true])/\Upon (λk=>k=p\/(wr.heap.size<=k/\k<V.heap.size)) w3 w'/\Blk w' p 44 #[.pointer (some ⟨S.d,0,none⟩),.pointer (some ⟨S.s,0,none⟩),.pointer (some ⟨S.x,0,none⟩),nv S.pf,.int .i64 S.wd,.int .i64 S.rm,.slice r.ma r.n r.c,.int .i64 r.ne,.slice r.an r.ln r.nc,.slice S.ah S.LH.length S.hc]:=by
 obtain⟨sp,hsp⟩:∃s:ByteArray,nv S.pf=.string s:=⟨_,rfl⟩;obtain⟨sb,hsb⟩:∃s:ByteArray,nv b=.string s:=⟨_,rfl⟩;obtain⟨n,hn⟩:=jl b.length;obtain⟨qb,hqb⟩:=jl w.heap.size;obtain⟨W1,hW1⟩:=jl (w.alloc (.cells #[.int .i64 0,.slice ab n bc,.int .u8 nn,.slice la ln lc] 27));have hB1:Below w.heap.size w W1:=by rw[hW1];exact(Below.refl _ w).alloc jn _
 have hz1:W1.heap.size=qb+1:=by rw[hW1,hqb];simp
 have hbA:Blk W1 qb 27 #[.int .i64 0,.slice ab n bc,.int .u8 nn,.slice la ln lc]:=by rw[hW1,hqb];exact Blk.new w _ _
 have hP1:=h.later hB1;obtain⟨W2,hW2⟩:=jl (W1.alloc (.cells #[] 5));have hB2:Below W1.heap.size W1 W2:=by rw[hW2];exact(Below.refl _ W1).alloc jn _
 obtain⟨v3,w3,hr3,hO3,hg3⟩:=run_append_bytes (base:=W1.heap.size) W2 24 (.slice (some ⟨W1.heap.size,0,none⟩) 0 0) [] (by rw[hW2];exact own_empty W1 5 1) ab bc b ((hL.later hB1).later hB2) (by simp;omega) hB2.size;rw[<-hn]at hr3;rw[List.nil_append]at hO3;have hB3:Below W1.heap.size W1 w3:=hB2.grown hg3 hB2.size (λq e=>by cases e;exact Nat.le_refl _);obtain⟨a3,c3,rfl,hrow⟩:=row8_of hO3;obtain⟨a3',c3',e3,_,hL3,hlt3,_⟩:=own_shape hO3;cases e3;have hB03:Below w.heap.size w w3:=hB1.trans (hB3.mono hB1.size);have hput:=HFL w3 a3 c3 hB03 hL3 (λg hg=>by have:=(hlt3 g hg).1;omega);obtain⟨hl,hhl⟩:=jl S.held.length;obtain⟨pn,hpn⟩:=jl S.L.length;obtain⟨hn',hhn⟩:=jl S.LH.length;obtain⟨c0,c1,c2,c3',c4,c5,c6,c7,c8,c9⟩:=(hP1.later hB3).cells hsp;have hbk:=(hP1.later hB3).blk;unfold RD.cells at hbk;rw[hsp,<-hhl,<-hpn,<-hhn]at hbk;have hbA3:=hbA.below hB3 hbA.lt
 have hqD:¬S.D qb:=λhk=>by
  obtain⟨Q,R,hv,vs,hg⟩:=h.live;have:=hg.lt qb hk
  omega
 have hDlt:∀k,S.D k->k<qb:=λk hk=>by
  obtain⟨Q,R,hv,vs,hg⟩:=h.live;have:=hg.lt k hk
  omega
 have hpq:p<qb:=by have:=h.blk.lt;omega
 unfold sV RD.A at HRF;dsimp only at HRF;rw[hsp,hsb,<-hhl,<-hpn]at HRF;rw[<-hn]at hput hrow hr3;rw[hW2,hz1,hqb,hW1]at hr3;rw[hsp,<-hn,<-hhn];have hn3:n<=300:=by omega
 clear hbl;have HPUT:=jq hput;have HRF:=jq HRF;have HROW:=jq hrow;have HBK:=jq hbk;have HBA:=jq hbA3;have HPD:=jq (And.intro hP1.pD (And.intro hqD (And.intro hpq hDlt)));have HB03:=jq hB03;have HZ:=jq (And.intro hz1 (And.intro hqb hB3.size));have HLK:=jq (And.intro hLk hLw);have HSB:=jq (And.intro hsb hn);clear hP1 h hB1 hB2 hB3 hB03 hsp hsb hn hbA hbA3 hbk hqD hDlt hhl hpn hhn hpq HFL hL hLk hLw hW2 hO3 hg3 hrow hL3 hlt3 hput hz1 c0 c1 c3' c4 c5 c6 c7 c8 c9;clear hqb hW1
 go_enter Tryz.func8,Tryz.ntmps8
 go_wp2_with (first|(at_builtin;refine Lib.wpList_append_run _ rfl _ _ _ _ rfl _ _ rfl rfl _ _ hr3 ?_))
 refine HPUT.out.mono ?_;rintro e w4 ⟨z,rfl,hu4,hF4⟩;obtain⟨X,hX⟩:∃X:Nat->Prop,X=λk=>qb<k/\k<w3.heap.size:=⟨_,rfl⟩
 have hrow4:n=0\/∃g0,a3=some ⟨g0,0,none⟩/\X g0/\Row8 w4 g0 n:=HROW.out.imp id (fun⟨g0,h1,h2,h3⟩=>⟨g0,h1,by rw[hX];exact⟨by have:=HZ.out.1;omega,h3.lt⟩,h3.upon hu4 (λhq=>by have:=HPD.out.2.2.2 g0 hq;have:=HZ.out.1;omega)⟩);have hb4:=HBK.out.upon hu4 HPD.out.1;have ha4:=HBA.out.upon hu4 HPD.out.2.1;have hl4:=HLK.out.1 w3 w4 HB03.out hu4 z hF4;have HROW4:=jq hrow4;have HB4:=jq hb4;have HA4:=jq ha4;have HU4:=jq hu4;have HF4:=jq hF4;have HL4:=jq hl4;have HX:=jq hX;clear hX hrow4 hb4 ha4 hu4 hF4 hl4 HROW hr3 HPUT;rw[<-HZ.out.2.1]
 go_wp2_with fail
 go_loopw[8] (λi wr=>∃j:Nat,j<=n/\i=.int .i64 j/\Hid (Upon X w4 wr)/\Hid (n=0\/∃g0,a3=some ⟨g0,0,none⟩/\X g0/\Row8 wr g0 n)) (λi _=>n-(intOf i).toNat)
 case atStart=>exact⟨0,Nat.zero_le _,rfl,jq (Upon.refl _ _),HROW4⟩
 case round=>
  obtain⟨j,hj,rfl,hU,hR⟩:=hrel
  by_cases hlt:j<n
  ·have hjd:decide ((j:Int) <(n:Int))=true:=jd (by omega);obtain⟨g0,rfl,hXg,hr8⟩:=hR.out.resolve_left (by omega);obtain⟨x,hx⟩:=hr8.cell hlt;have hfz:=hr8.frozen j;have HR8:=jq hr8;have HXG:=jq hXg;clear hr8 hXg
   go_wp2_with fail
   exact⟨⟨j+1,by omega,by simp,jq (hU.out.set (.inl HXG.out) _),jq (.inr ⟨g0,rfl,HXG.out,HR8.out.set j _⟩)⟩,by simp[intOf];omega⟩
  ·obtain rfl:n=j:=by omega
   have hjd:decide ((n:Int) <(n:Int))=false:=jf (by omega);have hpX:¬X p:=by rw[HX.out];exact λhk=>by have:=HPD.out.2.2.1;omega
   have hqX:¬X qb:=by rw[HX.out];exact λhk=>by omega
   have hu5:Upon (λk=>w.heap.size<=k/\k<w3.heap.size) w4 wr:=hU.out.mono (λk hk=>by rw[HX.out]at hk;exact⟨by have:=HZ.out.2.1;omega,hk.2⟩);have hb5:=HB4.out.upon hU.out hpX;have ha5:=HA4.out.upon hU.out hqX;have hl5:Lies wr ab (b.map bv):=HLK.out.2.elim (λe=>.inl (by rw[e];rfl)) (λhlw=>HL4.out.upon hU.out (λg hg hx=>by rw[HX.out]at hx;have:=hlw g hg;have:=HZ.out.2.1;omega));have r1:wr.cell? ⟨qb,1,none⟩=some (.slice ab n bc):=by rw[ha5.cell];rfl
   have q3:wr.cell? ⟨p,3,none⟩=some (.string sp):=by rw[hb5.cell];rfl
   have q4:wr.cell? ⟨p,4,none⟩=some (.int .i64 S.wd):=by rw[hb5.cell];rfl
   have q5:wr.cell? ⟨p,5,none⟩=some (.int .i64 S.rm):=by rw[hb5.cell];rfl
   have q6:wr.cell? ⟨p,6,none⟩=some (.slice S.mh hl S.mc):=by rw[hb5.cell];rfl
   have q7:wr.cell? ⟨p,7,none⟩=some (.int .i64 S.ne):=by rw[hb5.cell];rfl
   have q8:wr.cell? ⟨p,8,none⟩=some (.slice S.an pn S.nc):=by rw[hb5.cell];rfl
   have hcv:∀V,Below wr.heap.size wr V->(convert 24 9 (.slice ab n bc)).run Tryz.prog V=.ok (.string sb) V:=λV hV=>by
    have:=Full.conv_any (vc:=bc) (hl5.later hV);rw[HSB.out.1,<-HSB.out.2]at this;exact this
   have HR:Hid (∀V:World,Below wr.heap.size wr V->Calls Tryz.prog 22 #[.agg #[.string sp,.int .i64 S.wd,.int .i64 S.rm,.slice S.mh hl S.mc,.int .i64 S.ne],.slice S.an pn S.nc,.string sb] V λe w'=>∃r:FR,e=.returned (.tuple #[.agg #[.string sp,.int .i64 S.wd,.int .i64 S.rm,.slice r.ma r.n r.c,.int .i64 r.ne],.slice r.an r.ln r.nc,.int .i64 z])/\Hid (Below wr.heap.size wr V)/\Hid (Below V.heap.size V w')/\Hid (RR z V r w')/\Hid (Blk w' p 44 #[.pointer (some ⟨S.d,0,none⟩),.pointer (some ⟨S.s,0,none⟩),.pointer (some ⟨S.x,0,none⟩),.string sp,.int .i64 S.wd,.int .i64 S.rm,.slice S.mh hl S.mc,.int .i64 S.ne,.slice S.an pn S.nc,.slice S.ah hn' S.hc])):=jq (λV hV=>(HRF.out z _ _ wr V HB03.out HU4.out HF4.out hu5 hV).mono (by
    rintro e w' ⟨r,h1,h2,h3⟩;exact⟨r,h1,jq hV,jq h2,jq h3,jq ((hb5.below hV hb5.lt).below h2 (Nat.lt_of_lt_of_le hb5.lt hV.size))⟩))
   have HC:Hid (∀w',Below wr.heap.size wr w'->w'.cell? ⟨p,3,none⟩=some (.string sp)/\w'.cell? ⟨p,4,none⟩=some (.int .i64 S.wd)/\w'.cell? ⟨p,5,none⟩=some (.int .i64 S.rm)/\w'.cell? ⟨p,6,none⟩=some (.slice S.mh hl S.mc)/\w'.cell? ⟨p,7,none⟩=some (.int .i64 S.ne)/\w'.cell? ⟨p,8,none⟩=some (.slice S.an pn S.nc)/\w'.cell? ⟨qb,1,none⟩=some (.slice ab n bc)/\(convert 24 9 (.slice ab n bc)).run Tryz.prog w'=.ok (.string sb) w'):=jq (λV hV=>⟨by rw[(hb5.below hV hb5.lt).cell];rfl,by rw[(hb5.below hV hb5.lt).cell];rfl,by rw[(hb5.below hV hb5.lt).cell];rfl,by rw[(hb5.below hV hb5.lt).cell];rfl,by rw[(hb5.below hV hb5.lt).cell];rfl,by rw[(hb5.below hV hb5.lt).cell];rfl,by rw[(ha5.below hV ha5.lt).cell];rfl,hcv V hV⟩);have HBP:=jq hb5;have HU5:=jq hu5;clear hb5 ha5 hl5 hu5 hcv hpX hqX HROW4 q3 q4 q5 q6 q7 q8 r1
   go_wp2_with fail
   go_cut[9,10,11] (λs9 s10 s11 wx=>∃(rb:Nat) (V w7:World) (r:FR),s9=.pointer (some ⟨rb,0,none⟩)/\s10=.slice r.an r.ln r.nc/\s11=.int .i64 z/\Hid (RR z V r w7)/\Hid (Past wr V w7 wx rb)/\Hid (Blk wx rb 38 #[.string sp,.int .i64 S.wd,.int .i64 S.rm,.slice r.ma r.n r.c,.int .i64 r.ne]))
   case first=>
    have hS0:=HC.out wr.drew (Below.refl _ wr).drew;refine wp_region_noPanic ?_;refine wp_region_held_drew (S:=λw'=>w'.cell? ⟨p,3,none⟩=some (.string sp)/\w'.cell? ⟨p,4,none⟩=some (.int .i64 S.wd)/\w'.cell? ⟨p,5,none⟩=some (.int .i64 S.rm)/\w'.cell? ⟨p,6,none⟩=some (.slice S.mh hl S.mc)/\w'.cell? ⟨p,7,none⟩=some (.int .i64 S.ne)/\w'.cell? ⟨p,8,none⟩=some (.slice S.an pn S.nc)/\w'.cell? ⟨qb,1,none⟩=some (.slice ab n bc)/\(convert 24 9 (.slice ab n bc)).run Tryz.prog w'=.ok (.string sb) w') (by kernel_rfl) hS0 (λhHeld=>?_);clear hS0;obtain⟨X0,hX0⟩:=jl wr.drew;have HX0:Hid (Below wr.heap.size wr X0):=jq (by rw[hX0];exact(Below.refl _ wr).drew);rw[<-hX0]at hHeld⊢;clear hX0;refine' tk1 0 ?_;simp only[Act.put,ji,jX];simp only[jY];simp only[ju,js]
    refine' tk1 1 ?_;simp only[Act.put,ji,jX];simp only[jY];simp only[ju,js]
    refine' tk1 2 ?_;simp only[Act.put,ji,jX];simp only[jY];simp only[ju,js]
    refine' tk1 3 ?_;simp only[Act.put,ji,jX];simp only[jY];simp only[ju,js]
    refine' tk1 4 ?_;simp only[Act.put,ji,jX];simp only[jY];simp only[ju,js]
    refine' tk1 5 ?_;simp only[Act.put,ji,jX];simp only[jY,js]
    refine' tk1 6 ?_;simp only[Act.put,ji,jX];simp only[jY];simp only[ju,js]
    refine' tk1 7 ?_;simp only[Act.put,ji,jX];simp only[jY];simp only[ju,js]
    refine' tk1 8 ?_;simp only[Act.put,ji,jX];simp only[jY];simp only[ju,js]
    refine' tk1 9 ?_;simp only[Act.put,ji,jX];simp only[jY];simp only[ju,js]
    refine' tk1 10 ?_;simp only[Act.put,ji,jX];simp only[jY];simp only[ju,js]
    refine wpAnyH_ready (rs:=[11,16]) (by kernel_rfl) (by simp) ?_;refine AllReadyH.cons (by(simp only[jt,jb,ja];rfl)) (λK hK=>?_) (AllReadyH.cons (by(simp only[jt,jb,ja];rfl)) (λK hK=>?_) AllReadyH.nil)
    ·skip
     go_simp
     (go_at_call 22;refine(HR.out X0 HX0.out).mono ?_;rintro e w7 ⟨r,rfl,HV,HB7,HR7,HB8⟩)
     have HW7:Hid (Below wr.heap.size wr w7):=jq (HX0.out.trans (HB7.out.mono HX0.out.size));dsimp only;refine hK.out _ _ ?_ (λhHeld=>?_)
     ·exact HC.out _ HW7.out
     clear hK K
     try(simp only[Act.put,ji,jX];simp only[jY];simp only[ju,js])
     refine' tk1 12 ?_;simp only[Act.put,ji,jX];simp only[jY];simp only[ju,js]
     refine' tk1 13 ?_;simp only[Act.put,ji,jX];simp only[jY];simp only[ju,js]
     refine' tk1 14 ?_;simp only[Act.put,ji,jX];simp only[jY,js]
     refine' tk1 15 ?_;simp only[Act.put,ji,jX];simp only[jY];simp only[ju,js]
     refine wpAnyH_ready (rs:=[16]) (by kernel_rfl) (by simp) ?_;refine AllReadyH.cons (by(simp only[jt,jb,ja];rfl)) (λK hK=>?_) AllReadyH.nil;go_simp;refine hK.out _ _ ?_ (λhHeld=>?_)
     ·exact HC.out _ (HW7.out.alloc HW7.out.size _)
     clear hK K
     try(simp only[Act.put,ji];simp only[jY];simp only[ju,js])
     obtain⟨V2,hV2⟩:=jl (w7.alloc (.cells #[.string ⟨#[]⟩,.int .i64 0,.int .i64 0,.slice none 0 0,.int .i64 0] 38));obtain⟨rb,hrb⟩:=jl w7.heap.size;have HBX:Hid (Blk V2 rb 38 #[.string ⟨#[]⟩,.int .i64 0,.int .i64 0,.slice none 0 0,.int .i64 0]):=jq (by rw[hV2,hrb];exact Blk.new _ _ _);have HV2:Hid (V2=w7.alloc (.cells #[.string ⟨#[]⟩,.int .i64 0,.int .i64 0,.slice none 0 0,.int .i64 0] 38)/\rb=w7.heap.size/\Below wr.heap.size wr V2):=jq ⟨hV2,hrb,by rw[hV2];exact HW7.out.alloc HW7.out.size _⟩;rw[<-hV2]at hHeld⊢;rw[<-hrb];clear hV2 hrb;have HRB:Hid (wr.heap.size<=rb):=jq (by rw[HV2.out.2.1];exact HW7.out.size);have HL2:Hid (Below wr.heap.size wr V2):=jq HV2.out.2.2;refine wpAnyH_ready (rs:=[17]) (by kernel_rfl) (by simp) ?_;refine AllReadyH.cons (by(simp only[jt,jb,ja];rfl)) (λK hK=>?_) AllReadyH.nil;have hbx:=HBX.out;obtain⟨⟨r0,r1,r2,r3,r4⟩,s0,s1,s2,s3,s4⟩:=five_facts hbx;obtain⟨hbs,hus⟩:=box_set hbx (.string sp) (.int .i64 S.wd) (.int .i64 S.rm) (.slice r.ma r.n r.c) (.int .i64 r.ne);have HBS:=jq hbs;have hbl:=HL2.out.trans (hus.below HL2.out.size (λk e=>by rw[e];exact HRB.out));have HBL:=jq hbl;clear hbx hbs hus hbl;go_simp;refine hK.out _ _ ?_ (λhHeld=>?_)
     ·exact HC.out _ HBL.out
     clear hK K r0 r1 r2 r3 r4 s0 s1 s2 s3 s4
     try(simp only[Act.put])
     refine' tk1 18 ?_;simp only[Act.put,ji];simp only[jY];simp only[ju,js]
     refine' tk1 19 ?_;simp only[Act.put,ji];simp only[jY];simp only[ju,js]
     refine wpAnyH_done (by kernel_rfl) ?_ _;refine NoPanic.normal ?_;clear hHeld
     go_wp2_with fail
     go_meet
     exact⟨rb,X0,w7,r,rfl,rfl,rfl,HR7,jq (by rw[HV2.out.1,HV2.out.2.1];exact past_late HX0.out HB7.out _ _ _ _ _ _),HBS⟩
    ·skip
     go_simp;refine hK.out _ _ ?_ (λhHeld=>?_)
     ·exact HC.out _ (HX0.out.alloc HX0.out.size _)
     clear hK K
     try(simp only[Act.put,ji];simp only[jY];simp only[ju,js])
     obtain⟨V2,hV2⟩:=jl (X0.alloc (.cells #[.string ⟨#[]⟩,.int .i64 0,.int .i64 0,.slice none 0 0,.int .i64 0] 38));obtain⟨rb,hrb⟩:=jl X0.heap.size;have HBX:Hid (Blk V2 rb 38 #[.string ⟨#[]⟩,.int .i64 0,.int .i64 0,.slice none 0 0,.int .i64 0]):=jq (by rw[hV2,hrb];exact Blk.new _ _ _);have HV2:Hid (V2=X0.alloc (.cells #[.string ⟨#[]⟩,.int .i64 0,.int .i64 0,.slice none 0 0,.int .i64 0] 38)/\rb=X0.heap.size/\Below wr.heap.size wr V2):=jq ⟨hV2,hrb,by rw[hV2];exact HX0.out.alloc HX0.out.size _⟩;rw[<-hV2]at hHeld⊢;rw[<-hrb];clear hV2 hrb;have HRB:Hid (wr.heap.size<=rb):=jq (by rw[HV2.out.2.1];exact HX0.out.size);have HL2:Hid (Below wr.heap.size wr V2):=jq HV2.out.2.2;refine wpAnyH_ready (rs:=[11]) (by kernel_rfl) (by simp) ?_;refine AllReadyH.cons (by(simp only[jt,jb,ja];rfl)) (λK hK=>?_) AllReadyH.nil;go_simp
     (go_at_call 22;refine(HR.out V2 HL2.out).mono ?_;rintro e w7 ⟨r,rfl,HV,HB7,HR7,HB8⟩)
     have HW7:Hid (Below wr.heap.size wr w7):=jq (HL2.out.trans (HB7.out.mono HL2.out.size));dsimp only;refine hK.out _ _ ?_ (λhHeld=>?_)
     ·exact HC.out _ HW7.out
     clear hK K
     try(simp only[Act.put,ji,jX];simp only[jY];simp only[ju,js])
     refine' tk1 12 ?_;simp only[Act.put,ji,jX];simp only[jY];simp only[ju,js]
     refine' tk1 13 ?_;simp only[Act.put,ji,jX];simp only[jY];simp only[ju,js]
     refine' tk1 14 ?_;simp only[Act.put,ji,jX];simp only[jY,js]
     refine' tk1 15 ?_;simp only[Act.put,ji,jX];simp only[jY];simp only[ju,js]
     refine wpAnyH_ready (rs:=[17]) (by kernel_rfl) (by simp) ?_;refine AllReadyH.cons (by(simp only[jt,jb,ja];rfl)) (λK hK=>?_) AllReadyH.nil;have hbx:=HBX.out.below HB7.out HBX.out.lt;obtain⟨⟨r0,r1,r2,r3,r4⟩,s0,s1,s2,s3,s4⟩:=five_facts hbx;obtain⟨hbs,hus⟩:=box_set hbx (.string sp) (.int .i64 S.wd) (.int .i64 S.rm) (.slice r.ma r.n r.c) (.int .i64 r.ne);have HBS:=jq hbs;have hbl:=HW7.out.trans (hus.below HW7.out.size (λk e=>by rw[e];exact HRB.out));have HBL:=jq hbl;clear hbx hbs hus hbl;go_simp;refine hK.out _ _ ?_ (λhHeld=>?_)
     ·exact HC.out _ HBL.out
     clear hK K r0 r1 r2 r3 r4 s0 s1 s2 s3 s4
     try(simp only[Act.put])
     refine' tk1 18 ?_;simp only[Act.put,ji];simp only[jY];simp only[ju,js]
     refine' tk1 19 ?_;simp only[Act.put,ji];simp only[jY];simp only[ju,js]
     refine wpAnyH_done (by kernel_rfl) ?_ _;refine NoPanic.normal ?_;clear hHeld
     go_wp2_with fail
     go_meet
     exact⟨rb,V2,w7,r,rfl,rfl,rfl,HR7,jq (past_early HL2.out HB7.out HRB.out HBX.out.lt _ _ _ _ _),HBS⟩
   case rest=>
    obtain⟨rb,V,w7,r,rfl,rfl,rfl,HR7,HPA,HBX⟩:=hcut;have hbp:=HBP.out.below HPA.out.below HBP.out.lt;have g3:=hbp.frozen 3;have g4:=hbp.frozen 4;have g5:=hbp.frozen 5;have g6:=hbp.frozen 6;have g7:=hbp.frozen 7;have g8:=hbp.frozen 8;have e3:=hbp.cell 3;have e4:=hbp.cell 4;have e5:=hbp.cell 5;have e6:=hbp.cell 6;have e7:=hbp.cell 7;have e8:=hbp.cell 8;obtain⟨-,s0,s1,s2,s3,s4⟩:=five_facts HBX.out;simp only[jt,ja,jb]at e3 e4 e5 e6 e7 e8;have HE:=jq (end_p hbp (.string sp) (.int .i64 S.wd) (.int .i64 S.rm) (.slice r.ma r.n r.c) (.int .i64 r.ne) (.slice r.an r.ln r.nc));clear hbp
    go_wp2_with fail
    go_ret2
    exact⟨z,_,w4,wr,V,r,w7,HB03.out,HU4.out,HF4.out,HU5.out,HPA.out.call,HPA.out.ran,HR7.out,rfl,(HPA.out.box.mono (λk hk=>Or.inr hk)).trans (HE.out.1.mono (λk hk=>Or.inl hk)) (λk hk=>.inl hk),HE.out.2⟩
end Runs
namespace Runs
open Go.RowKit Go.Deep Go.Shelf Mem Crc Go.Maps Merge Full RefF
open Store (Sto Files setF setF_same setF_other nv)
variable {B p i:Nat} {o:Option Obj} {w w':World} {S:RD}
theorem g_write {s x ne n:Nat} {T:Sto s} {F:Files} {A:Fi} {D:Nat->Prop} {held:List (List UInt8)} (h:InG T A D w x ne F held n) (hn:n<100000) (nm:List UInt8) (h1:1<=nm.length) (h2:nm.length<=32) (a:Option Addr) (cp:Nat) (b:List UInt8) (hL:Lies w a (b.map bv)) (hb:b.length<=1048576):
  Calls Tryz.prog 28 #[.pointer (some ⟨s,0,none⟩),nv nm,.slice a b.length cp] w λe w'=>e=.returned (.int .i64 0)/\InG T A (Mid D w w') w' x ne (setF F nm (some b)) held (n+1)/\Upon D w w':=by
 obtain⟨Q,R,hv,vs,h⟩:=h;refine(T.write h.srt.sto hn nm h1 h2 a cp b hL hb).mono ?_;rintro e w' ⟨rfl,Q',hs,hq,hu⟩;have hlt:∀k,R k->¬Q' k:=λk hk hq'=>(hq k hq').elim (h.srt.rq k hk).1 (λh1=>by have:=h.lt k (h.r k hk);omega)
 have hlv:∀k,hv.ownBlock=some k->¬Q' k:=λk hk hq'=>(hq k hq').elim (h.srt.hq k hk).1 (λh1=>by have:=h.lt k (h.h k hk);omega)
 have hlx:¬Q' x:=λhq'=>(hq x hq').elim h.srt.xq (λh1=>by have:=h.lt x h.x;omega)
 exact⟨rfl,⟨Q',R,hv,vs,⟨h.srt.sIs,h.srt.blk.upon hu h.srt.xq,hs,h.srt.mem.keep hu (λg hg=>(h.srt.rq g hg).1) (λg hg=>(h.srt.hq g hg).1),λg hg=>⟨hlt g hg,(h.srt.rq g hg).2⟩,λg hg=>⟨hlv g hg,(h.srt.hq g hg).2⟩,hlx,h.srt.ok,h.srt.room,h.srt.few⟩,λk hk=>(hq k hk).imp (h.q k) (λh1=>⟨h1,T.lt hs k hk⟩),λk hk=>.inl (h.r k hk),.inl h.x,λk hk=>.inl (h.h k hk),λk hk=>hk.elim (λh1=>Nat.lt_of_lt_of_le (h.lt k h1) hu.size) (λh1=>h1.2)⟩,hu.mono h.q⟩
theorem rname_short {pf:List UInt8} (h0:1<=pf.length) (h1:pf.length<=16) {k:Nat} (hk:k<10):1<=(rname pf k).length/\(rname pf k).length<=32:=by
 have h2:∀k:Fin 10,(rname [] k.1).length<=10:=by decide
 have h3:=h2 ⟨k,hk⟩;unfold rname at h3⊢;simp only[jL,List.nil_append]at h3⊢
 omega
attribute [local go_sem] Oper.semAt_some
theorem does_write (h:RPlay B p o i w S) (h6:i<=60) {w0:World} (h0:Below w0.heap.size w0 w) (hB0:w0.heap.size<=B) {ab:Option Addr} {b:List UInt8} {bc:Nat} (hL:Lies w0 ab (b.map bv)) (hbl:b.length<=300) (la:Option Addr) (ln lc:Nat) (nn:Nat):
  Calls Tryz.prog 8 #[.pointer (some ⟨p,0,none⟩),.agg #[.int .i64 5,.slice ab b.length bc,.int .u8 (nn:Int),.slice la ln lc]] w λe w'=>e=.returned (.tuple #[.bool true,.bool true])/\RStep B p o i S w w':=by
 obtain⟨sp,hsp⟩:∃s:ByteArray,nv S.pf=.string s:=⟨_,rfl⟩;obtain⟨sb,hsb⟩:∃s:ByteArray,nv b=.string s:=⟨_,rfl⟩;obtain⟨sn,hsn⟩:∃s:ByteArray,nv (rname S.pf (nn%4))=.string s:=⟨_,rfl⟩;obtain⟨n,hn⟩:=jl b.length;obtain⟨qb,hqb⟩:=jl w.heap.size;obtain⟨W1,hW1⟩:=jl (w.alloc (.cells #[.int .i64 5,.slice ab n bc,.int .u8 (nn:Int),.slice la ln lc] 27));have hB1:Below w.heap.size w W1:=by rw[hW1];exact(Below.refl _ w).alloc jn _
 have hbA:Blk W1 qb 27 #[.int .i64 5,.slice ab n bc,.int .u8 (nn:Int),.slice la ln lc]:=by rw[hW1,hqb];exact Blk.new w _ _
 have hP1:=h.later hB1;have hni:=h.ni;have hli:=h.li;obtain⟨-,hok,hwid,-,-⟩:=h.live.room;obtain⟨k1,k2,k3,k4,k5,k6⟩:=id hok;obtain⟨m1,m2⟩:=rname_short k1 k2 (show nn%4<10 by omega);have hsz:=h0.size;obtain⟨hl,hhl⟩:=jl S.held.length;obtain⟨pn,hpn⟩:=jl S.L.length;obtain⟨hn',hhn⟩:=jl S.LH.length;obtain⟨c0,c1,c2,c3,c4,c5,c6,c7,c8,c9⟩:=hP1.cells hsp;have hbk:=hP1.blk;unfold RD.cells at hbk;rw[hsp,<-hhl,<-hpn,<-hhn]at hbk
 have hqD:¬S.D qb:=λhk=>by
  obtain⟨Q,R,hv,vs,hg⟩:=h.live;have:=hg.lt qb hk
  omega
 have HNM:Hid (∀V,Calls Tryz.prog 21 #[.agg #[.string sp,.int .i64 S.wd,.int .i64 S.rm,.slice S.mh hl S.mc,.int .i64 S.ne],.int .i64 ((nn%4:Nat):Int)] V λe w'=>e=.returned (.string sn)/\Below V.heap.size V w'):=jq (λV=>by
  have:=refName_any S.pf k2 S.wd S.rm S.ne S.mh hl S.mc (nn%4) (by omega) V;rw[hsp,hsn]at this;exact this)
 have HWR:Hid (∀V,Below w.heap.size w V->Calls Tryz.prog 28 #[.pointer (some ⟨S.s,0,none⟩),.string sn,.slice ab n bc] V λe w'=>e=.returned (.int .i64 0)/\InG (stoX B S.s S.d 400 o S.H) S.A (Mid S.D V w') w' S.x S.ne (setF S.F (rname S.pf (nn%4)) (some b)) S.held (S.n+1)/\Upon S.D V w'):=jq (λV hV=>by
  have:=g_write (h.later hV).live (by omega) (rname S.pf (nn%4)) m1 m2 ab bc b (hL.later (h0.trans (hV.mono hsz))) (by omega);rw[hsn,<-hn]at this;exact this)
 have HBK:=jq hbk;have HBA:=jq hbA;have HPD:=jq (And.intro hP1.pD (And.intro hqD (And.intro hhl (And.intro hpn hhn))));have HB1:=jq hB1;have H0:=jq h;have HN:=jq (And.intro hn (And.intro hsb (And.intro hsn hsp)));have HX:=jq (And.intro h0 (And.intro hB0 hL));have HI:=jq (And.intro hni (And.intro hli hsz));have HBL:=jq hbl;rw[<-hn]
 have hrem:IntKind.i64.wrap ((nn:Int).tmod 4)=((nn%4:Nat):Int):=by
  rw[Int.tmod_eq_emod_of_nonneg (by omega),IntWalk.i64_in _ (by omega)]
  omega
 rw[<-hhl]at c6;rw[<-hpn]at c8;clear hP1 h hB1 hbk hbA hqD hhl hpn hhn hn hsb hsn hsp h0 hB0 hL hni hli hsz hbl k1 k2 k3 k4 k5 k6 m1 m2 hok hwid
 go_enter Tryz.func8,Tryz.ntmps8
 go_wp2_with fail
 rw[<-hW1,<-hqb];clear hW1 hqb;have r1:W1.cell? ⟨qb,1,none⟩=some (.slice ab n bc):=by rw[HBA.out.cell];rfl
 have r2:W1.cell? ⟨qb,2,none⟩=some (.int .u8 (nn:Int)):=by rw[HBA.out.cell];rfl
 have HC:Hid (∀w',Below W1.heap.size W1 w'->w'.cell? ⟨p,1,none⟩=some (.pointer (some ⟨S.s,0,none⟩))/\w'.cell? ⟨p,3,none⟩=some (.string sp)/\w'.cell? ⟨p,4,none⟩=some (.int .i64 S.wd)/\w'.cell? ⟨p,5,none⟩=some (.int .i64 S.rm)/\w'.cell? ⟨p,6,none⟩=some (.slice S.mh hl S.mc)/\w'.cell? ⟨p,7,none⟩=some (.int .i64 S.ne)/\w'.cell? ⟨qb,1,none⟩=some (.slice ab n bc)/\w'.cell? ⟨qb,2,none⟩=some (.int .u8 (nn:Int))):=jq (λV hV=>⟨by rw[(HBK.out.below hV HBK.out.lt).cell];rfl,by rw[(HBK.out.below hV HBK.out.lt).cell];rfl,by rw[(HBK.out.below hV HBK.out.lt).cell];rfl,by rw[(HBK.out.below hV HBK.out.lt).cell];rfl,by rw[(HBK.out.below hV HBK.out.lt).cell];rfl,by rw[(HBK.out.below hV HBK.out.lt).cell];rfl,by rw[(HBA.out.below hV HBA.out.lt).cell];rfl,by rw[(HBA.out.below hV HBA.out.lt).cell];rfl⟩);have HC2:Hid (∀V w2,Below W1.heap.size W1 V->Upon S.D V w2->(w2.cell? ⟨p,1,none⟩=some (.pointer (some ⟨S.s,0,none⟩))/\w2.cell? ⟨p,3,none⟩=some (.string sp)/\w2.cell? ⟨p,4,none⟩=some (.int .i64 S.wd)/\w2.cell? ⟨p,5,none⟩=some (.int .i64 S.rm)/\w2.cell? ⟨p,6,none⟩=some (.slice S.mh hl S.mc)/\w2.cell? ⟨p,7,none⟩=some (.int .i64 S.ne)/\w2.cell? ⟨qb,1,none⟩=some (.slice ab n bc)/\w2.cell? ⟨qb,2,none⟩=some (.int .u8 (nn:Int)))):=jq (λV w2 hV hu=>⟨by rw[((HBK.out.below hV HBK.out.lt).upon hu HPD.out.1).cell];rfl,by rw[((HBK.out.below hV HBK.out.lt).upon hu HPD.out.1).cell];rfl,by rw[((HBK.out.below hV HBK.out.lt).upon hu HPD.out.1).cell];rfl,by rw[((HBK.out.below hV HBK.out.lt).upon hu HPD.out.1).cell];rfl,by rw[((HBK.out.below hV HBK.out.lt).upon hu HPD.out.1).cell];rfl,by rw[((HBK.out.below hV HBK.out.lt).upon hu HPD.out.1).cell];rfl,by rw[((HBA.out.below hV HBA.out.lt).upon hu HPD.out.2.1).cell];rfl,by rw[((HBA.out.below hV HBA.out.lt).upon hu HPD.out.2.1).cell];rfl⟩);have hS0:=HC.out W1.drew (Below.refl _ W1).drew;refine wp_region_noPanic ?_;refine wp_region_held_drew (S:=λw'=>w'.cell? ⟨p,1,none⟩=some (.pointer (some ⟨S.s,0,none⟩))/\w'.cell? ⟨p,3,none⟩=some (.string sp)/\w'.cell? ⟨p,4,none⟩=some (.int .i64 S.wd)/\w'.cell? ⟨p,5,none⟩=some (.int .i64 S.rm)/\w'.cell? ⟨p,6,none⟩=some (.slice S.mh hl S.mc)/\w'.cell? ⟨p,7,none⟩=some (.int .i64 S.ne)/\w'.cell? ⟨qb,1,none⟩=some (.slice ab n bc)/\w'.cell? ⟨qb,2,none⟩=some (.int .u8 (nn:Int))) (by kernel_rfl) hS0 (λhHeld=>?_);clear hS0;obtain⟨X0,hX0⟩:=jl W1.drew;have HX0:Hid (Below W1.heap.size W1 X0):=jq (by rw[hX0];exact(Below.refl _ W1).drew);rw[<-hX0]at hHeld⊢;clear hX0;refine' tk1 0 ?_;simp only[Act.put,ji,jX];simp only[jY];simp only[ju,js]
 refine' tk1 1 ?_;simp only[Act.put,ji,jX];simp only[jY];simp only[ju,js]
 refine' tk1 2 ?_;simp only[Act.put,ji,jX];simp only[jY];simp only[ju,js]
 refine' tk1 3 ?_;simp only[Act.put,ji,jX];simp only[jY,js]
 refine' tk1 4 ?_;simp only[Act.put,ji,jX];simp only[jY];simp only[ju,js]
 refine' tk1 5 ?_;simp only[Act.put,ji,jX];simp only[jY];simp only[ju,js]
 refine' tk1 6 ?_;simp only[Act.put,ji,jX];simp only[jY];simp only[ju,js]
 refine' tk1 7 ?_;simp only[Act.put,ji,jX];simp only[jY];simp only[ju,js]
 refine' tk1 8 ?_;simp only[Act.put,ji,jX];simp only[jY];simp only[ju,js]
 refine' tk1 9 ?_;simp only[Act.put,ji,jX];simp only[jY];simp only[ju,js]
 refine' tk1 10 ?_;simp only[Act.put,ji,jX];simp only[jY];simp only[ju,js]
 refine' tk1 11 ?_;simp only[Act.put,ji,jX];simp only[jY,js]
 refine' tk1 13 ?_;simp only[Act.put,ji,jX];simp only[jY];simp only[ju,js]
 refine' tk1 14 ?_;simp only[Act.put,ji,jX];simp only[jY];simp only[ju,js]
 refine wpAnyH_ready (rs:=[12]) (by kernel_rfl) (by simp) ?_;refine AllReadyH.cons (by(simp only[jt,jb,ja];rfl)) (λK hK=>?_) AllReadyH.nil;rw[if_pos (by rfl)]
 go_big_op
 (go_at_call 21;refine(HNM.out X0).mono ?_;rintro e V ⟨rfl,hV⟩;have HV:=jq (HX0.out.trans (hV.mono HX0.out.size));clear hV;dsimp only)
 clear hHeld;refine hK.out _ _ ?_ (λhHeld=>?_)
 ·exact HC.out _ HV.out
 clear hK K
 try(simp only[Act.put,ji,jX];simp only[jY];simp only[ju,js])
 refine wpAnyH_ready (rs:=[15]) (by kernel_rfl) (by simp) ?_;refine AllReadyH.cons (by(simp only[jt,jb,ja];rfl)) (λK hK=>?_) AllReadyH.nil;rw[if_pos (by rfl)]
 go_big_op
 (go_at_call 28;refine(HWR.out V (HB1.out.trans (HV.out.mono HB1.out.size))).mono ?_;rintro e w2 ⟨rfl,hg,hu⟩;have hcc:=HC2.out V w2 HV.out hu;have HG:=jq hg;have HU:=jq hu;clear hg hu;dsimp only)
 clear hHeld;refine hK.out _ _ ?_ (λhHeld=>?_)
 ·exact hcc
 clear hK K
 try(simp only[Act.put,ji,jX];simp only[jY];simp only[ju,js])
 refine' tk1 16 ?_;simp only[Act.put,ji];simp only[jY];simp only[ju,js]
 refine wpAnyH_done (by kernel_rfl) ?_ _;refine NoPanic.normal ?_;clear hHeld;clear HC HC2 HX0;clear X0;have hb2:=(HBK.out.below HV.out HBK.out.lt).upon HU.out HPD.out.1;have ha2:=(HBA.out.below HV.out HBA.out.lt).upon HU.out HPD.out.2.1;have q1:w2.cell? ⟨qb,1,none⟩=some (.slice ab n bc):=by rw[ha2.cell];rfl
 have q2:w2.cell? ⟨qb,2,none⟩=some (.int .u8 (nn:Int)):=by rw[ha2.cell];rfl
 have q3:w2.cell? ⟨p,3,none⟩=some (.string sp):=by rw[hb2.cell];rfl
 have q4:w2.cell? ⟨p,4,none⟩=some (.int .i64 S.wd):=by rw[hb2.cell];rfl
 have q5:w2.cell? ⟨p,5,none⟩=some (.int .i64 S.rm):=by rw[hb2.cell];rfl
 have q6:w2.cell? ⟨p,6,none⟩=some (.slice S.mh hl S.mc):=by rw[hb2.cell];rfl
 have q7:w2.cell? ⟨p,7,none⟩=some (.int .i64 S.ne):=by rw[hb2.cell];rfl
 have q8:w2.cell? ⟨p,8,none⟩=some (.slice S.an pn S.nc):=by rw[hb2.cell];rfl
 have hup:Upon (λk=>S.D k\/k=p) w w2:=((Upon.of_below HB1.out).trans (Upon.of_below (P:=λk=>S.D k\/k=p) HV.out) (λk hk=>.inl hk)).trans (HU.out.mono (λk hk=>(Or.inl hk:S.D k\/k=p))) (λk hk=>.inl hk);have hbel:Below B w w2:=H0.out.up HG.out hup;have hl2:Lies w2 ab (b.map bv):=HX.out.2.2.later (HX.out.1.trans (hbel.mono HX.out.2.1))
 have hcv:∀V,Below w2.heap.size w2 V->(convert 24 9 (.slice ab n bc)).run Tryz.prog V=.ok (.string sb) V:=λV hV=>by
  have:=Full.conv_any (vc:=bc) (hl2.later hV);rw[HN.out.2.1,<-HN.out.1]at this;exact this
 have HPT:Hid (∀V,Below w2.heap.size w2 V->Calls Tryz.prog 29 #[.slice S.an pn S.nc,.string sn,.string sb] V λe w'=>∃a c,e=.returned (.slice a (putP S.L (rname S.pf (nn%4)) b).length c)/\w'.ownsRow w2.heap.size 83 2 (.slice a (putP S.L (rname S.pf (nn%4)) b).length c) (putP S.L (rname S.pf (nn%4)) b).length (flatP (putP S.L (rname S.pf (nn%4)) b))/\Below w2.heap.size w2 w'):=jq (λV hV=>by
  have hln:=HI.out.2.1;have:=put_any S.an S.nc S.L (rname S.pf (nn%4)) b V (((H0.out.nl.step hup (λk hk=>.inl hk)).lies.later hV)) (by omega);rw[HN.out.2.2.1,HN.out.2.1,<-HPD.out.2.2.2.1]at this;refine this.mono ?_;rintro e w' ⟨v,h1,h2,h3⟩;obtain⟨a,c,rfl,-⟩:=own_shape h2;exact⟨a,c,h1,own_mono h2 hV.size,hV.trans (h3.mono hV.size)⟩)
 obtain⟨nl,hnl⟩:=jl ((putP S.L (rname S.pf (nn%4)) b).length);rw[<-hnl]at HPT;have hpw:qb≠p:=λe=>by rw[e]at ha2;unfold Blk at ha2 hb2;rw[ha2]at hb2;cases hb2
 have hcw:∀V v,Below w2.heap.size w2 V->(convert 24 9 (.slice ab n bc)).run Tryz.prog (V.setCell ⟨p,8,none⟩ v)=.ok (.string sb) (V.setCell ⟨p,8,none⟩ v):=λV v hV=>by
  have hl3:Lies (V.setCell ⟨p,8,none⟩ v) ab (b.map bv):=by
   rcases HX.out.2.2 with h|⟨g,o,rfl,hg,-⟩
   ·exact .inl h
   ·refine(hl2.later hV).upon (Upon.set (P:=λk=>k=p) (Upon.refl _ _) (p:=⟨p,8,none⟩) (.inl rfl) _) (λg' hg' e=>?_);cases hg';exact absurd (show g=p from e) (Nat.ne_of_lt (Nat.lt_of_lt_of_le (Nat.lt_of_lt_of_le hg HX.out.2.1) H0.out.pB))
  have:=Full.conv_any (vc:=bc) hl3;rw[HN.out.2.1,<-HN.out.1]at this;exact this
 have HCW:=jq hcw;have HPQ:=jq hpw;clear hcw hpw;have HCV:=jq hcv;have HB2:=jq hb2;have HA2:=jq ha2;have HUP:=jq hup;have HNL:=jq hnl;have hpl:=hb2.lt;clear hcv hb2 ha2 q1 q2 q3 q4 q5 q6 q7 q8 hup hbel hl2 hnl c0 c1 c2 c3 c4 c5 c6 c7 c8 c9 r1 r2
 go_wp2_with fail
 have HEND:Hid (∀(w4:World) (a4:Option Addr) (d4:Nat),w4.ownsRow w2.heap.size 83 2 (.slice a4 nl d4) nl (flatP (putP S.L (rname S.pf (nn%4)) b))->Below w2.heap.size w2 w4->RStep B p o i S w (w4.setCell ⟨p,8,none⟩ (.slice a4 nl d4))):=jq (λw4 a4 d4 hO hB=>by
  have hb4:=HB2.out.below hB HB2.out.lt;clear hrem;have h:=H0.out;have hnl:=HNL.out;subst hnl;obtain⟨e1,e2,e3⟩:=HPD.out.2.2;subst e1 e2 e3;obtain⟨_,_,e4,_,hLn,hbn,_⟩:=own_shape hO;injection e4 with e4 _ _;subst e4;have hu1:Upon S.D w w2:=((Upon.of_below HB1.out).trans (Upon.of_below (P:=S.D) HV.out) (λk hk=>.inl hk)).trans HU.out (λk hk=>.inl hk);have hz1:=HB1.out.size;have hz2:=HV.out.size;have hz3:=HU.out.size;refine h.next (w1:=w2) (w2:=w4) HG.out (λk hk=>hk.imp id (λh1=>⟨by omega,h1.2⟩)) hu1 hB (Upon.set (P:=λk=>k=p) (Upon.refl _ _) (p:=⟨p,8,none⟩) (.inl rfl) _) (λj hj=>?_) (an':=a4) (nc':=d4) (L':=putP S.L (rname S.pf (nn%4)) b) (mh':=S.mh) (mc':=S.mc) ?_ (.inl ⟨rfl,rfl⟩) ⟨hLn,.inr (λg hg=>hbn g hg)⟩ (isRow_put h.rowN _ _) (by omega) (putP_le _ _ _) (Nat.le_succ _) (sz_set h.sz _ _ (by have:=HBL.out;omega))
  ·by_cases hx:rname S.pf j=rname S.pf (nn%4)
   ·rw[hx,setF_same];exact λe=>by cases e
   ·rw[setF_other _ hx];exact h.runs j hj
  ·have:=hb4.set 8 (.slice a4 (putP S.L (rname S.pf (nn%4)) b).length d4);rw[<-HN.out.2.2.2]at this;exact this)
 have HC:Hid (∀w',Below w2.heap.size w2 w'->w'.cell? ⟨p,3,none⟩=some (.string sp)/\w'.cell? ⟨p,4,none⟩=some (.int .i64 S.wd)/\w'.cell? ⟨p,5,none⟩=some (.int .i64 S.rm)/\w'.cell? ⟨p,6,none⟩=some (.slice S.mh hl S.mc)/\w'.cell? ⟨p,7,none⟩=some (.int .i64 S.ne)/\w'.cell? ⟨qb,1,none⟩=some (.slice ab n bc)/\w'.cell? ⟨qb,2,none⟩=some (.int .u8 (nn:Int))/\(convert 24 9 (.slice ab n bc)).run Tryz.prog w'=.ok (.string sb) w'):=jq (λV hV=>⟨by rw[(HB2.out.below hV HB2.out.lt).cell];rfl,by rw[(HB2.out.below hV HB2.out.lt).cell];rfl,by rw[(HB2.out.below hV HB2.out.lt).cell];rfl,by rw[(HB2.out.below hV HB2.out.lt).cell];rfl,by rw[(HB2.out.below hV HB2.out.lt).cell];rfl,by rw[(HA2.out.below hV HA2.out.lt).cell];rfl,by rw[(HA2.out.below hV HA2.out.lt).cell];rfl,HCV.out V hV⟩);have HC3:Hid (∀V v,Below w2.heap.size w2 V->((V.setCell ⟨p,8,none⟩ v).cell? ⟨p,3,none⟩=some (.string sp)/\(V.setCell ⟨p,8,none⟩ v).cell? ⟨p,4,none⟩=some (.int .i64 S.wd)/\(V.setCell ⟨p,8,none⟩ v).cell? ⟨p,5,none⟩=some (.int .i64 S.rm)/\(V.setCell ⟨p,8,none⟩ v).cell? ⟨p,6,none⟩=some (.slice S.mh hl S.mc)/\(V.setCell ⟨p,8,none⟩ v).cell? ⟨p,7,none⟩=some (.int .i64 S.ne)/\(V.setCell ⟨p,8,none⟩ v).cell? ⟨qb,1,none⟩=some (.slice ab n bc)/\(V.setCell ⟨p,8,none⟩ v).cell? ⟨qb,2,none⟩=some (.int .u8 (nn:Int))/\(convert 24 9 (.slice ab n bc)).run Tryz.prog (V.setCell ⟨p,8,none⟩ v)=.ok (.string sb) (V.setCell ⟨p,8,none⟩ v))):=jq (λV v hV=>⟨by rw[((HB2.out.below hV HB2.out.lt).set 8 v).cell];rfl,by rw[((HB2.out.below hV HB2.out.lt).set 8 v).cell];rfl,by rw[((HB2.out.below hV HB2.out.lt).set 8 v).cell];rfl,by rw[((HB2.out.below hV HB2.out.lt).set 8 v).cell];rfl,by rw[((HB2.out.below hV HB2.out.lt).set 8 v).cell];rfl,by rw[((HA2.out.below hV HA2.out.lt).far HPQ.out v).cell];rfl,by rw[((HA2.out.below hV HA2.out.lt).far HPQ.out v).cell];rfl,HCW.out V v hV⟩);have hS0:=HC.out w2.drew (Below.refl _ w2).drew;refine wp_region_noPanic ?_;refine wp_region_held_drew (S:=λw'=>w'.cell? ⟨p,3,none⟩=some (.string sp)/\w'.cell? ⟨p,4,none⟩=some (.int .i64 S.wd)/\w'.cell? ⟨p,5,none⟩=some (.int .i64 S.rm)/\w'.cell? ⟨p,6,none⟩=some (.slice S.mh hl S.mc)/\w'.cell? ⟨p,7,none⟩=some (.int .i64 S.ne)/\w'.cell? ⟨qb,1,none⟩=some (.slice ab n bc)/\w'.cell? ⟨qb,2,none⟩=some (.int .u8 (nn:Int))/\(convert 24 9 (.slice ab n bc)).run Tryz.prog w'=.ok (.string sb) w') (by kernel_rfl) hS0 (λhHeld=>?_);clear hS0;obtain⟨X0,hX0⟩:=jl w2.drew;have HX0:Hid (Below w2.heap.size w2 X0):=jq (by rw[hX0];exact(Below.refl _ w2).drew);rw[<-hX0]at hHeld⊢;clear hX0;refine' tk1 0 ?_;simp only[Act.put,ji,jX];simp only[jY];simp only[ju,js]
 refine' tk1 1 ?_;simp only[Act.put,ji,jX];simp only[jY];simp only[ju,js]
 refine' tk1 2 ?_;simp only[Act.put,ji,jX];simp only[jY];simp only[ju,js]
 refine' tk1 3 ?_;simp only[Act.put,ji,jX];simp only[jY,js]
 refine' tk1 5 ?_;simp only[Act.put,ji,jX];simp only[jY];simp only[ju,js]
 refine' tk1 6 ?_;simp only[Act.put,ji,jX];simp only[jY];simp only[ju,js]
 refine' tk1 7 ?_;simp only[Act.put,ji,jX];simp only[jY];simp only[ju,js]
 refine' tk1 8 ?_;simp only[Act.put,ji,jX];simp only[jY];simp only[ju,js]
 refine' tk1 9 ?_;simp only[Act.put,ji,jX];simp only[jY];simp only[ju,js]
 refine' tk1 10 ?_;simp only[Act.put,ji,jX];simp only[jY];simp only[ju,js]
 refine' tk1 11 ?_;simp only[Act.put,ji,jX];simp only[jY,js]
 refine' tk1 12 ?_;simp only[Act.put,ji,jX];simp only[jY];simp only[ju,js]
 refine' tk1 14 ?_;simp only[Act.put,ji,jX];simp only[jY];simp only[ju,js]
 refine' tk1 15 ?_;simp only[Act.put,ji,jX];simp only[jY];simp only[ju,js]
 refine' tk1 16 ?_;simp only[Act.put,ji,jX];simp only[jY];simp only[ju,js]
 refine wpAnyH_ready (rs:=[4,13]) (by kernel_rfl) (by simp) ?_;have x8:X0.cell? ⟨p,8,none⟩=some (.slice S.an pn S.nc):=by rw[(HB2.out.below HX0.out HB2.out.lt).cell];rfl
 refine AllReadyH.cons (by(simp only[jt,jb,ja];rfl)) (λK hK=>?_) (AllReadyH.cons (by(simp only[jt,jb,ja];rfl)) (λK hK=>?_) AllReadyH.nil)
 ·skip
  rw[if_pos (by rfl)]
  go_big_op
  clear hHeld;refine hK.out _ _ ?_ (λhHeld=>?_)
  ·exact HC.out _ HX0.out
  clear hK K
  try(simp only[Act.put,ji,jX];simp only[jY];simp only[ju,js])
  refine wpAnyH_ready (rs:=[13]) (by kernel_rfl) (by simp) ?_;refine AllReadyH.cons (by(simp only[jt,jb,ja];rfl)) (λK hK=>?_) AllReadyH.nil;rw[if_pos (by rfl)]
  go_big_op
  (go_at_call 21;refine(HNM.out X0).mono ?_;rintro e V3 ⟨rfl,hV⟩;have HV3:=jq (HX0.out.trans (hV.mono HX0.out.size));have hbV:=HB2.out.below HV3.out HB2.out.lt;have y8:V3.cell? ⟨p,8,none⟩=some (.slice S.an pn S.nc):=(by rw[hbV.cell];rfl);clear hV hbV;dsimp only)
  clear hHeld;refine hK.out _ _ ?_ (λhHeld=>?_)
  ·exact HC.out _ HV3.out
  clear hK K
  try(simp only[Act.put,ji,jX];simp only[jY];simp only[ju,js])
  refine wpAnyH_ready (rs:=[17]) (by kernel_rfl) (by simp) ?_;refine AllReadyH.cons (by(simp only[jt,jb,ja];rfl)) (λK hK=>?_) AllReadyH.nil;rw[if_pos (by rfl)]
  go_big_op
  (go_at_call 29;refine(HPT.out V3 HV3.out).mono ?_;rintro e w4 ⟨a4,d4,rfl,hO,hB⟩;have hb4:=HB2.out.below hB HB2.out.lt;have z8:w4.cell? ⟨p,8,none⟩=some (.slice S.an pn S.nc):=(by rw[hb4.cell];rfl);have f8:=hb4.frozen 8;have HO:=jq hO;have HB:=jq hB;clear hO hB hb4;dsimp only)
  clear hHeld;refine hK.out _ _ ?_ (λhHeld=>?_)
  ·exact HC.out _ HB.out
  clear hK K
  try(simp only[Act.put,ji,jX];simp only[jY];simp only[ju,js])
  refine' tk1 18 ?_;simp only[Act.put,ji,jX];simp only[jY];simp only[ju,js]
  refine' tk1 19 ?_;simp only[Act.put,ji,jX,js];refine wpAnyH_ready (rs:=[20]) (by kernel_rfl) (by simp) ?_;refine AllReadyH.cons (by(simp only[jt,jb,ja];rfl)) (λK hK=>?_) AllReadyH.nil;rw[if_pos (by rfl)]
  go_big_op
  clear hHeld;refine hK.out _ _ ?_ (λhHeld=>?_)
  ·exact HC3.out w4 _ HB.out
  clear hK K
  try(simp only[Act.put])
  refine wpAnyH_done (by kernel_rfl) ?_ _;refine NoPanic.normal ?_;clear hHeld
  go_wp2_with fail
  go_ret2
  exact⟨rfl,HEND.out w4 a4 d4 HO.out HB.out⟩
 ·skip
  rw[if_pos (by rfl)]
  go_big_op
  (go_at_call 21;refine(HNM.out X0).mono ?_;rintro e V3 ⟨rfl,hV⟩;have HV3:=jq (HX0.out.trans (hV.mono HX0.out.size));have hbV:=HB2.out.below HV3.out HB2.out.lt;have y8:V3.cell? ⟨p,8,none⟩=some (.slice S.an pn S.nc):=(by rw[hbV.cell];rfl);clear hV hbV;dsimp only)
  clear hHeld;refine hK.out _ _ ?_ (λhHeld=>?_)
  ·exact HC.out _ HV3.out
  clear hK K
  try(simp only[Act.put,ji,jX];simp only[jY];simp only[ju,js])
  refine wpAnyH_ready (rs:=[4]) (by kernel_rfl) (by simp) ?_;refine AllReadyH.cons (by(simp only[jt,jb,ja];rfl)) (λK hK=>?_) AllReadyH.nil;rw[if_pos (by rfl)]
  go_big_op
  clear hHeld;refine hK.out _ _ ?_ (λhHeld=>?_)
  ·exact HC.out _ HV3.out
  clear hK K
  try(simp only[Act.put,ji,jX];simp only[jY];simp only[ju,js])
  refine wpAnyH_ready (rs:=[17]) (by kernel_rfl) (by simp) ?_;refine AllReadyH.cons (by(simp only[jt,jb,ja];rfl)) (λK hK=>?_) AllReadyH.nil;rw[if_pos (by rfl)]
  go_big_op
  (go_at_call 29;refine(HPT.out V3 HV3.out).mono ?_;rintro e w4 ⟨a4,d4,rfl,hO,hB⟩;have hb4:=HB2.out.below hB HB2.out.lt;have z8:w4.cell? ⟨p,8,none⟩=some (.slice S.an pn S.nc):=(by rw[hb4.cell];rfl);have f8:=hb4.frozen 8;have HO:=jq hO;have HB:=jq hB;clear hO hB hb4;dsimp only)
  clear hHeld;refine hK.out _ _ ?_ (λhHeld=>?_)
  ·exact HC.out _ HB.out
  clear hK K
  try(simp only[Act.put,ji,jX];simp only[jY];simp only[ju,js])
  refine' tk1 18 ?_;simp only[Act.put,ji,jX];simp only[jY];simp only[ju,js]
  refine' tk1 19 ?_;simp only[Act.put,ji,jX,js];refine wpAnyH_ready (rs:=[20]) (by kernel_rfl) (by simp) ?_;refine AllReadyH.cons (by(simp only[jt,jb,ja];rfl)) (λK hK=>?_) AllReadyH.nil;rw[if_pos (by rfl)]
  go_big_op
  clear hHeld;refine hK.out _ _ ?_ (λhHeld=>?_)
  ·exact HC3.out w4 _ HB.out
  clear hK K
  try(simp only[Act.put])
  refine wpAnyH_done (by kernel_rfl) ?_ _;refine NoPanic.normal ?_;clear hHeld
  go_wp2_with fail
  go_ret2
  exact⟨rfl,HEND.out w4 a4 d4 HO.out HB.out⟩
end Runs
namespace Runs
open Go.RowKit Go.Deep Go.Shelf Mem Crc Go.Maps Merge Full RefF
open Store (Sto Files setF setF_same setF_other nv)
variable {B p i:Nat} {o:Option Obj} {w w':World} {S:RD}
attribute [local go_sem] Oper.semAt_some
theorem does_openW (h:RPlay B p o i w S) (h6:i<=60) (ab la:Option Addr) (bn bc ln lc:Nat) (nn:Int):
  Calls Tryz.prog 8 #[.pointer (some ⟨p,0,none⟩),.agg #[.int .i64 3,.slice ab bn bc,.int .u8 nn,.slice la ln lc]] w λe w'=>∃W1 w2 w3 w5 V w6 s' x' ne',Below w.heap.size w W1/\Upon S.D W1 w2/\InG (stoX B s' S.d 400 o S.H) ⟨s',S.pf,S.wd,S.rm⟩ (λk=>Mid S.D w w2 k\/(w2.heap.size<=k/\k<w3.heap.size)) w3 x' ne' S.H [] 20000/\(∀j,j<ne'->S.H (rname S.pf j)≠none)/\Below w2.heap.size w2 w3/\Upon (λk=>k=p) w3 w5/\Below w5.heap.size w5 V/\Below V.heap.size V w6/\e=.returned (.tuple #[.bool true,.bool true])/\Upon (λk=>k=p\/(w5.heap.size<=k/\k<V.heap.size)) w6 w'/\Blk w' p 44 #[.pointer (some ⟨S.d,0,none⟩),.pointer (some ⟨s',0,none⟩),.pointer (some ⟨x',0,none⟩),nv S.pf,.int .i64 S.wd,.int .i64 S.rm,.slice none 0 0,.int .i64 (ne':Int),.slice S.ah S.LH.length S.hc,.slice S.ah S.LH.length S.hc]:=by
 obtain⟨sp,hsp⟩:∃s:ByteArray,nv S.pf=.string s:=⟨_,rfl⟩;obtain⟨W1,hW1⟩:=jl (w.alloc (.cells #[.int .i64 3,.slice ab bn bc,.int .u8 nn,.slice la ln lc] 27));have hB1:Below w.heap.size w W1:=by rw[hW1];exact(Below.refl _ w).alloc jn _
 have hP1:=h.later hB1;obtain⟨c0,c1,c2,c3,c4,c5,c6,c7,c8,c9⟩:=hP1.cells hsp;obtain⟨pn,hpn⟩:=jl S.L.length;obtain⟨hn,hhn⟩:=jl S.LH.length;obtain⟨hl,hhl⟩:=jl S.held.length;have hbk:=hP1.blk;unfold RD.cells at hbk;rw[hsp,<-hpn,<-hhn,<-hhl]at hbk
 have HO:Hid (Calls Tryz.prog 16 #[.pointer (some ⟨S.d,0,none⟩)] W1 λe w'=>∃s' Q',e=.returned (.tuple #[.pointer (some ⟨s',0,none⟩),.int .i64 0])/\(stoX B s' S.d 400 o S.H).At w' Q' false S.H 20000/\(∀k,Q' k->S.D k\/W1.heap.size<=k)/\Upon S.D W1 w'):=jq (by
  obtain⟨Q,R,hv,vs,hg⟩:=hP1.live;refine(stoX_open hg.srt.sto).mono ?_;rintro e w' ⟨s',Q',rfl,h1,h2,h3⟩;exact⟨s',Q',rfl,h1,λk hk=>(h2 k hk).imp (hg.q k) id,h3.mono hg.q⟩)
 have HBK:=jq hbk;have HPD:=jq hP1.pD;have HB1:=jq hB1;have H0:=jq h;have HSP:=jq hsp;have HPN:=jq hpn;have HHN:=jq hhn;have HHL:=jq hhl;clear hP1 h hB1 hbk hsp hpn hhn hhl c1 c2 c3 c4 c5 c6 c7 c8 c9;subst hW1
 go_enter Tryz.func8,Tryz.ntmps8
 go_wp2_with fail
 refine HO.out.mono ?_;rintro e w2 ⟨s',Q',rfl,hs,hq,hu2⟩;have hb2:=HBK.out.upon hu2 HPD.out;have q3:w2.cell? ⟨p,3,none⟩=some (.string sp):=by rw[hb2.cell];rfl
 have q4:w2.cell? ⟨p,4,none⟩=some (.int .i64 S.wd):=by rw[hb2.cell];rfl
 have q5:w2.cell? ⟨p,5,none⟩=some (.int .i64 S.rm):=by rw[hb2.cell];rfl
 have HN:Hid (∀V:World,Below w2.heap.size w2 V->Calls Tryz.prog 6 #[.pointer (some ⟨s',0,none⟩),.string sp,.int .i64 S.wd,.int .i64 S.rm] V λe w3=>∃x ne,e=.returned (.tuple #[.pointer (some ⟨x,0,none⟩),.int .i64 0])/\Hid (InG (stoX B s' S.d 400 o S.H) ⟨s',S.pf,S.wd,S.rm⟩ (λk=>Mid S.D w w2 k\/(w2.heap.size<=k/\k<w3.heap.size)) w3 x ne S.H [] 20000)/\Hid ((∀j,j<ne->S.H (rname S.pf j)≠none)/\S.H (rname S.pf ne)=none)/\Hid (Below w2.heap.size w2 w3)/\Hid (Blk w3 p 44 #[.pointer (some ⟨S.d,0,none⟩),.pointer (some ⟨S.s,0,none⟩),.pointer (some ⟨S.x,0,none⟩),.string sp,.int .i64 S.wd,.int .i64 S.rm,.slice S.mh hl S.mc,.int .i64 S.ne,.slice S.an pn S.nc,.slice S.ah hn S.hc])):=jq (λV hV=>by
  obtain⟨-,hok,-,-,-⟩:=H0.out.live.room;have h1s:=HB1.out.size
  have hlt:∀k,S.D k->k<w.heap.size:=λk hk=>by
   obtain⟨Q,R,hv,vs,hg⟩:=H0.out.live;exact hg.lt k hk
  have hs2:=(stoX B s' S.d 400 o S.H).upon hs (Upon.of_below (P:=λ_=>False) hV) (λk hp _=>hp);have:=g_new (stoX B s' S.d 400 o S.H) ⟨s',S.pf,S.wd,S.rm⟩ rfl hok hs2 (Mid S.D w w2) (λk hk=>(hq k hk).imp id (λh1=>⟨Nat.le_trans h1s h1,(stoX B s' S.d 400 o S.H).lt hs k hk⟩)) (λk hk=>Nat.lt_of_lt_of_le (hk.elim (λh1=>Nat.lt_of_lt_of_le (hlt k h1) (Nat.le_trans h1s hu2.size)) (λh1=>h1.2)) hV.size);dsimp only at this;rw[HSP.out]at this;refine this.mono ?_;rintro e w3 ⟨x,ne,rfl,h1,h2,h3,h4⟩;refine⟨x,ne,rfl,jq ?_,jq ⟨h2,h3⟩,jq (hV.trans (h4.mono hV.size)),jq ((hb2.below hV hb2.lt).below h4 (Nat.lt_of_lt_of_le hb2.lt hV.size))⟩;obtain⟨Q,R,hv,vs,hg⟩:=h1;have hw:∀k,Mid (Mid S.D w w2) V w3 k->Mid S.D w w2 k\/(w2.heap.size<=k/\k<w3.heap.size):=λk hk=>hk.imp id (λh5=>⟨Nat.le_trans hV.size h5.1,h5.2⟩)
  exact⟨Q,R,hv,vs,hg.srt,λk hk=>hw k (hg.q k hk),λk hk=>hw k (hg.r k hk),hw x hg.x,λk hk=>hw k (hg.h k hk),λk hk=>hk.elim (λh5=>hg.lt k (.inl h5)) (λh5=>h5.2)⟩)
 have HU2:=jq hu2;have HS:=jq hs;have HQ:=jq hq;have HB2:=jq hb2;clear hu2 hs hq hb2
 go_wp2_with fail
 go_region_held3 (λw'=>w'.cell? ⟨p,3,none⟩=some (.string sp)/\w'.cell? ⟨p,4,none⟩=some (.int .i64 S.wd)/\w'.cell? ⟨p,5,none⟩=some (.int .i64 S.rm)) (first|exact⟨q3,q4,q5⟩|exact hk3) ((go_at_call 6;refine(HN.out _ ((Below.refl _ _).drew)).mono ?_;rintro e w3 ⟨x',ne',rfl,HG,HR,HB3,HB4⟩;have hk3:w3.cell? ⟨p,3,none⟩=some (.string sp)/\w3.cell? ⟨p,4,none⟩=some (.int .i64 S.wd)/\w3.cell? ⟨p,5,none⟩=some (.int .i64 S.rm):=⟨by rw[HB4.out.cell];rfl,by rw[HB4.out.cell];rfl,by rw[HB4.out.cell];rfl⟩;dsimp only))
 rename_i hHeld
 clear hHeld hk3;have e1:w3.cell? ⟨p,1,none⟩=some (.pointer (some ⟨S.s,0,none⟩)):=by rw[HB4.out.cell];rfl
 have e2:w3.cell? ⟨p,2,none⟩=some (.pointer (some ⟨S.x,0,none⟩)):=by rw[HB4.out.cell];rfl
 have e8:w3.cell? ⟨p,8,none⟩=some (.slice S.an pn S.nc):=by rw[HB4.out.cell];rfl
 have e9:w3.cell? ⟨p,9,none⟩=some (.slice S.ah hn S.hc):=by rw[HB4.out.cell];rfl
 have g1:=HB4.out.frozen 1;have g2:=HB4.out.frozen 2;have g8:=HB4.out.frozen 8
 go_wp2_with fail
 generalize hW5: ((w3.setCell ⟨p,1,none⟩ (.pointer (some ⟨s',0,none⟩))).setCell ⟨p,2,none⟩ (.pointer (some ⟨x',0,none⟩))).setCell ⟨p,8,none⟩ (.slice S.ah hn S.hc)=w5;have hb5:Blk w5 p 44 #[.pointer (some ⟨S.d,0,none⟩),.pointer (some ⟨s',0,none⟩),.pointer (some ⟨x',0,none⟩),.string sp,.int .i64 S.wd,.int .i64 S.rm,.slice S.mh hl S.mc,.int .i64 S.ne,.slice S.ah hn S.hc,.slice S.ah hn S.hc]:=by rw[<-hW5];exact((HB4.out.set 1 _).set 2 _).set 8 _
 have hu5:Upon (λk=>k=p) w3 w5:=by rw[<-hW5];exact Upon.set (P:=λk=>k=p) (p:=⟨p,8,none⟩) (Upon.set (P:=λk=>k=p) (p:=⟨p,2,none⟩) (Upon.set (P:=λk=>k=p) (p:=⟨p,1,none⟩) (Upon.refl _ _) (.inl rfl) _) (.inl rfl) _) (.inl rfl) _
 clear hW5 e1 e2 e8 e9 g1 g2 g8
 have HM:Hid (∀V:World,Below w5.heap.size w5 V->Calls Tryz.prog 7 #[.slice S.ah hn S.hc,.string sp,.int .i64 S.wd,.int .i64 S.rm] V λe w'=>e=.returned (.tuple #[.agg #[.string sp,.int .i64 S.wd,.int .i64 S.rm,.slice none 0 0,.int .i64 (ne':Int)],.int .i64 0])/\Hid (Below w5.heap.size w5 V)/\Hid (Below V.heap.size V w')/\Hid (Blk w' p 44 #[.pointer (some ⟨S.d,0,none⟩),.pointer (some ⟨s',0,none⟩),.pointer (some ⟨x',0,none⟩),.string sp,.int .i64 S.wd,.int .i64 S.rm,.slice S.mh hl S.mc,.int .i64 S.ne,.slice S.ah hn S.hc,.slice S.ah hn S.hc])):=jq (λV hV=>by
  obtain⟨-,hok,-,-,-⟩:=H0.out.live.room;obtain⟨-,-,-,hnl,-⟩:=HG.out.room;have hlh:=H0.out.lhi;have hu0:Upon (λk=>S.D k\/k=p) w w5:=((((Upon.of_below HB1.out).trans (HU2.out.mono (λk hk=>(Or.inl hk:S.D k\/k=p))) (λk hk=>.inl hk)).trans (Upon.of_below (P:=λk=>S.D k\/k=p) HB3.out) (λk hk=>.inl hk))).trans (hu5.mono (λk hk=>(Or.inr hk:S.D k\/k=p))) (λk hk=>.inl hk);have:=refNew_good S.A hok S.LH S.H S.ah S.hc ne' V H0.out.rowH HR.out.1 HR.out.2 (runs_few H0.out.rowH HR.out.1 (Nat.lt_of_le_of_lt hnl (by decide))) ((H0.out.hl.step hu0 (λk hk=>.inl hk)).lies.later hV) (by omega);unfold sV RD.A at this;dsimp only at this;rw[HSP.out,<-HHN.out]at this;refine this.mono ?_;rintro e w' ⟨rfl,h1⟩;exact⟨rfl,jq hV,jq h1,jq ((hb5.below hV hb5.lt).below h1 (Nat.lt_of_lt_of_le hb5.lt hV.size))⟩)
 have HC:Hid (∀w',Below w5.heap.size w5 w'->w'.cell? ⟨p,8,none⟩=some (.slice S.ah hn S.hc)/\w'.cell? ⟨p,3,none⟩=some (.string sp)/\w'.cell? ⟨p,4,none⟩=some (.int .i64 S.wd)/\w'.cell? ⟨p,5,none⟩=some (.int .i64 S.rm)):=jq (λV hV=>⟨by rw[(hb5.below hV hb5.lt).cell];rfl,by rw[(hb5.below hV hb5.lt).cell];rfl,by rw[(hb5.below hV hb5.lt).cell];rfl,by rw[(hb5.below hV hb5.lt).cell];rfl⟩);have HU5:=jq hu5;have HB5:=jq hb5;clear hu5 hb5
 go_cut[20,21] (λs20 s21 wx=>∃(rb:Nat) (V w7:World),s20=.pointer (some ⟨rb,0,none⟩)/\s21=.int .i64 0/\Hid (Past w5 V w7 wx rb)/\Hid (Blk wx rb 38 #[.string sp,.int .i64 S.wd,.int .i64 S.rm,.slice none 0 0,.int .i64 (ne':Int)]))
 case first=>
  have hS0:=HC.out w5.drew (Below.refl _ w5).drew;refine wp_region_noPanic ?_;refine wp_region_held_drew (S:=λw'=>w'.cell? ⟨p,8,none⟩=some (.slice S.ah hn S.hc)/\w'.cell? ⟨p,3,none⟩=some (.string sp)/\w'.cell? ⟨p,4,none⟩=some (.int .i64 S.wd)/\w'.cell? ⟨p,5,none⟩=some (.int .i64 S.rm)) (by kernel_rfl) hS0 (λhHeld=>?_);clear hS0;obtain⟨X0,hX0⟩:=jl w5.drew;have HX0:Hid (Below w5.heap.size w5 X0):=jq (by rw[hX0];exact(Below.refl _ w5).drew);rw[<-hX0]at hHeld⊢;clear hX0;refine' tk1 0 ?_;simp only[Act.put,ji,jX];simp only[jY];simp only[ju,js]
  refine' tk1 1 ?_;simp only[Act.put,ji,jX];simp only[jY];simp only[ju,js]
  refine' tk1 2 ?_;simp only[Act.put,ji,jX];simp only[jY,js]
  refine' tk1 3 ?_;simp only[Act.put,ji,jX];simp only[jY];simp only[ju,js]
  refine' tk1 4 ?_;simp only[Act.put,ji,jX];simp only[jY];simp only[ju,js]
  refine' tk1 5 ?_;simp only[Act.put,ji,jX];simp only[jY];simp only[ju,js]
  refine' tk1 6 ?_;simp only[Act.put,ji,jX];simp only[jY];simp only[ju,js]
  refine' tk1 7 ?_;simp only[Act.put,ji,jX];simp only[jY];simp only[ju,js]
  refine' tk1 8 ?_;simp only[Act.put,ji,jX];simp only[jY];simp only[ju,js]
  refine' tk1 9 ?_;simp only[Act.put,ji,jX];simp only[jY];simp only[ju,js]
  refine' tk1 10 ?_;simp only[Act.put,ji,jX,js];refine' tk1 11 ?_;simp only[Act.put,ji,jX];simp only[ju,js]
  refine' tk1 12 ?_;simp only[Act.put,ji,jX];simp only[ju,js]
  refine' tk1 13 ?_;simp only[Act.put,ji,jX];simp only[ju,js]
  refine' tk1 14 ?_;simp only[Act.put,ji,jX];simp only[ju,js]
  refine' tk1 15 ?_;simp only[Act.put,ji,jX];simp only[ju,js]
  refine' tk1 16 ?_;simp only[Act.put,ji,jX];simp only[ju,js]
  refine' tk1 17 ?_;simp only[Act.put,ji,jX];simp only[ju,js]
  refine' tk1 18 ?_;simp only[Act.put,ji,jX];simp only[jY,js]
  refine wpAnyH_ready (rs:=[19,23]) (by kernel_rfl) (by simp) ?_;refine AllReadyH.cons (by(simp only[jt,jb,ja];rfl)) (λK hK=>?_) (AllReadyH.cons (by(simp only[jt,jb,ja];rfl)) (λK hK=>?_) AllReadyH.nil)
  ·skip
   go_simp
   (go_at_call 7;refine(HM.out X0 HX0.out).mono ?_;rintro e w7 ⟨rfl,HV,HB7,HBK7⟩)
   have HW7:Hid (Below w5.heap.size w5 w7):=jq (HX0.out.trans (HB7.out.mono HX0.out.size));dsimp only;refine hK.out _ _ ?_ (λhHeld=>?_)
   ·exact HC.out _ HW7.out
   clear hK K
   try(simp only[Act.put,ji,jX];simp only[jY];simp only[ju,js])
   refine' tk1 20 ?_;simp only[Act.put,ji,jX];simp only[jY];simp only[ju,js]
   refine' tk1 21 ?_;simp only[Act.put,ji,jX];simp only[jY];simp only[ju,js]
   refine' tk1 22 ?_;simp only[Act.put,ji,jX];simp only[jY];simp only[ju,js]
   refine wpAnyH_ready (rs:=[23]) (by kernel_rfl) (by simp) ?_;refine AllReadyH.cons (by(simp only[jt,jb,ja];rfl)) (λK hK=>?_) AllReadyH.nil;go_simp;refine hK.out _ _ ?_ (λhHeld=>?_)
   ·exact HC.out _ (HW7.out.alloc HW7.out.size _)
   clear hK K
   try(simp only[Act.put,ji];simp only[jY];simp only[ju,js])
   obtain⟨V2,hV2⟩:=jl (w7.alloc (.cells #[.string ⟨#[]⟩,.int .i64 0,.int .i64 0,.slice none 0 0,.int .i64 0] 38));obtain⟨rb,hrb⟩:=jl w7.heap.size;have HBX:Hid (Blk V2 rb 38 #[.string ⟨#[]⟩,.int .i64 0,.int .i64 0,.slice none 0 0,.int .i64 0]):=jq (by rw[hV2,hrb];exact Blk.new _ _ _);have HV2:Hid (V2=w7.alloc (.cells #[.string ⟨#[]⟩,.int .i64 0,.int .i64 0,.slice none 0 0,.int .i64 0] 38)/\rb=w7.heap.size/\Below w5.heap.size w5 V2):=jq ⟨hV2,hrb,by rw[hV2];exact HW7.out.alloc HW7.out.size _⟩;rw[<-hV2]at hHeld⊢;rw[<-hrb];clear hV2 hrb;have HRB:Hid (w5.heap.size<=rb):=jq (by rw[HV2.out.2.1];exact HW7.out.size);have HL2:Hid (Below w5.heap.size w5 V2):=jq HV2.out.2.2;refine wpAnyH_ready (rs:=[24]) (by kernel_rfl) (by simp) ?_;refine AllReadyH.cons (by(simp only[jt,jb,ja];rfl)) (λK hK=>?_) AllReadyH.nil;have hbx:=HBX.out;obtain⟨⟨r0,r1,r2,r3,r4⟩,s0,s1,s2,s3,s4⟩:=five_facts hbx;obtain⟨hbs,hus⟩:=box_set hbx (.string sp) (.int .i64 S.wd) (.int .i64 S.rm) (.slice none 0 0) (.int .i64 (ne':Int));have HBS:=jq hbs;have hbl:=HL2.out.trans (hus.below HL2.out.size (λk e=>by rw[e];exact HRB.out));have HBL:=jq hbl;clear hbx hbs hus hbl;go_simp;refine hK.out _ _ ?_ (λhHeld=>?_)
   ·exact HC.out _ HBL.out
   clear hK K r0 r1 r2 r3 r4 s0 s1 s2 s3 s4
   try(simp only[Act.put])
   refine' tk1 25 ?_;simp only[Act.put,ji];simp only[jY];simp only[ju,js]
   refine wpAnyH_done (by kernel_rfl) ?_ _;refine NoPanic.normal ?_;clear hHeld
   go_wp2_with fail
   go_meet
   exact⟨rb,X0,w7,rfl,rfl,jq (by rw[HV2.out.1,HV2.out.2.1];exact past_late HX0.out HB7.out _ _ _ _ _ _),HBS⟩
  ·skip
   go_simp;refine hK.out _ _ ?_ (λhHeld=>?_)
   ·exact HC.out _ (HX0.out.alloc HX0.out.size _)
   clear hK K
   try(simp only[Act.put,ji];simp only[jY];simp only[ju,js])
   obtain⟨V2,hV2⟩:=jl (X0.alloc (.cells #[.string ⟨#[]⟩,.int .i64 0,.int .i64 0,.slice none 0 0,.int .i64 0] 38));obtain⟨rb,hrb⟩:=jl X0.heap.size;have HBX:Hid (Blk V2 rb 38 #[.string ⟨#[]⟩,.int .i64 0,.int .i64 0,.slice none 0 0,.int .i64 0]):=jq (by rw[hV2,hrb];exact Blk.new _ _ _);have HV2:Hid (V2=X0.alloc (.cells #[.string ⟨#[]⟩,.int .i64 0,.int .i64 0,.slice none 0 0,.int .i64 0] 38)/\rb=X0.heap.size/\Below w5.heap.size w5 V2):=jq ⟨hV2,hrb,by rw[hV2];exact HX0.out.alloc HX0.out.size _⟩;rw[<-hV2]at hHeld⊢;rw[<-hrb];clear hV2 hrb;have HRB:Hid (w5.heap.size<=rb):=jq (by rw[HV2.out.2.1];exact HX0.out.size);have HL2:Hid (Below w5.heap.size w5 V2):=jq HV2.out.2.2;refine wpAnyH_ready (rs:=[19]) (by kernel_rfl) (by simp) ?_;refine AllReadyH.cons (by(simp only[jt,jb,ja];rfl)) (λK hK=>?_) AllReadyH.nil;go_simp
   (go_at_call 7;refine(HM.out V2 HL2.out).mono ?_;rintro e w7 ⟨rfl,HV,HB7,HBK7⟩)
   have HW7:Hid (Below w5.heap.size w5 w7):=jq (HL2.out.trans (HB7.out.mono HL2.out.size));dsimp only;refine hK.out _ _ ?_ (λhHeld=>?_)
   ·exact HC.out _ HW7.out
   clear hK K
   try(simp only[Act.put,ji,jX];simp only[jY];simp only[ju,js])
   refine' tk1 20 ?_;simp only[Act.put,ji,jX];simp only[jY];simp only[ju,js]
   refine' tk1 21 ?_;simp only[Act.put,ji,jX];simp only[jY];simp only[ju,js]
   refine' tk1 22 ?_;simp only[Act.put,ji,jX];simp only[jY];simp only[ju,js]
   refine wpAnyH_ready (rs:=[24]) (by kernel_rfl) (by simp) ?_;refine AllReadyH.cons (by(simp only[jt,jb,ja];rfl)) (λK hK=>?_) AllReadyH.nil;have hbx:=HBX.out.below HB7.out HBX.out.lt;obtain⟨⟨r0,r1,r2,r3,r4⟩,s0,s1,s2,s3,s4⟩:=five_facts hbx;obtain⟨hbs,hus⟩:=box_set hbx (.string sp) (.int .i64 S.wd) (.int .i64 S.rm) (.slice none 0 0) (.int .i64 (ne':Int));have HBS:=jq hbs;have hbl:=HW7.out.trans (hus.below HW7.out.size (λk e=>by rw[e];exact HRB.out));have HBL:=jq hbl;clear hbx hbs hus hbl;go_simp;refine hK.out _ _ ?_ (λhHeld=>?_)
   ·exact HC.out _ HBL.out
   clear hK K r0 r1 r2 r3 r4 s0 s1 s2 s3 s4
   try(simp only[Act.put])
   refine' tk1 25 ?_;simp only[Act.put,ji];simp only[jY];simp only[ju,js]
   refine wpAnyH_done (by kernel_rfl) ?_ _;refine NoPanic.normal ?_;clear hHeld
   go_wp2_with fail
   go_meet
   exact⟨rb,V2,w7,rfl,rfl,jq (past_early HL2.out HB7.out HRB.out HBX.out.lt _ _ _ _ _),HBS⟩
 case rest=>
  obtain⟨rb,V,w7,rfl,rfl,HPA,HBX⟩:=hcut;have hbp:=HB5.out.below HPA.out.below HB5.out.lt;have g3:=hbp.frozen 3;have g4:=hbp.frozen 4;have g5:=hbp.frozen 5;have g6:=hbp.frozen 6;have g7:=hbp.frozen 7;have e3:=hbp.cell 3;have e4:=hbp.cell 4;have e5:=hbp.cell 5;have e6:=hbp.cell 6;have e7:=hbp.cell 7;obtain⟨-,s0,s1,s2,s3,s4⟩:=five_facts HBX.out;simp only[jt,ja,jb]at e3 e4 e5 e6 e7;have HE:=jq (end_p5 hbp (.string sp) (.int .i64 S.wd) (.int .i64 S.rm) (.slice none 0 0) (.int .i64 (ne':Int)));clear hbp
  go_wp2_with fail
  all_goals go_ret2
  all_goals(have ee1:=HHN.out;subst ee1)
  all_goals refine⟨_,w2,w3,w5,V,w7,s',x',ne',HB1.out,HU2.out,HG.out,HR.out.1,HB3.out,HU5.out,HPA.out.call,HPA.out.ran,rfl,(HPA.out.box.mono (λk hk=>Or.inr hk)).trans (HE.out.1.mono (λk hk=>Or.inl hk)) (λk hk=>.inl hk),?_⟩
  all_goals rw[HSP.out]
  all_goals exact HE.out.2
end Runs
namespace Runs
open Go.RowKit Go.Deep Go.Shelf Mem Crc Go.Maps Merge Full RefF
open Store (Sto Files setF setF_same setF_other nv)
variable {B p i:Nat} {o:Option Obj} {w w0 w':World} {S:RD}
theorem lies_old {a:Option Addr} {b:List UInt8} (h0:Below w0.heap.size w0 w) (hL:Lies w0 a (b.map bv)):b= []\/∀g,Mem.blk a=some g->g<w.heap.size:=by
 have hz:=h0.size;rcases hL with h|⟨g,o,rfl,hg,-⟩
 ·exact .inl (by simpa using h)
 ·refine .inr (λg' hg'=>?_);cases hg';exact Nat.lt_of_lt_of_le hg hz
theorem does_put (h:RPlay B p o i w S) (h6:i<=60) (h0:Below w0.heap.size w0 w) (hB0:w0.heap.size<=B) {ab:Option Addr} {b:List UInt8} {bc:Nat} (hL:Lies w0 ab (b.map bv)) (hbl:b.length<=300) (la:Option Addr) (ln lc:Nat) (nn:Int):
  Calls Tryz.prog 8 #[.pointer (some ⟨p,0,none⟩),.agg #[.int .i64 0,.slice ab b.length bc,.int .u8 nn,.slice la ln lc]] w λe w'=>e=.returned (.tuple #[.bool true,.bool true])/\RStep B p o i S w w':=by
 have hfew:=h.few;have hni:=h.ni;have hli:=h.li;have hhi:=h.hi;obtain⟨hr,hok,hw,-,-⟩:=h.live.room;have hLw:=lies_old h0 hL;have hLW:=hL.later h0;have hkp:∀{W1 w2:World} {s' x' ne' n':Nat} {H' F':Files} {A':Fi} {D':Nat->Prop} {held':List (List UInt8)},Below w.heap.size w W1->Upon S.D W1 w2->InG (stoX B s' S.d 400 o H') A' D' w2 x' ne' F' held' n'->Lies w2 ab (b.map bv):=λhB hu hl=>hL.later (h0.trans ((h.up hl ((Upon.of_below hB).trans (hu.mono (λk hk=>Or.inl hk)) (λk hk=>.inl hk))).mono hB0))
 by_cases hb:b.length=S.wd
 ·by_cases hroom:S.held.length<S.rm
  ·refine(does_putW h (RF:=λz W1 w2=>z=0/\InG (stoX B S.s S.d 400 o S.H) S.A (Mid S.D W1 w2) w2 S.x S.ne S.F (S.held++ [b]) S.n) (RR:=λz V r w3=>r.n=(S.held++ [b]).length/\r.ne=S.ne/\r.an=S.an/\r.ln=S.L.length/\r.nc=S.nc/\OwnS w3 V.heap.size (.slice r.ma (S.held++ [b]).length r.c) (S.held++ [b])) hLW (λW1 w2 hB hu z hf=>hkp hB hu hf.2) hLw hbl la ln lc nn ?_ ?_).mono ?_
   ·intro W1 a c hB hLa hfr;refine(g_put (h.later hB).live hroom hb a c hLa).mono ?_;rintro e w2 ⟨rfl,h1,h2⟩;exact⟨0,rfl,h2,rfl,h1⟩
   ·rintro z W1 w2 wr V hB hu ⟨rfl,hf⟩ hu2 hV;have hu3:Upon (λk=>S.D k\/k=p) w wr:=((Upon.of_below hB).trans (hu.mono (λk hk=>(Or.inl hk:S.D k\/k=p))) (λk hk=>.inl hk)).trans hu2 (λk hk=>.inr hk.1);refine(refPut_room S.A S.held b S.mh S.an S.mc S.L.length S.nc S.ne V hb (by show S.held.length≠S.rm;omega) (by omega) ((h.ml.step hu3 (λk hk=>.inl hk)).lies.later hV)).mono ?_;rintro e w' ⟨ma,mc',rfl,h1,h2⟩;exact⟨⟨ma,_,mc',S.ne,S.an,_,S.nc⟩,rfl,h2,rfl,rfl,rfl,rfl,rfl,h1⟩
   ·rintro e w' ⟨z,W1,w2,wr,V,r,w3,hB1,hu2,⟨rfl,hl⟩,huX,hV,hB3,⟨r1,r2,r3,r4,r5,r6⟩,rfl,hu,hbk⟩;obtain⟨ma,rn,rc,rne,ran,rln,rnc⟩:=r;dsimp only at r1 r2 r3 r4 r5 r6 hbk;subst r1 r2 r3 r4 r5;have hz1:=hB1.size;have hz2:=hu2.size;have hz3:=huX.size
    have hDlt:∀k,S.D k->k<w.heap.size:=λk hk=>by
     obtain⟨Q,R,hv,vs,hg⟩:=h.live;exact hg.lt k hk
    have hl2:=hl.keep huX (λk hk hx=>hk.elim (λh1=>by have:=hDlt k h1;omega) (λh1=>by omega));have hB23:Below wr.heap.size wr w3:=hV.trans (hB3.mono hV.size);have hu4:Upon (λk=>S.D k\/k=p) w wr:=((Upon.of_below hB1).trans (hu2.mono (λk hk=>(Or.inl hk:S.D k\/k=p))) (λk hk=>.inl hk)).trans huX (λk hk=>.inr hk.1);exact⟨rfl,h.next2 (c:=V.heap.size) (L':=S.L) (an':=S.an) (nc':=S.nc) hl2 (λk hk=>hk.imp id (λh1=>⟨by omega,by omega⟩)) (((Upon.of_below hB1).trans hu2 (λk hk=>.inl hk)).trans huX (λk hk=>.inr hk.1)) hB23 hV.size hu h.runs hbk (.inr r6) ⟨(h.nl.step hu4 (λk hk=>.inl hk)).lies.later hB23,.inl ⟨rfl,rfl⟩⟩ h.rowN (by omega) (by omega) (by simp) h.sz⟩
  ·have hrm:S.held.length=S.rm:=Nat.le_antisymm hr (Nat.not_lt.1 hroom)
   have h00:S.held≠[]:=λe=>by
    have:=hok.2.2.2.2.1;rw[e]at hrm;simp only[List.length_nil]at hrm;have:S.A.rm=S.rm:=rfl
    omega
   refine(does_putW h (RF:=λz W1 w2=>z=0/\InG (stoX B S.s S.d 400 o S.H) S.A (Mid S.D W1 w2) w2 S.x (S.ne+1) (setF S.F (rname S.A.pf S.ne) (some (runB S.held))) [b] (S.n+1)) (RR:=λz V r w3=>r.n=1/\r.ne=S.ne+1/\r.ln=(putP S.L (rname S.A.pf S.ne) (runB S.held)).length/\OwnS w3 V.heap.size (.slice r.ma 1 r.c) [b]/\w3.ownsRow V.heap.size 83 2 (.slice r.an r.ln r.nc) r.ln (flatP (putP S.L (rname S.A.pf S.ne) (runB S.held)))) hLW (λW1 w2 hB hu z hf=>hkp hB hu hf.2) hLw hbl la ln lc nn ?_ ?_).mono ?_
   ·intro W1 a c hB hLa hfr;refine(g_putFull (h.later hB).live hrm (by omega) (by omega) hb a c hLa (λg hg hD=>?_)).mono ?_
    ·obtain⟨Q,R,hv,vs,hg2⟩:=h.live;have:=hg2.lt g hD;have:=hfr g hg
     omega
    ·rintro e w2 ⟨rfl,h1,h2⟩;exact⟨0,rfl,h2,rfl,h1⟩
   ·rintro z W1 w2 wr V hB hu ⟨rfl,hf⟩ hu2 hV;have hu3:Upon (λk=>S.D k\/k=p) w wr:=((Upon.of_below hB).trans (hu.mono (λk hk=>(Or.inl hk:S.D k\/k=p))) (λk hk=>.inl hk)).trans hu2 (λk hk=>.inr hk.1);refine(refPut_full S.A hok S.held b S.L S.mh S.an S.mc S.nc S.ne V hb hw hrm (by omega) ((h.ml.step hu3 (λk hk=>.inl hk)).lies.later hV) ((h.nl.step hu3 (λk hk=>.inl hk)).lies.later hV) (by omega)).mono ?_;rintro e w' ⟨ma,mc',an',nc',rfl,h1,h2,h3⟩;exact⟨⟨ma,1,mc',S.ne+1,an',_,nc'⟩,rfl,h3,rfl,rfl,rfl,h1,h2⟩
   ·rintro e w' ⟨z,W1,w2,wr,V,r,w3,hB1,hu2,⟨rfl,hl⟩,huX,hV,hB3,⟨r1,r2,r3,r4,r5⟩,rfl,hu,hbk⟩;obtain⟨ma,rn,rc,rne,ran,rln,rnc⟩:=r;dsimp only at r1 r2 r3 r4 r5 hbk;subst r1 r2 r3;have hz1:=hB1.size;have hz2:=hu2.size;have hz3:=huX.size
    have hDlt:∀k,S.D k->k<w.heap.size:=λk hk=>by
     obtain⟨Q,R,hv,vs,hg⟩:=h.live;exact hg.lt k hk
    obtain⟨_,_,e1,_,hLn,hbn,_⟩:=own_shape r5;injection e1 with e1 _ _;subst e1;have hl2:=hl.keep huX (λk hk hx=>hk.elim (λh1=>by have:=hDlt k h1;omega) (λh1=>by omega));have hB23:Below wr.heap.size wr w3:=hV.trans (hB3.mono hV.size);refine⟨rfl,h.next2 (c:=V.heap.size) hl2 (λk hk=>hk.imp id (λh1=>⟨by omega,by omega⟩)) (((Upon.of_below hB1).trans hu2 (λk hk=>.inl hk)).trans huX (λk hk=>.inr hk.1)) hB23 hV.size hu (λj hj=>?_) hbk (.inr r4) ⟨hLn,.inr (λg hg=>hbn g hg)⟩ (isRow_put h.rowN _ _) (by omega) (putP_le _ _ _) (by simp) (sz_set h.sz _ _ ?_)⟩
    ·by_cases hx:rname S.pf j=rname S.A.pf S.ne
     ·rw[hx,setF_same];exact λe=>by cases e
     ·rw[setF_other _ hx];refine h.runs j ?_;have:j≠S.ne:=λe=>hx (by rw[e];rfl)
      omega
    ·rw[runB_len hw];obtain⟨k1,k2,k3,k4,k5,k6⟩:=hok;have:S.held.length*S.A.wd<=60*64:=Nat.mul_le_mul (by omega) k4
     omega
 ·refine(does_putW h (RF:=λz W1 w2=>z=3/\w2=W1) (RR:=λz V r w3=>r=⟨S.mh,S.held.length,S.mc,S.ne,S.an,S.L.length,S.nc⟩) hLW (λW1 w2 hB hu z hf=>by rw[hf.2];exact hLW.later hB) hLw hbl la ln lc nn ?_ ?_).mono ?_
  ·intro W1 a c hB hLa hfr;refine(g_putForm (h.later hB).live hb a c).mono ?_;rintro e w2 ⟨rfl,rfl⟩;exact⟨3,rfl,Upon.refl _ _,rfl,rfl⟩
  ·rintro z W1 w2 wr V hB hu ⟨rfl,hf⟩ hu2 hV;refine(refPut_form S.A b S.mh S.an S.held.length S.mc S.L.length S.nc S.ne V hb).mono ?_;rintro e w' ⟨rfl,h2⟩;exact⟨_,rfl,h2,rfl⟩
  ·rintro e w' ⟨z,W1,w2,wr,V,r,w3,hB1,hu2,⟨rfl,rfl⟩,huX,hV,hB3,rfl,rfl,hu,hbk⟩;have hz1:=hB1.size;have hz3:=huX.size;have hB23:Below wr.heap.size wr w3:=hV.trans (hB3.mono hV.size);have hBr:Below w.heap.size w wr:=hB1.trans (huX.below hz1 (λk hk=>hk.1));exact⟨rfl,h.next2 (c:=V.heap.size) (h.later hBr).live (λk hk=>.inl hk) (Upon.of_below hBr) hB23 hV.size hu h.runs hbk (.inl ⟨rfl,rfl⟩) ⟨(h.nl.lies.later hBr).later hB23,.inl ⟨rfl,rfl⟩⟩ h.rowN (by omega) (by omega) (by omega) h.sz⟩
theorem isRow_rew {L:List FF} {F:Files} (h:IsRow L F) (A:Fi) (ne:Nat) (l:List (List UInt8)):IsRow (rewP L A ne l) (RewF F A ne l):=by
 unfold rewP RewF
 by_cases hl:l= []
 ·rw[if_pos hl,if_pos hl];exact isRow_rm h A.pf ne
 ·rw[if_neg hl,if_neg hl];exact isRow_put (isRow_rm h A.pf ne) _ _
theorem rewP_le (L:List FF) (A:Fi) (ne:Nat) (l:List (List UInt8)): (rewP L A ne l).length<=L.length+1:=by
 unfold rewP
 split
 ·exact Nat.le_succ_of_le (rmP_len _ _ _)
 ·exact Nat.le_trans (putP_le _ _ _) (Nat.succ_le_succ (rmP_len _ _ _))
theorem flat_le {m:Nat} {l:List (List UInt8)} (h:∀b∈l,b.length<=m):l.flatten.length<=l.length*m:=by
 induction l with
 |nil=>simp
 |cons x r ih=>
  rw[List.flatten_cons,jL,List.length_cons,Nat.succ_mul];have:=h x (by simp);have:=ih (λb hb=>h b (by simp[hb]))
  omega
theorem does_rewrite (h:RPlay B p o i w S) (h6:i<=60) (h0:Below w0.heap.size w0 w) (hB0:w0.heap.size<=B) {la:Option Addr} {lc:Nat} {vs:List SL} {l:List (List UInt8)} (hL:Lies w0 la (vs.map sl)) (hR:RecsIn w0 (vs.map sl) l) (hc:vs.length<=lc) (hn:l.length<=100) (_:∀b∈l,b.length<=100) (ab:Option Addr) (bn bc:Nat) (nn:Int):
  Calls Tryz.prog 8 #[.pointer (some ⟨p,0,none⟩),.agg #[.int .i64 7,.slice ab bn bc,.int .u8 nn,.slice la vs.length lc]] w λe w'=>e=.returned (.tuple #[.bool true,.bool true])/\RStep B p o i S w w':=by
 by_cases hm:MayR S.wd l
 ·have hfew:=h.few;have hni:=h.ni;have hli:=h.li;obtain⟨hr,hok,hw,-,-⟩:=h.live.room
  have hfl:l.flatten.length<=6400:=by
   have h1:=flat_le (m:=64) (λb hb=>by rw[hm.1 b hb];exact hok.2.2.2.1)
   omega
  have hLW:=hL.later h0;have hRW:=hR.later h0;have hrn:rewN l<=1:=by unfold rewN;split <;> omega
  refine(does_rewriteW h (RF:=λW1 w2=>InG (stoX B S.s S.d 400 o S.H) S.A (Mid S.D W1 w2) w2 S.x (rewN l) (RewF S.F S.A S.ne l) [] (S.n+S.ne+rewN l)) (RR:=λV r w3=>r.n=0/\r.c=0/\r.ne=rewN l/\r.ln=(rewP S.L S.A S.ne l).length/\OwnS w3 V.heap.size (.slice r.ma 0 0) []/\RowP V.heap.size w3 S.an r.an S.L (rewP S.L S.A S.ne l)) (by simpa using hR.len) hn ab bn bc nn ?_ ?_ ?_).mono ?_
  ·intro W1 hB;refine(g_rewrite (h.later hB).live (by omega) h.runs (hLW.later hB) (hRW.later hB) hc (by omega)).mono ?_;rintro e w2 (⟨-,rfl,h1,h2⟩|⟨h1,-⟩)
   ·have hbel:=h0.trans ((h.up h1 ((Upon.of_below hB).trans (h2.mono (λk hk=>Or.inl hk)) (λk hk=>.inl hk))).mono hB0);exact⟨rfl,h2,h1,hL.later hbel,hR.later hbel⟩
   ·exact absurd hm h1
  ·intro V hLV hRV;have:=refRises_any S.wd (c:=lc) V hLV hRV (by omega);rw[jd hm]at this;exact this
  ·intro W1 w2 V oa oc hB hu hf hV hLo;have hu2:Upon (λk=>S.D k\/k=p) w w2:=(Upon.of_below hB).trans (hu.mono (λk hk=>Or.inl hk)) (λk hk=>.inl hk);refine(refRewrite_any S.A hok S.L l S.mh S.an oa S.held.length S.mc S.nc oc S.ne V (by omega) ((h.nl.step hu2 (λk hk=>.inl hk)).lies.later hV) (by omega) hLo (by omega) (by omega)).mono ?_;rintro e w' ⟨ma,an',nc',rfl,h1,h2,h3⟩;exact⟨⟨ma,0,0,rewN l,an',_,nc'⟩,rfl,h3,rfl,rfl,rfl,rfl,h1,h2⟩
  ·rintro e w' ⟨W1,w2,V,r,w3,hB1,hu2,hl,hV,hB3,⟨r1,r2,r3,r4,r5,r6⟩,rfl,hu,hbk⟩;have hB23:Below w2.heap.size w2 w3:=hV.trans (hB3.mono hV.size);obtain⟨ma,rn,rc,rne,ran,rln,rnc⟩:=r;dsimp only at r1 r2 r3 r4 r5 r6 hbk;subst r1 r2 r3 r4;have hz:=hB1.size;refine⟨rfl,h.next2 (c:=V.heap.size) hl (λk hk=>hk.imp id (λh1=>⟨Nat.le_trans hz h1.1,h1.2⟩)) ((Upon.of_below hB1).trans hu2 (λk hk=>.inl hk)) hB23 hV.size hu (λj hj=>?_) hbk (.inr r5) r6 (isRow_rew h.rowN _ _ _) (by omega) (rewP_le _ _ _ _) (Nat.zero_le _) ?_⟩
   ·obtain rfl:j=0:=by omega
    have hl0:l≠[]:=λe=>by
     rw[e]at hj;exact absurd hj (by decide)
    unfold RewF;rw[if_neg hl0];show setF _ (rname S.A.pf 0) _ (rname S.A.pf 0)≠none;rw[setF_same];exact λe=>by cases e
   ·unfold RewF
    split
    ·exact sz_rm h.sz _ _
    ·refine sz_set (sz_rm h.sz _ _) _ _ ?_;have hlen:=Frame.frameL_length 82 l.flatten
     omega
 ·exact does_rewriteB h h6 (hL.later h0) (hR.later h0) hc hn hm ab bn bc nn
theorem does_open (h:RPlay B p o i w S) (h6:i<=60) (ab la:Option Addr) (bn bc ln lc:Nat) (nn:Int):
  Calls Tryz.prog 8 #[.pointer (some ⟨p,0,none⟩),.agg #[.int .i64 3,.slice ab bn bc,.int .u8 nn,.slice la ln lc]] w λe w'=>e=.returned (.tuple #[.bool true,.bool true])/\RStep B p o i S w w':=by
 refine(does_openW h h6 ab la bn bc ln lc nn).mono ?_;rintro e w' ⟨W1,w2,w3,w5,V,w6,s',x',ne',hB1,hu2,hl,hr,hB3,hu5,hV,hB6,rfl,hu,hbk⟩;have hpl:=h.blk.lt;obtain⟨zo,zb,zs⟩:=h.zero;have z1:=hB1.size;have z2:=hu2.size;have z3:=hB3.size;have z5:=hu5.size;have z6:=hV.size;have z7:=hB6.size;have hD0:∀k,(Mid S.D w w2 k\/(w2.heap.size<=k/\k<w3.heap.size))->S.D k\/w.heap.size<=k:=λk hk=>hk.elim (λh1=>h1.imp id (λh2=>h2.1)) (λh1=>.inr (by omega))
 have hDlt:∀k,(Mid S.D w w2 k\/(w2.heap.size<=k/\k<w3.heap.size))->k<w3.heap.size:=λk hk=>by
  obtain⟨Q,R,hv,vs,hg⟩:=hl;exact hg.lt k hk
 have hpD:¬(Mid S.D w w2 p\/(w2.heap.size<=p/\p<w3.heap.size)):=λhk=>(hD0 p hk).elim h.pD (λh1=>by omega)
 have a1:Upon (λk=>S.D k\/k=p) w w2:=(Upon.of_below hB1).trans (hu2.mono (λk hk=>Or.inl hk)) (λk hk=>.inl hk);have a2:Upon (λk=>S.D k\/k=p) w w3:=a1.trans (Upon.of_below (P:=λk=>S.D k\/k=p) hB3) (λk hk=>.inl hk);have a3:Upon (λk=>S.D k\/k=p) w w5:=a2.trans (hu5.mono (λk hk=>(Or.inr hk:S.D k\/k=p))) (λk hk=>.inl hk);have a4:Upon (λk=>S.D k\/k=p) w w6:=(a3.trans (Upon.of_below (P:=λk=>S.D k\/k=p) hV) (λk hk=>.inl hk)).trans (Upon.of_below (P:=λk=>S.D k\/k=p) hB6) (λk hk=>.inl hk);have a5:Upon (λk=>S.D k\/k=p) w w':=a4.trans hu (λk hk=>hk.elim (λe=>.inl (.inr e)) (λe=>.inr (by omega)));have b1:=(((hl.keep hu5 (λg hg e=>hpD (by rw[<-e];exact hg))).later hV).later hB6).keep hu (λg hg e=>e.elim (λe=>hpD (by rw[<-e];exact hg)) (λe=>by have:=hDlt g hg;omega));exact⟨rfl,{S with s:=s',x:=x',D:=λk=>Mid S.D w w2 k\/(w2.heap.size<=k/\k<w3.heap.size),F:=S.H,n:=20000,ne:=ne',held:=[],mh:=none,mc:=0,L:=S.LH,an:=S.ah,nc:=S.hc},⟨b1,hr,λk hk=>(hD0 k hk).elim (h.base k) (λh1=>.inl (by omega)),hbk,hpD,h.pB,.none,h.hl.step a5 hD0,h.hl.step a5 hD0,h.rowH,h.rowH,Nat.le_add_right _ _,Nat.le_succ_of_le h.lhi,Nat.le_succ_of_le h.lhi,Nat.zero_le _,h.szH,h.szH⟩,⟨rfl,rfl,rfl⟩,hD0,a5⟩
structure AR where
 kd:Int
 b:List UInt8
 ab:Option Addr
 bc:Nat
 nn:Nat
 ls:List (SL×List UInt8)
 la:Option Addr
 lc:Nat
def AR.vs (x:AR):List Value:=[.int .i64 x.kd,.slice x.ab x.b.length x.bc,.int .u8 (x.nn:Int),.slice x.la x.ls.length x.lc]
structure ActIn (w:World) (x:AR):Prop where
 bytes:Lies w x.ab (x.b.map bv)
 row:Lies w x.la (x.ls.map (λy=>sl y.1))
 recs:∀y∈x.ls,y.1.2.1=y.2.length/\y.2.length<=y.1.2.2/\Lies w y.1.1 (y.2.map bv)
 cap:x.ls.length<=x.lc
theorem ActIn.recsIn {x:AR} (h:ActIn w x):RecsIn w ((x.ls.map Prod.fst).map sl) (x.ls.map Prod.snd):=by
 refine⟨by simp,λi v b h1 h2=>?_⟩;rw[List.map_map,List.getElem?_map]at h1;rw[List.getElem?_map]at h2
 cases hy:x.ls[i]? with
 |none=>rw[hy]at h1;cases h1
 |some y=>
  rw[hy]at h1 h2;cases h1;cases h2;obtain⟨e1,e2,e3⟩:=h.recs y (jM hy);obtain⟨⟨ya,yn,yc⟩,b⟩:=y;dsimp only at e1 e2 e3;subst e1;exact⟨ya,yc,rfl,e2,e3⟩
def AR.few (x:AR):Prop:=x.b.length<=300/\x.ls.length<=100/\∀y∈x.ls,y.2.length<=100
theorem does_any (h:RPlay B p o i w S) (h6:i<=60) (h0:Below w0.heap.size w0 w) (hB0:w0.heap.size<=B) {x:AR} (hx:ActIn w0 x) (hf:x.few):
  Calls Tryz.prog 8 #[.pointer (some ⟨p,0,none⟩),.agg #[.int .i64 x.kd,.slice x.ab x.b.length x.bc,.int .u8 (x.nn:Int),.slice x.la x.ls.length x.lc]] w (RDone B p o i S w):=by
 obtain⟨kd,b,ab,bc,nn,ls,la,lc⟩:=x;obtain⟨f1,f2,f3⟩:=hf;have hrecs:=hx.recsIn;obtain⟨hbytes,hrow,-,hcap⟩:=hx;dsimp only at *;have hl:∀{e w'},(e=Ending.returned (.tuple #[.bool true,.bool true])/\RStep B p o i S w w')->RDone B p o i S w e w':=λh=>.inl h
 by_cases hk:kd<0\/7<kd
 ·exact(does_rows h h6 hk ab la b.length bc ls.length lc nn).mono (λe w' h=>hl h)
 ·have:kd=0\/kd=1\/kd=2\/kd=3\/kd=4\/kd=5\/kd=6\/kd=7:=by omega
  rcases this with rfl|rfl|rfl|rfl|rfl|rfl|rfl|rfl
  ·exact(does_put h h6 h0 hB0 hbytes f1 la ls.length lc nn).mono (λe w' h=>hl h)
  ·exact(does_flush h h6 ab la b.length bc ls.length lc nn).mono (λe w' h=>hl h)
  ·exact does_commit h h6 ab la b.length bc ls.length lc nn
  ·exact(does_open h h6 ab la b.length bc ls.length lc nn).mono (λe w' h=>hl h)
  ·exact(does_clear h h6 ab la b.length bc ls.length lc nn).mono (λe w' h=>hl h)
  ·exact(does_write h h6 h0 hB0 hbytes f1 la ls.length lc nn).mono (λe w' h=>hl h)
  ·exact(does_forget h ab la b.length bc ls.length lc nn).mono (λe w' h=>hl h)
  ·have:=does_rewrite h h6 h0 hB0 (la:=la) (lc:=lc) (vs:=ls.map Prod.fst) (l:=ls.map Prod.snd) (by rw[List.map_map];exact hrow) hrecs (by simpa using hcap) (by simpa using f2) (λb hb=>by
    obtain⟨y,hy,rfl⟩:=List.mem_map.1 hb;exact f3 y hy) ab b.length bc nn
   rw[jP]at this;exact this.mono (λe w' h=>hl h)
end Runs
namespace Runs
open Go.RowKit Go.Deep Go.Shelf Mem Crc Go.Maps Merge Full RefF
open Store (Sto Files setF setF_same setF_other nv St none')
open Ext (Tab)
def flatA (l:List AR):List Value:=l.flatMap AR.vs
theorem flatA_at:∀{l:List AR} {k:Nat} {x:AR},l[k]? =some x->∀{j:Nat} {u:Value},x.vs[j]? =some u->(flatA l)[k*4+j]? =some u
 | [],k,x,hx,_,_,_=>by simp at hx
 |y ::r,0,x,hx,j,u,hu=>by
  simp at hx
  subst hx;unfold flatA;rw[jC,List.getElem?_append_left (by have:=(jS.1 hu).1;omega)]
  simpa using hu
 |y ::r,k+1,x,hx,j,u,hu=>by
  have:=flatA_at (l:=r) (k:=k) (x:=x) (by simpa using hx) hu;have e:y.vs.length=4:=rfl;unfold flatA at this⊢;rw[jC,List.getElem?_append_right (by rw[e];omega),<-this]
  congr 1
  rw[e]
  omega
structure ActsIn (w:World) (a:Option Addr) (l:List AR):Prop where
 row:Lies w a (flatA l)
 acts:∀x∈l,ActIn w x
theorem ActsIn.cells {w w':World} {a:Option Addr} {l:List AR} (h:ActsIn w a l) (hB:Below w.heap.size w w') {k:Nat} {x:AR} (hx:l[k]? =some x):∃g o,a=some ⟨g,o,none⟩/\w'.cell? ⟨g,o+k*4,none⟩=some (.int .i64 x.kd)/\w'.cell? ⟨g,o+k*4+1,none⟩=some (.slice x.ab x.b.length x.bc)/\w'.cell? ⟨g,o+k*4+2,none⟩=some (.int .u8 (x.nn:Int))/\w'.cell? ⟨g,o+k*4+3,none⟩=some (.slice x.la x.ls.length x.lc):=by
 have h0:=flatA_at hx (j:=0) rfl;have h1:=flatA_at hx (j:=1) rfl;have h2:=flatA_at hx (j:=2) rfl;have h3:=flatA_at hx (j:=3) rfl;have hr:=h.row.later hB;obtain⟨g,o,rfl,_,hc⟩:=hr.resolve_left (λe=>by rw[e]at h0;simp at h0);exact⟨g,o,rfl,hc _ _ h0,hc _ _ h1,hc _ _ h2,hc _ _ h3⟩
variable {p:Nat} {w:World}
theorem play_new {B s d x ne c:Nat} {o:Option Obj} {pf:List UInt8} {wd rm:Nat} {D:Nat->Prop} (h:InG (stoX B s d 400 o (λ_=>none)) ⟨s,pf,wd,rm⟩ D w x ne (λ_=>none) [] 20000) (hr:∀j,j<ne->(λ_=>none:Files) (rname pf j)≠none) (hb:∀k,D k->B<=k\/k=1)
  (hp:Blk w p 44 #[.pointer (some ⟨d,0,none⟩),.pointer (some ⟨s,0,none⟩),.pointer (some ⟨x,0,none⟩),nv pf,.int .i64 wd,.int .i64 rm,.slice none 0 c,.int .i64 ne,.slice none 0 0,.slice none 0 0]) (hpD:¬D p) (hpB:B<=p):
  RPlay B p o 0 w ⟨s,d,x,pf,wd,rm,D,λ_=>none,λ_=>none,20000,ne,[],none,c,[],none,0,[],none,0⟩:=
 ⟨h,hr,hb,hp,hpD,hpB,.none,.none,.none,⟨.nil,λnm b=>by simp⟩,⟨.nil,λnm b=>by simp⟩,Nat.le_refl _,Nat.le_refl _,Nat.le_refl _,Nat.le_refl _,(λnm b e=>by cases e),(λnm b e=>by cases e)⟩
attribute [local go_sem] Oper.semAt_some
theorem plays_law (pf:List UInt8) (wd rm:Int) (a:Option Addr) (c:Nat) (l:List AR) (w:World) (h:ActsIn w a l) (hT:Tab w):
  Calls Tryz.prog 3 #[nv pf,.int .i64 wd,.int .i64 rm,.slice a l.length c] w λe w'=>e=.returned (.bool true)/\Below w.heap.size w w':=by
 have HAW:Hid (∀V,Calls Tryz.prog 4 #[] V λe w'=>e=.returned (.bool true)/\Below V.heap.size V w'):=jq awake_any;obtain⟨n,hn⟩:=jl l.length;obtain⟨sp,hsp⟩:∃s:ByteArray,nv pf=.string s:=⟨_,rfl⟩;have hss:sp.size=pf.length:=strB_size hsp;have H:=jq h;have HT:=jq hT;have HSS:=jq (And.intro hss (And.intro hsp trivial));rw[<-hn,hsp];have HN:=jq hn;clear h hT hn hss hsp
 by_cases hbig:100<sp.size\/60<n
 ·by_cases hb1:100<sp.size
  ·have hd:decide (100<(sp.size:Int))=true:=jd (by omega);clear hbig
   go_enter Tryz.func3,Tryz.ntmps3
   go_wp2_with fail
   refine(HAW.out _).mono ?_;rintro e w2 ⟨rfl,hB⟩;have HB:=jq hB;clear hB
   go_wp2_with fail
   go_ret
   exact⟨rfl,HB.out⟩
  ·have hb2:60<n:=hbig.resolve_left hb1;have hd:decide (100<(sp.size:Int))=false:=jf (by omega);have hd2:decide (60<(n:Int))=true:=jd (by omega);clear hbig
   go_enter Tryz.func3,Tryz.ntmps3
   go_wp2_with fail
   refine(HAW.out _).mono ?_;rintro e w2 ⟨rfl,hB⟩;have HB:=jq hB;clear hB
   go_wp2_with fail
   go_ret
   exact⟨rfl,HB.out⟩
 ·have hd:decide (100<(sp.size:Int))=false:=jf (by omega);have hd2:decide (60<(n:Int))=false:=jf (by omega);have hn60:n<=60:=by omega
  clear hbig
  go_enter Tryz.func3,Tryz.ntmps3
  go_wp2_with fail
  go_loopw[9] (λu wr=>∃k:Nat,k<=n/\u=.int .i64 (k:Int)/\Hid (Below w.heap.size w wr)/\Hid (∀x∈l.take k,x.few)) (λu _=>n-(intOf u).toNat)
  case atStart=>exact⟨0,Nat.zero_le _,rfl,jq (Below.refl _ _),jq (λx hx=>by simp at hx)⟩
  case round=>
   obtain⟨k,hk,rfl,HB,HF⟩:=hrel
   by_cases hlt:k<n
   ·have hkd:decide ((k:Int) <(n:Int))=true:=jd (by omega);obtain⟨x,hx⟩:∃x,l[k]? =some x:=⟨l[k]'(by rw[<-HN.out];exact hlt),jg _⟩;have htk:l.take (k+1)=l.take k++ [x]:=by rw[List.take_add_one,hx];rfl
    have hxm:=jM hx;have hBw:Below w.heap.size w wr:=HB.out;obtain⟨gl,ol,rfl,c0,c1,c2,c3⟩:=H.out.cells hBw hx;obtain⟨bn,hbn⟩:=jl x.b.length;obtain⟨m,hm⟩:=jl x.ls.length;obtain⟨xla,hxla⟩:=jl x.la;rw[<-hbn]at c1;rw[<-hm,<-hxla]at c3;have HX:=jq (And.intro hx (And.intro htk (And.intro hxm (And.intro hbn (And.intro hm hxla)))));clear hx htk hxm hBw hbn hm hxla
    by_cases hb1:300<bn
    ·have hd3:decide (300<(bn:Int))=true:=jd (by omega)
     go_wp2_with fail
     refine(HAW.out _).mono ?_;rintro e w2 ⟨rfl,hB⟩;have HB2:=jq hB;clear hB
     go_wp2_with fail
     go_ret
     exact⟨rfl,HB.out.trans (HB2.out.mono HB.out.size)⟩
    ·have hd3:decide (300<(bn:Int))=false:=jf (by omega)
     by_cases hb2:100<m
     ·have hd4:decide (100<(m:Int))=true:=jd (by omega)
      go_wp2_with fail
      refine(HAW.out _).mono ?_;rintro e w2 ⟨rfl,hB⟩;have HB2:=jq hB;clear hB
      go_wp2_with fail
      go_ret
      exact⟨rfl,HB.out.trans (HB2.out.mono HB.out.size)⟩
     ·have hd4:decide (100<(m:Int))=false:=jf (by omega)
      go_wp2_with fail
      go_loopw[10] (λv wr=>∃j:Nat,j<=m/\v=.int .i64 (j:Int)/\Hid (Below w.heap.size w wr)/\Hid (∀y∈x.ls.take j,y.2.length<=100)) (λv _=>m-(intOf v).toNat)
      case atStart=>exact⟨0,Nat.zero_le _,rfl,HB,jq (λy hy=>by simp at hy)⟩
      case round=>
       obtain⟨j,hj,rfl,HBj,HFj⟩:=hrel;have hBw:Below w.heap.size w wr:=HBj.out;obtain⟨gl',ol',e',d0,d1,d2,d3⟩:=H.out.cells hBw HX.out.1;cases e';rw[<-HX.out.2.2.2.2.1,<-HX.out.2.2.2.2.2]at d3
       by_cases hjm:j<m
       ·have hjd:decide ((j:Int) <(m:Int))=true:=jd (by omega);obtain⟨y,hy⟩:∃y,x.ls[j]? =some y:=⟨x.ls[j]'(by rw[<-HX.out.2.2.2.2.1];exact hjm),jg _⟩;have htk:x.ls.take (j+1)=x.ls.take j++ [y]:=by rw[List.take_add_one,hy];rfl
        have hxA:=H.out.acts x HX.out.2.2.1;obtain⟨gy,oy,e5,cy⟩:=Mani.lies_at (hxA.row.later hBw) (k:=j) (u:=sl y.1) (by simp[hy]);rw[<-HX.out.2.2.2.2.2]at e5;subst e5;obtain⟨r1,-,-⟩:=hxA.recs y (jM hy);obtain⟨yl,hyl⟩:=jl y.2.length;obtain⟨ya,hya⟩:=jl y.1.1;obtain⟨yc,hyc⟩:=jl y.1.2.2;have cy2:wr.cell? ⟨gy,oy+j,none⟩=some (.slice ya yl yc):=by rw[hya,hyc,hyl,<-r1];exact cy
        have HY:=jq (And.intro htk hyl);clear hy htk hxA cy r1 hyl hya hyc hBw d0 d1 d2
        by_cases hb3:100<yl
        ·have hd5:decide (100<(yl:Int))=true:=jd (by omega)
         go_wp2_with fail
         refine(HAW.out _).mono ?_;rintro e w2 ⟨rfl,hB⟩;have HB2:=jq hB;clear hB
         go_wp2_with fail
         go_ret
         exact⟨rfl,HBj.out.trans (HB2.out.mono HBj.out.size)⟩
        ·have hd5:decide (100<(yl:Int))=false:=jf (by omega)
         have HFj2:Hid (∀z∈x.ls.take (j+1),z.2.length<=100):=jq (λz hz=>by
          rw[HY.out.1]at hz;rcases List.mem_append.1 hz with hz|hz
          ·exact HFj.out z hz
          ·rw[jE.1 hz,<-HY.out.2];omega)
         go_wp2_with fail
         go_roundw
         case rel=>exact⟨j+1,by omega,by simp,HBj,HFj2⟩
         case measure=>simp[intOf];omega
       ·obtain rfl:j=m:=by omega
        have hjd:decide ((j:Int) <(j:Int))=false:=jf (by omega)
        have HF2:Hid (∀z∈l.take (k+1),z.few):=jq (λz hz=>by
         rw[HX.out.2.1]at hz;rcases List.mem_append.1 hz with hz|hz
         ·exact HF.out z hz
         ·rw[jE.1 hz];refine⟨by rw[<-HX.out.2.2.2.1];omega,by rw[<-HX.out.2.2.2.2.1];omega,?_⟩;have:=HFj.out
          rwa [jW (by rw[HX.out.2.2.2.2.1];exact Nat.le_refl _)]at this)
        clear hBw d0 d1 d2
        go_wp2_with fail
        go_roundw
        case rel=>exact⟨k+1,by omega,by simp,HBj,HF2⟩
        case measure=>simp[intOf];omega
   ·obtain rfl:k=n:=by omega
    have hkd:decide ((k:Int) <(k:Int))=false:=jf (by omega)
    have HFEW:Hid (∀x∈l,x.few):=jq (by
     have:=HF.out
     rwa [jW (by rw[<-HN.out];exact Nat.le_refl _)]at this)
    have HBG:=jq (begin_any wr);clear HF
    go_wp2_with fail
    refine HBG.out.mono ?_;rintro e w1 ⟨d,s,g,cm,Q,rfl,hst,hQ,hB1⟩;have hB01:Below w.heap.size w w1:=HB.out.trans (hB1.mono HB.out.size)
    by_cases hok:ArgsOk sp.size wd rm
    ·obtain⟨wn,rfl⟩:∃q:Nat,wd=q:=⟨wd.toNat,by unfold ArgsOk at hok;omega⟩;obtain⟨rn,rfl⟩:∃q:Nat,rm=q:=⟨rm.toNat,by unfold ArgsOk at hok;omega⟩;obtain⟨o,ho⟩:=jl (w1.heap[1]?);have htb:1<w.heap.size:=HT.out.lt;have hsto:=stoX_new hst (by decide) (by decide) (HT.out.below hB01 htb) htb hB01.size (λk hk=>Nat.le_trans HB.out.size (hQ k hk));rw[<-ho]at hsto
     have hA: (⟨s,pf,wn,rn⟩:Fi).ok:=by
      have:=HSS.out.1;unfold ArgsOk at hok;unfold Fi.ok;dsimp only
      omega
     have HNG:Hid (∀V,Below w1.heap.size w1 V->Calls Tryz.prog 6 #[.pointer (some ⟨s,0,none⟩),.string sp,.int .i64 wn,.int .i64 rn] V λe w'=>∃x,e=.returned (.tuple #[.pointer (some ⟨x,0,none⟩),.int .i64 0])/\Hid (InG (stoX w.heap.size s d 400 o (λ_=>none)) ⟨s,pf,wn,rn⟩ (Mid (λk=>Q k\/k=1) V w') w' x 0 (λ_=>none) [] 20000)/\Below V.heap.size V w'):=jq (λV hV=>by
      have:=g_new (stoX w.heap.size s d 400 o (λ_=>none)) ⟨s,pf,wn,rn⟩ rfl hA ((stoX w.heap.size s d 400 o (λ_=>none)).later hsto hV) (λk=>Q k\/k=1) (λk hk=>hk) (λk hk=>Nat.lt_of_lt_of_le ((stoX w.heap.size s d 400 o (λ_=>none)).lt hsto k hk) hV.size);dsimp only at this;rw[HSS.out.2.1]at this;refine this.mono ?_;rintro e w' ⟨x,ne,rfl,h1,h2,-,h4⟩
      obtain rfl:ne=0:=by
       refine Nat.eq_zero_of_not_pos (λhp=>?_);exact h2 0 hp rfl
      exact⟨x,rfl,jq h1,h4⟩)
     have HRG:Hid (∀(an:Option Addr) (nc:Nat) (V:World),Calls Tryz.prog 7 #[.slice an 0 nc,.string sp,.int .i64 wn,.int .i64 rn] V λe w'=>e=.returned (.tuple #[.agg #[.string sp,.int .i64 wn,.int .i64 rn,.slice none 0 0,.int .i64 0],.int .i64 0])/\Below V.heap.size V w'):=jq (λan nc V=>by
      have:=refNew_good ⟨s,pf,wn,rn⟩ hA [] (λ_=>none) an nc 0 V ⟨.nil,λnm b=>by simp⟩ (λj hj=>absurd hj (Nat.not_lt_zero j)) rfl jn (.inl rfl) (Nat.zero_le _);unfold sV at this;dsimp only at this;rw[HSS.out.2.1]at this;exact this)
     have HQ:Hid (∀k,(Q k\/k=1)->(w.heap.size<=k\/k=1)/\k<w1.heap.size):=jq (λk hk=>⟨hk.imp (λh1=>Nat.le_trans HB.out.size (hQ k h1)) id,(stoX w.heap.size s d 400 o (λ_=>none)).lt hsto k hk⟩);have HB1:=jq hB01;clear hst hQ hB1 hB01 hsto hA ho htb hok HBG
     go_wp2_with fail
     refine(HNG.out _ (by first|exact Below.refl _ _|exact(Below.refl _ _).drew)).mono ?_;rintro e w2 ⟨x,rfl,HL2,hB2⟩;have HB2:=jq (HB1.out.trans (hB2.mono HB1.out.size));have HS12:=jq hB2.size;clear hB2 HNG
     go_wp2_with fail
     refine(HRG.out _ _ _).mono ?_;rintro e w3 ⟨rfl,hB3⟩;have hB23:Below w2.heap.size w2 w3:=((Below.refl _ w2).alloc jn _).trans (hB3.mono (by simp));have HB3:=jq hB23;clear hB3 hB23
     go_wp2_with fail
     obtain⟨W5,hW5⟩:=jl ((w3.alloc (.cells #[.string sp,.int .i64 wn,.int .i64 rn,.slice none 0 0,.int .i64 0] 38)).alloc (.cells #[.pointer (some ⟨d,0,none⟩),.pointer (some ⟨s,0,none⟩),.pointer (some ⟨x,0,none⟩),.string sp,.int .i64 wn,.int .i64 rn,.slice none 0 0,.int .i64 0,.slice none 0 0,.slice none 0 0] 44));obtain⟨p,hp⟩:=jl (w3.heap.size+1);have hB35:Below w3.heap.size w3 W5:=by rw[hW5];exact((Below.refl _ w3).alloc jn _).alloc (by simp) _
     have hbp:Blk W5 p 44 #[.pointer (some ⟨d,0,none⟩),.pointer (some ⟨s,0,none⟩),.pointer (some ⟨x,0,none⟩),.string sp,.int .i64 wn,.int .i64 rn,.slice none 0 0,.int .i64 0,.slice none 0 0,.slice none 0 0]:=by
      rw[hW5,hp];have:=Blk.new (w3.alloc (.cells #[.string sp,.int .i64 wn,.int .i64 rn,.slice none 0 0,.int .i64 0] 38)) 44 #[.pointer (some ⟨d,0,none⟩),.pointer (some ⟨s,0,none⟩),.pointer (some ⟨x,0,none⟩),.string sp,.int .i64 wn,.int .i64 rn,.slice none 0 0,.int .i64 0,.slice none 0 0,.slice none 0 0];rw[World.size_alloc]at this;exact this
     rw[<-hW5,<-hp];have z2:=HB2.out.size;have z3:=HB3.out.size;have z1:=HB1.out.size;have z12:=HS12.out;rw[<-HSS.out.2.1]at hbp;have HPL:=jq (play_new ((HL2.out.later HB3.out).later hB35) (λj hj=>absurd hj (Nat.not_lt_zero j)) (λq hq=>hq.elim (λh1=>(HQ.out q h1).1) (λh1=>.inl (Nat.le_trans z1 h1.1))) hbp (λhq=>hq.elim (λh1=>by have:=(HQ.out p h1).2;omega) (λh1=>by have:=h1.2;omega)) (by omega));have HW5:Hid (Below w.heap.size w W5):=jq ((HB2.out.trans (HB3.out.mono z2)).trans (hB35.mono (Nat.le_trans z2 z3)));clear hW5 hp hB35 hbp z1 z2 z3 z12 HL2 HB2 HB3 HS12 HRG HQ HB1
     go_loopw[19] (λu wr=>∃(j:Nat) (S:RD),j<=k/\u=.int .i64 (j:Int)/\Hid (RPlay w.heap.size p o j wr S)/\Hid (Below w.heap.size w wr)) (λu _=>k-(intOf u).toNat)
     case atStart=>exact⟨0,_,Nat.zero_le _,rfl,HPL,HW5⟩
     case round=>
      clear HPL HW5;obtain⟨j,S,hj,rfl,HP,HBr⟩:=hrel
      by_cases hjk:j<k
      ·have hjd:decide ((j:Int) <(k:Int))=true:=jd (by omega);obtain⟨y,hy⟩:∃y,l[j]? =some y:=⟨l[j]'(by rw[<-HN.out];exact hjk),jg _⟩;obtain⟨gl,ol,rfl,c0,c1,c2,c3⟩:=H.out.cells HBr.out hy;have hD:=does_any HP.out (by omega) HBr.out jn (H.out.acts y (jM hy)) (HFEW.out y (jM hy));obtain⟨kd,hkd⟩:=jl y.kd;obtain⟨ya,hya⟩:=jl y.ab;obtain⟨yb,hyb⟩:=jl y.b.length;obtain⟨yc,hyc⟩:=jl y.bc;obtain⟨yn,hyn⟩:=jl y.nn;obtain⟨za,hza⟩:=jl y.la;obtain⟨zn,hzn⟩:=jl y.ls.length;obtain⟨zc,hzc⟩:=jl y.lc;rw[<-hkd]at c0 hD;rw[<-hya,<-hyb,<-hyc]at c1 hD;rw[<-hyn]at c2 hD;rw[<-hza,<-hzn,<-hzc]at c3 hD;have HD:=jq hD;clear hy hD hkd hya hyb hyc hyn hza hzn hzc
       go_wp2_with fail
       refine HD.out.mono ?_;rintro e w5 (⟨rfl,hst⟩|⟨rfl,hB5⟩)
       ·have hB5:Below w.heap.size w w5:=HBr.out.trans (RStep.below HP.out hst);obtain⟨S5,hP5,-⟩:=hst;obtain⟨hl,hhl⟩:=jl S5.held.length;obtain⟨sx,hsx⟩:=jl S5.x;obtain⟨sn,hsn⟩:=jl S5.ne;have hbk:=hP5.blk;unfold RD.cells at hbk;rw[<-hhl,<-hsx,<-hsn]at hbk;have q2:w5.cell? ⟨p,2,none⟩=some (.pointer (some ⟨sx,0,none⟩)):=by rw[hbk.cell];rfl
        have q6:w5.cell? ⟨p,6,none⟩=some (.slice S5.mh hl S5.mc):=by rw[hbk.cell];rfl
        have q7:w5.cell? ⟨p,7,none⟩=some (.int .i64 sn):=by rw[hbk.cell];rfl
        have HHE:Hid (∀m,Calls Tryz.prog 9 #[.pointer (some ⟨sx,0,none⟩)] (w5.drewN m) λe w'=>e=.returned (.int .i64 hl)/\w'=w5.drewN m):=jq (λm=>by
         have hBm:Below w5.heap.size w5 (w5.drewN m):=⟨rfl,rfl,rfl,Nat.le_refl _,λ_ _=>rfl⟩;have:=g_held (hP5.later hBm).live;rw[<-hhl,<-hsx]at this;exact this.mono (λe w' h=>⟨h.1,h.2.symm⟩))
        have HRU:Hid (∀m,Calls Tryz.prog 10 #[.pointer (some ⟨sx,0,none⟩)] (w5.drewN m) λe w'=>e=.returned (.int .i64 sn)/\∃q,w'=(w5.drewN m).drewN q):=jq (λm=>by
         have hBm:Below w5.heap.size w5 (w5.drewN m):=⟨rfl,rfl,rfl,Nat.le_refl _,λ_ _=>rfl⟩;have:=g_runs (hP5.later hBm).live;rw[<-hsn,<-hsx]at this;exact this)
        have HP5:=jq hP5;have HB5:=jq hB5;clear hbk hhl hsx hsn hP5 hB5 c0 c1 c2 c3 HD
        go_wp2_with fail
        go_quiet ((first|(go_at_call 9;refine Calls.quiet_of_same (HHE.out _))|(go_at_call 10;refine Calls.quiet_of (HRU.out _))))
        go_wp2_with fail
        go_roundw
        case rel=>exact⟨j+1,S5,by omega,by simp,jq (HP5.out.later ⟨rfl,rfl,rfl,Nat.le_refl _,λ_ _=>rfl⟩),jq (HB5.out.trans ⟨rfl,rfl,rfl,Nat.le_refl _,λ_ _=>rfl⟩)⟩
        case measure=>simp[intOf];omega
       ·have HB5:=jq (HBr.out.trans hB5);clear hB5 HD
        go_wp2_with fail
        refine(HAW.out _).mono ?_;rintro e w6 ⟨rfl,hB⟩;have HB6:=jq hB;clear hB
        go_wp2_with fail
        go_ret
        exact⟨rfl,HB5.out.trans (HB6.out.mono HB5.out.size)⟩
      ·obtain rfl:j=k:=by omega
       have hjd:decide ((j:Int) <(j:Int))=false:=jf (by omega);obtain⟨ss,z,hss,hg,hr⟩:=HP.out.rows (by omega);have hg:=hg wr (Below.refl _ _);obtain⟨tp,htp⟩:∃s:ByteArray,nv S.pf=.string s:=⟨_,rfl⟩;obtain⟨hl,hhl⟩:=jl S.held.length;obtain⟨pn,hpn⟩:=jl S.L.length;obtain⟨sx,hsx⟩:=jl S.x;unfold sV RD.A at hr;dsimp only at hr;rw[htp,<-hhl,<-hpn]at hr;rw[<-hsx]at hg;have hbk:=HP.out.blk;unfold RD.cells at hbk;rw[htp,<-hhl,<-hpn,<-hsx]at hbk;have q2:wr.cell? ⟨p,2,none⟩=some (.pointer (some ⟨sx,0,none⟩)):=by rw[hbk.cell];rfl
       have HG:=jq hg;have HR:=jq hr;have HBK:=jq hbk;have HSS2:=jq hss;clear hbk htp hg hr hhl hpn hss hsx
       go_wp2_with fail
       refine HG.out.mono ?_;rintro e w2' ⟨a2,d2,rfl,hL2,hB2⟩;have hb2:=HBK.out.below hB2 HBK.out.lt;have q3:w2'.cell? ⟨p,3,none⟩=some (.string tp):=by rw[hb2.cell];rfl
       have q4:w2'.cell? ⟨p,4,none⟩=some (.int .i64 S.wd):=by rw[hb2.cell];rfl
       have q5:w2'.cell? ⟨p,5,none⟩=some (.int .i64 S.rm):=by rw[hb2.cell];rfl
       have q6:w2'.cell? ⟨p,6,none⟩=some (.slice S.mh hl S.mc):=by rw[hb2.cell];rfl
       have q7:w2'.cell? ⟨p,7,none⟩=some (.int .i64 S.ne):=by rw[hb2.cell];rfl
       have q8:w2'.cell? ⟨p,8,none⟩=some (.slice S.an pn S.nc):=by rw[hb2.cell];rfl
       obtain⟨sn,hsn⟩:=jl ss.length;rw[<-hsn];have HB2:=jq hB2;have HL2:=jq hL2;have HSN:=jq hsn;have HR2:=jq (HR.out w2'.drew (hB2.drew));have HK2:=jq hb2;clear hb2 hL2 hsn hB2
       go_wp2_with fail
       go_region_held3 (λw'=>w'.cell? ⟨p,3,none⟩=some (.string tp)/\w'.cell? ⟨p,4,none⟩=some (.int .i64 S.wd)/\w'.cell? ⟨p,5,none⟩=some (.int .i64 S.rm)/\w'.cell? ⟨p,6,none⟩=some (.slice S.mh hl S.mc)/\w'.cell? ⟨p,7,none⟩=some (.int .i64 S.ne)/\w'.cell? ⟨p,8,none⟩=some (.slice S.an pn S.nc)) (first|exact⟨q3,q4,q5,q6,q7,q8⟩|exact hk3) ((go_at_call 12;refine HR2.out.mono ?_;rintro e w3' ⟨a3,d3,rfl,hL3,hB3⟩;have hb3:=HK2.out.drew.below hB3 HK2.out.drew.lt;have hk3:w3'.cell? ⟨p,3,none⟩=some (.string tp)/\w3'.cell? ⟨p,4,none⟩=some (.int .i64 S.wd)/\w3'.cell? ⟨p,5,none⟩=some (.int .i64 S.rm)/\w3'.cell? ⟨p,6,none⟩=some (.slice S.mh hl S.mc)/\w3'.cell? ⟨p,7,none⟩=some (.int .i64 S.ne)/\w3'.cell? ⟨p,8,none⟩=some (.slice S.an pn S.nc):=⟨by rw[hb3.cell];rfl,by rw[hb3.cell];rfl,by rw[hb3.cell];rfl,by rw[hb3.cell];rfl,by rw[hb3.cell];rfl,by rw[hb3.cell];rfl⟩;dsimp only))
       rename_i hHeld
       clear hHeld;have hL2:=(HL2.out.later (Below.refl _ w2').drew).later hB3;have HSM:=jq (same_yes w3' a2 a3 d2 d3 ss hL2 hL3 HSS2.out);rw[<-HSN.out]at HSM⊢;have HB3:=jq hB3;clear hL2 hL3 hB3 hb3 hk3
       go_wp2_with fail
       refine HSM.out.mono ?_;rintro e w4 ⟨rfl,m,hw4⟩;have HB4:Hid (Below w3'.heap.size w3' w4):=jq (by rw[hw4];exact⟨rfl,rfl,rfl,Nat.le_refl _,λ_ _=>rfl⟩);clear hw4
       go_wp2_with fail
       refine(HAW.out _).mono ?_;rintro e w6 ⟨rfl,hB⟩;have HB6:=jq hB;clear hB
       go_wp2_with fail
       go_ret
       have h1:=HBr.out.trans (HB2.out.mono HBr.out.size);have h2:=h1.drew;have h3:=h2.trans (HB3.out.mono h2.size);have h4:=h3.trans (HB4.out.mono h3.size);exact⟨rfl,h4.trans (HB6.out.mono h4.size)⟩
    ·have HNB:Hid (∀V,Calls Tryz.prog 6 #[.pointer (some ⟨s,0,none⟩),.string sp,.int .i64 wd,.int .i64 rm] V λe w'=>e=.returned (.tuple #[.pointer none,.int .i64 1])/\w'=V):=jq (λV=>new13_bad _ sp wd rm V hok);have HRB:Hid (∀(an:Option Addr) (n nc:Nat) (V:World),Calls Tryz.prog 7 #[.slice an n nc,.string sp,.int .i64 wd,.int .i64 rm] V λe w'=>e=.returned (.tuple #[.agg #[.string ⟨#[]⟩,.int .i64 0,.int .i64 0,.slice none 0 0,.int .i64 0],.int .i64 1])/\Below V.heap.size V w'):=jq (λan n nc V=>refNew_bad an n nc sp wd rm V hok);have HB1:=jq hB01;clear hst hQ hB1 hB01 hok HBG
     go_wp2_with fail
     refine(HNB.out _).mono ?_;rintro e w2 ⟨rfl,rfl⟩
     go_wp2_with fail
     refine(HRB.out _ _ _ _).mono ?_;rintro e w3 ⟨rfl,hB3⟩;have HB3:=jq hB3;clear hB3
     go_wp2_with fail
     refine(HAW.out _).mono ?_;rintro e w6 ⟨rfl,hB⟩;have HB6:=jq hB;clear hB
     go_wp2_with fail
     go_ret
     have h1:Below w.heap.size w w3:=HB1.out.trans ((((Below.refl _ _).alloc jn _).trans (HB3.out.mono (by simp))).mono HB1.out.size);have h2:=h1.alloc h1.size (.cells #[.string ⟨#[]⟩,.int .i64 0,.int .i64 0,.slice none 0 0,.int .i64 0] 38);exact⟨rfl,h2.trans (HB6.out.mono h2.size)⟩
end Runs
end Go.Proofs.YtcdcnhecimajkaaGreatDoor
