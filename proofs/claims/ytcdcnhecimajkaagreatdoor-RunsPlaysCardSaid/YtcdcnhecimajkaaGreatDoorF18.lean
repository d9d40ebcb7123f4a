/- Part. -/
import Derived.Test.YtcdcnhecimajkaaGreatDoorF0
import Derived.Test.YtcdcnhecimajkaaGreatDoorF0Q
import Derived.Test.YtcdcnhecimajkaaGreatDoorF5
import Derived.Test.YtcdcnhecimajkaaGreatDoorF6
import Derived.Test.YtcdcnhecimajkaaGreatDoorF11
import Derived.Test.YtcdcnhecimajkaaGreatDoorF14
import Derived.Test.YtcdcnhecimajkaaGreatDoorF15
import Derived.Test.YtcdcnhecimajkaaGreatDoorF16
import Derived.Test.YtcdcnhecimajkaaGreatDoorF17
import Derived.Deep.RegionHeld3
import Derived.Laws.IdiomStrings
import Derived.Deep.RegionLaw
import Derived.Deep.AppendLies
import Derived.Deep.QuietTactic
import Derived.BigQuiet
set_option maxHeartbeats 4000000
set_option maxRecDepth 100000
namespace Go.Proofs.YtcdcnhecimajkaaGreatDoor
namespace Runs
open Go.RowKit Go.Deep Go.Shelf Mem Crc Merge
open Store (Sto Files setF nv)
open Go.Proofs.YtcdcnhecimajkaaGreatDoor.Text (dec)
attribute [local go_sem] Oper.semAt_some
def sorterC (A:Fi) (fi ne:Nat) (hv:Value):Array Value:=#[.pointer (some ⟨A.s,0,none⟩),nv A.pf,.int .i64 A.wd,.int .i64 A.rm,.int .i64 fi,.int .i64 ne,hv]
structure HeldAt (w:World) (R:Nat->Prop) (wd:Nat) (hv:Value) (vs:List SL) (held:List B):Prop where
 own:OwnL w 0 hv vs
 recs:RecsIn w (vs.map sl) held
 wide:∀b∈held,b.length=wd
 rb:∀y∈vs,∀g,Mem.blk y.1=some g->R g
 rlt:∀g,R g->g<w.heap.size
 apart:∀g,R g->hv.ownBlock≠some g
structure Srt {s:Nat} (S:Store.Sto s) (A:Fi) (w:World) (Q R:Nat->Prop) (off:Bool) (F:Files) (n:Nat) (x ne:Nat) (hv:Value) (vs:List SL) (held:List B):Prop where
 sIs:A.s=s
 blk:Blk w x 60 (sorterC A 0 ne hv)
 sto:S.At w Q off F n
 mem:HeldAt w R A.wd hv vs held
 rq:∀g,R g->¬Q g/\g≠x
 hq:∀g,hv.ownBlock=some g->¬Q g/\g≠x
 xq:¬Q x
 ok:A.ok
 room:List.length held<=A.rm
 few:ne<=1000000
theorem HeldAt.keep {w w':World} {R:Nat->Prop} {wd:Nat} {hv:Value} {vs:List SL} {held:List B} (h:HeldAt w R wd hv vs held) {P:Nat->Prop} (hu:Upon P w w') (hR:∀g,R g->¬P g) (hh:∀g,hv.ownBlock=some g->¬P g):HeldAt w' R wd hv vs held:=
 ⟨own_upon h.own hu hh,⟨h.recs.len,λi v b hv' hb=>by
  obtain⟨a,c,e,h1,h2⟩:=h.recs.at_ i v b hv' hb;refine⟨a,c,e,h1,h2.upon hu (λg hg=>?_)⟩;rw[List.getElem?_map,Option.map_eq_some_iff]at hv';obtain⟨y,hy,e2⟩:=hv'
  have ey:y.1=a:=by
   rw[e]at e2;unfold sl at e2;injection e2
  exact hR g (h.rb y (jM hy) g (by rw[ey];exact hg))⟩,h.wide,h.rb,λg hg=>Nat.lt_of_lt_of_le (h.rlt g hg) hu.size,h.apart⟩
theorem Srt.keep {s:Nat} {S:Sto s} {A:Fi} {w w':World} {Q R:Nat->Prop} {off:Bool} {F:Files} {n x ne:Nat} {hv:Value} {vs:List SL} {held:List B} (h:Srt S A w Q R off F n x ne hv vs held) {P:Nat->Prop} (hu:Upon P w w') (hQ:∀g,Q g->¬P g) (hR:∀g,R g->¬P g) (hh:∀g,hv.ownBlock=some g->¬P g) (hx:¬P x):Srt S A w' Q R off F n x ne hv vs held:=
 ⟨h.sIs,h.blk.upon hu hx,S.upon h.sto hu (λk hp hq=>hQ k hq hp),h.mem.keep hu hR hh,h.rq,h.hq,h.xq,h.ok,h.room,h.few⟩
theorem Srt.later {s:Nat} {S:Sto s} {A:Fi} {w w':World} {Q R:Nat->Prop} {off:Bool} {F:Files} {n x ne:Nat} {hv:Value} {vs:List SL} {held:List B} (h:Srt S A w Q R off F n x ne hv vs held) (hB:Below w.heap.size w w'):Srt S A w' Q R off F n x ne hv vs held:=
 h.keep (P:=λ_=>False) (Upon.of_below hB) (λ_ _ h=>h) (λ_ _ h=>h) (λ_ _ h=>h) (λh=>h)
theorem Srt.cell {s:Nat} {S:Sto s} {A:Fi} {w:World} {Q R:Nat->Prop} {off:Bool} {F:Files} {n x ne:Nat} {hv:Value} {vs:List SL} {held:List B} (h:Srt S A w Q R off F n x ne hv vs held) (i:Nat):w.cell? ⟨x,i,none⟩=(sorterC A 0 ne hv)[i]?:=h.blk.cell i
theorem conv_dec (k:Nat) {va:Option Addr} {vc:Nat} {w:World} (hL:Lies w va ((dec k).map bv)): (convert 24 9 (.slice va (dec k).length vc)).run Tryz.prog w=.ok (.string ⟨(dec k).toArray⟩) w:=by
 obtain⟨g,off,rfl,_,hc⟩:=hL.resolve_left (λe=>by
  rw[List.map_eq_nil_iff]at e;exact dec_ne k e)
 exact run_convert_bytes_back w 24 9 5 _ vc _ Tryz.underlying24 Tryz.underlying5 Tryz.underlying9 (λj hj=>lies_add (.inr ⟨g,off,rfl,by assumption,hc⟩) j _ (by simp[hj,bv]))
theorem name_any (pf:List UInt8) (hpf:pf.length<=16) (k:Nat) (hk:k<=1000000) (x:Nat) (w:World) (h:w.cell? ⟨x,1,none⟩=some (nv pf)) (hx:x<w.heap.size):
  Calls Tryz.prog 19 #[.pointer (some ⟨x,0,none⟩),.int .i64 k] w λe w'=>e=.returned (nv (rname pf k))/\Below w.heap.size w w':=by
 have hw:IntKind.u64.wrap (k:Int)=k:=IntWalk.u64_in _ (by omega);have HP:=jq (Go.Proofs.YtcdcnhecimajkaaGreatDoor.Text.put_nil k w.drew (by omega));have HX:=jq hx;have HD:=jq (fun(va:Option Addr) (vc:Nat) (w2:World) (hL:Lies w2 va ((dec k).map bv))=>conv_dec k (vc:=vc) hL);obtain⟨ds,hds⟩:=jl (dec k);have hlim:pf.length+ds.length<=9223372036854775807:=by rw[hds];have:=dec_len k;omega
 have HN:=jq (show nv (rname pf k)=.string ((⟨pf.toArray⟩:ByteArray)++(⟨ds.toArray⟩:ByteArray))by rw[app_name,hds];rfl);rw[<-hds]at HP HD;unfold nv at h;clear hx hds
 go_enter Tryz.func19,Tryz.ntmps19
 go_wp2_with fail
 go_region_with ((go_at_call 46;refine HP.out.mono ?_;rintro e w2 ⟨v,rfl,hO,hB2⟩;obtain⟨va,vc,rfl,_,hL,_,_⟩:=own_shape hO;have hk2:=(hB2.cell (p:=⟨x,1,none⟩) HX.out).trans h;have hcv:=HD.out va vc w2 hL;clear hO hL))
 all_goals
  go_wp2_with fail
  go_ret
  exact⟨by rw[HN.out];rfl,((Below.refl w.heap.size w).drew).trans hB2⟩
end Runs
namespace Runs
open Go.RowKit Go.Deep Go.Shelf Mem Crc Merge
open Store (Sto Files setF nv)
open Go.Proofs.YtcdcnhecimajkaaGreatDoor.Text (dec)
attribute [local go_sem] Oper.semAt_some
structure SortedAt (w w':World) (vs:List SL) (held:List B) (v:Value) (vs':List SL) (l':List B):Prop where
 len:vs'.length=vs.length
 own:OwnL w' w.heap.size v vs'
 recs:RecsIn w' (vs'.map sl) l'
 perm:l'.Perm held
 rises:Rises l'
 sub:∀y∈vs',y∈vs
 below:Below w.heap.size w w'
theorem sorted_any (x:Nat) {w:World} {R:Nat->Prop} {wd:Nat} {hv:Value} {vs:List SL} {held:List B} (h:HeldAt w R wd hv vs held) (hx:w.cell? ⟨x,6,none⟩=some hv) (hne:1<=wd) (hn:vs.length<=1000000):
  Calls Tryz.prog 49 #[.pointer (some ⟨x,0,none⟩)] w λe w'=>∃v vs' l',e=.returned v/\SortedAt w w' vs held v vs' l':=by
 obtain⟨a,c,rfl,hc,hL,_,_⟩:=own_shape h.own;have HV:=jq (callsIn_wide.1 (values_in Fence.wide 0 trivial rfl a vs.length c w));obtain⟨W,hW⟩:=jl (w.alloc (.cells #[.slice a vs.length c] 25));have hB:Below w.heap.size w W:=by rw[hW];exact(Below.refl _ w).alloc jn _
 have hbc:W.cell? ⟨w.heap.size,0,none⟩=some (.slice a vs.length c):=by rw[hW,(Blk.new w _ _).cell];rfl
 have hsz:w.heap.size<W.heap.size:=by rw[hW];simp
 have HS:=jq (sortedFunc_any (w0:=w) (l:=held) W w.heap.size hsz hL hc hn hB hbc (h.recs.later hB) (λb hb e=>by
  have:=h.wide b hb;rw[e]at this
  simp at this
  omega))
 have HB:=jq hB;rw[<-hW]at HV;clear h hL hB hbc hsz hW
 go_enter Tryz.func49,Tryz.ntmps49
 go_wp2_with fail
 refine HV.out.mono ?_;rintro e w1 ⟨rfl,rfl⟩
 go_wp2_with fail
 refine HS.out.mono ?_;rintro e w2 ⟨v,vs',l',rfl,h1,h2,h3,h4,h5,h6,h7⟩;have HR:=jq (show SortedAt w w2 vs held v vs' l' from⟨h1,own_mono h2 HB.out.size,h3,h4,h5,h6,HB.out.trans (h7.mono HB.out.size)⟩);clear h1 h2 h3 h4 h5 h6 h7
 go_wp2_with fail
 go_ret
 exact⟨_,vs',l',rfl,HR.out⟩
structure Flushed {s:Nat} (S:Store.Sto s) (A:Fi) (w w':World) (Q:Nat->Prop) (F:Files) (n x ne:Nat) (held:List B) (Q':Nat->Prop):Prop where
 srt:Srt S A w' Q' (λ_=>False) false (setF F (rname A.pf ne) (some (runB held))) (n+1) x (ne+1) (.slice none 0 0) [] []
 q:∀k,Q' k->Q k\/w.heap.size<=k
 upon:Upon (λk=>Q k\/k=x) w w'
theorem held_none (w:World) (wd:Nat):HeldAt w (λ_=>False) wd (.slice none 0 0) [] []:=
 ⟨World.ownsRow_nil _ _ _ _,recsIn_nil w,λ_ h=>by simp at h,λ_ h=>by simp at h,λ_ h=>h.elim,λ_ h=>h.elim⟩
theorem flush_any {s:Nat} {S:Store.Sto s} {A:Fi} {w:World} {Q R:Nat->Prop} {F:Files} {n x ne:Nat} {hv:Value} {vs:List SL} {held:List B} (h:Srt S A w Q R false F n x ne hv vs held) (h0:held≠[]) (hn:n<100000) (hne:ne<100000):
  Calls Tryz.prog 23 #[.pointer (some ⟨x,0,none⟩)] w λe w'=>e=.returned (.int .i64 0)/\∃Q',Flushed S A w w' Q F n x ne held Q':=by
 obtain rfl:=h.sIs;have hok:=h.ok;obtain⟨k1,k2,k3,k4,k5,k6⟩:=id hok;have hlv:vs.length=held.length:=by simpa using h.mem.recs.len
 have hroom:=h.room;have hpos:0<held.length:=List.length_pos_iff.2 h0;have c6:=h.cell 6
 simp[sorterC]at c6
 have HS:=jq (sorted_any x h.mem c6 k3 (by omega));obtain⟨a,c,rfl,hc,_,_,_⟩:=own_shape h.mem.own
 have h00: ((vs.length:Int)==0)=false:=by
  have:¬(vs.length:Int)=0:=by omega
  simpa using this
 have HXL:=jq h.blk.lt;have H:=jq h;have HLV:=jq hlv;clear h hlv
 go_enter Tryz.func23,Tryz.ntmps23
 go_wp2_with fail
 refine HS.out.mono ?_;rintro e w1 ⟨v,vs',l',rfl,hS⟩;have hl':l'=sortB held:=sortB_eq hS.perm hS.rises;subst hl';obtain⟨va,vc,rfl,hvc,hL,_,_⟩:=own_shape hS.own
 have HSEC:=jq (section_any w1 hL hvc hS.recs (λb hb e=>by
  have:=sort_wide H.out.mem.wide b hb;rw[e]at this
  simp at this
  omega) (by
  rw[flat_sort H.out.mem.wide];have h2:=Nat.mul_le_mul (Nat.le_trans hroom k6) k4
  omega) (by rw[(sortB_perm held).length_eq];omega))
 have HSR:=jq hS.below;clear hS hL HS c6
 go_wp2_with fail
 refine HSEC.out.mono ?_;rintro e w2 ⟨v2,rfl,hO2,hB2⟩;have h2:=H.out.later (HSR.out.trans (hB2.mono HSR.out.size));have hBB:Below w.heap.size w w2:=HSR.out.trans (hB2.mono HSR.out.size);obtain⟨va2,vc2,rfl,hvc2,hL2,_,_⟩:=own_shape hO2;have HH2:=jq h2;have HBB:=jq hBB;have HL2:=jq hL2;clear hBB hL2 hO2 hB2 h2 HSEC HSR;obtain⟨bs,hbs⟩:=jl (Go.Proofs.YtcdcnhecimajkaaGreatDoor.Frame.frameL 82 (sortB held).flatten);rw[<-hbs]at HL2⊢
 have hbl:bs.length<=1048576:=by
  rw[hbs,Go.Proofs.YtcdcnhecimajkaaGreatDoor.Frame.frameL_length,flat_sort H.out.mem.wide];have h2:=Nat.mul_le_mul (Nat.le_trans hroom k6) k4
  omega
 have hnl:=rname_len hok ne (by omega);have q0:=HH2.out.cell 0;have q1:=HH2.out.cell 1;have q5:=HH2.out.cell 5
 simp[sorterC]at q0 q1 q5
 have hxl:x<w2.heap.size:=HH2.out.blk.lt;have HNM:=jq (name_any A.pf k2 ne (by omega) x w2.drew q1 hxl);have HWR:=jq (fun(w3:World) (hB3:Below w2.heap.size w2 w3)=>S.write (S.later HH2.out.sto hB3) hn (rname A.pf ne) hnl.1 hnl.2 va2 vc2 bs (HL2.out.later hB3) hbl);obtain⟨nm,hnm⟩:=jl (nv (rname A.pf ne));rw[<-hnm]at HNM HWR;have HXQ:=jq H.out.xq;have HBS:=jq hbs;have HXL2:=jq hxl;have HDR:=jq ((Below.refl w2.heap.size w2).drew);clear hbs hnm hxl q1 hbl hnl HXL
 go_wp2_with fail
 go_region_held3 (λw'=>w'.cell? ⟨x,0,none⟩=some (.pointer (some ⟨A.s,0,none⟩))/\w'.cell? ⟨x,5,none⟩=some (.int .i64 (ne:Int))) (first|exact⟨q0,q5⟩|exact hk3|exact hk4) ((first|(go_at_call 19;refine HNM.out.mono ?_;rintro e w3 ⟨rfl,hB3⟩;have hB3:=HDR.out.trans hB3;have hk3:=And.intro ((hB3.cell (p:=⟨x,0,none⟩) HXL2.out).trans q0) ((hB3.cell (p:=⟨x,5,none⟩) HXL2.out).trans q5);dsimp only)|(go_at_call 28;refine(HWR.out w3 hB3).mono ?_;rintro e w4 ⟨rfl,Q4,hst4,hq4,hu4⟩;have hk4:=And.intro ((World.cell?_of_block (a:=⟨x,0,none⟩) (hu4.block x (Nat.lt_of_lt_of_le HXL2.out hB3.size) HXQ.out)).trans hk3.1) ((World.cell?_of_block (a:=⟨x,5,none⟩) (hu4.block x (Nat.lt_of_lt_of_le HXL2.out hB3.size) HXQ.out)).trans hk3.2);dsimp only)))
 have hb4:Blk w4 x 60 (sorterC A 0 ne (.slice a vs.length c)):=(HH2.out.blk.below hB3 HXL2.out).upon hu4 HXQ.out;have hqx:¬Q4 x:=λh=>(hq4 x h).elim HXQ.out (λh=>by have:=Nat.lt_of_lt_of_le HXL2.out hB3.size;omega)
 have f5:=hb4.frozen 5;have f6:=hb4.frozen 6;have g5:=hk4.2;have g6:=hb4.cell 6
 simp[sorterC]at g6
 have HE:Hid (∃Q',Flushed S A w ((w4.setCell ⟨x,5,none⟩ (.int .i64 ((ne:Int)+1))).setCell ⟨x,6,none⟩ (.slice none 0 0)) Q F n x ne held Q'):=jq (by
  obtain⟨W,hW⟩:=jl ((w4.setCell ⟨x,5,none⟩ (.int .i64 ((ne:Int)+1))).setCell ⟨x,6,none⟩ (.slice none 0 0));have ho:Only [x] w4 W:=by rw[hW];exact((Only.refl [x] w4).set (p:=⟨x,5,none⟩) (.inl (by simp)) _).set (p:=⟨x,6,none⟩) (.inl (by simp)) _
  have hbW:Blk W x 60 (sorterC A 0 (ne+1) (.slice none 0 0)):=by
   have:=(hb4.set 5 (.int .i64 ((ne:Int)+1))).set 6 (.slice none 0 0);rw[<-hW]at this
   simpa[sorterC]using this
  rw[<-hW];refine⟨Q4,⟨⟨rfl,hbW,?_,held_none W A.wd,λ_ h=>h.elim,(λ_ h=>by cases h),hqx,hok,by simp,by omega⟩,λk hk=>?_,?_⟩⟩
  ·have:=S.keep hst4 ho.size (λk hk=>ho.block k (S.lt hst4 k hk) (by rintro h;rw[jE.1 h]at hk;exact hqx hk));rw[HBS.out]at this;exact this
  ·rcases hq4 k hk with h|h
   ·exact .inl h
   ·right
    have:=HBB.out.size;have:=hB3.size
    omega
  ·have h1:Upon (λk=>Q k\/k=x) w w2:=Upon.of_below HBB.out;have h2:Upon (λk=>Q k\/k=x) w2 w4:=((Upon.of_below (P:=λk=>Q k\/k=x) hB3).trans (hu4.mono (λk h=>.inl h)) (λg h=>.inl h));have h3:Upon (λk=>Q k\/k=x) w4 W:=Upon.of_only ho (λg hg=>.inl (.inr (jE.1 hg)));exact(h1.trans h2 (λg h=>.inl h)).trans h3 (λg h=>.inl h))
 clear hst4 hq4 hu4 hb4 hqx hB3 hk3 hk4 q0 q5 HWR HNM
 go_wp2_with fail
 go_ret
 exact⟨rfl,HE.out⟩
end Runs
namespace Runs
open Go.RowKit Go.Deep Go.Shelf Mem Crc Merge
open Store (Sto Files setF nv)
attribute [local go_sem] Oper.semAt_some
structure Putted {s:Nat} (S:Store.Sto s) (A:Fi) (w w':World) (Q R:Nat->Prop) (off:Bool) (F:Files) (n x ne:Nat) (hv:Value) (held:List B) (R':Nat->Prop) (hv':Value) (vs':List SL):Prop where
 srt:Srt S A w' Q R' off F n x ne hv' vs' held
 r:∀k,R' k->R k\/w.heap.size<=k
 r0:∀k,R k->R' k
 h:∀k,hv'.ownBlock=some k->hv.ownBlock=some k\/w.heap.size<=k
 upon:Upon (λk=>k=x\/hv.ownBlock=some k) w w'
theorem own_len_shape {w:World} {base bl:Nat} {v:Value} {b:B} (h:bl=b.length) (hO:OwnB w base v b):∃a c,v=.slice a bl c:=by
 obtain⟨a,c,e,_⟩:=own_shape hO;exact⟨a,c,by rw[e,h]⟩
theorem put_end {s:Nat} {S:Store.Sto s} {A:Fi} {w w1 w2:World} {Q R:Nat->Prop} {off:Bool} {F:Files} {n x ne:Nat} {hv:Value} {vs:List SL} {held:List B} {b:B} (h:Srt S A w Q R off F n x ne hv vs held) (hb:b.length=A.wd) (hroom:held.length<A.rm)
  {va:Option Addr} {vc:Nat} (hB1:Below w.heap.size w w1) (hO1:OwnB w1 w.heap.size (.slice va b.length vc) b) {g3 cap3:Nat} (hown:w2.ownsRow 0 24 1 (.slice (some ⟨g3,0,none⟩) (vs.length+1) cap3) (vs.length+1) (vs.map sl++ [.slice va b.length vc]))
  (hg: (w1.alloc (.cells #[.slice va b.length vc] 24)).grownBy w2 hv.ownBlock) (hat:hv.ownBlock=some g3\/g3=(w1.alloc (.cells #[.slice va b.length vc] 24)).heap.size):
  ∃R' hv' vs',Putted S A w (w2.setCell ⟨x,6,none⟩ (.slice (some ⟨g3,0,none⟩) (vs.length+1) cap3)) Q R off F n x ne hv (held++ [b]) R' hv' vs':=by
 obtain⟨W,hW⟩:=jl (w2.setCell ⟨x,6,none⟩ (.slice (some ⟨g3,0,none⟩) (vs.length+1) cap3));rw[<-hW];obtain⟨_,_,_,_,hL1,hbl,_⟩:=own_shape hO1;have hz1:=hB1.size;have hz2:=hg.size
 simp at hz2
 have hB2:Below w.heap.size w (w1.alloc (.cells #[.slice va b.length vc] 24)):=hB1.alloc hz1 _;have h2:=h.later hB2;have hug:Upon (λk=>hv.ownBlock=some k) (w1.alloc (.cells #[.slice va b.length vc] 24)) w2:=Upon.of_grown hg (λk hk=>.inl hk);have huW:Upon (λk=>k=x) w2 W:=by rw[hW];exact(Upon.refl (λk=>k=x) w2).set (p:=⟨x,6,none⟩) (.inl rfl) _
 have hu:Upon (λk=>k=x\/hv.ownBlock=some k) (w1.alloc (.cells #[.slice va b.length vc] 24)) W:=(hug.mono (λk h=>.inr h)).trans (huW.mono (λk h=>.inl h)) (λk h=>.inl h);have hxo:hv.ownBlock≠some x:=λe=>(h.hq x e).2 rfl
 have hg3x:g3≠x:=λe=>by
  rcases hat with e2|e2
  ·exact hxo (by rw[e2,e])
  ·have:=h2.blk.lt
   omega
 have hg3r:∀k,R k->k≠g3:=λk hk e=>by
  rcases hat with e2|e2
  ·exact h.mem.apart k hk (by rw[e2,e])
  ·have:=h2.mem.rlt k hk
   omega
 refine⟨λk=>R k\/(w.heap.size<=k/\k<w1.heap.size),.slice (some ⟨g3,0,none⟩) (vs.length+1) cap3,vs++ [(va,b.length,vc)],⟨⟨h.sIs,?_,?_,⟨?_,?_,?_,?_,?_,?_⟩,?_,?_,h.xq,h.ok,?_,h.few⟩,?_,?_,?_,?_⟩⟩
 ·have hb:=(h2.blk.upon hug hxo).set 6 (.slice (some ⟨g3,0,none⟩) (vs.length+1) cap3);rw[<-hW]at hb
  simpa[sorterC]using hb
 ·exact S.upon h2.sto hu (λk hk hq=>by
   rcases hk with rfl|hk
   ·exact h.xq hq
   ·exact(h.hq k hk).1 hq)
 ·have:=own_upon hown huW (λg hg e=>by
   have:g3=g:=by simpa[Value.ownBlock]using hg
   omega)
  simpa[OwnL,sl]using this
 ·rw[List.map_append];refine RecsIn.snoc (recs_upon h2.mem.recs hu h2.mem.rb (λg hg e=>?_)) ⟨va,vc,rfl,?_,?_⟩
  ·rcases e with rfl|e
   ·exact(h.rq _ hg).2 rfl
   ·exact h.mem.apart g hg e
  ·obtain⟨_,_,e,h1,_⟩:=own_shape hO1;cases e;exact h1
  ·obtain⟨_,_,e,_,h3,h4,_⟩:=own_shape hO1;cases e;refine Lies.upon (h3.later ((Below.refl _ w1).alloc jn _)) hu (λg hg e=>?_);have:=h4 g hg;have hx:=h.blk.lt;rcases e with rfl|e
   ·omega
   ·have:=(h.mem.own.lt g e).2
    omega
 ·intro c hc;rcases List.mem_append.1 hc with hc|hc
  ·exact h.mem.wide c hc
  ·rw[jE.1 hc];exact hb
 ·intro y hy g hg;rcases List.mem_append.1 hy with hy|hy
  ·exact .inl (h.mem.rb y hy g hg)
  ·rw[jE.1 hy]at hg;obtain⟨_,_,e,_,_,h4,_⟩:=own_shape hO1;cases e;exact .inr (h4 g hg)
 ·intro g hg;have hs:=huW.size;rcases hg with hg|hg
  ·have:=h.mem.rlt g hg
   omega
  ·omega
 ·intro g hg e;have e2:g3=g:=by simpa[Value.ownBlock]using e
  rcases hg with hg|hg
  ·exact hg3r g hg e2.symm
  ·rcases hat with e3|e3
   ·have:=(h.mem.own.lt g3 e3).2
    omega
   ·simp at e3
    omega
 ·intro g hg;rcases hg with hg|hg
  ·exact h.rq g hg
  ·refine⟨λhq=>?_,?_⟩
   ·have:=S.lt h.sto g hq
    omega
   ·have:=h.blk.lt
    omega
 ·intro g hg;have e2:g3=g:=by simpa[Value.ownBlock]using hg
  rw[<-e2];refine⟨λhq=>?_,hg3x⟩;rcases hat with e3|e3
  ·exact(h.hq g3 e3).1 hq
  ·have:=S.lt h.sto g3 hq
   simp at e3
   omega
 ·rw[jL];simp;omega
 ·intro k hk;rcases hk with hk|hk
  ·exact .inl hk
  ·exact .inr hk.1
 ·exact λk hk=>.inl hk
 ·intro k hk;have e2:g3=k:=by simpa[Value.ownBlock]using hk
  rw[<-e2];rcases hat with e3|e3
  ·exact .inl e3
  ·right
   simp at e3
   omega
 ·exact(Upon.of_below hB2).trans hu (λg h=>.inl h)
theorem put_room {s:Nat} {S:Store.Sto s} {A:Fi} {w:World} {Q R:Nat->Prop} {off:Bool} {F:Files} {n x ne:Nat} {hv:Value} {vs:List SL} {held:List B} (h:Srt S A w Q R off F n x ne hv vs held) (hroom:held.length<A.rm) {b:B} (hb:b.length=A.wd) (a:Option Addr) (cp:Nat) (hL:Lies w a (b.map bv)):
  Calls Tryz.prog 14 #[.pointer (some ⟨x,0,none⟩),.slice a b.length cp] w λe w'=>e=.returned (.int .i64 0)/\∃R' hv' vs',Putted S A w w' Q R off F n x ne hv (held++ [b]) R' hv' vs':=by
 obtain⟨k1,k2,k3,k4,k5,k6⟩:=id h.ok;have hlv:vs.length=held.length:=by simpa using h.mem.recs.len
 have c2:=h.cell 2;have c3:=h.cell 3;have c6:=h.cell 6
 simp[sorterC]at c2 c3 c6
 obtain⟨hva,hvc,ehv,hcc,_,_,hvo⟩:=own_shape h.mem.own;obtain⟨i0,hi0,hz0,hz1,hz2⟩:=info_parts infoSl
 have hne: ((vs.length:Int)==(A.rm:Int))=false:=by
  have:¬(vs.length:Int)=(A.rm:Int):=by omega
  simpa using this
 have hvl:vs.length<=4096:=by omega
 have HC:=jq (λw0 (hB0:Below w.heap.size w w0)=>clone_any a cp b w0 (hL.later hB0) (by omega));have HXL:=jq h.blk.lt;have HF:=jq (h.blk.frozen 6);have HEND:=jq (fun(w1 w2:World) (va:Option Addr) (vc g3 cap3:Nat) (hB1:Below w.heap.size w w1) hO1 hown hg hat=>put_end (w1:=w1) (w2:=w2) (va:=va) (vc:=vc) (g3:=g3) (cap3:=cap3) h hb hroom hB1 hO1 hown hg hat);have HO:=jq (fun(w1:World) (hB1:Below w.heap.size w w1)=>own_later h.mem.own hB1);have HV:=jq (show∀k,hv.ownBlock=some k->k<w.heap.size/\k≠x from λk hk=>⟨(h.mem.own.lt k hk).2,(h.hq k hk).2⟩);have hq0:=Below.refl w.heap.size w;obtain⟨bl,hbl⟩:=jl b.length;rw[<-hb,<-hbl]at c2;rw[<-hbl]at HC HEND⊢;obtain⟨ln,hln⟩:=jl vs.length;rw[<-hln]at hne ehv HEND hvl;have HOL:=jq (show∀w1:World,w1.ownsRow 0 24 1 hv vs.length (vs.map sl)->w1.ownsRow 0 24 1 (.slice hva ln hvc) ln (vs.map sl)from λw1 h=>by rw[<-ehv,hln];exact h);subst ehv;have hbl2:bl<=64:=by omega
 have HBLE:=jq hbl;clear h hb hL hbl hln hlv hcc hvo
 go_enter Tryz.func14,Tryz.ntmps14
 go_wp2_with fail
 go_quiet (fail)
 obtain⟨V,hV⟩:=jl (w.drewN nq);have hBV:Below w.heap.size w V:=by rw[hV];exact⟨rfl,rfl,rfl,Nat.le_refl _,λ_ _=>rfl⟩
 have q6:V.cell? ⟨x,6,none⟩=some (.slice hva ln hvc):=(hBV.cell (p:=⟨x,6,none⟩) HXL.out).trans c6;rw[<-hV];have HBV:=jq hBV;have HDV:=jq (hBV.drew);clear hV hBV c2 c3 hne
 go_wp2_with fail
 go_region_law ((first|(go_simp;go_at_call 37;refine(HC.out V.drew HDV.out).mono ?_;rintro e w1 ⟨v1,rfl,hO1,hB1⟩;obtain⟨va,vc,rfl⟩:=own_len_shape HBLE.out hO1;have hB01:Below w.heap.size w w1:=HDV.out.trans (hB1.mono HBV.out.size);have hk1:=(hB01.cell (p:=⟨x,6,none⟩) HXL.out).trans ((hq0.cell (p:=⟨x,6,none⟩) HXL.out).trans c6);have hB02:=hB01.alloc hB01.size (.cells #[.slice va bl vc] 24);have hk2:=(hB02.cell (p:=⟨x,6,none⟩) HXL.out).trans c6;have HOW:=jq (HOL.out _ (HO.out _ hB02));have HB01:=jq hB01;have HB02:=jq hB02;have HO1:=jq (own_mono hO1 HBV.out.size);clear hO1 hB1 hB01 hB02;dsimp only)|(refine step_append_lies _ rfl (.tmp 37) (.tmp 40) 25 rfl 0 24 i0 (.slice none 0 0) 1 24 Tryz.underlying25 hi0 hz0 hz1 hz2 rfl (by decide) (.slice hva ln hvc) ln (vs.map sl) (by simp[Act.eval]) HOW.out ⟨w1.heap.size,0,none⟩ 1 1 [.slice va bl vc] (by simp[Act.eval]) rfl (one_at rfl) (by simp[Value.oneCell']) (by decide) (by unfold maxLen;omega) (by omega) (Nat.zero_le _) _ rfl ?_;intro g3 cap3 w3 hown3 hgrow3 hat3 hlt3;have hk3:=(hgrow3.cell_far ⟨x,6,none⟩ (Nat.lt_of_lt_of_le HXL.out HB02.out.size) (λe=>(HV.out x e.symm).2 rfl)).trans hk2;have f3:=(hgrow3.frozen_far ⟨x,6,none⟩ (Nat.lt_of_lt_of_le HXL.out HB02.out.size) (λe=>(HV.out x e.symm).2 rfl)).trans ((HB02.out.frozen (p:=⟨x,6,none⟩) HXL.out).trans HF.out))))
 all_goals
  go_wp2_with fail
  go_ret
  exact⟨rfl,HEND.out w1 w3 va vc g3 cap3 HB01.out HO1.out hown3 hgrow3 hat3⟩
end Runs
namespace Runs
open Go.RowKit Go.Deep Go.Shelf Mem Crc Merge
open Store (Sto Files setF nv)
attribute [local go_sem] Oper.semAt_some
theorem put_full {s:Nat} {S:Store.Sto s} {A:Fi} {w0:World} {Q0 R0:Nat->Prop} {F0:Files} {n0 x ne0:Nat} {hv0:Value} {vs0:List SL} {held0:List B} (h0:Srt S A w0 Q0 R0 false F0 n0 x ne0 hv0 vs0 held0) (hfull:held0.length=A.rm) (hn0:n0<100000) (hne0:ne0<100000) {b:B} (hb:b.length=A.wd) (a:Option Addr) (cp:Nat) (hL0:Lies w0 a (b.map bv)) (hLQ:∀g,Mem.blk a=some g->¬Q0 g/\g≠x):
  Calls Tryz.prog 14 #[.pointer (some ⟨x,0,none⟩),.slice a b.length cp] w0 λe w'=>e=.returned (.int .i64 0)/\∃w1 Q1 R' hv' vs',Flushed S A w0 w1 Q0 F0 n0 x ne0 held0 Q1/\Putted S A w1 w' Q1 (λ_=>False) false (setF F0 (rname A.pf ne0) (some (runB held0))) (n0+1) x (ne0+1) (.slice none 0 0) [b] R' hv' vs':=by
 obtain⟨k1,k2,k3,k4,k5,k6⟩:=id h0.ok;have hlv:vs0.length=held0.length:=by simpa using h0.mem.recs.len
 have c2:=h0.cell 2;have c3:=h0.cell 3;have c6:=h0.cell 6
 simp[sorterC]at c2 c3 c6
 obtain⟨hva0,hvc0,ehv0,hcc,_,_,_⟩:=own_shape h0.mem.own;obtain⟨i0,hi0,hz0,hz1,hz2⟩:=info_parts infoSl
 have hne: ((vs0.length:Int)==(A.rm:Int))=true:=by
  have: (vs0.length:Int)=(A.rm:Int):=by omega
  simpa using this
 obtain⟨bl,hbl⟩:=jl b.length;rw[<-hb,<-hbl]at c2;rw[<-hbl];obtain⟨ln0,hln0⟩:=jl vs0.length;rw[<-hln0]at hne ehv0;subst ehv0;have hvl0:ln0<=4096:=by omega
 have hbl2:bl<=64:=by omega
 have H0:=jq h0;have HFULL:=jq hfull;have HL0:=jq hL0;have HLQ:=jq hLQ;have HB:=jq hb;have HBLE:=jq hbl;clear h0 hfull hL0 hLQ hb hbl hln0 hlv hcc
 go_enter Tryz.func14,Tryz.ntmps14
 go_wp2_with fail
 go_quiet (fail)
 obtain⟨V0,hV0⟩:=jl (w0.drewN nq);have hBV0:Below w0.heap.size w0 V0:=by rw[hV0];exact⟨rfl,rfl,rfl,Nat.le_refl _,λ_ _=>rfl⟩
 rw[<-hV0];have HBV0:=jq hBV0
 have HFL:=jq (flush_any (H0.out.later hBV0) (λe=>by
  have:=HFULL.out;rw[e]at this
  simp at this
  omega) hn0 hne0)
 clear hV0 hBV0 c2 c3 c6 hne
 go_wp2_with fail
 refine HFL.out.mono ?_;rintro e w ⟨rfl,Q,hfl⟩;have HFD:=jq (show Flushed S A w0 w Q0 F0 n0 x ne0 held0 Q from⟨hfl.srt,λk hk=>(hfl.q k hk).imp id (λh=>Nat.le_trans HBV0.out.size h),(Upon.of_below HBV0.out).trans hfl.upon (λg h=>.inl h)⟩);have h:=hfl.srt;obtain⟨F,hF⟩:=jl (setF F0 (rname A.pf ne0) (some (runB held0)));obtain⟨n,hn⟩:=jl (n0+1);obtain⟨ne,hne⟩:=jl (ne0+1);rw[<-hF,<-hn,<-hne]at h;have hL:Lies w a (b.map bv):=(HL0.out.later HBV0.out).upon hfl.upon (λg hg e=>e.elim (HLQ.out g hg).1 (HLQ.out g hg).2);obtain⟨hva,hhva⟩:∃hva:Option Addr,hva=none:=⟨_,rfl⟩;obtain⟨hvc,hhvc⟩:∃hvc:Nat,hvc=0:=⟨_,rfl⟩;obtain⟨ln,hln⟩:∃ln:Nat,ln=0:=⟨_,rfl⟩;obtain⟨vs,hvs⟩:∃vs:List SL,vs= []:=⟨_,rfl⟩;obtain⟨R,hR⟩:∃R:Nat->Prop,R=λ_=>False:=⟨_,rfl⟩
 obtain⟨held,hheld⟩:∃held:List B,held= []:=⟨_,rfl⟩;have eh: (Value.slice none 0 0)=.slice hva ln hvc:=by rw[hhva,hln,hhvc]
 rw[eh,<-hvs,<-hR,<-hheld]at h;have hlnv:ln=vs.length:=by rw[hln,hvs];rfl
 have hvl:ln<=4096:=by omega
 have c6:=h.cell 6
 simp[sorterC]at c6
 have HC:=jq (λw0 (hB0:Below w.heap.size w w0)=>clone_any a cp b w0 (hL.later hB0) (by have:=HBLE.out;omega));have HXL:=jq h.blk.lt;have HF:=jq (h.blk.frozen 6);have HEND:=jq (fun(w1 w2:World) (va:Option Addr) (vc g3 cap3:Nat) (hB1:Below w.heap.size w w1) hO1 hown hg hat=>put_end (w1:=w1) (w2:=w2) (va:=va) (vc:=vc) (g3:=g3) (cap3:=cap3) h HB.out (by rw[hheld];simp;omega) hB1 hO1 hown hg hat);have HO:=jq (fun(w1:World) (hB1:Below w.heap.size w w1)=>own_later h.mem.own hB1);have HV:=jq (show∀k,(Value.slice hva ln hvc).ownBlock=some k->k<w.heap.size/\k≠x from λk hk=>⟨(h.mem.own.lt k hk).2,(h.hq k hk).2⟩);have hq0:=Below.refl w.heap.size w;rw[<-hlnv]at HEND;rw[<-HBLE.out]at HC HEND;have HOL:=jq (show∀w1:World,w1.ownsRow 0 24 1 (.slice hva ln hvc) vs.length (vs.map sl)->w1.ownsRow 0 24 1 (.slice hva ln hvc) ln (vs.map sl)from λw1 h=>by rw[<-hlnv]at h;exact h);have HEQ:=jq (And.intro hF (And.intro hn (And.intro hne (And.intro eh (And.intro hR hheld)))));clear h hL hF hn hne hhva hhvc hln hvs hR hheld eh hlnv hfl HFL
 go_wp2_with fail
 obtain⟨V,hV⟩:=jl w;have HBV:=jq (show Below w.heap.size w V from hV▸hq0);have HDV:=jq (HBV.out.drew);have q6:V.cell? ⟨x,6,none⟩=some (.slice hva ln hvc):=(HBV.out.cell (p:=⟨x,6,none⟩) HXL.out).trans c6;rw[<-hV];clear hV
 go_region_law ((first|(go_simp;go_at_call 37;refine(HC.out V.drew HDV.out).mono ?_;rintro e w1 ⟨v1,rfl,hO1,hB1⟩;obtain⟨va,vc,rfl⟩:=own_len_shape HBLE.out hO1;have hB01:Below w.heap.size w w1:=HDV.out.trans (hB1.mono HBV.out.size);have hk1:=(hB01.cell (p:=⟨x,6,none⟩) HXL.out).trans ((hq0.cell (p:=⟨x,6,none⟩) HXL.out).trans c6);have hB02:=hB01.alloc hB01.size (.cells #[.slice va bl vc] 24);have hk2:=(hB02.cell (p:=⟨x,6,none⟩) HXL.out).trans c6;have HOW:=jq (HOL.out _ (HO.out _ hB02));have HB01:=jq hB01;have HB02:=jq hB02;have HO1:=jq (own_mono hO1 HBV.out.size);clear hO1 hB1 hB01 hB02;dsimp only)|(refine step_append_lies _ rfl (.tmp 37) (.tmp 40) 25 rfl 0 24 i0 (.slice none 0 0) 1 24 Tryz.underlying25 hi0 hz0 hz1 hz2 rfl (by decide) (.slice hva ln hvc) ln (vs.map sl) (by simp[Act.eval]) HOW.out ⟨w1.heap.size,0,none⟩ 1 1 [.slice va bl vc] (by simp[Act.eval]) rfl (one_at rfl) (by simp[Value.oneCell']) (by decide) (by unfold maxLen;omega) (by omega) (Nat.zero_le _) _ rfl ?_;intro g3 cap3 w3 hown3 hgrow3 hat3 hlt3;have hk3:=(hgrow3.cell_far ⟨x,6,none⟩ (Nat.lt_of_lt_of_le HXL.out HB02.out.size) (λe=>(HV.out x e.symm).2 rfl)).trans hk2;have f3:=(hgrow3.frozen_far ⟨x,6,none⟩ (Nat.lt_of_lt_of_le HXL.out HB02.out.size) (λe=>(HV.out x e.symm).2 rfl)).trans ((HB02.out.frozen (p:=⟨x,6,none⟩) HXL.out).trans HF.out))))
 all_goals
  go_wp2_with fail
  go_ret
  obtain⟨R',hv',vs',hp⟩:=HEND.out w1 w3 va vc g3 cap3 HB01.out HO1.out hown3 hgrow3 hat3;obtain⟨e1,e2,e3,e4,e5,e6⟩:=HEQ.out;rw[e6]at hp;rw[e5]at hp;rw[<-e4]at hp;rw[e3]at hp;rw[e2]at hp;rw[e1]at hp;exact⟨rfl,w,Q,R',hv',vs',HFD.out,hp⟩
end Runs
namespace Runs
open Go.RowKit Go.Deep Go.Shelf Mem Crc Go.Maps Merge
open Store (Sto Files setF nv len_name contains_name)
open Go.Proofs.YtcdcnhecimajkaaGreatDoor.Text (dec decA dig)
attribute [local go_sem] Oper.semAt_some
theorem contains_any (v:Value) (B0:Nat) (ss:List (List UInt8)) (nm:List UInt8) (w:World) (h:w.ownsRow B0 9 1 v ss.length (ss.map encStr)) (hm:ss.length<=1000000):
  Calls Tryz.prog 18 #[v,nv nm] w λe w'=>∃b:Bool,e=.returned (.bool b)/\(b=true↔nm∈ss)/\w=w':=by
 obtain⟨a,cap,rfl,hc,hL,_,_⟩:=own_shape h
 by_cases h0:ss= []
 ·subst h0;refine(Tryz.slices_Contains_string_empty a cap ⟨nm.toArray⟩ w).mono ?_;rintro e w' ⟨rfl,rfl⟩;exact⟨false,rfl,by simp,rfl⟩
 ·obtain⟨g,off,rfl,_,hcs⟩:=hL.resolve_left (λe=>by
   rw[List.map_eq_nil_iff]at e;exact h0 e)
  refine(Tryz.slices_Contains_string g off ss.length cap (ss.map λl=>(⟨l.toArray⟩:ByteArray)) ⟨nm.toArray⟩ w (by simp) (by omega) (λj hj=>by
   rw[jP]at hj;have:=hcs j (encStr ss[j]) (by simp[hj]);rw[this]
   simp[hj])).mono ?_
  rintro e w' ⟨rfl,rfl⟩;refine⟨_,rfl,?_,rfl⟩;rw[Lib.containsS_iff,jW (by simp),List.mem_map]
  constructor
  ·rintro⟨l,hl,e⟩
   have:l=nm:=by
    have:=congrArg (λb:ByteArray=>b.data.toList) e
    simpa using this
   rw[<-this];exact hl
  ·exact λh=>⟨nm,h,rfl⟩
structure Newed {s:Nat} (S:Store.Sto s) (A:Fi) (w w':World) (Q:Nat->Prop) (off:Bool) (F:Files) (n x ne:Nat):Prop where
 srt:Srt S A w' Q (λ_=>False) off F n x ne (.slice none 0 0) [] []
 fresh:w.heap.size<=x
 below:Below w.heap.size w w'
 runs:∀j,j<ne->F (rname A.pf j)≠none
 last:F (rname A.pf ne)=none
structure Counts {s:Nat} (S:Store.Sto s) (A:Fi) (w wr:World) (Q:Nat->Prop) (off:Bool) (F:Files) (n x k:Nat) (v:Value) (ss:List (List UInt8)):Prop where
 srt:Srt S A wr Q (λ_=>False) off F n x k (.slice none 0 0) [] []
 below:Below w.heap.size w wr
 runs:∀j,j<k->F (rname A.pf j)≠none
 names:wr.ownsRow w.heap.size 9 1 v ss.length (ss.map encStr)
 few:k<=ss.length
def nextOf (x:Nat) (w:World):Nat:=match w.cell? ⟨x,5,none⟩with
 |some (.int _ i)=>i.toNat
 |_=>0
theorem Counts.next {s:Nat} {S:Store.Sto s} {A:Fi} {w wr:World} {Q:Nat->Prop} {off:Bool} {F:Files} {n x k:Nat} {v:Value} {ss:List (List UInt8)} (h:Counts S A w wr Q off F n x k v ss):nextOf x wr=k:=by
 have c:=h.srt.cell 5
 simp[sorterC]at c
 unfold nextOf;rw[c]
 simp
theorem new_any {s:Nat} (S:Store.Sto s) (A:Fi) (hs:A.s=s) (hok:A.ok) {w:World} {Q:Nat->Prop} {off:Bool} {F:Files} {n:Nat} (h:S.At w Q off F n):
  Calls Tryz.prog 6 #[.pointer (some ⟨A.s,0,none⟩),nv A.pf,.int .i64 A.wd,.int .i64 A.rm] w λe w'=>∃x ne,e=.returned (.tuple #[.pointer (some ⟨x,0,none⟩),.int .i64 0])/\Newed S A w w' Q off F n x ne:=by
 subst hs;obtain⟨k1,k2,k3,k4,k5,k6⟩:=id hok;obtain⟨pf,hpf⟩:∃pf:ByteArray,.string pf=nv A.pf:=⟨_,rfl⟩;obtain⟨ln,hln⟩:=jl A.pf.length;have hlen:=len_name A.pf;rw[<-hpf,<-hln]at hlen
 have t1: ((ln:Int)==0)=false:=by
  have:¬(ln:Int)=0:=by omega
  simpa using this
 have t2:decide (16<(ln:Int))=false:=by simp;omega
 have t3:decide ((A.wd:Int) <1)=false:=by simp;omega
 have t4:decide (64<(A.wd:Int))=false:=by simp;omega
 have t5:decide ((A.rm:Int) <1)=false:=by simp;omega
 have t6:decide (4096<(A.rm:Int))=false:=by simp;omega
 rw[<-hpf];have HPF:=jq hpf;have H:=jq h;have HOK:=jq hok;clear h hpf hln hok
 go_enter Tryz.func6,Tryz.ntmps6
 go_wp2_with fail
 obtain⟨W,hW⟩:=jl (w.alloc (.cells #[.pointer (some ⟨A.s,0,none⟩),.string pf,.int .i64 A.wd,.int .i64 A.rm,.int .i64 0,.int .i64 0,.slice none 0 0] 60));have hBW:Below w.heap.size w W:=by rw[hW];exact(Below.refl _ w).alloc jn _
 have hbk:Blk W w.heap.size 60 (sorterC A 0 0 (.slice none 0 0)):=by rw[hW];unfold sorterC;rw[<-HPF.out];exact Blk.new w _ _
 rw[<-hW];obtain⟨x,hx⟩:=jl w.heap.size;rw[<-hx]at hbk⊢;have hst:Srt S A W Q (λ_=>False) off F n x 0 (.slice none 0 0) [] []:=⟨rfl,hbk,S.later H.out hBW,held_none W A.wd,(λ_ h=>h.elim),(λ_ h=>by cases h),(λhq=>by have:=S.lt H.out x hq;omega),HOK.out,by simp,by omega⟩;have HNM:=jq (S.names hst.sto);have HST:=jq hst;have HBW:=jq hBW;have HXW:=jq (show w.heap.size<=x by omega);clear hW hBW hbk hx hst t1 t2 t3 t4 t5 t6 hlen;refine HNM.out.mono ?_;rintro e w1 ⟨v,ss,rfl,hO,hmem,hle,hB1⟩;have HC:=jq (show Counts S A w w1 Q off F n x 0 v ss from⟨HST.out.later hB1,HBW.out.trans (hB1.mono HBW.out.size),λj hj=>by omega,own_mono hO HBW.out.size,Nat.zero_le _⟩);have HMEM:=jq hmem;clear hO hmem hB1 HNM HST
 go_wp2_with fail
 go_loopw[] (λwr=>∃k,Counts S A w wr Q off F n x k v ss) (λwr=>ss.length-nextOf x wr)
 case atStart=>exact⟨0,HC.out⟩
 case round=>
  obtain⟨k,hk⟩:=hrel;have hnx:=hk.next;have hkf:=hk.few;have c1:=hk.srt.cell 1;have c5:=hk.srt.cell 5
  simp[sorterC]at c1 c5
  have HNA:=jq (name_any A.pf k2 k (by omega) x wr c1 hk.srt.blk.lt);have HK:=jq hk;have HNX:=jq hnx;clear hk hnx c1
  go_wp2_with fail
  refine HNA.out.mono ?_;rintro e w2 ⟨rfl,hB2⟩;have HB2:=jq hB2;have HCO:=jq (contains_any v _ ss (rname A.pf k) w2 (own_later HK.out.names hB2) (by omega));obtain⟨nm,hnm⟩:=jl (nv (rname A.pf k));rw[<-hnm]at HCO⊢;clear hB2 HNA hnm
  go_wp2_with fail
  refine HCO.out.mono ?_;rintro e w3 ⟨b,rfl,hb,rfl⟩;have hk2:=HK.out.srt.later HB2.out;have d5:=hk2.cell 5;have f5:=hk2.blk.frozen 5
  simp[sorterC]at d5
  cases b
  ·have HE:=jq (show Newed S A w w2 Q off F n x k from⟨hk2,HXW.out,HK.out.below.trans (HB2.out.mono HK.out.below.size),HK.out.runs,by
    have:¬rname A.pf k∈ss:=λh=>by have:=hb.2 h;simp at this
    rw[HMEM.out]at this
    simpa using this⟩)
   clear hk2 hb f5 d5
   go_wp2_with fail
   go_ret2
   exact⟨x,k,rfl,HE.out⟩
  ·have hin:=hb.1 rfl
   have HE:=jq (show Counts S A w (w2.setCell ⟨x,5,none⟩ (.int .i64 ((k:Int)+1))) Q off F n x (k+1) v ss from by
    have hB2:=HB2.out
    have hal:∀j,j<k+1->F (rname A.pf j)≠none:=λj hj=>by
     by_cases e:j=k
     ·rw[e];exact(HMEM.out _).1 hin
     ·exact HK.out.runs j (by omega)
    have hku:k+1<=ss.length:=among_le (rname A.pf) (k+1) ss (λi j hi hj e=>rname_inj (by omega) (by omega) e) (λj hj=>(HMEM.out _).2 (hal j hj));have ho:Only [x] w2 (w2.setCell ⟨x,5,none⟩ (.int .i64 ((k:Int)+1))):=(Only.refl [x] w2).set (p:=⟨x,5,none⟩) (.inl (by simp)) _
    have hbk:Blk (w2.setCell ⟨x,5,none⟩ (.int .i64 ((k:Int)+1))) x 60 (sorterC A 0 (k+1) (.slice none 0 0)):=by
     have:=hk2.blk.set 5 (.int .i64 ((k:Int)+1))
     simpa[sorterC]using this
    refine⟨⟨rfl,hbk,S.keep hk2.sto ho.size (λq hq=>ho.block q (S.lt hk2.sto q hq) (by rintro h;rw[jE.1 h]at hq;exact hk2.xq hq)),held_none _ A.wd,(λ_ h=>h.elim),(λ_ h=>by cases h),hk2.xq,hk2.ok,by simp,by omega⟩,?_,hal,?_,hku⟩
    ·exact(HK.out.below.trans (hB2.mono HK.out.below.size)).setCell (by exact HXW.out) _
    ·exact own_past (own_later HK.out.names hB2) hk2.blk (by decide) 5 _)
   have HM:=jq (show ss.length-nextOf x (w2.setCell ⟨x,5,none⟩ (.int .i64 ((k:Int)+1))) <ss.length-nextOf x wr from by
    rw[HE.out.next,HNX.out];have:=HE.out.few
    omega)
   clear hk2 hb hin
   go_wp2_with fail
   go_roundw
   case rel=>exact⟨k+1,HE.out⟩
   case measure=>exact HM.out
end Runs
namespace Runs
open Go.RowKit Go.Deep Go.Shelf Mem Crc Merge
open Store (Sto Files setF nv)
attribute [local go_sem] Oper.semAt_some
theorem pieces_recs {w:World} {g off wd:Nat}:∀(l:List B) (k:Nat),(∀b∈l,b.length=wd)->(∀i u,(l.flatten.map bv)[i]? =some u->w.cell? ⟨g,off+k*wd+i,none⟩=some u)->g<w.heap.size->RecsIn w (((List.range l.length).map λj=>((some ⟨g,off+(k+j)*wd,none⟩,wd,wd):SL)).map sl) l
 | [],_,_,_,_=>recsIn_nil w
 |b ::t,k,hw,hc,hg=>by
  have hb:=hw b (by simp)
  have ih:=pieces_recs t (k+1) (λc hc=>hw c (List.mem_cons_of_mem _ hc)) (λi u hu=>by
   have:=hc (wd+i) u (by
    rw[List.flatten_cons,List.map_append,List.getElem?_append_right (by rw[jP];omega),jP,hb,show wd+i-wd=i by omega];exact hu)
   rw[show off+(k+1)*wd+i=off+k*wd+(wd+i)by rw[Nat.succ_mul];omega];exact this) hg
  refine⟨by simp,λi v c hv hcl=>?_⟩
  cases i with
  |zero=>
   have ev:v=sl (some ⟨g,off+k*wd,none⟩,wd,wd):=by simpa using hv.symm
   have ec:c=b:=by simpa using hcl.symm
   subst ev ec;refine⟨_,wd,by rw[<-hb];rfl,by omega,.inr ⟨g,off+k*wd,rfl,hg,λi u hu=>hc i u ?_⟩⟩;rw[List.flatten_cons,List.map_append,List.getElem?_append_left (jS.1 hu).1];exact hu
  |succ i=>
   refine ih.at_ i v c ?_ (by simpa using hcl);rw[<-hv];simp only[List.length_cons,List.range_succ_eq_map,List.map_cons,List.map_map,jb]
   congr 1
   apply List.map_congr_left
   intro j _;simp only[Function.comp_apply];rw[show k+1+j=k+(j+1)by omega]
structure RunAt (w w':World) (l:List B) (v:Value) (vs:List SL):Prop where
 own:OwnL w' w.heap.size v vs
 recs:RecsIn w' (vs.map sl) (sortB l)
 fresh:∀y∈vs,∀g,Mem.blk y.1=some g->w.heap.size<=g
 below:Below w.heap.size w w'
theorem one_sec {l:List Go.Proofs.YtcdcnhecimajkaaGreatDoor.Frame.Sec} {k:UInt8} {b:List UInt8} (h:l.map Go.Proofs.YtcdcnhecimajkaaGreatDoor.Frame.Sec.kb= [(k,b)]):∃s,l= [s]/\s.kind=k/\s.body=b:=by
 match l,h with
 | [s],h=>
  have h:s.kb=(k,b):=by simpa using h
  exact⟨s,rfl,congrArg Prod.fst h,congrArg Prod.snd h⟩
theorem chunk_of (a:Option Addr) (len c wd:Nat) (hwd:0<wd) (w:World):
  Calls Tryz.prog 66 #[.slice a len c,.int .i64 wd] w λe w'=>e=.returned (.func (.func 105) #[] #[.pointer (some ⟨w.heap.size,0,none⟩),.pointer (some ⟨w.heap.size+1,0,none⟩)])/\Below w.heap.size w w'/\w'.cell? ⟨w.heap.size,0,none⟩=some (.slice a len c)/\w'.cell? ⟨w.heap.size+1,0,none⟩=some (.int .i64 wd)/\w.heap.size+1<w'.heap.size:=by
 refine(chunk_any a len c wd hwd w).mono ?_;rintro e w' ⟨rfl,rfl⟩;refine⟨rfl,((Below.refl _ w).alloc jn _).alloc (by simp) _,?_,?_,by simp⟩
 ·rw[((Blk.new w 24 #[.slice a len c]).alloc _).cell];rfl
 ·have:=(Blk.new (w.alloc (.cells #[.slice a len c] 24)) 3 #[.int .i64 wd]).cell 0;rw[World.size_alloc]at this;rw[this];rfl
theorem run_good {s:Nat} {S:Store.Sto s} {A:Fi} {w:World} {Q R:Nat->Prop} {F:Files} {n x ne:Nat} {hv:Value} {vs:List SL} {held:List B} (h:Srt S A w Q R false F n x ne hv vs held) (k:Nat) (hk:k<=1000000) (l:List B) (hl:∀b∈l,b.length=A.wd) (h0:l≠[]) (hmax:l.length<=4096) (hF:F (rname A.pf k)=some (runB l)):
  Calls Tryz.prog 57 #[.pointer (some ⟨x,0,none⟩),.int .i64 k] w λe w'=>∃v vs',e=.returned (.tuple #[v,.int .i64 0])/\RunAt w w' l v vs':=by
 obtain rfl:=h.sIs;obtain⟨k1,k2,k3,k4,k5,k6⟩:=id h.ok;have q0:=h.cell 0;have q1:=h.cell 1;have q2:=h.cell 2
 simp[sorterC]at q0 q1 q2
 have hml:l.length*A.wd<=262144:=Nat.mul_le_mul hmax k4;obtain⟨body,hbody⟩:=jl ((sortB l).flatten);have hbl:body.length=l.length*A.wd:=by rw[hbody];exact flat_sort hl
 have hrun:runB l=Go.Proofs.YtcdcnhecimajkaaGreatDoor.Frame.frameL 82 body:=by rw[hbody];rfl
 rw[hrun]at hF;have HNM:=jq (name_any A.pf k2 k hk x w.drew q1 h.blk.lt);have HRD:=jq (fun(W:World) (hW:Below w.heap.size w W)=>S.read_some (S.later h.sto hW) (rname A.pf k) _ hF);have HFR:=jq (Go.Proofs.YtcdcnhecimajkaaGreatDoor.Frame.all_frame 82 body (by omega));have HBL:=jq hbl;have HXL:=jq h.blk.lt;have HBO:=jq hbody;have H0:=jq h0;have HL:=jq hl;obtain⟨nm,hnm⟩:=jl (nv (rname A.pf k));rw[<-hnm]at HNM HRD;have HDR:=jq ((Below.refl w.heap.size w).drew);clear h hF hbl hrun hbody hnm h0 hl q1
 go_enter Tryz.func57,Tryz.ntmps57
 go_wp2_with fail
 go_region_held3 (λw'=>w'.cell? ⟨x,0,none⟩=some (.pointer (some ⟨A.s,0,none⟩))) (first|exact q0|exact hk3|exact hk2) ((first|(go_at_call 19;refine HNM.out.mono ?_;rintro e w1 ⟨rfl,hB1⟩;have hBd:=HDR.out.trans hB1;have hk2:=(hBd.cell (p:=⟨x,0,none⟩) HXL.out).trans q0;dsimp only)|(go_at_call 87;refine(HRD.out _ hBd).mono ?_;rintro e w2 ⟨v2,rfl,hO2,hB2⟩;have hBe:=hBd.trans (hB2.mono hBd.size);have hk3:=(hBe.cell (p:=⟨x,0,none⟩) HXL.out).trans q0;dsimp only)))
 obtain⟨va,vc,rfl,hvc,hL,_,_⟩:=own_shape hO2;have hAll:=Go.Proofs.YtcdcnhecimajkaaGreatDoor.Frame.all_any va vc _ w2 hL hvc (by rw[Go.Proofs.YtcdcnhecimajkaaGreatDoor.Frame.frameL_length,HBL.out];omega);have HAL:=jq hAll;have HBE:=jq hBe;clear hAll hL hO2 hB2 hBe hB1 hBd hk2 hk3
 go_wp2_with fail
 refine HAL.out.mono ?_;rintro e w3 ⟨⟨v3,secs,rfl,hO3,hkb,hbod⟩,hB3⟩;rw[HFR.out]at hkb⊢;obtain⟨sec,rfl,hsk,hsb⟩:=one_sec hkb;obtain⟨va3,vc3,rfl,hvc3,hL3,hbl3,_⟩:=own_shape hO3;have hbd:=hbod sec (by simp);obtain⟨g3,off3,rfl,hg3,hc3⟩:=hL3.resolve_left (λe=>by simp[Go.Proofs.YtcdcnhecimajkaaGreatDoor.Frame.flatS,Go.Proofs.YtcdcnhecimajkaaGreatDoor.Frame.Sec.vs]at e);have p0:=hc3 0 (.int .u8 82) (by simp[Go.Proofs.YtcdcnhecimajkaaGreatDoor.Frame.flatS,Go.Proofs.YtcdcnhecimajkaaGreatDoor.Frame.Sec.vs,hsk,bv]);have p1:=hc3 1 (.slice sec.a sec.body.length sec.cp) (by simp[Go.Proofs.YtcdcnhecimajkaaGreatDoor.Frame.flatS,Go.Proofs.YtcdcnhecimajkaaGreatDoor.Frame.Sec.vs]);rw[hsb]at p1 hbd;rw[Nat.add_zero]at p0;simp only[List.length_singleton];obtain⟨va4,vc4,ev4,hvc4,hL4,hbl4,_⟩:=own_shape hbd;injection ev4 with ea4 _ ec4;rw[<-ea4]at hL4 hbl4;rw[<-ec4]at hvc4;have hBZ:=HBE.out.trans (hB3.mono HBE.out.size);have q23:=(hBZ.cell (p:=⟨x,2,none⟩) HXL.out).trans q2;obtain⟨M,hM⟩:=jl body.length;rw[<-hM]at p1 hvc4;have hMM:M=l.length*A.wd:=hM.trans HBL.out;have hM1:M<=1000000:=by omega
 have hl0:0<l.length:=List.length_pos_iff.2 H0.out;have hM0:0<M:=by rw[hMM];exact Nat.mul_pos hl0 k3
 obtain⟨gb,ob,eb,hgb,hcb⟩:=hL4.resolve_left (λe=>by
  have:=congrArg List.length e;rw[jP,<-hM]at this
  simp at this
  omega)
 have hmod: (M:Int).tmod (A.wd:Int)=0:=by
  rw[hMM,Int.natCast_mul];exact Int.mul_tmod_left _ _
 have hwd0: ((A.wd:Int)==0)=false:=by
  have:¬(A.wd:Int)=0:=by omega
  simpa using this
 have hgbf:w.heap.size<=gb:=by
  have:=hbl4 gb (by rw[eb];rfl);have:=HBE.out.size
  omega
 rw[eb]at p1;have HCB:=jq hcb;have HM:=jq hMM;have HBZ:=jq hBZ;have HG3:=jq hg3;have HGB:=jq hgb;have HVC4:=jq hvc4;clear hkb hbod hO3 hL3 hc3 hL4 hB3 ea4 ec4 eb hbd hMM hM hBZ q2 q0 hcb hgb hvc4 hbl3 hbl4 hg3
 go_wp2_with fail
 go_quiet (fail)
 obtain⟨V,hV⟩:=jl (w3.drewN nq);have hBV:Below w3.heap.size w3 V:=by rw[hV];exact⟨rfl,rfl,rfl,Nat.le_refl _,λ_ _=>rfl⟩
 rw[<-hV];have v1:=(hBV.cell (p:=⟨g3,off3+1,none⟩) HG3.out).trans p1;have v2:=(hBV.cell (p:=⟨x,2,none⟩) (Nat.lt_of_lt_of_le HXL.out HBZ.out.size)).trans q23;have HBV:=jq hBV;have HG3V:=jq (Nat.lt_of_lt_of_le HG3.out hBV.size);have HXV:=jq (Nat.lt_of_lt_of_le (Nat.lt_of_lt_of_le HXL.out HBZ.out.size) hBV.size);have HDV:=jq ((Below.refl V.heap.size V).drew);have HCH:=jq (chunk_of (some ⟨gb,ob,none⟩) M sec.cp A.wd k3 V.drew)
 have HCP:=jq (fun(w4:World) (hBs:V.drew.heap.size+1<w4.heap.size) (hcs:w4.cell? ⟨V.drew.heap.size,0,none⟩=some (.slice (some ⟨gb,ob,none⟩) M sec.cp)) (hcn:w4.cell? ⟨V.drew.heap.size+1,0,none⟩=some (.int .i64 A.wd))=>
  collect_pieces (g:=gb) (off:=ob) (m:=l.length) (c:=sec.cp) k3 (by rw[<-HM.out];exact HVC4.out) (by rw[<-HM.out];exact hM1) w4 V.drew.heap.size (V.drew.heap.size+1) (by omega) hBs (by rw[<-HM.out];exact hcs) hcn)
 clear hV hBV p0 p1 q23 hmod hwd0
 go_wp2_with fail
 go_region_held3 (λw'=>w'.cell? ⟨g3,off3+1,none⟩=some (.slice (some ⟨gb,ob,none⟩) M sec.cp)/\w'.cell? ⟨x,2,none⟩=some (.int .i64 (A.wd:Int))) (first|exact⟨v1,v2⟩|exact hk4|exact hk5) ((first|(go_at_call 66;refine HCH.out.mono ?_;rintro e w4 ⟨rfl,hB4,b1,b2,b3⟩;have hB4:=HDV.out.trans hB4;have hk4:=And.intro ((hB4.cell (p:=⟨g3,off3+1,none⟩) HG3V.out).trans v1) ((hB4.cell (p:=⟨x,2,none⟩) HXV.out).trans v2);dsimp only)|(go_at_call 89;refine(HCP.out w4 b3 b1 b2).mono ?_;rintro e w5 ⟨v5,rfl,hO5,hB5⟩;have hB5:=hB4.trans (hB5.mono hB4.size);have hk5:=And.intro ((hB5.cell (p:=⟨g3,off3+1,none⟩) HG3V.out).trans v1) ((hB5.cell (p:=⟨x,2,none⟩) HXV.out).trans v2);dsimp only)))
 have hB35:Below w3.heap.size w3 w5:=HBV.out.trans (hB5.mono HBV.out.size)
 have hRE:RecsIn w5 ((pieces gb ob A.wd l.length).map sl) (sortB l):=by
  have hpe:pieces gb ob A.wd l.length=(List.range (sortB l).length).map λj=>((some ⟨gb,ob+(0+j)*A.wd,none⟩,A.wd,A.wd):SL):=by
   rw[(sortB_perm l).length_eq];unfold pieces
   apply List.map_congr_left
   intro j _;rw[Nat.zero_add]
  rw[hpe];refine pieces_recs (sortB l) 0 (sort_wide HL.out) (λi u hu=>?_) (Nat.lt_of_lt_of_le HGB.out hB35.size);rw[Nat.zero_mul,Nat.add_zero,<-HBO.out]at *;exact(hB35.cell (p:=⟨gb,ob+i,none⟩) HGB.out).trans (HCB.out i u hu)
 have hgb5:gb<w4.heap.size:=by
  have h1:=HGB.out;have h2:=HBV.out.size;have h3:=hB4.size
  omega
 have HIS:=jq (isSorted_any hO5 hRE (λy hy g hg e=>by
  obtain⟨j,_,rfl⟩:=List.mem_map.1 hy;have e1:gb=g:=by simpa[Mem.blk]using hg
  have:=(hO5.lt g e.symm).1
  omega) (by rw[pieces_len];omega) (by rw[pieces_len];exact hl0) (sortB_rises l))
 have HB5:=jq (HBZ.out.trans (hB35.mono HBZ.out.size))
 have HO5:=jq (own_mono hO5 (show w.heap.size<=w4.heap.size from by
  have h1:=HBZ.out.size;have h2:=HBV.out.size;have h3:=hB4.size
  omega))
 have HRE:=jq hRE;clear hB35 hRE hgb5 hO5 hB5 hB4 hk4 hk5 b1 b2 b3 v1 v2
 go_wp2_with fail
 refine HIS.out.mono ?_;rintro e w6 ⟨rfl,hB6⟩
 have HR:=jq (show RunAt w w6 l v5 (pieces gb ob A.wd l.length)from⟨own_later HO5.out hB6,HRE.out.later hB6,λy hy g hg=>by
  obtain⟨j,_,rfl⟩:=List.mem_map.1 hy;have e1:gb=g:=by simpa[Mem.blk]using hg
  omega,HB5.out.trans (hB6.mono HB5.out.size)⟩)
 clear hB6 HIS
 go_wp2_with fail
 go_ret2
 exact⟨_,_,rfl,HR.out⟩
end Runs
namespace Runs
open Go.RowKit Go.Deep Go.Shelf Mem Crc Merge
open Store (Sto Files setF nv)
attribute [local go_sem] Oper.semAt_some
def Mid (R:Nat->Prop) (w w':World) (g:Nat):Prop:=R g\/(w.heap.size<=g/\g<w'.heap.size)
theorem RowB.of_sorted {w w':World} {R:Nat->Prop} {vs:List SL} {held:List B} {v:Value} {vs':List SL} {l':List B} (h:SortedAt w w' vs held v vs' l') (hr:∀y∈vs,∀g,Mem.blk y.1=some g->R g):∃a c,v=.slice a l'.length c/\RowB w' (Mid R w w') ((a,l'.length,c),l'):=by
 obtain⟨a,c,rfl,hc,hL,hb,_⟩:=own_shape h.own;have hl:vs'.length=l'.length:=by simpa using h.recs.len
 exact⟨a,c,by rw[<-hl],a,c,vs',rfl,by rw[<-hl];exact hc,hl,hL,λg hg=>.inr (hb g hg),h.recs,λy hy g hg=>.inl (hr y (h.sub y hy) g hg)⟩
theorem RowB.of_run {w w':World} (R:Nat->Prop) {l:List B} {v:Value} {vs:List SL} (h:RunAt w w' l v vs) (hne:∀b∈l,b≠[]):∃a c,v=.slice a (sortB l).length c/\RowB w' (Mid R w w') ((a,(sortB l).length,c),sortB l):=by
 obtain⟨a,c,rfl,hc,hL,hb,_⟩:=own_shape h.own;have hl:vs.length=(sortB l).length:=by simpa using h.recs.len
 refine⟨a,c,by rw[<-hl],a,c,vs,rfl,by rw[<-hl];exact hc,hl,hL,λg hg=>.inr (hb g hg),h.recs,λy hy g hg=>.inr ⟨h.fresh y hy g hg,?_⟩⟩;obtain⟨i,hi⟩:=List.getElem?_of_mem hy;have hil:i<(sortB l).length:=by rw[<-hl];exact(jS.1 hi).1
 exact rec_block (h.recs.at_ i (sl y) (sortB l)[i] (by simp[hi]) (jg hil)) (hne _ ((sortB_perm l).mem_iff.1 (List.getElem_mem hil))) g hg
structure RunFiles (A:Fi) (F:Files) (ls:List (List B)):Prop where
 at_:∀(j:Nat) (l:List B),ls[j]? =some l->F (rname A.pf j)=some (runB l)
 wide:∀l∈ls,∀b∈l,b.length=A.wd
 some_:∀l∈ls,l≠[]
 few:∀l∈ls,l.length<=4096
structure AllRows (w0 w:World) (R:Nat->Prop) (rs:List (SL×List B)) (v:Value):Prop where
 own:OwnR w w0.heap.size v (rs.map Prod.fst)
 rows:∀r∈rs,RowB w (λg=>Mid R w0 w g/\some g≠v.ownBlock) r/\Rises r.2
structure Merging (w:World) (U:Nat->Prop) (Bs:Nat) (rs:List (SL×List B)) (ad:Addr) (c:Nat):Prop where
 box:Blk w Bs 127 #[.slice (some ad) rs.length c]
 boxU:U Bs
 row:Lies w (some ad) (rs.map (λr=>sl r.1))
 rowU:U ad.block
 cap:rs.length<=c
 pos:0<rs.length
 rows:∀r∈rs,RowB w U r/\Rises r.2
theorem Merging.upon {w w':World} {U P:Nat->Prop} {Bs:Nat} {rs:List (SL×List B)} {ad:Addr} {c:Nat} (h:Merging w U Bs rs ad c) (hu:Upon P w w') (hP:∀g,U g->¬P g):Merging w' U Bs rs ad c:=
 ⟨h.box.upon hu (hP _ h.boxU),h.boxU,h.row.upon hu (λg hg=>by
  have e:ad.block=g:=by simpa[Mem.blk]using hg
  rw[<-e];exact hP _ h.rowU),h.rowU,h.cap,h.pos,λr hr=>⟨(h.rows r hr).1.upon hu hP,(h.rows r hr).2⟩⟩
theorem rows_any {s:Nat} {S:Store.Sto s} {A:Fi} {w:World} {Q R:Nat->Prop} {off:Bool} {F:Files} {n x ne:Nat} {hv:Value} {vs:List SL} {held:List B} (h:Srt S A w Q R off F n x ne hv vs held) (ls:List (List B)) (hls:ls.length=ne) (hne:ne<=1000) (hF:RunFiles A F ls) (hoff:off=false\/ne=0):
  Calls Tryz.prog 34 #[.pointer (some ⟨x,0,none⟩)] w λe w'=>∃Bs rs ad c,e=.returned (.tuple #[.func (.func 91) #[] #[.pointer (some ⟨Bs,0,none⟩)],.int .i64 0])/\Merging w' (Mid R w w') Bs rs ad c/\rs.length=ne+1/\((rs.map Prod.snd).flatten).Perm (held++ls.flatten)/\Below w.heap.size w w':=by
 obtain⟨k1,k2,k3,k4,k5,k6⟩:=id h.ok;have hlv:vs.length=held.length:=by simpa using h.mem.recs.len
 have hroom:=h.room;have q4:=h.cell 4;have q5:=h.cell 5;have q6:=h.cell 6
 simp[sorterC]at q4 q5 q6
 have HS:=jq (sorted_any x h.mem q6 k3 (by omega));have H:=jq h;have HXL:=jq h.blk.lt;have HLS:=jq hls;have HOFF:=jq hoff;obtain⟨i0,hi0,hz0,hz1,hz2⟩:=info_parts infoRow;clear h hlv q6 hls hoff
 go_enter Tryz.func34,Tryz.ntmps34
 go_wp2_with fail
 refine HS.out.mono ?_;rintro e w1 ⟨v,vs',l',rfl,hS⟩;obtain⟨a1,c1,rfl,hrow1⟩:=RowB.of_sorted hS H.out.mem.rb;have hB1:=hS.below;have hl1:=hS.perm;have hr1:=hS.rises;obtain⟨y1,hy1⟩:∃y1:SL×List B,y1=((a1,l'.length,c1),l'):=⟨_,rfl⟩;obtain⟨N1,hN1⟩:=jl l'.length;have hB2:Below w.heap.size w (w1.alloc (.cells #[.slice a1 N1 c1] 25)):=hB1.alloc hB1.size _;have q42:=(hB2.cell (p:=⟨x,4,none⟩) HXL.out).trans q4
 have hst:AllRows w (w1.alloc (.cells #[.slice a1 N1 c1] 25)) R [y1] (.slice (some ⟨w1.heap.size,0,none⟩) 1 1):=by
  refine⟨?_,λr hr=>?_⟩
  ·have:=World.ownsRow_lit (base:=w.heap.size) (e:=25) (size:=1) w1 #[.slice a1 N1 c1] 1 hB1.size (by decide) rfl;rw[hy1]
   simpa[OwnR,sl,hN1]using this
  ·rw[jE.1 hr,hy1];refine⟨(hrow1.later ((Below.refl _ w1).alloc jn _)).mono (λg hg=>⟨hg.imp id (λh=>⟨h.1,by simp;omega⟩),λe=>?_⟩),hr1⟩;have e:g=w1.heap.size:=by simpa[Value.ownBlock]using e
   rcases hg with hg|hg
   ·have:=H.out.mem.rlt g hg;have:=hB1.size
    omega
   ·omega
 have HST:=jq hst;have HB2:=jq hB2;have HP1:=jq (show(([y1].map Prod.snd).flatten).Perm (held++(ls.take 0).flatten)from by rw[hy1];simpa using hl1);rw[<-hN1];clear hst hB2 hrow1 hl1 hr1 hy1 hN1 hB1 hS HS
 go_wp2_with fail
 go_loopw[4,5] (λo i wr=>∃(k:Nat) (rs:List (SL×List B)),k<=ne/\i=.int .i64 k/\rs.length=k+1/\AllRows w wr R rs o/\((rs.map Prod.snd).flatten).Perm (held++(ls.take k).flatten)/\Below w.heap.size w wr) (λ_ i _=>ne-(intOf i).toNat)
 case atStart=>exact⟨0,[y1],Nat.zero_le _,rfl,rfl,HST.out,HP1.out,HB2.out⟩
 case round=>
  obtain⟨k,rs,hk,rfl,hrl,hA,hP,hBr⟩:=hrel
  rename_i o _
  have q5r:=(hBr.cell (p:=⟨x,5,none⟩) HXL.out).trans q5;obtain⟨oa,oc,rfl,hoc,hoL,hob,hobk⟩:=own_shape hA.own;rw[jP,hrl]at hA hobk;rw[jP]at hoc⊢;have HA:=jq hA;have HP:=jq hP;have HBR:=jq hBr;have HRL:=jq hrl;have HOL:=jq hoL;have HOB:=jq hob;have HOBK:=jq hobk;clear hA hP hBr hoL hob hobk;rw[hrl]at hoc⊢;clear hrl
  by_cases hlt:k<ne
  ·have hfo:off=false:=HOFF.out.resolve_right (by omega);obtain⟨lk,hlk⟩:∃lk,ls[k]? =some lk:=⟨ls[k]'(by rw[HLS.out];exact hlt),jg _⟩;have hmem:=jM hlk;have HRUN:=jq (run_good ((hfo▸H.out).later HBR.out) k (by omega) lk (hF.wide lk hmem) (hF.some_ lk hmem) (hF.few lk hmem) (hF.at_ k lk hlk));have HLK:=jq hlk;clear hlk hmem hfo
   go_wp2_with fail
   refine HRUN.out.mono ?_;rintro e w2 ⟨v2,vs2,rfl,hR2⟩
   obtain⟨a2,c2,rfl,hrow2⟩:=RowB.of_run R hR2 (λb hb e=>by
    have:=hF.wide lk (jM HLK.out) b hb;rw[e]at this
    simp at this
    omega)
   obtain⟨y2,hy2⟩:∃y2:SL×List B,y2=((a2,(sortB lk).length,c2),sortB lk):=⟨_,rfl⟩;obtain⟨N2,hN2⟩:=jl ((sortB lk).length);have hBr2:Below w.heap.size w w2:=HBR.out.trans (hR2.below.mono HBR.out.size)
   have hown2:w2.ownsRow w.heap.size 25 1 (.slice oa (k+1) oc) (k+1) ((rs.map Prod.fst).map sl):=by
    have:w2.ownsRow w.heap.size 25 1 (.slice oa (k+1) oc) (rs.map Prod.fst).length ((rs.map Prod.fst).map sl):=own_later HA.out.own hR2.below;rw[jP,HRL.out]at this;exact this
   have HOW:=jq (hown2.alloc (.cells #[.slice a2 N2 c2] 25));have HWS:=jq (show w.heap.size<=(w2.alloc (.cells #[.slice a2 N2 c2] 25)).heap.size from by have:=hBr2.size;simp;omega);have HBR2:=jq hBr2;have HR2:=jq hR2;have HROW2:=jq hrow2;have HY2:=jq hy2;have HN2:=jq hN2;rw[<-hN2];clear hown2 hBr2 hR2 hrow2 hy2 hN2 HRUN
   go_wp2_with (at_builtin;refine wpList_append_lies _ rfl _ _ 127 rfl w.heap.size 25 i0 (.slice none 0 0) 1 24 Tryz.underlying127 hi0 hz0 hz1 hz2 rfl (by decide) _ _ _ rfl HOW.out ⟨w2.heap.size,0,none⟩ 1 1 [.slice a2 N2 c2] rfl rfl (one_at rfl) (by simp[Value.oneCell']) (by decide) (by unfold maxLen;omega) (by omega) HWS.out _ rfl ?_;intro g3 c3 w3 hown3 hg3 hat3 hlt3;have HO3:=jq hown3;have HG3:=jq hg3;have HAT:=jq hat3;have HLT:=jq hlt3;clear hown3 hg3 hat3 hlt3)
   have hBA:Below w2.heap.size w2 (w2.alloc (.cells #[.slice a2 N2 c2] 25)):=(Below.refl _ w2).alloc jn _;have hu3:Upon (λg=>(Value.slice oa (k+1) oc).ownBlock=some g) (w2.alloc (.cells #[.slice a2 N2 c2] 25)) w3:=Upon.of_grown HG3.out (λg hg=>.inl hg);have HB3:=jq (show Below w.heap.size w w3 from(HBR2.out.alloc HBR2.out.size _).trans (hu3.below HWS.out (λg hg=>(HOW.out.lt g hg).1)))
   have HA3:=jq (show AllRows w w3 R (rs++ [y2]) (.slice (some ⟨g3,0,none⟩) (k+1+1) c3)from by
    have hown3:=HO3.out;have hsz:=hu3.size
    simp at hsz
    refine⟨?_,λr hr=>?_⟩
    ·show w3.ownsRow w.heap.size 25 1 _ ((rs++ [y2]).map Prod.fst).length (((rs++ [y2]).map Prod.fst).map sl);rw[jP,jL,HRL.out,List.map_append,List.map_append,HY2.out]
     simpa[sl,HN2.out]using hown3
    ·have hat: (Value.slice oa (k+1) oc).ownBlock=some g3\/g3=(w2.alloc (.cells #[.slice a2 N2 c2] 25)).heap.size:=HAT.out;have hrs:=HBR.out.size;have hr2:=HR2.out.below.size;have hoa:∀g,(Value.slice oa (k+1) oc).ownBlock=some g->w.heap.size<=g/\g<wr.heap.size:=λg hg=>HOB.out g (by rw[<-HOBK.out];exact hg)
     rw[World.size_alloc]at hat
     have hgo:∀g,Mid R wr w2 g\/Mid R w wr g->some g≠(Value.slice oa (k+1) oc).ownBlock->Mid R w w3 g/\some g≠(Value.slice (some ⟨g3,0,none⟩) (k+1+1) c3).ownBlock:=λg hg hne=>by
      refine⟨?_,λe=>?_⟩
      ·rcases hg with(hg|hg)|(hg|hg)
       ·exact .inl hg
       ·exact .inr ⟨by omega,by omega⟩
       ·exact .inl hg
       ·exact .inr ⟨by omega,by omega⟩
      ·have e:g=g3:=by simpa[Value.ownBlock]using e
       rcases hat with h3|h3
       ·exact hne (by rw[e,h3])
       ·rcases hg with(hg|hg)|(hg|hg)
        ·have:=H.out.mem.rlt g hg;have:=HBR.out.size
         omega
        ·omega
        ·have:=H.out.mem.rlt g hg
         omega
        ·omega
     rcases List.mem_append.1 hr with hr|hr
     ·have h1:=HA.out.rows r hr;refine⟨(((h1.1.later HR2.out.below).later hBA).upon hu3 (λg hg e=>hg.2 e.symm)).mono (λg hg=>hgo g (.inr hg.1) hg.2),h1.2⟩
     ·rw[jE.1 hr,HY2.out]
      have hne2:∀g,Mid R wr w2 g->some g≠(Value.slice oa (k+1) oc).ownBlock:=λg hg e=>by
       have:=hoa g e.symm;rcases hg with hg|hg
       ·have:=H.out.mem.rlt g hg
        omega
       ·omega
      exact⟨((HROW2.out.later hBA).upon hu3 (λg hg e=>hne2 g hg e.symm)).mono (λg hg=>hgo g (.inl hg) (hne2 g hg)),sortB_rises lk⟩)
   go_roundw
   case rel=>exact⟨k+1,rs++ [y2],by omega,by simp,by simp[HRL.out],HA3.out,by
    rw[List.map_append,List.flatten_append,List.take_add_one,HLK.out,List.flatten_append,<-List.append_assoc];refine List.Perm.append HP.out ?_;rw[HY2.out]
    simpa using sortB_perm lk,HB3.out⟩
   case measure=>simp[intOf];omega
  ·have HKE:=jq (show k=ne by omega)
   have HP2:=jq (show((rs.map Prod.snd).flatten).Perm (held++ls.flatten)from by
    have:=HP.out
    rwa [jW (by rw[HLS.out,HKE.out];exact Nat.le_refl _)]at this)
   obtain⟨ad,had⟩:∃ad,oa=some ad:=by
    obtain⟨g,off,e,_⟩:=HOL.out.resolve_left (λe=>by
     have:=congrArg List.length e;rw[jP,jP,HRL.out]at this
     simp at this)
    exact⟨_,e⟩
   subst had;have HMG:=jq (merge_any wr (some ad) (k+1) oc);obtain⟨W,hW⟩:=jl (wr.alloc (.cells #[.slice (some ad) (k+1) oc] 127));have hBW:Below wr.heap.size wr W:=by rw[hW];exact(Below.refl _ wr).alloc jn _
   have hsz:=HBR.out.size;have hsw:wr.heap.size<W.heap.size:=by rw[hW];simp
   have HE:=jq (show Merging W (Mid R w W) wr.heap.size rs ad oc from by
    refine⟨by rw[hW,HRL.out];exact Blk.new wr _ _,.inr ⟨hsz,hsw⟩,?_,?_,by rw[HRL.out];exact hoc,by rw[HRL.out];omega,λr hr=>?_⟩
    ·have:=HOL.out.later hBW
     rwa [List.map_map]at this
    ·have:=HOB.out ad.block rfl;exact .inr ⟨this.1,by omega⟩
    ·have h1:=HA.out.rows r hr;exact⟨(h1.1.later hBW).mono (λg hg=>hg.1.imp id (λh=>⟨h.1,by omega⟩)),h1.2⟩)
   have HEB:=jq (HBR.out.trans (hBW.mono hsz));rw[<-hW]at HMG;clear hW hBW hsz hsw
   go_wp2_with fail
   refine HMG.out.mono ?_;rintro e w2 ⟨rfl,rfl⟩
   go_wp2_with fail
   go_ret2
   exact⟨_,rs,ad,oc,rfl,HE.out,by rw[HRL.out,HKE.out],HP2.out,HEB.out⟩
end Runs
namespace Runs
open Go.RowKit Go.Deep Go.Shelf Mem Crc Merge
open Store (Sto Files setF nv len_name)
attribute [local go_sem] Oper.semAt_some
theorem held_any {s:Nat} {S:Store.Sto s} {A:Fi} {w:World} {Q R:Nat->Prop} {off:Bool} {F:Files} {n x ne:Nat} {hv:Value} {vs:List SL} {held:List B} (h:Srt S A w Q R off F n x ne hv vs held):
  Calls Tryz.prog 9 #[.pointer (some ⟨x,0,none⟩)] w λe w'=>e=.returned (.int .i64 held.length)/\w=w':=by
 have q6:=h.cell 6
 simp[sorterC]at q6
 have hlv:vs.length=held.length:=by simpa using h.mem.recs.len
 obtain⟨a,c,rfl,_,_,_,_⟩:=own_shape h.mem.own;have HLV:=jq hlv;clear h hlv
 go_enter Tryz.func9,Tryz.ntmps9
 go_wp2_with fail
 go_ret
 exact⟨by rw[<-HLV.out];rfl,rfl⟩
theorem runs_any {s:Nat} {S:Store.Sto s} {A:Fi} {w:World} {Q R:Nat->Prop} {off:Bool} {F:Files} {n x ne:Nat} {hv:Value} {vs:List SL} {held:List B} (h:Srt S A w Q R off F n x ne hv vs held):
  Calls Tryz.prog 10 #[.pointer (some ⟨x,0,none⟩)] w λe w'=>e=.returned (.int .i64 ne)/\∃m,w'=w.drewN m:=by
 have q4:=h.cell 4;have q5:=h.cell 5
 simp[sorterC]at q4 q5
 have hf:=h.few;clear h
 go_enter Tryz.func10,Tryz.ntmps10
 go_wp2_with fail
 go_quiet (fail)
 go_wp2_with fail
 go_ret
 exact⟨by simp,_,rfl⟩
theorem forget_any {s:Nat} {S:Store.Sto s} {A:Fi} {w:World} {Q R:Nat->Prop} {off:Bool} {F:Files} {n x ne:Nat} {hv:Value} {vs:List SL} {held:List B} (h:Srt S A w Q R off F n x ne hv vs held):
  Calls Tryz.prog 30 #[.pointer (some ⟨x,0,none⟩)] w λe w'=>e=.returned (.tuple #[])/\Srt S A w' Q (λ_=>False) off F n x ne (.slice none 0 0) [] []/\Only [x] w w':=by
 have q6:=h.cell 6
 simp[sorterC]at q6
 have fz:=h.blk.frozen 6;have ho:Only [x] w (w.setCell ⟨x,6,none⟩ (.slice none 0 0)):=(Only.refl [x] w).set (p:=⟨x,6,none⟩) (.inl (by simp)) _;have HE:=jq (show Srt S A (w.setCell ⟨x,6,none⟩ (.slice none 0 0)) Q (λ_=>False) off F n x ne (.slice none 0 0) [] []from⟨h.sIs,by have:=h.blk.set 6 (.slice none 0 0);simpa[sorterC]using this,S.keep h.sto ho.size (λq hq=>ho.block q (S.lt h.sto q hq) (by rintro e;rw[jE.1 e]at hq;exact h.xq hq)),held_none _ A.wd,(λ_ h=>h.elim),(λ_ h=>by cases h),h.xq,h.ok,by simp,h.few⟩);have HO:=jq ho;clear h ho
 go_enter Tryz.func30,Tryz.ntmps30
 go_wp2_with fail
 go_end0
 exact⟨rfl,HE.out,HO.out⟩
end Runs
namespace Runs
open Go.RowKit Go.Deep Go.Shelf Mem Crc Merge
open Store (Sto Files setF setF_same setF_other nv)
noncomputable def rmF (F:Files) (pf:List UInt8):Nat->Files
 |0=>F
 |k+1=>setF (rmF F pf k) (rname pf k) none
theorem rmF_at (F:Files) (pf:List UInt8):∀(k j:Nat),k<=j->j<10^20->rmF F pf k (rname pf j)=F (rname pf j)
 |0,_,_,_=>rfl
 |k+1,j,h,hj=>by
  unfold rmF;rw[setF_other _ (λe=>by have:=rname_inj hj (by omega) e;omega),rmF_at F pf k j (by omega) hj]
def firstOf (x:Nat) (w:World):Nat:=match w.cell? ⟨x,4,none⟩with
 |some (.int _ i)=>i.toNat
 |_=>0
theorem first_is {x k:Nat} {w:World} (h:w.cell? ⟨x,4,none⟩=some (.int .i64 (k:Int))):firstOf x w=k:=by
 unfold firstOf;rw[h]
 simp
attribute [local go_sem] Oper.semAt_some
theorem clear_gen {s:Nat} {S:Store.Sto s} {A:Fi} {w:World} {Q R:Nat->Prop} {F:Files} {n x ne:Nat} {hv:Value} {vs:List SL} {held:List B} (h:Srt S A w Q R false F n x ne hv vs held) (hn:n+ne<100000) (hF:∀j,j<ne->F (rname A.pf j)≠none):
  Calls Tryz.prog 26 #[.pointer (some ⟨x,0,none⟩)] w λe w'=>e=.returned (.int .i64 0)/\∃Q',Srt S A w' Q' (λ_=>False) false (rmF F A.pf ne) (n+ne) x 0 (.slice none 0 0) [] []/\(∀k,Q' k->Q k\/w.heap.size<=k)/\Upon (λk=>Q k\/k=x) w w':=by
 obtain rfl:=h.sIs;have hfew:=h.few;have q6:=h.cell 6
 simp[sorterC]at q6
 have f6:=h.blk.frozen 6;have H:=jq h;have HF:=jq hF;clear h hF
 go_enter Tryz.func26,Tryz.ntmps26
 go_wp2_with fail
 obtain⟨V,hV⟩:=jl (w.setCell ⟨x,6,none⟩ (.slice none 0 0))
 have hbk:Blk V x 60 (sorterC A 0 ne (.slice none 0 0)):=by
  have:=H.out.blk.set 6 (.slice none 0 0);rw[<-hV]at this
  simpa[sorterC]using this
 have hu:Upon (λk=>k=x) w V:=by rw[hV];exact(Upon.refl (λk=>k=x) w).set (p:=⟨x,6,none⟩) (.inl rfl) _
 have hst:=S.upon H.out.sto hu (λk hk hq=>H.out.xq (by rw[<-hk];exact hq));rw[<-hV];have HBK:=jq hbk;have HU:=jq (hu.mono (λk hk=>Or.inr hk:∀k,k=x->Q k\/k=x));have HST:=jq hst;clear hV hbk hu hst q6 f6
 go_loopw[] (λwr=>∃(k:Nat) (Qk:Nat->Prop),k<=ne/\Blk wr x 60 (sorterC A k ne (.slice none 0 0))/\S.At wr Qk false (rmF F A.pf k) (n+k)/\(∀g,Qk g->Q g\/w.heap.size<=g)/\Upon (λg=>Q g\/g=x) w wr) (λwr=>ne-firstOf x wr)
 case atStart=>exact⟨0,Q,Nat.zero_le _,HBK.out,HST.out,λg hg=>.inl hg,HU.out⟩
 case round=>
  obtain⟨k,Qk,hk,hb,hst,hq,hu⟩:=hrel;have hxq:¬Qk x:=λh=>(hq x h).elim H.out.xq (λh=>by have:=H.out.blk.lt;omega)
  have q4:=hb.cell 4;have q5:=hb.cell 5
  simp[sorterC]at q4 q5
  have HM:=jq (first_is q4);have HXQ:=jq hxq;have HB:=jq hb;have HST2:=jq hst;have HQ:=jq hq;have HU2:=jq hu;clear hxq hb hst hq hu
  by_cases hlt:k<ne
  ·have hkd:decide ((k:Int) <(ne:Int))=true:=jd (by omega)
   go_wp2_with fail
   go_quiet (fail)
   obtain⟨V,hV⟩:=jl (wr.drewN nq);have hBV:Below wr.heap.size wr V:=by rw[hV];exact⟨rfl,rfl,rfl,Nat.le_refl _,λ_ _=>rfl⟩
   rw[<-hV];have hbV:=HB.out.below hBV HB.out.lt;have v0:=hbV.cell 0;have v1:=hbV.cell 1;have v4:=hbV.cell 4
   simp[sorterC]at v0 v1 v4
   obtain⟨k1,k2,k3,k4,k5,k6⟩:=id H.out.ok;have HNM:=jq (name_any A.pf k2 k (by omega) x V.drew v1 hbV.lt);have HRM:=jq (fun(w3:World) (hB3:Below V.heap.size V w3)=>S.remove (S.later (S.later HST2.out hBV) hB3) (by omega) (rname A.pf k) (by rw[rmF_at F A.pf k k jn (by omega)];exact HF.out k hlt));obtain⟨nm,hnm⟩:=jl (nv (rname A.pf k));rw[<-hnm]at HNM HRM;have HDR:=jq ((Below.refl V.heap.size V).drew);have HXL:=jq hbV.lt;have HBV:=jq hbV;have HBW:=jq hBV;clear hV hBV hbV hnm v1 k1 k2 k3 k4 k5 k6 q4 q5
   go_wp2_with fail
   go_region_held3 (λw'=>w'.cell? ⟨x,0,none⟩=some (.pointer (some ⟨A.s,0,none⟩))/\w'.cell? ⟨x,4,none⟩=some (.int .i64 (k:Int))) (first|exact⟨v0,v4⟩|exact hk3|exact hk4) ((first|(go_at_call 19;refine HNM.out.mono ?_;rintro e w3 ⟨rfl,hB3⟩;have hB3:=HDR.out.trans hB3;have hk3:=And.intro ((hB3.cell (p:=⟨x,0,none⟩) HXL.out).trans v0) ((hB3.cell (p:=⟨x,4,none⟩) HXL.out).trans v4);dsimp only)|(go_at_call 54;refine(HRM.out w3 hB3).mono ?_;rintro e w4 ⟨rfl,Q4,hst4,hq4,hu4⟩;have hk4:=And.intro ((World.cell?_of_block (a:=⟨x,0,none⟩) (hu4.block x (Nat.lt_of_lt_of_le HXL.out hB3.size) HXQ.out)).trans hk3.1) ((World.cell?_of_block (a:=⟨x,4,none⟩) (hu4.block x (Nat.lt_of_lt_of_le HXL.out hB3.size) HXQ.out)).trans hk3.2);dsimp only)))
   have hb4:Blk w4 x 60 (sorterC A k ne (.slice none 0 0)):=(HBV.out.below hB3 HXL.out).upon hu4 HXQ.out;have g4:=hk4.2;have f4:=hb4.frozen 4;have hw1:RowKit.wrap64 ((k:Int)+1)=(k:Int)+1:=IntWalk.wrap64_in _ (by omega);obtain⟨W,hW⟩:=jl (w4.setCell ⟨x,4,none⟩ (.int .i64 ((k:Int)+1)))
   have hbW:Blk W x 60 (sorterC A (k+1) ne (.slice none 0 0)):=by
    have:=hb4.set 4 (.int .i64 ((k:Int)+1));rw[<-hW]at this
    simpa[sorterC]using this
   have hq4x:¬Q4 x:=λh=>(hq4 x h).elim HXQ.out (λh=>by have:=Nat.lt_of_lt_of_le HXL.out hB3.size;omega)
   have hu4W:Upon (λg=>g=x) w4 W:=by rw[hW];exact(Upon.refl (λg=>g=x) w4).set (p:=⟨x,4,none⟩) (.inl rfl) _
   have hstW:=S.upon hst4 hu4W (λg hg hq=>hq4x (by rw[<-hg];exact hq));have hz1:=HU2.out.size;have hz2:=HBW.out.size;have hz3:=hB3.size
   have HE:=jq (show∃(j:Nat) (Qk:Nat->Prop),j<=ne/\Blk W x 60 (sorterC A j ne (.slice none 0 0))/\S.At W Qk false (rmF F A.pf j) (n+j)/\(∀g,Qk g->Q g\/w.heap.size<=g)/\Upon (λg=>Q g\/g=x) w W from⟨k+1,Q4,hlt,hbW,hstW,λg hg=>by
    rcases hq4 g hg with h|h
    ·exact HQ.out g h
    ·exact .inr (by omega),by
    have h1:Upon (λg=>Q g\/g=x) wr w3:=Upon.of_below (HBW.out.trans (hB3.mono hz2));have h2:=HU2.out.trans h1 (λg hg=>.inl hg);have h3:=h2.trans hu4 (λg hg=>(HQ.out g hg).imp (λh=>.inl h) id);exact h3.trans (hu4W.mono (λg hg=>Or.inr hg)) (λg hg=>.inl hg)⟩)
   have HM2:=jq (show ne-firstOf x W<ne-firstOf x wr from by
    have h1:W.cell? ⟨x,4,none⟩=some (.int .i64 ((k+1:Nat):Int)):=by
     have:=hbW.cell 4
     simpa[sorterC]using this
    rw[first_is h1,HM.out]
    omega)
   rw[hW]at HE HM2;clear hst4 hq4 hu4 hb4 hbW hq4x hu4W hstW hz1 hz2 hz3 hB3 hk3 hk4 v0 v4 HNM HRM hW
   go_wp2_with fail
   go_roundw
   case rel=>exact HE.out
   case measure=>exact HM2.out
  ·obtain rfl:k=ne:=by omega
   have hkd:decide ((k:Int) <(k:Int))=false:=jf (by omega)
   go_wp2_with fail
   go_quiet (fail)
   obtain⟨V,hV⟩:=jl (wr.drewN nq);have hBV:Below wr.heap.size wr V:=by rw[hV];exact⟨rfl,rfl,rfl,Nat.le_refl _,λ_ _=>rfl⟩
   rw[<-hV];have hbV:=HB.out.below hBV HB.out.lt;have v4:=hbV.cell 4;have v5:=hbV.cell 5;have f4:=hbV.frozen 4;have f5:=hbV.frozen 5
   simp[sorterC]at v4 v5
   have HBV:=jq hbV;have HBW:=jq hBV;clear hV hBV hbV q4 q5
   go_wp2_with fail
   go_ret
   obtain⟨W,hW⟩:=jl ((V.setCell ⟨x,4,none⟩ (.int .i64 0)).setCell ⟨x,5,none⟩ (.int .i64 0));rw[<-hW];have huW:Upon (λg=>g=x) V W:=by rw[hW];exact((Upon.refl (λg=>g=x) V).set (p:=⟨x,4,none⟩) (.inl rfl) _).set (p:=⟨x,5,none⟩) (.inl rfl) _
   have hbW:Blk W x 60 (sorterC A 0 0 (.slice none 0 0)):=by
    have:=(HBV.out.set 4 (.int .i64 0)).set 5 (.int .i64 0);rw[<-hW]at this
    simpa[sorterC]using this
   refine⟨rfl,Qk,⟨rfl,hbW,S.upon (S.later HST2.out HBW.out) huW (λg hg hq=>HXQ.out (by rw[<-hg];exact hq)),held_none W A.wd,(λ_ h=>h.elim),(λ_ h=>by cases h),HXQ.out,H.out.ok,by simp,by omega⟩,HQ.out,?_⟩;exact(HU2.out.trans (Upon.of_below (P:=λg=>Q g\/g=x) HBW.out) (λg hg=>.inl hg)).trans (huW.mono (λg hg=>Or.inr hg)) (λg hg=>.inl hg)
end Runs
namespace Runs
open Go.RowKit Go.Deep Go.Shelf Mem Crc Merge
open Store (Sto Files setF setF_same setF_other nv)
structure InGQ {s:Nat} (S:Sto s) (A:Fi) (D:Nat->Prop) (w:World) (x ne:Nat) (F:Files) (held:List B) (n:Nat) (Q R:Nat->Prop) (hv:Value) (vs:List SL):Prop where
 srt:Srt S A w Q R false F n x ne hv vs held
 q:∀k,Q k->D k
 r:∀k,R k->D k
 x:D x
 h:∀k,hv.ownBlock=some k->D k
 lt:∀k,D k->k<w.heap.size
def InG {s:Nat} (S:Sto s) (A:Fi) (D:Nat->Prop) (w:World) (x ne:Nat) (F:Files) (held:List B) (n:Nat):Prop:=∃Q R hv vs,InGQ S A D w x ne F held n Q R hv vs
variable {s:Nat} {S:Sto s} {A:Fi} {D:Nat->Prop} {w w':World} {x ne n:Nat} {F:Files} {held:List B}
theorem InG.keep {P:Nat->Prop} (h:InG S A D w x ne F held n) (hu:Upon P w w') (hP:∀g,D g->¬P g):InG S A D w' x ne F held n:=by
 obtain⟨Q,R,hv,vs,h⟩:=h;exact⟨Q,R,hv,vs,h.srt.keep hu (λg hg=>hP g (h.q g hg)) (λg hg=>hP g (h.r g hg)) (λg hg=>hP g (h.h g hg)) (hP x h.x),h.q,h.r,h.x,h.h,λk hk=>Nat.lt_of_lt_of_le (h.lt k hk) hu.size⟩
theorem InG.later (h:InG S A D w x ne F held n) (hB:Below w.heap.size w w'):InG S A D w' x ne F held n:=h.keep (P:=λ_=>False) (Upon.of_below hB) (λ_ _ h=>h)
theorem InG.room (h:InG S A D w x ne F held n):held.length<=A.rm/\A.ok/\(∀b∈held,b.length=A.wd)/\ne<=1000000/\∀nm b,F nm=some b->nm.length<=32/\b.length<=1048576:=by
 obtain⟨Q,R,hv,vs,h⟩:=h;exact⟨h.srt.room,h.srt.ok,h.srt.mem.wide,h.srt.few,S.short h.srt.sto⟩
theorem InGQ.flushed {Q R Q':Nat->Prop} {hv:Value} {vs:List SL} (h:InGQ S A D w x ne F held n Q R hv vs) (hf:Flushed S A w w' Q F n x ne held Q'):InGQ S A (Mid D w w') w' x (ne+1) (setF F (rname A.pf ne) (some (runB held))) [] (n+1) Q' (λ_=>False) (.slice none 0 0) []/\Upon D w w':=
 ⟨⟨hf.srt,λk hk=>(hf.q k hk).imp (h.q k) (λhg=>⟨hg,S.lt hf.srt.sto k hk⟩),λ_ h=>h.elim,.inl h.x,(λ_ h=>by cases h),λk hk=>hk.elim (λh1=>Nat.lt_of_lt_of_le (h.lt k h1) hf.upon.size) (λh1=>h1.2)⟩,hf.upon.mono (λg hg=>hg.elim (h.q g) (λe=>by rw[e];exact h.x))⟩
theorem InGQ.putted {Q R R':Nat->Prop} {hv hv':Value} {vs vs':List SL} {held':List B} (h:InGQ S A D w x ne F held n Q R hv vs) (hp:Putted S A w w' Q R false F n x ne hv held' R' hv' vs'):InGQ S A (Mid D w w') w' x ne F held' n Q R' hv' vs'/\Upon D w w':=
 ⟨⟨hp.srt,λk hk=>.inl (h.q k hk),λk hk=>(hp.r k hk).imp (h.r k) (λhg=>⟨hg,hp.srt.mem.rlt k hk⟩),.inl h.x,λk hk=>(hp.h k hk).imp (h.h k) (λhg=>⟨hg,(hp.srt.mem.own.lt k hk).2⟩),λk hk=>hk.elim (λh1=>Nat.lt_of_lt_of_le (h.lt k h1) hp.upon.size) (λh1=>h1.2)⟩,hp.upon.mono (λg hg=>hg.elim (λe=>by rw[e];exact h.x) (h.h g))⟩
theorem g_flush (h:InG S A D w x ne F held n) (h0:held≠[]) (hn:n<100000) (hl:ne<100000):
  Calls Tryz.prog 23 #[.pointer (some ⟨x,0,none⟩)] w λe w'=>e=.returned (.int .i64 0)/\InG S A (Mid D w w') w' x (ne+1) (setF F (rname A.pf ne) (some (runB held))) [] (n+1)/\Upon D w w':=by
 obtain⟨Q,R,hv,vs,h⟩:=h;refine(flush_any h.srt h0 hn hl).mono ?_;rintro e w' ⟨rfl,Q',hf⟩;have:=h.flushed hf;exact⟨rfl,⟨_,_,_,_,this.1⟩,this.2⟩
theorem g_put (h:InG S A D w x ne F held n) (hr:held.length<A.rm) {b:B} (hb:b.length=A.wd) (a:Option Addr) (cp:Nat) (hL:Lies w a (b.map bv)):
  Calls Tryz.prog 14 #[.pointer (some ⟨x,0,none⟩),.slice a b.length cp] w λe w'=>e=.returned (.int .i64 0)/\InG S A (Mid D w w') w' x ne F (held++ [b]) n/\Upon D w w':=by
 obtain⟨Q,R,hv,vs,h⟩:=h;refine(put_room h.srt hr hb a cp hL).mono ?_;rintro e w' ⟨rfl,R',hv',vs',hp⟩;have:=h.putted hp;exact⟨rfl,⟨_,_,_,_,this.1⟩,this.2⟩
theorem g_putFull (h:InG S A D w x ne F held n) (hr:held.length=A.rm) (hn:n<100000) (hl:ne<100000) {b:B} (hb:b.length=A.wd) (a:Option Addr) (cp:Nat) (hL:Lies w a (b.map bv)) (hLD:∀g,Mem.blk a=some g->¬D g):
  Calls Tryz.prog 14 #[.pointer (some ⟨x,0,none⟩),.slice a b.length cp] w λe w'=>e=.returned (.int .i64 0)/\InG S A (Mid D w w') w' x (ne+1) (setF F (rname A.pf ne) (some (runB held))) [b] (n+1)/\Upon D w w':=by
 obtain⟨Q,R,hv,vs,h1⟩:=h;refine(put_full h1.srt hr hn hl hb a cp hL (λg hg=>⟨λhq=>hLD g hg (h1.q g hq),λe=>hLD g hg (by rw[e];exact h1.x)⟩)).mono ?_;rintro e w' ⟨rfl,w1,Q1,R',hv',vs',hf1,hp⟩;obtain⟨hl1,hu1⟩:=h1.flushed hf1;obtain⟨hl2,hu2⟩:=hl1.putted hp;have s1:=hu1.size;have s2:=hu2.size
 have hm2:∀k,Mid (Mid D w w1) w1 w' k->Mid D w w' k:=λk hk=>by
  rcases hk with(hk|hk)|hk
  ·exact .inl hk
  ·exact .inr ⟨hk.1,by omega⟩
  ·exact .inr ⟨by omega,hk.2⟩
 exact⟨rfl,⟨_,_,_,_,hl2.srt,λk hk=>hm2 k (hl2.q k hk),λk hk=>hm2 k (hl2.r k hk),hm2 x hl2.x,λk hk=>hm2 k (hl2.h k hk),λk hk=>hk.elim (λh3=>by have:=h1.lt k h3;omega) (λh3=>h3.2)⟩,hu1.trans hu2 (λg hg=>hg.imp id (λh=>h.1))⟩
theorem g_held (h:InG S A D w x ne F held n):Calls Tryz.prog 9 #[.pointer (some ⟨x,0,none⟩)] w λe w'=>e=.returned (.int .i64 held.length)/\w=w':=by
 obtain⟨Q,R,hv,vs,h⟩:=h;exact held_any h.srt
theorem g_runs (h:InG S A D w x ne F held n):Calls Tryz.prog 10 #[.pointer (some ⟨x,0,none⟩)] w λe w'=>e=.returned (.int .i64 ne)/\∃m,w'=w.drewN m:=by
 obtain⟨Q,R,hv,vs,h⟩:=h;exact runs_any h.srt
theorem g_forget (h:InG S A D w x ne F held n):Calls Tryz.prog 30 #[.pointer (some ⟨x,0,none⟩)] w λe w'=>e=.returned (.tuple #[])/\InG S A D w' x ne F [] n/\Upon D w w':=by
 obtain⟨Q,R,hv,vs,h⟩:=h;refine(forget_any h.srt).mono ?_;rintro e w' ⟨rfl,hs,ho⟩;exact⟨rfl,⟨_,_,_,_,hs,h.q,λ_ h=>h.elim,h.x,(λ_ h=>by cases h),λk hk=>Nat.lt_of_lt_of_le (h.lt k hk) ho.size⟩,Upon.of_only ho (λg hg=>.inl (by rw[jE.1 hg];exact h.x))⟩
theorem g_clear (h:InG S A D w x ne F held n) (hn:n+ne<100000) (hF:∀j,j<ne->F (rname A.pf j)≠none):Calls Tryz.prog 26 #[.pointer (some ⟨x,0,none⟩)] w λe w'=>e=.returned (.int .i64 0)/\InG S A (Mid D w w') w' x 0 (rmF F A.pf ne) [] (n+ne)/\Upon D w w':=by
 obtain⟨Q,R,hv,vs,h⟩:=h;refine(clear_gen h.srt hn hF).mono ?_;rintro e w' ⟨rfl,Q',hs,hq,hu⟩;exact⟨rfl,⟨_,_,_,_,hs,λk hk=>(hq k hk).imp (h.q k) (λhg=>⟨hg,S.lt hs.sto k hk⟩),λ_ h=>h.elim,.inl h.x,(λ_ h=>by cases h),λk hk=>hk.elim (λh1=>Nat.lt_of_lt_of_le (h.lt k h1) hu.size) (λh1=>h1.2)⟩,hu.mono (λg hg=>hg.elim (h.q g) (λe=>by rw[e];exact h.x))⟩
theorem g_new (S:Sto s) (A:Fi) (hs:A.s=s) (hok:A.ok) {Q:Nat->Prop} (h:S.At w Q false F n) (D:Nat->Prop) (hQ:∀k,Q k->D k) (hD:∀k,D k->k<w.heap.size):
  Calls Tryz.prog 6 #[.pointer (some ⟨A.s,0,none⟩),nv A.pf,.int .i64 A.wd,.int .i64 A.rm] w λe w'=>∃x ne,e=.returned (.tuple #[.pointer (some ⟨x,0,none⟩),.int .i64 0])/\InG S A (Mid D w w') w' x ne F [] n/\(∀j,j<ne->F (rname A.pf j)≠none)/\F (rname A.pf ne)=none/\Below w.heap.size w w':=by
 refine(new_any S A hs hok h).mono ?_;rintro e w' ⟨x,ne,rfl,hn⟩;exact⟨x,ne,rfl,⟨_,_,_,_,hn.srt,λk hk=>.inl (hQ k hk),λ_ h=>h.elim,.inr ⟨hn.fresh,hn.srt.blk.lt⟩,(λ_ h=>by cases h),λk hk=>hk.elim (λh1=>Nat.lt_of_lt_of_le (hD k h1) hn.below.size) (λh1=>h1.2)⟩,hn.runs,hn.last,hn.below⟩
end Runs
namespace Runs
open Go.RowKit Go.Deep Go.Shelf Mem Crc Go.Maps Merge Sees
open Store (Sto Files setF nv bare Bare St Chg none' filesOf)
open Disk (Blank)
attribute [local go_sem] Oper.semAt_some
def noF:Files:=λ_=>none
theorem bare_new {w:World} {Q:Nat->Prop} {s d g N cm:Nat} (h:St w Q s d g N cm false none'): (bare s d g N cm).At w Q false noF 0:=⟨⟨none',[],h,rfl,λ_ h=>absurd rfl h,Nat.le_refl _,λ_ h=>by simp at h⟩,by omega,λ_ _ h=>by cases h⟩
theorem begin_any (w:World):
  Calls Tryz.prog 5 #[] w λe w'=>∃d s g cm Q,e=.returned (.tuple #[.pointer (some ⟨d,0,none⟩),.pointer (some ⟨s,0,none⟩),.bool true])/\St w' Q s d g 400 cm false none'/\(∀k,Q k->w.heap.size<=k)/\Below w.heap.size w w':=by
 have HN:Hid (Calls Tryz.prog 15 #[.int .i64 400] w λe w'=>∃d g,e=.returned (.tuple #[.pointer (some ⟨d,0,none⟩),.int .i64 0])/\Blank w' d g 400 false/\w.heap.size<=d/\w.heap.size<=g/\Below w.heap.size w w'):=jq (Go.Proofs.YtcdcnhecimajkaaGreatDoor.Disk.new_any 400 w (by decide) (by decide))
 go_enter Tryz.func5,Tryz.ntmps5
 go_wp2_with fail
 refine HN.out.mono ?_;rintro e w1 ⟨d,g,rfl,hD,hd,hg,hB1⟩;have HO:=jq (Go.Proofs.YtcdcnhecimajkaaGreatDoor.Store.open_any (N:=400) (by decide) hD);have HB1:=jq hB1;clear hD hB1
 go_wp2_with fail
 refine HO.out.mono ?_;rintro e w2 ⟨s,cm,rfl,hst,hs,hcm,hB2⟩;have HST:=jq hst;have HB2:=jq hB2;clear hst hB2
 go_wp2_with fail
 have:=HB1.out.size;refine bodyPost_ret (v:=.tuple #[.pointer (some ⟨d,0,none⟩),.pointer (some ⟨s,0,none⟩),.bool true]) (by simp[results,Tryz.results5,go_sem]) rfl ⟨d,s,g,cm,_,rfl,HST.out,λk hk=>?_,HB1.out.trans (HB2.out.mono this)⟩;rcases hk with rfl|rfl|rfl|rfl <;> omega
theorem conv_str {va:Option Addr} {vc:Nat} {b:B} {w:World} (hb:b≠[]) (hL:Lies w va (b.map bv)): (convert 24 9 (.slice va b.length vc)).run Tryz.prog w=.ok (strB b) w:=by
 obtain⟨g,off,rfl,_,hc⟩:=hL.resolve_left (λe=>by
  rw[List.map_eq_nil_iff]at e;exact hb e)
 exact run_convert_bytes_back w 24 9 5 _ vc _ Tryz.underlying24 Tryz.underlying5 Tryz.underlying9 (λj hj=>lies_add (.inr ⟨g,off,rfl,by assumption,hc⟩) j _ (by simp[hj,bv]))
theorem own_block {w:World} {base:Nat} {y:SL} {b:B} (h:OwnB w base (sl y) b) (h0:b≠[]):∃g cap cs,y=(some ⟨g,0,none⟩,b.length,cap)/\base<=g/\Lies w (some ⟨g,0,none⟩) (b.map bv)/\Blk w g 5 cs/\b.length<=cs.size:=by
 obtain⟨a,c,e,_,hL,_,_⟩:=own_shape h;obtain⟨ya,yn,yc⟩:=y;rcases h.2 with⟨_,e2⟩|⟨g,cap,cur,e2,hb,hg,h2,h3,h4,h5⟩
 ·exact absurd (List.eq_nil_of_length_eq_zero e2) h0
 ·unfold sl at e e2;injection e with e3 e4 e5;injection e2 with e6 e7 e8;dsimp only at *;refine⟨g,cap,cur,by rw[e6,e7,e8],hb,by rw[<-e6,e3];exact hL,hg,?_⟩;rw[h4]
  omega
theorem not_typed {w:World} {g:Nat} {t:TypeId} {cs:Array Value} {ts:List TypeId} (h:Blk w g t cs) (ht:t∉ts):¬typed ts w g:=fun⟨cs',t',fr,h1,h2⟩=>by
 unfold Blk at h;rw[h]at h1;injection h1 with h1;injection h1 with _ h1;exact ht (h1▸h2)
theorem own_not_typed {w:World} {base:Nat} {e:TypeId} {size n:Nat} {v:Value} {xs:List Value} {ts:List TypeId} (h:w.ownsRow base e size v n xs) (ht:e∉ts) (g:Nat) (hg:v.ownBlock=some g):¬typed ts w g:=by
 rcases h.2 with⟨rfl,_⟩|⟨g',cap,cur,rfl,_,hb,_⟩
 ·cases hg
 ·have e:g'=g:=by simpa[Value.ownBlock]using hg
  subst e;exact not_typed (t:=e) hb ht
theorem keepsFrom_cells {B0:Nat} {X Y:World} {gb:Nat} {t:TypeId} {cs:Array Value} (h:Only [gb] X Y) (hb:Blk X gb t cs):KeepsFrom B0 X Y:=
 ⟨h.size,λk o _ ho hc=>(h.block k (Array.getElem?_eq_some_iff.1 ho).1 (λhm=>by
  rw[jE.1 hm]at ho;unfold Blk at hb;rw[hb]at ho;cases ho;cases hc)).trans ho⟩
theorem seq_not_nil (B0:Nat) (w:World): (binOp .eql 77 (.func (.func 91) #[] #[.pointer (some ⟨B0,0,none⟩)]) .nilFunc).run Tryz.prog w=.ok (.bool false) w:=by kernel_rfl
theorem rowsLaw_of {s:Nat} {S:Store.Sto s} {A:Fi} {w:World} {Q R:Nat->Prop} {off:Bool} {F:Files} {n x ne:Nat} {hv:Value} {vs:List SL} {held:List B} (h:Srt S A w Q R off F n x ne hv vs held) (ls:List (List B)) (hne:ne<=1000) (hwide0:∀l∈ls,∀b∈l,b.length=A.wd) (hRO:∀W,Below w.heap.size w W->Calls Tryz.prog 34 #[.pointer (some ⟨x,0,none⟩)] W λe w'=>∃Bs rs ad c,e=.returned (.tuple #[.func (.func 91) #[] #[.pointer (some ⟨Bs,0,none⟩)],.int .i64 0])/\Merging w' (Mid R W w') Bs rs ad c/\rs.length=ne+1/\((rs.map Prod.snd).flatten).Perm (held++ls.flatten)/\Below W.heap.size W w') (all:List B) (hall:all=held++ls.flatten) (hmax:all.length<=1000000):
  Calls Tryz.prog 11 #[.pointer (some ⟨x,0,none⟩)] w λe w'=>∃v,e=.returned (.tuple #[v,.int .i64 0])/\w'.ownsRow w.heap.size 9 1 v all.length ((sortB all).map strB)/\Below w.heap.size w w':=by
 obtain⟨i0,hi0,hz0,hz1,hz2⟩:=info_parts infoStr;have H:=jq h;have HWD:=jq hwide0;have HRW:=jq hRO;have HMAX:=jq hmax;have HNE:=jq hne;have HALL:=jq hall;clear h hwide0 hRO hmax hne hall;refine(callsIn_wide (n:=5)).1 ?_;refine callsIn_of_wp_marks Tryz.func11 rfl trivial ?_ rfl;simp only[Tryz.ntmps11,List.size_toArray,List.length_cons,List.length_nil,Nat.reduceAdd,Nat.reduceSub,Array.replicate_succ,Array.replicate_zero,List.push_toArray,List.append_toArray,List.nil_append,List.cons_append];refine wpIn_wide.2 ?_
 go_wp2_with fail
 obtain⟨W1,hW1⟩:=jl ((w.alloc (.cells #[] 9)).alloc (.cells #[.slice (some ⟨w.heap.size,0,none⟩) 0 0] 36));obtain⟨tb,htb⟩:=jl (w.heap.size+1);have hB1:Below w.heap.size w W1:=by rw[hW1];exact((Below.refl _ w).alloc jn _).alloc (by simp) _
 have hbx:Boxed W1 tb 36 (.slice (some ⟨w.heap.size,0,none⟩) 0 0):=by
  have:=Boxed.new (w.alloc (.cells #[] 9)) 36 (.slice (some ⟨w.heap.size,0,none⟩) 0 0);rw[World.size_alloc]at this;rw[hW1,htb];exact this
 have hown0:W1.ownsRow w.heap.size 9 1 (.slice (some ⟨w.heap.size,0,none⟩) 0 0) 0 []:=by rw[hW1];exact(own_empty w 9 1).alloc _
 have hsz1:W1.heap.size=w.heap.size+2:=by rw[hW1];simp
 rw[<-hW1,<-htb];have HRO:=jq (HRW.out W1 hB1);have HB1:=jq hB1;have HBX:=jq hbx;have HOWN0:=jq hown0;have HTB:=jq htb;have HSZ1:=jq hsz1;clear hW1 htb hB1 hbx hown0 hsz1;refine HRO.out.mono ?_;rintro e w2 ⟨Bs,rs,ad,c,rfl,hM,hrl,hperm,hB2⟩;have c4:w2.cell? ⟨tb,0,none⟩=some (.slice (some ⟨w.heap.size,0,none⟩) 0 0):=(hB2.cell (p:=⟨tb,0,none⟩) HBX.out.lt).trans HBX.out.cell;have HM:=jq hM;have HPERM:=jq hperm;have HB2:=jq hB2;have HRL:=jq hrl;have hqn:=seq_not_nil Bs w2;clear hM hperm hB2 hrl HRO
 go_wp2_with fail
 have hall:=HALL.out
 have hwide:∀b∈all,b.length=A.wd:=λb hb=>by
  rw[hall]at hb;rcases List.mem_append.1 hb with hb|hb
  ·exact H.out.mem.wide b hb
  ·obtain⟨l,hl,hb⟩:=List.mem_flatten.1 hb;exact HWD.out l hl b hb
 have hok:=H.out.ok;have hwd1:1<=A.wd:=hok.2.2.1;have hwd2:A.wd<=64:=hok.2.2.2.1;have HWIDE:=jq hwide;obtain⟨U,hU⟩:=jl (Mid R W1 w2)
 have hUlt:∀k,U k->k<w2.heap.size:=λk hk=>by
  rw[hU]at hk;rcases hk with hk|hk
  ·have h1:=H.out.mem.rlt k hk;have h2:=HB1.out.size;have h3:=HB2.out.size
   omega
  ·exact hk.2
 have hUout:∀k,U k->k≠tb/\(w.heap.size<=k->w.heap.size+2<=k/\k<w2.heap.size):=λk hk=>by
  have h0:=HSZ1.out;have h1:=HTB.out;rw[hU]at hk;rcases hk with hk|hk
  ·have h2:=H.out.mem.rlt k hk;exact⟨by omega,λh=>by omega⟩
  ·exact⟨by omega,λh=>by omega⟩
 have HU:=jq hU;have HUO:=jq hUout;have hrows:∀r∈rs,RowB w2 U r/\Rises r.2:=by rw[hU];exact HM.out.rows
 have hpall: ((rs.map Prod.snd).flatten).Perm all:=by rw[hall];exact HPERM.out
 have HSEQ:=jq (merge_sees 4 (by omega) Bs (w0:=⟨w2,U,hUlt⟩) (s:=sortB all) HM.out.row HM.out.cap HM.out.pos (by rw[HRL.out];have:=HNE.out;omega) hrows hpall (sortB_rises all) (sortB_perm all) (λb hb=>by have:=hwide b hb;omega) HM.out.box.lt (by have:=HM.out.box.cell 0;simpa using this));have HMAX2:=jq (show(sortB all).length<=1000000 from by rw[(sortB_perm all).length_eq];exact HMAX.out);have HLE:=jq (show(sortB all).length=all.length from(sortB_perm all).length_eq);have hw02:w.heap.size+2<=w2.heap.size:=by have:=HSZ1.out;have:=HB2.out.size;omega
 clear hall hwide hU hUout hok hqn c4 hrows hpall;refine(wpIn_wide (n:=5)).1 ?_
 refine wpIn_range_sees rfl (by omega) (gf:=91) (lb:=#[.pointer (some ⟨Bs,0,none⟩)]) rfl trivial (enters_of Tryz.func91 (by kernel_rfl) rfl) HSEQ.out ?mine (λh k=>h.trans k) (λW l o o' hl ho hc _=>KeepT.putObj W l o o' (λhu=>by have:=hUlt l hu;omega) ho hc) ?vput (Below.refl _ _) (λ_=>rfl)
  (λpre W=>((∃v,Boxed W tb 36 v/\W.ownsRow w.heap.size 9 1 v pre.length (pre.map (λy=>strB y.2))/\∀g,v.ownBlock=some g->g=w.heap.size\/w2.heap.size<=g)/\Below w.heap.size w W)/\pre.length<=(sortB all).length)
  (λ_ _ _=>False)
  (OwnFrom.and (OwnFrom.and (Own.from (holdsRow_own w.heap.size tb 36 9 1 (λpre:List Told=>pre.length) (λpre=>pre.map (λy=>strB y.2)) (λ_ v=>∀g,v.ownBlock=some g->g=w.heap.size\/w2.heap.size<=g)) _) (ownFrom_below jn (by omega))) (λ_ _ _ _ hs _ _=>hs))
  (λ_ _ _ _ _ hs _ _=>hs) ?imine (λ_ _ _ _ h _=>h)
  ⟨⟨⟨_,(HB2.out.block tb HBX.out.lt).trans HBX.out,own_later HOWN0.out HB2.out,λg hg=>.inl (by simpa[Value.ownBlock]using hg.symm)⟩,HB1.out.trans (HB2.out.mono HB1.out.size)⟩,Nat.zero_le _⟩
  (λy=>{tmps:=#[.pointer (some ⟨x,0,none⟩),undef,.slice none 0 0,.int .i64 0,.pointer (some ⟨tb,0,none⟩),.func (.func 91) #[] #[.pointer (some ⟨Bs,0,none⟩)],.int .i64 0,sl y.1,undef,.slice (some ⟨w.heap.size,0,none⟩) 0 0,.tuple #[.func (.func 91) #[] #[.pointer (some ⟨Bs,0,none⟩)],.int .i64 0],.pointer (some ⟨x,0,none⟩),.tuple #[.func (.func 91) #[] #[.pointer (some ⟨Bs,0,none⟩)],.int .i64 0],.func (.func 91) #[] #[.pointer (some ⟨Bs,0,none⟩)],.int .i64 0,.int .i64 0,.bool false,undef,undef,.func (.func 91) #[] #[.pointer (some ⟨Bs,0,none⟩)],.bool false,undef,.func (.func 91) #[] #[.pointer (some ⟨Bs,0,none⟩)],sl y.1,undef,undef,undef,undef,undef,undef,undef,undef,undef,undef,undef,undef,undef,undef,undef,undef],defers:=[]}) ?assign ?body ?done ?stop
 case mine=>
  intro X Y hf;refine⟨hf.size,λk o hB ho hc=>(hf.block k (Array.getElem?_eq_some_iff.1 ho).1 (.inr (fun⟨cs,t,fr,h1,h2⟩=>?_))).trans ho⟩;rw[ho]at h1;cases h1;cases hc
 case vput=>
  rintro pre y W l o o' ⟨h1,h2⟩ hl ho hc;exact⟨h1,ownsRow_putObj h2 o' ho hc⟩
 case imine=>
  rintro pre X Y ⟨⟨⟨v,hv,hrow,hvb⟩,hB⟩,hlN⟩ hf;refine⟨⟨⟨v,hf.keep (t:=36) hv (.inr (by decide)),hf.row hrow (by decide),hvb⟩,hB.trans ⟨hf.os,hf.tape,hf.output,hf.size,λk hk=>hf.block k (Nat.lt_of_lt_of_le hk hB.size) (.inl (by show k<w2.heap.size;omega))⟩⟩,hlN⟩
 case assign=>
  intro l y W K hK;unfold told;unfold sl at hK⊢
  gi_wp2
  exact hK
 case body=>
  rintro l pre ⟨⟨xa,xn,xc⟩,b⟩ W ⟨⟨⟨v,hv,hrow,hvb⟩,hB⟩,hlN⟩ hlt ⟨hpre,hO⟩;have hbm:b∈all:=(sortB_perm all).mem_iff.1 (hpre.subset (by simp));have hbw:=HWIDE.out b hbm;have hbne:b≠[]:=λe=>by rw[e]at hbw;simp at hbw;omega
  obtain⟨gb,cb,csb,ey,hgb,hLb,hblk,hcsb⟩:=own_block hO hbne;have hO':=hO;dsimp only at ey;rw[ey]at hO';injection ey with ey1 ey2;injection ey2 with ey2 ey3;subst ey1 ey2 ey3;have hbl:b.length<=64:=by omega
  have c1:=hv.cell;have hcv:=conv_str (vc:=xc) hbne hLb;have hs:=hB.size;obtain⟨BL,hBL⟩:=jl b.length;obtain⟨sb,hsb⟩:∃sb:ByteArray,.string sb=strB b:=⟨_,rfl⟩;rw[<-hBL,<-hsb]at hcv;obtain⟨K0,hK0⟩:=jl pre.length;have hK0m:K0<=1000000:=by rw[hK0];exact Nat.le_trans hlN HMAX2.out
  have HV:=jq hv;have HB:=jq hB;have HROW:=jq hrow;have HVB:=jq hvb;have HPRE:=jq hpre;have HBL:=jq hBL;have HSB:=jq hsb;have HK0:=jq hK0;have HLT:=jq hlt;obtain⟨va,vc,rfl,_,_,_,hvo⟩:=own_shape hrow;rw[<-hK0]at c1 hvo;have HVO:=jq hvo;have hBL64:BL<=64:=by omega
  have hBL1:1<=BL:=by rw[hBL];exact List.length_pos_iff.2 hbne
  have HROW2:=jq (show W.ownsRow w.heap.size 9 1 (.slice va K0 vc) K0 (pre.map (λy=>strB y.2))from by rw[hK0];exact hrow);have hnl:∀(W:World),W=W:=λ_=>rfl
  have HBLK:=jq hblk;have HCSB:=jq hcsb;clear hv hB hrow hvb hO hO' hpre hBL hsb hK0 hlt hlN hLb hvo hbm hbw hnl hblk hcsb;unfold sl;rw[<-HBL.out]
  gi_wp2_with (first
   |(gi_at_builtin
     refine wpListIn_append_lies _ rfl _ _ 36 rfl w.heap.size 9 i0 (.string .empty) 1 16 Tryz.underlying36 hi0 hz0 hz1 hz2 rfl (by decide) _ _ _ rfl (HROW2.out.alloc _) ⟨W.heap.size,0,none⟩ 1 1 [.string sb] rfl rfl (one_at rfl) (by simp[Value.oneCell']) (by decide) (by unfold maxLen;omega) (by omega) (by rw[World.size_alloc];omega) ?_;intro g3 c3 w3 hown3 hg3 hat3 hlt3;have hap:=HV.out.appended (by decide) HROW.out hs (by rw[HTB.out];omega) hown3 (by rw[<-HK0.out];exact hg3);obtain⟨q1,q2,q3,q4,q5⟩:=hap;have g1:=q1.cell;have g2:=q1.frozen;have HQ2:=jq q2;have HQ3:=jq q3;have HQ4:=jq q4;have HQ5:=jq q5;have HG3:=jq hg3;have HAT3:=jq hat3;clear q1 q2 q3 q4 q5 hown3 hg3 hat3 hlt3)
   |gi_round_op_a)
  obtain⟨W3,hW3⟩:=jl (w3.setCell ⟨tb,0,none⟩ (.slice (some ⟨g3,0,none⟩) (K0+1) c3));have hq2:=HQ2.out;have hq3:=HQ3.out;have hq4:=HQ4.out;have hq5:=HQ5.out;rw[<-hW3]at hq2 hq3 hq4 hq5⊢;have hvne:=own_ne_blk HROW.out HBLK.out (by decide)
  have hgt:gb≠tb:=λe=>by
   have h1:=HBLK.out;have h2:=HV.out;unfold Blk at h1;unfold Boxed at h2;rw[e,h2]at h1;injection h1 with h1;injection h1 with _ h1;cases h1
  have hb3:Blk W3 gb 5 csb:=by
   rw[hW3];refine Blk.far (Blk.grown (HBLK.out.alloc _) HG3.out (λe=>?_)) (by exact hgt) _;rw[HK0.out]at e;exact hvne e.symm
  have HB3:=jq hb3;have HK4:=jq hq4;have HIN:=jq (And.intro hq2 (And.intro hq3 hq5))
  have HUP:Hid (Upon (λg=>g=tb\/(Value.slice va K0 vc).ownBlock=some g) W W3):=jq (by
   have h1:Upon (λg=>g=tb\/(Value.slice va K0 vc).ownBlock=some g) W (W.alloc (.cells #[.string sb] 9)):=Upon.of_below ((Below.refl _ W).alloc jn _);have h2:Upon (λg=>g=tb\/(Value.slice va K0 vc).ownBlock=some g) (W.alloc (.cells #[.string sb] 9)) w3:=Upon.of_grown HG3.out (λg hg=>.inl (.inr hg));have h3:=h1.trans h2 (λg hg=>.inl hg);rw[hW3];exact h3.set (p:=⟨tb,0,none⟩) (.inl (.inl rfl)) _)
  clear hW3 hq2 hq3 hq4 hq5 hb3 HQ2 HQ3 HQ4 HQ5 g1 g2 c1 hcv
  gi_loopw [8] (λi wr=>∃(k:Nat) (cs:Array Value),k<=BL/\i=.int .i64 k/\Blk wr gb 5 cs/\BL<=cs.size/\Only [gb] W3 wr) (λi _=>BL-(intOf i).toNat)
  case atStart=>exact⟨0,csb,Nat.zero_le _,rfl,HB3.out,by rw[HBL.out];exact HCSB.out,Only.refl _ _⟩
  case round=>
   obtain⟨k,cs,hk,rfl,hbk,hcs,hon⟩:=hrel
   by_cases hlt:k<BL
   ·obtain⟨u,hu⟩:∃u,wr.cell? ⟨gb,k,none⟩=some u:=⟨cs[k],(hbk.cell k).trans (Array.getElem?_eq_getElem (by omega))⟩;have hf:=hbk.frozen k;have HBK:=jq hbk;have HON:=jq hon;clear hbk hon
    gi_wp2
    go_roundw
    case rel=>exact⟨k+1,_,by omega,by simp,HBK.out.set k _,by rw[Array.size_setIfInBounds];exact hcs,HON.out.set (p:=⟨gb,k,none⟩) (.inl (by simp)) _⟩
    case measure=>simp[intOf];omega
   ·have HBK:=jq hbk;have HON:=jq hon;clear hbk hon
    gi_wp2
    have hgbl:=HBLK.out.lt;have hup:Upon (λg=>(g=tb\/(Value.slice va K0 vc).ownBlock=some g)\/g=gb) W wr:=(HUP.out.mono (λk h=>.inl h)).trans (Upon.of_only (P:=λg=>g=gb) HON.out (λg hg=>.inl (jE.1 hg))) (λg hg=>.inl (.inr hg));refine⟨(HK4.out.from _).trans (keepsFrom_cells HON.out HB3.out),KeepT.of_upon hup (λg hg _=>?_),⟨⟨_,(HON.out.block tb HIN.out.1.lt (by simpa using Ne.symm hgt)).trans HIN.out.1,?_,λg hg=>?_⟩,?_⟩,?_⟩
    ·rcases hg with(rfl|hg)|rfl
     ·exact⟨λhu=>(HUO.out _ hu).1 rfl,not_typed (t:=36) HV.out (by decide)⟩
     ·refine⟨λhu=>?_,own_not_typed HROW2.out (by decide) g hg⟩;have h1:=HUO.out g hu;have h2:=(HROW2.out.lt g hg).1;have h3:=h1.2 h2;rcases HVB.out g (by rw[<-HK0.out];exact hg)with h4|h4 <;> omega
     ·refine⟨λhu=>?_,not_typed HBLK.out (by decide)⟩;have h1:=hUlt _ hu
      omega
    ·have h1:=own_only HIN.out.2.1 HON.out (λg hg e=>own_ne_blk HIN.out.2.1 HB3.out (by decide) (by rw[hg,jE.1 e]));rw[jL,List.map_append,<-HK0.out]
     simpa[HSB.out]using h1
    ·have e:g3=g:=by simpa[Value.ownBlock]using hg
     rcases HAT3.out with h1|h1
     ·exact HVB.out g (by rw[<-HK0.out,<-e];exact h1)
     ·right
      rw[World.size_alloc]at h1
      omega
    ·exact(HB.out.trans (HIN.out.2.2)).trans (HON.out.below (Nat.le_trans (HB.out.trans HIN.out.2.2).size jn) (λg hg=>by rw[jE.1 hg];omega))
    ·rw[jL];exact HLT.out
 case done=>
  rintro D ys W hD hys ⟨⟨⟨v,hv,hrow,_⟩,hB⟩,hlN⟩ hK;have c1:=hv.cell;have g0:=(boxed_put (.deferred none) hv hK rfl).cell;have HK:=jq hK;have HB:=jq hB
  have hlen:ys.length=all.length:=by
   have:=congrArg List.length hys;rw[jP]at this;exact this.trans HLE.out
  have hrow2:W.ownsRow w.heap.size 9 1 v all.length ((sortB all).map strB):=by
   rw[hlen]at hrow;rw[<-hys,List.map_map];exact hrow
  have HROW:=jq hrow2;have hDW:=(Array.getElem?_eq_some_iff.1 hK).1;obtain⟨va,vc,rfl,_,_,_,_⟩:=own_shape hrow2;obtain⟨AL,hAL⟩:=jl all.length;rw[<-hAL]at c1 g0;have HAL:=jq hAL;clear hK hB hv hrow hrow2 hlen hys hAL;dsimp only
  gi_wp2
  go_wp2_with fail
  refine⟨by simp,.inl ⟨_,_,rfl,run_takeDeferred HK.out,?_⟩⟩;refine⟨.tuple #[.slice va AL vc,.int .i64 0],by simp[results,Tryz.f11,go_sem],_,rfl,?_,?_⟩
  ·rw[HAL.out];exact ownsRow_putObj HROW.out _ HK.out rfl
  ·exact HB.out.trans ((Below.refl _ W).grown (grownBy_putObj' W D _) (by have:=HB.out.size;omega) (λq e=>by cases e;omega))
 case stop=>
  rintro D c pre W hD _ hI hK;exact hI.elim
theorem rowsLaw_any {s:Nat} {S:Store.Sto s} {A:Fi} {w:World} {Q R:Nat->Prop} {off:Bool} {F:Files} {n x ne:Nat} {hv:Value} {vs:List SL} {held:List B} (h:Srt S A w Q R off F n x ne hv vs held) (ls:List (List B)) (hls:ls.length=ne) (hne:ne<=1000) (hF:RunFiles A F ls) (hoff:off=false\/ne=0) (all:List B) (hall:all=held++ls.flatten) (hmax:all.length<=1000000):
  Calls Tryz.prog 11 #[.pointer (some ⟨x,0,none⟩)] w λe w'=>∃v,e=.returned (.tuple #[v,.int .i64 0])/\w'.ownsRow w.heap.size 9 1 v all.length ((sortB all).map strB)/\Below w.heap.size w w':=
 rowsLaw_of h ls hne hF.wide (λ_ hW=>rows_any (h.later hW) ls hls hne hF hoff) all hall hmax
end Runs
namespace Runs
open Go.RowKit Go.Deep Go.Shelf Mem Crc Merge
open Store (Sto Files setF nv)
def runsR (A:Fi) (F:Files):Nat->Option (List (List B))
 |0=>some []
 |k+1=>match runsR A F k with
  |none=>none
  |some ls=>match F (rname A.pf k)with
   |none=>none
   |some b=>match readR A.wd b with
    |none=>none
    |some l=>some (ls++ [l])
theorem runsR_next {A:Fi} {F:Files} {k:Nat} {ls:List (List B)} {b:List UInt8} {l:List B} (h:runsR A F k=some ls) (hb:F (rname A.pf k)=some b) (hl:readR A.wd b=some l):runsR A F (k+1)=some (ls++ [l]):=by
 simp only[runsR,h,hb,hl]
theorem runsR_stop {A:Fi} {F:Files} {k:Nat} {ls:List (List B)} {b:List UInt8} (h:runsR A F k=some ls) (hb:F (rname A.pf k)=some b) (hl:readR A.wd b=none):runsR A F (k+1)=none:=by
 simp only[runsR,h,hb,hl]
theorem runsR_none {A:Fi} {F:Files} {k n:Nat} (hn:k<=n) (h:runsR A F k=none):runsR A F n=none:=by
 obtain⟨d,rfl⟩:=Nat.le.dest hn
 induction d with
 |zero=>exact h
 |succ d ih=>rw[<-Nat.add_assoc];simp only[runsR,ih (by omega)]
theorem runsR_wide {A:Fi} {F:Files}:∀{k:Nat} {ls:List (List B)},runsR A F k=some ls->ls.length=k/\∀l∈ls,(∀b∈l,b.length=A.wd)/\Rises l
 |0,ls,h=>by
  cases h;exact⟨rfl,λl hl=>by cases hl⟩
 |k+1,ls,h=>by
  unfold runsR at h
  split at h
  ·cases h
  ·rename_i ls' h1
   split at h
   ·cases h
   ·split at h
    ·cases h
    ·rename_i l h2
     injection h with h;subst h;obtain⟨i1,i2⟩:=runsR_wide h1;refine⟨by simp[i1],λx hx=>?_⟩;rcases List.mem_append.1 hx with hx|hx
     ·exact i2 x hx
     ·rw[jE.1 hx];exact⟨readR_wide h2,readR_rises h2⟩
attribute [local go_sem] Oper.semAt_some
theorem chunk0_in (n:Nat) (_:1<=n) (l Bs Bn:Nat) {w0:World} {a:Option Addr} {wd c:Nat} (hs0:Bs<w0.heap.size) (hn0:Bn<w0.heap.size) (J Jx:List SL->World->Prop)
  (W:World) (hB:Below w0.heap.size w0 W) (hcs:w0.cell? ⟨Bs,0,none⟩=some (.slice a 0 c)) (hcn:w0.cell? ⟨Bn,0,none⟩=some (.int .i64 wd)) (h0:J [] W):
  CallsIn Fence.wide n Tryz.prog 105 #[.func (.yield l) #[] #[],.pointer (some ⟨Bs,0,none⟩),.pointer (some ⟨Bn,0,none⟩)] W λe W'=>(∃v,e=.returned v)/\
   ((∃ys,ys= []/\J ys W')\/(∃pre,(∃k,k<=0/\pre=([]:List SL))/\Jx pre W')):=by
 refine callsIn_of_wp Tryz.func105 rfl trivial ?_ rfl;simp only[Tryz.ntmps105,List.size_toArray,List.length_cons,List.length_nil,Nat.reduceAdd,Nat.reduceSub,Array.replicate_succ,Array.replicate_zero,List.push_toArray,List.append_toArray,List.nil_append,List.cons_append]
 gi_wp2
 gi_loopw [4] (λi wr=>i=.int .i64 0/\J [] wr/\Below w0.heap.size w0 wr) (λ_ _=>0)
 case atStart=>exact⟨rfl,h0,hB⟩
 case round=>
  obtain⟨rfl,hJs,hnx⟩:=hrel;have hcs1:=(hnx.cell (p:=⟨Bs,0,none⟩) hs0).trans hcs;have hcn1:=(hnx.cell (p:=⟨Bn,0,none⟩) hn0).trans hcn
  gi_wp2
  go_end0
  exact⟨⟨_,rfl⟩,.inl ⟨_,rfl,hJs⟩⟩
theorem collect_zero {a:Option Addr} {wd c:Nat} (w:World) (Bs Bn:Nat) (hBs:Bs<w.heap.size) (hBn:Bn<w.heap.size) (hcs:w.cell? ⟨Bs,0,none⟩=some (.slice a 0 c)) (hcn:w.cell? ⟨Bn,0,none⟩=some (.int .i64 wd)):
  Calls Tryz.prog 89 #[.func (.func 105) #[] #[.pointer (some ⟨Bs,0,none⟩),.pointer (some ⟨Bn,0,none⟩)]] w λe w'=>∃v,e=.returned v/\OwnL w' w.heap.size v []/\Below w.heap.size w w':=by
 have hseq:SeqStopsK Fence.wide 4 Tryz.prog 105 #[.pointer (some ⟨Bs,0,none⟩),.pointer (some ⟨Bn,0,none⟩)] (λx:SL=>#[sl x]) (Below w.heap.size) (λys=>ys= [])
   (λpre=>∃k,k<=0/\pre= []) 0 w:=λl J Jx W hW hJ hJx hY h0=>by
  exact chunk0_in 4 (by omega) l Bs Bn (w0:=w) hBs hBn J Jx W hW hcs hcn h0
 refine(collect_any _ _ (enters_of Tryz.func105 (by kernel_rfl) rfl) (by omega) w jn hseq).mono ?_;rintro e w' ⟨v,xs,rfl,rfl,_,h1,h2⟩;exact⟨v,rfl,h1,h2⟩
structure RunIn (w w':World) (l:List B) (v:Value) (vs:List SL):Prop where
 own:OwnL w' w.heap.size v vs
 recs:RecsIn w' (vs.map sl) l
 fresh:∀y∈vs,∀g,Mem.blk y.1=some g->w.heap.size<=g
 below:Below w.heap.size w w'
def RunAns (o:Option (List B)) (w:World) (e:Ending) (w':World):Prop:=
 Below w.heap.size w w'/\match o with
 |some l=>∃v vs,e=.returned (.tuple #[v,.int .i64 0])/\RunIn w w' l v vs
 |none=>e=.returned (.tuple #[.slice none 0 0,.int .i64 5])
theorem run_gen {s:Nat} {S:Store.Sto s} {A:Fi} {w:World} {Q R:Nat->Prop} {F:Files} {n x ne:Nat} {hv:Value} {vs:List SL} {held:List B} (h:Srt S A w Q R false F n x ne hv vs held) (k:Nat) (hk:k<=1000000) (bs:List UInt8) (hF:F (rname A.pf k)=some bs) (hb6:bs.length<=1000000):
  Calls Tryz.prog 57 #[.pointer (some ⟨x,0,none⟩),.int .i64 k] w (RunAns (readR A.wd bs) w):=by
 obtain rfl:=h.sIs;obtain⟨k1,k2,k3,k4,k5,k6⟩:=id h.ok;have q0:=h.cell 0;have q1:=h.cell 1;have q2:=h.cell 2
 simp[sorterC]at q0 q1 q2
 have hbs:=hb6;have HNM:=jq (name_any A.pf k2 k hk x w.drew q1 h.blk.lt);have HRD:=jq (fun(W:World) (hW:Below w.heap.size w W)=>S.read_some (S.later h.sto hW) (rname A.pf k) _ hF);have HBS:=jq hbs;have HXL:=jq h.blk.lt;obtain⟨nm,hnm⟩:=jl (nv (rname A.pf k));rw[<-hnm]at HNM HRD;have HDR:=jq ((Below.refl w.heap.size w).drew);obtain⟨R0,hR0⟩:=jl (readR A.wd bs);rw[<-hR0];have HR0:=jq hR0;clear h hF hbs hnm q1 hR0 hb6
 go_enter Tryz.func57,Tryz.ntmps57
 go_wp2_with fail
 go_region_held3 (λw'=>w'.cell? ⟨x,0,none⟩=some (.pointer (some ⟨A.s,0,none⟩))) (first|exact q0|exact hk3|exact hk2) ((first|(go_at_call 19;refine HNM.out.mono ?_;rintro e w1 ⟨rfl,hB1⟩;have hBd:=HDR.out.trans hB1;have hk2:=(hBd.cell (p:=⟨x,0,none⟩) HXL.out).trans q0;dsimp only)|(go_at_call 87;refine(HRD.out _ hBd).mono ?_;rintro e w2 ⟨v2,rfl,hO2,hB2⟩;have hBe:=hBd.trans (hB2.mono hBd.size);have hk3:=(hBe.cell (p:=⟨x,0,none⟩) HXL.out).trans q0;dsimp only)))
 obtain⟨va,vc,rfl,hvc,hL,_,_⟩:=own_shape hO2;have hAll:=Go.Proofs.YtcdcnhecimajkaaGreatDoor.Frame.all_any va vc _ w2 hL hvc (by have:=HBS.out;omega);have HBE:=jq hBe;obtain⟨nb,hnb⟩:=jl bs.length;rw[<-hnb]at hAll⊢;have HNB:=jq hnb;have HAL:=jq hAll;clear hAll hL hO2 hB2 hBe hB1 hBd hk2 hk3 hnb
 go_wp2_with fail
 refine HAL.out.mono ?_;rintro e w3 ⟨⟨v3,secs,rfl,hO3,hkb,hbod⟩,hB3⟩;obtain⟨va3,vc3,rfl,hvc3,hL3,hbl3,_⟩:=own_shape hO3;have hBZ:=HBE.out.trans (hB3.mono HBE.out.size);have q23:=(hBZ.cell (p:=⟨x,2,none⟩) HXL.out).trans q2;obtain⟨er,her⟩:=jl ((Frame.allF (bs.length+1) bs).2);obtain⟨ns,hns⟩:=jl secs.length;rw[<-her,<-hns];have HBZ:=jq hBZ;have hbad:R0=none->RunAns R0 w (.returned (.tuple #[.slice none 0 0,.int .i64 5])) w3:=λh=>⟨HBZ.out,by rw[h]⟩
 have hbadN:R0=none->∀m,RunAns R0 w (.returned (.tuple #[.slice none 0 0,.int .i64 5])) (w3.drewN m):=λh m=>⟨⟨HBZ.out.os,HBZ.out.tape,HBZ.out.output,HBZ.out.size,HBZ.out.block⟩,by rw[h]⟩
 by_cases he:er=0
 case neg=>
  have HE:=jq (hbadN (by rw[HR0.out];exact readR_bad (by rw[<-her];exact he)));have t1: (er==0)=false:=by simpa using he
  have t2: (er !=0)=true:=by simpa using he
  clear hkb hbod hO3 hL3 hB3 hBZ her hns hbad hbadN
  go_wp2_with fail
  go_quiet (fail)
  go_wp2_with fail
  go_ret2
  exact HE.out _
 subst he
 by_cases hs1:ns=1
 case neg=>
  have HE:=jq (hbadN (by rw[HR0.out];exact readR_many (by rw[<-hkb,jP,<-hns];exact hs1)));have t1: ((ns:Int)==1)=false:=by simp;omega
  have t2: ((ns:Int) !=1)=true:=by simp;omega
  clear hkb hbod hO3 hL3 hB3 hBZ her hns hbad hbadN
  go_wp2_with fail
  go_quiet (fail)
  go_wp2_with fail
  go_ret2
  exact HE.out _
 subst hs1
 obtain⟨sec,rfl⟩:∃z,secs= [z]:=by
  match secs,hns with
  | [z],_=>exact⟨z,rfl⟩
 have hbd:=hbod sec (by simp);obtain⟨g3,off3,rfl,hg3,hc3⟩:=hL3.resolve_left (λe=>by simp[Frame.flatS,Frame.Sec.vs]at e);obtain⟨kd,hkd⟩:=jl sec.kind.toNat;have p0:=hc3 0 (.int .u8 (kd:Int)) (by simp[Frame.flatS,Frame.Sec.vs,hkd,bv]);obtain⟨M,hM⟩:=jl sec.body.length;have p1:=hc3 1 (.slice sec.a M sec.cp) (by simp[Frame.flatS,Frame.Sec.vs,hM]);rw[Nat.add_zero]at p0;have HR1:=jq (show R0=rowsS A.wd sec.kind sec.body by rw[HR0.out];exact readR_one her.symm hkb.symm)
 by_cases h82:kd=82
 case neg=>
  have HE:=jq (hbadN (by
   rw[HR1.out];unfold rowsS;rw[if_neg (λe=>h82 (by rw[hkd,e.1];rfl))]))
  have t1: ((kd:Int)==82)=false:=by simp;omega
  have t2: ((kd:Int) !=82)=true:=by simp;omega
  clear hkb hbod hO3 hL3 hB3 hBZ her hns hbad hbadN hbd hc3 hkd hM
  go_wp2_with fail
  go_quiet (fail)
  go_wp2_with fail
  go_ret2
  exact HE.out _
 subst h82;have hk82:sec.kind=82:=UInt8.toNat_inj.1 (by rw[<-hkd];rfl)
 have hwd0: ((A.wd:Int)==0)=false:=by
  have:¬(A.wd:Int)=0:=by omega
  simpa using this
 obtain⟨r,hr⟩:=jl (M%A.wd);have hmod: (M:Int).tmod (A.wd:Int)=(r:Int):=by rw[hr];exact(Int.ofNat_tmod M A.wd).symm
 by_cases h00:r=0
 case neg=>
  have HE:=jq (hbadN (by
   rw[HR1.out];unfold rowsS;rw[if_neg (λe=>h00 (by rw[hr,hM];exact e.2.1))]))
  have t1: ((r:Int)==0)=false:=by simp;omega
  have t2: ((r:Int) !=0)=true:=by simp;omega
  clear hkb hbod hO3 hL3 hB3 hBZ her hns hbad hbadN hbd hc3 hkd hM hr hk82
  go_wp2_with fail
  go_quiet (fail)
  go_wp2_with fail
  go_ret2
  exact HE.out _
 subst h00
 have hMb:M<=1000000:=by
  have:=allF_body (bs.length+1) bs sec.kb (by rw[<-hkb];simp);have h2:=HBS.out;have h3:sec.kb.2.length=M:=hM.symm
  omega
 have hMm:M=M/A.wd*A.wd:=by have:=Nat.div_add_mod' M A.wd;omega
 obtain⟨m,hm⟩:=jl (M/A.wd);rw[<-hm]at hMm;obtain⟨l,hl⟩:=jl (cutB A.wd m sec.body)
 have HR2:=jq (show R0=if Rises l then some l else none by
  rw[HR1.out];unfold rowsS;rw[<-hM,<-hm,<-hl]
  by_cases h:Rises l
  ·rw[if_pos h,if_pos ⟨hk82,hr.symm,h⟩]
  ·rw[if_neg h,if_neg (λe=>h e.2.2)])
 obtain⟨va4,vc4,ev4,hvc4,hL4,hbl4,_⟩:=own_shape hbd;injection ev4 with ea4 _ ec4;rw[<-ea4]at hL4 hbl4;rw[<-ec4,<-hM]at hvc4;have hw3:=HBE.out.size
 obtain⟨vs,c1,c2,c3,c4⟩:∃vs:List SL,(∀W,Below w3.heap.size w3 W->RecsIn W (vs.map sl) l)/\(∀y∈vs,∀g,Mem.blk y.1=some g->w.heap.size<=g/\g<w3.heap.size)/\vs.length<=1000000/\∀(w4:World) (Bs Bn:Nat),Bs<w4.heap.size->Bn<w4.heap.size->w4.cell? ⟨Bs,0,none⟩=some (.slice sec.a M sec.cp)->w4.cell? ⟨Bn,0,none⟩=some (.int .i64 A.wd)->Calls Tryz.prog 89 #[.func (.func 105) #[] #[.pointer (some ⟨Bs,0,none⟩),.pointer (some ⟨Bn,0,none⟩)]] w4 λe w'=>∃v,e=.returned v/\OwnL w' w4.heap.size v vs/\Below w4.heap.size w4 w':=by
  by_cases hM0:M=0
  ·have hm0:m=0:=by rw[hm,hM0,Nat.zero_div]
   refine⟨[],λW _=>?_,(λy hy=>by cases hy),by simp,λw4 Bs Bn h1 h2 h3 h4=>?_⟩
   ·rw[hl,hm0];exact recsIn_nil W
   ·rw[hM0]at h3;exact collect_zero w4 Bs Bn h1 h2 h3 h4
  ·obtain⟨gb,ob,eb,hgb,hcb⟩:=hL4.resolve_left (λe=>by
    have:=congrArg List.length e;rw[jP,<-hM]at this
    simp at this
    omega)
   refine⟨pieces gb ob A.wd m,λW hW=>?_,λy hy g hg=>?_,?_,λw4 Bs Bn h1 h2 h3 h4=>?_⟩
   ·have hpe:pieces gb ob A.wd m=(List.range l.length).map λj=>((some ⟨gb,ob+(0+j)*A.wd,none⟩,A.wd,A.wd):SL):=by
     rw[hl,cutB_len];unfold pieces
     apply List.map_congr_left
     intro j _;rw[Nat.zero_add]
    rw[hpe];refine pieces_recs l 0 (by rw[hl];exact cutB_wide (by rw[<-hM];exact hMm)) (λi u hu=>?_) (Nat.lt_of_lt_of_le hgb hW.size);rw[hl,cutB_flat (by rw[<-hM];exact hMm)]at hu;rw[Nat.zero_mul,Nat.add_zero];exact(hW.cell (p:=⟨gb,ob+i,none⟩) hgb).trans (hcb i u hu)
   ·obtain⟨j,_,rfl⟩:=List.mem_map.1 hy;have e1:gb=g:=by simpa[Mem.blk]using hg
    have:=hbl4 gb (by rw[eb];rfl)
    omega
   ·rw[pieces_len];have:=Nat.le_mul_of_pos_right m (show 0<A.wd by omega)
    omega
   ·rw[eb,hMm]at h3;exact collect_pieces (by omega) (by rw[<-hMm];exact hvc4) (by rw[<-hMm];exact hMb) w4 Bs Bn h1 h2 h3 h4
 have HC1:=jq c1;have HC2:=jq c2;have HC3:=jq c3;have HC4:=jq c4;have HG3:=jq hg3;clear hkb hbod hO3 hL3 hc3 hL4 hB3 ea4 ec4 hbd hkd hM hr hk82 hMb hMm hm hl her hns hvc4 hbl4 hbl3 hw3 c1 c2 c3 c4 hbad hbadN hBZ q2 q0 hg3
 go_wp2_with fail
 go_quiet (fail)
 obtain⟨V,hV⟩:=jl (w3.drewN nq);have hBV:Below w3.heap.size w3 V:=by rw[hV];exact⟨rfl,rfl,rfl,Nat.le_refl _,λ_ _=>rfl⟩
 rw[<-hV];have v1:=(hBV.cell (p:=⟨g3,off3+1,none⟩) HG3.out).trans p1;have v2:=(hBV.cell (p:=⟨x,2,none⟩) (Nat.lt_of_lt_of_le HXL.out HBZ.out.size)).trans q23;have HBV:=jq hBV;have HG3V:=jq (Nat.lt_of_lt_of_le HG3.out hBV.size);have HXV:=jq (Nat.lt_of_lt_of_le (Nat.lt_of_lt_of_le HXL.out HBZ.out.size) hBV.size);have HDV:=jq ((Below.refl V.heap.size V).drew);have HCH:=jq (chunk_of sec.a M sec.cp A.wd k3 V.drew);clear hV hBV p0 p1 q23 hmod hwd0
 go_wp2_with fail
 go_region_held3 (λw'=>w'.cell? ⟨g3,off3+1,none⟩=some (.slice sec.a M sec.cp)/\w'.cell? ⟨x,2,none⟩=some (.int .i64 (A.wd:Int))) (first|exact⟨v1,v2⟩|exact hk4|exact hk5) ((first|(go_at_call 66;refine HCH.out.mono ?_;rintro e w4 ⟨rfl,hB4,b1,b2,b3⟩;have hB4:=HDV.out.trans hB4;have hk4:=And.intro ((hB4.cell (p:=⟨g3,off3+1,none⟩) HG3V.out).trans v1) ((hB4.cell (p:=⟨x,2,none⟩) HXV.out).trans v2);dsimp only)|(go_at_call 89;refine(HC4.out w4 _ _ (by omega) b3 b1 b2).mono ?_;rintro e w5 ⟨v5,rfl,hO5,hB5⟩;have hB45:=hB4.trans (hB5.mono hB4.size);have hk5:=And.intro ((hB45.cell (p:=⟨g3,off3+1,none⟩) HG3V.out).trans v1) ((hB45.cell (p:=⟨x,2,none⟩) HXV.out).trans v2);dsimp only)))
 have hB35:Below w3.heap.size w3 w5:=HBV.out.trans (hB45.mono HBV.out.size)
 have hz4:w3.heap.size<=w4.heap.size:=by
  have h2:=HBV.out.size;have h3:=hB4.size
  omega
 have hRE:=HC1.out w5 hB35
 have HIS:=jq (isSorted_gen hO5 hRE (λy hy g hg e=>by
  have h1:=HC2.out y hy g hg;have h2:=(hO5.lt g e.symm).1
  omega) HC3.out)
 have HB5:=jq (HBZ.out.trans (hB35.mono HBZ.out.size));have HO5:=jq (own_mono hO5 (show w.heap.size<=w4.heap.size from by have h1:=HBZ.out.size;omega));have HRE:=jq hRE;obtain⟨rb,hrb⟩:=jl (decide (Rises l));rw[<-hrb]at HIS;have HRB:=jq hrb;clear hB35 hRE hz4 hO5 hB5 hB45 hB4 hk4 hk5 b1 b2 b3 v1 v2 hrb
 go_wp2_with fail
 refine HIS.out.mono ?_;rintro e w6 ⟨rfl,hB6⟩;have hB06:=HB5.out.trans (hB6.mono HB5.out.size);cases rb
 ·have hn:R0=none:=by
   rw[HR2.out,if_neg (of_decide_eq_false HRB.out.symm)]
  have HE:=jq (show RunAns R0 w (.returned (.tuple #[.slice none 0 0,.int .i64 5])) w6 from⟨hB06,by rw[hn]⟩);clear hB6 HIS hB06 hn
  go_wp2_with fail
  go_ret2
  exact HE.out
 ·have hn:R0=some l:=by
   rw[HR2.out,if_pos (of_decide_eq_true HRB.out.symm)]
  have HE:=jq (show RunAns R0 w (.returned (.tuple #[v5,.int .i64 0])) w6 from⟨hB06,by
   rw[hn];exact⟨v5,vs,rfl,own_later HO5.out hB6,HRE.out.later hB6,λy hy g hg=>(HC2.out y hy g hg).1,hB06⟩⟩)
  clear hB6 HIS hB06 hn
  go_wp2_with fail
  go_ret2
  exact HE.out
end Runs
namespace Runs
open Go.RowKit Go.Deep Go.Shelf Mem Crc Merge
open Store (Sto Files setF nv)
attribute [local go_sem] Oper.semAt_some
theorem RowB.of_in {w w':World} (R:Nat->Prop) {l:List B} {v:Value} {vs:List SL} (h:RunIn w w' l v vs) (hne:∀b∈l,b≠[]):∃a c,v=.slice a l.length c/\RowB w' (Mid R w w') ((a,l.length,c),l):=by
 obtain⟨a,c,rfl,hc,hL,hb,_⟩:=own_shape h.own;have hl:vs.length=l.length:=by simpa using h.recs.len
 refine⟨a,c,by rw[<-hl],a,c,vs,rfl,by rw[<-hl];exact hc,hl,hL,λg hg=>.inr (hb g hg),h.recs,λy hy g hg=>.inr ⟨h.fresh y hy g hg,?_⟩⟩;obtain⟨i,hi⟩:=List.getElem?_of_mem hy;have hil:i<l.length:=by rw[<-hl];exact(jS.1 hi).1
 exact rec_block (h.recs.at_ i (sl y) l[i] (by simp[hi]) (jg hil)) (hne _ (List.getElem_mem hil)) g hg
def RowsAns (A:Fi) (F:Files) (ne:Nat) (held:List B) (R:Nat->Prop) (w:World) (e:Ending) (w':World):Prop:=
 Below w.heap.size w w'/\match runsR A F ne with
 |some ls=>∃Bs rs ad c,e=.returned (.tuple #[.func (.func 91) #[] #[.pointer (some ⟨Bs,0,none⟩)],.int .i64 0])/\Merging w' (Mid R w w') Bs rs ad c/\rs.length=ne+1/\((rs.map Prod.snd).flatten).Perm (held++ls.flatten)
 |none=>e=.returned (.tuple #[.nilFunc,.int .i64 5])
theorem rows_gen {s:Nat} {S:Store.Sto s} {A:Fi} {w:World} {Q R:Nat->Prop} {F:Files} {n x ne:Nat} {hv:Value} {vs:List SL} {held:List B} (h:Srt S A w Q R false F n x ne hv vs held) (hne:ne<=1000) (hF:∀j,j<ne->F (rname A.pf j)≠none) (hsz:∀nm b,F nm=some b->b.length<=1000000):
  Calls Tryz.prog 34 #[.pointer (some ⟨x,0,none⟩)] w (RowsAns A F ne held R w):=by
 obtain⟨k1,k2,k3,k4,k5,k6⟩:=id h.ok;have hlv:vs.length=held.length:=by simpa using h.mem.recs.len
 have hroom:=h.room;have q4:=h.cell 4;have q5:=h.cell 5;have q6:=h.cell 6
 simp[sorterC]at q4 q5 q6
 have HS:=jq (sorted_any x h.mem q6 k3 (by omega));have H:=jq h;have HXL:=jq h.blk.lt;obtain⟨i0,hi0,hz0,hz1,hz2⟩:=info_parts infoRow;clear h hlv q6
 go_enter Tryz.func34,Tryz.ntmps34
 go_wp2_with fail
 refine HS.out.mono ?_;rintro e w1 ⟨v,vs',l',rfl,hS⟩;obtain⟨a1,c1,rfl,hrow1⟩:=RowB.of_sorted hS H.out.mem.rb;have hB1:=hS.below;have hl1:=hS.perm;have hr1:=hS.rises;obtain⟨y1,hy1⟩:∃y1:SL×List B,y1=((a1,l'.length,c1),l'):=⟨_,rfl⟩;obtain⟨N1,hN1⟩:=jl l'.length;have hB2:Below w.heap.size w (w1.alloc (.cells #[.slice a1 N1 c1] 25)):=hB1.alloc hB1.size _;have q42:=(hB2.cell (p:=⟨x,4,none⟩) HXL.out).trans q4
 have hst:AllRows w (w1.alloc (.cells #[.slice a1 N1 c1] 25)) R [y1] (.slice (some ⟨w1.heap.size,0,none⟩) 1 1):=by
  refine⟨?_,λr hr=>?_⟩
  ·have:=World.ownsRow_lit (base:=w.heap.size) (e:=25) (size:=1) w1 #[.slice a1 N1 c1] 1 hB1.size (by decide) rfl;rw[hy1]
   simpa[OwnR,sl,hN1]using this
  ·rw[jE.1 hr,hy1];refine⟨(hrow1.later ((Below.refl _ w1).alloc jn _)).mono (λg hg=>⟨hg.imp id (λh=>⟨h.1,by simp;omega⟩),λe=>?_⟩),hr1⟩;have e:g=w1.heap.size:=by simpa[Value.ownBlock]using e
   rcases hg with hg|hg
   ·have:=H.out.mem.rlt g hg;have:=hB1.size
    omega
   ·omega
 have HST:=jq hst;have HB2:=jq hB2;have HP1:=jq (show(([y1].map Prod.snd).flatten).Perm (held++([]:List (List B)).flatten)from by rw[hy1];simpa using hl1);rw[<-hN1];clear hst hB2 hrow1 hl1 hr1 hy1 hN1 hB1 hS HS
 go_wp2_with fail
 go_loopw[4,5] (λo i wr=>∃(k:Nat) (rs:List (SL×List B)) (ls:List (List B)),runsR A F k=some ls/\k<=ne/\i=.int .i64 k/\rs.length=k+1/\AllRows w wr R rs o/\((rs.map Prod.snd).flatten).Perm (held++ls.flatten)/\Below w.heap.size w wr) (λ_ i _=>ne-(intOf i).toNat)
 case atStart=>exact⟨0,[y1],[],rfl,Nat.zero_le _,rfl,rfl,HST.out,HP1.out,HB2.out⟩
 case round=>
  obtain⟨k,rs,ls,hls,hk,rfl,hrl,hA,hP,hBr⟩:=hrel
  rename_i o _
  have q5r:=(hBr.cell (p:=⟨x,5,none⟩) HXL.out).trans q5;obtain⟨oa,oc,rfl,hoc,hoL,hob,hobk⟩:=own_shape hA.own;rw[jP,hrl]at hA hobk;rw[jP]at hoc⊢;have HLS:=jq hls;have HA:=jq hA;have HP:=jq hP;have HBR:=jq hBr;have HRL:=jq hrl;have HOL:=jq hoL;have HOB:=jq hob;have HOBK:=jq hobk;clear hA hP hBr hoL hob hobk hls;rw[hrl]at hoc⊢;clear hrl
  by_cases hlt:k<ne
  ·obtain⟨b,hb⟩:=Option.ne_none_iff_exists'.1 (hF k hlt);have HRUN:=jq (run_gen (H.out.later HBR.out) k (by omega) b hb (hsz _ b hb));have HFB:=jq hb;clear hb
   cases hrd:readR A.wd b with
   |none=>
    rw[hrd]at HRUN;have HN:=jq (show runsR A F ne=none from runsR_none (by omega) (runsR_stop HLS.out HFB.out hrd));clear hrd
    go_wp2_with fail
    refine HRUN.out.mono ?_;rintro e w2 ⟨hB2,rfl⟩;have HE:=jq (show RowsAns A F ne held R w (.returned (.tuple #[.nilFunc,.int .i64 5])) w2 from⟨HBR.out.trans (hB2.mono HBR.out.size),by rw[HN.out]⟩);clear hB2 HRUN
    go_wp2_with fail
    go_ret2
    exact HE.out
   |some lk=>
   rw[hrd]at HRUN;have HLK:=jq (show runsR A F (k+1)=some (ls++ [lk])from runsR_next HLS.out HFB.out hrd);have HRD:=jq hrd;clear hrd
   go_wp2_with fail
   refine HRUN.out.mono ?_;rintro e w2 ⟨hBz,v2,vs2,rfl,hR2⟩;clear hBz
   obtain⟨a2,c2,rfl,hrow2⟩:=RowB.of_in R hR2 (λb hb e=>by
    have:=readR_wide HRD.out b hb;rw[e]at this
    simp at this
    omega)
   obtain⟨y2,hy2⟩:∃y2:SL×List B,y2=((a2,lk.length,c2),lk):=⟨_,rfl⟩;obtain⟨N2,hN2⟩:=jl lk.length;have hBr2:Below w.heap.size w w2:=HBR.out.trans (hR2.below.mono HBR.out.size)
   have hown2:w2.ownsRow w.heap.size 25 1 (.slice oa (k+1) oc) (k+1) ((rs.map Prod.fst).map sl):=by
    have:w2.ownsRow w.heap.size 25 1 (.slice oa (k+1) oc) (rs.map Prod.fst).length ((rs.map Prod.fst).map sl):=own_later HA.out.own hR2.below;rw[jP,HRL.out]at this;exact this
   have HOW:=jq (hown2.alloc (.cells #[.slice a2 N2 c2] 25));have HWS:=jq (show w.heap.size<=(w2.alloc (.cells #[.slice a2 N2 c2] 25)).heap.size from by have:=hBr2.size;simp;omega);have HBR2:=jq hBr2;have HR2:=jq hR2;have HROW2:=jq hrow2;have HY2:=jq hy2;have HN2:=jq hN2;rw[<-hN2];clear hown2 hBr2 hR2 hrow2 hy2 hN2 HRUN
   go_wp2_with (at_builtin;refine wpList_append_lies _ rfl _ _ 127 rfl w.heap.size 25 i0 (.slice none 0 0) 1 24 Tryz.underlying127 hi0 hz0 hz1 hz2 rfl (by decide) _ _ _ rfl HOW.out ⟨w2.heap.size,0,none⟩ 1 1 [.slice a2 N2 c2] rfl rfl (one_at rfl) (by simp[Value.oneCell']) (by decide) (by unfold maxLen;omega) (by omega) HWS.out _ rfl ?_;intro g3 c3 w3 hown3 hg3 hat3 hlt3;have HO3:=jq hown3;have HG3:=jq hg3;have HAT:=jq hat3;have HLT:=jq hlt3;clear hown3 hg3 hat3 hlt3)
   have hBA:Below w2.heap.size w2 (w2.alloc (.cells #[.slice a2 N2 c2] 25)):=(Below.refl _ w2).alloc jn _;have hu3:Upon (λg=>(Value.slice oa (k+1) oc).ownBlock=some g) (w2.alloc (.cells #[.slice a2 N2 c2] 25)) w3:=Upon.of_grown HG3.out (λg hg=>.inl hg);have HB3:=jq (show Below w.heap.size w w3 from(HBR2.out.alloc HBR2.out.size _).trans (hu3.below HWS.out (λg hg=>(HOW.out.lt g hg).1)))
   have HA3:=jq (show AllRows w w3 R (rs++ [y2]) (.slice (some ⟨g3,0,none⟩) (k+1+1) c3)from by
    have hown3:=HO3.out;have hsz:=hu3.size
    simp at hsz
    refine⟨?_,λr hr=>?_⟩
    ·show w3.ownsRow w.heap.size 25 1 _ ((rs++ [y2]).map Prod.fst).length (((rs++ [y2]).map Prod.fst).map sl);rw[jP,jL,HRL.out,List.map_append,List.map_append,HY2.out]
     simpa[sl,HN2.out]using hown3
    ·have hat: (Value.slice oa (k+1) oc).ownBlock=some g3\/g3=(w2.alloc (.cells #[.slice a2 N2 c2] 25)).heap.size:=HAT.out;have hrs:=HBR.out.size;have hr2:=HR2.out.below.size;have hoa:∀g,(Value.slice oa (k+1) oc).ownBlock=some g->w.heap.size<=g/\g<wr.heap.size:=λg hg=>HOB.out g (by rw[<-HOBK.out];exact hg)
     rw[World.size_alloc]at hat
     have hgo:∀g,Mid R wr w2 g\/Mid R w wr g->some g≠(Value.slice oa (k+1) oc).ownBlock->Mid R w w3 g/\some g≠(Value.slice (some ⟨g3,0,none⟩) (k+1+1) c3).ownBlock:=λg hg hne=>by
      refine⟨?_,λe=>?_⟩
      ·rcases hg with(hg|hg)|(hg|hg)
       ·exact .inl hg
       ·exact .inr ⟨by omega,by omega⟩
       ·exact .inl hg
       ·exact .inr ⟨by omega,by omega⟩
      ·have e:g=g3:=by simpa[Value.ownBlock]using e
       rcases hat with h3|h3
       ·exact hne (by rw[e,h3])
       ·rcases hg with(hg|hg)|(hg|hg)
        ·have:=H.out.mem.rlt g hg;have:=HBR.out.size
         omega
        ·omega
        ·have:=H.out.mem.rlt g hg
         omega
        ·omega
     rcases List.mem_append.1 hr with hr|hr
     ·have h1:=HA.out.rows r hr;refine⟨(((h1.1.later HR2.out.below).later hBA).upon hu3 (λg hg e=>hg.2 e.symm)).mono (λg hg=>hgo g (.inr hg.1) hg.2),h1.2⟩
     ·rw[jE.1 hr,HY2.out]
      have hne2:∀g,Mid R wr w2 g->some g≠(Value.slice oa (k+1) oc).ownBlock:=λg hg e=>by
       have:=hoa g e.symm;rcases hg with hg|hg
       ·have:=H.out.mem.rlt g hg
        omega
       ·omega
      exact⟨((HROW2.out.later hBA).upon hu3 (λg hg e=>hne2 g hg e.symm)).mono (λg hg=>hgo g (.inl hg) (hne2 g hg)),readR_rises HRD.out⟩)
   go_roundw
   case rel=>exact⟨k+1,rs++ [y2],ls++ [lk],HLK.out,by omega,by simp,by simp[HRL.out],HA3.out,by
    rw[List.map_append,List.flatten_append,List.flatten_append,<-List.append_assoc];refine List.Perm.append HP.out ?_;rw[HY2.out]
    simp,HB3.out⟩
   case measure=>simp[intOf];omega
  ·have HKE:=jq (show k=ne by omega);have HP2:=jq (show runsR A F ne=some ls from by rw[<-HKE.out];exact HLS.out)
   obtain⟨ad,had⟩:∃ad,oa=some ad:=by
    obtain⟨g,off,e,_⟩:=HOL.out.resolve_left (λe=>by
     have:=congrArg List.length e;rw[jP,jP,HRL.out]at this
     simp at this)
    exact⟨_,e⟩
   subst had;have HMG:=jq (merge_any wr (some ad) (k+1) oc);obtain⟨W,hW⟩:=jl (wr.alloc (.cells #[.slice (some ad) (k+1) oc] 127));have hBW:Below wr.heap.size wr W:=by rw[hW];exact(Below.refl _ wr).alloc jn _
   have hsz:=HBR.out.size;have hsw:wr.heap.size<W.heap.size:=by rw[hW];simp
   have HE:=jq (show Merging W (Mid R w W) wr.heap.size rs ad oc from by
    refine⟨by rw[hW,HRL.out];exact Blk.new wr _ _,.inr ⟨hsz,hsw⟩,?_,?_,by rw[HRL.out];exact hoc,by rw[HRL.out];omega,λr hr=>?_⟩
    ·have:=HOL.out.later hBW
     rwa [List.map_map]at this
    ·have:=HOB.out ad.block rfl;exact .inr ⟨this.1,by omega⟩
    ·have h1:=HA.out.rows r hr;exact⟨(h1.1.later hBW).mono (λg hg=>hg.1.imp id (λh=>⟨h.1,by omega⟩)),h1.2⟩)
   have HEB:=jq (HBR.out.trans (hBW.mono hsz));rw[<-hW]at HMG;clear hW hBW hsz hsw
   go_wp2_with fail
   refine HMG.out.mono ?_;rintro e w2 ⟨rfl,rfl⟩
   go_wp2_with fail
   go_ret2
   exact⟨HEB.out,by rw[HP2.out];exact⟨_,rs,ad,oc,rfl,HE.out,by rw[HRL.out,HKE.out],HP.out⟩⟩
end Runs
namespace Runs
open Go.RowKit Go.Deep Go.Shelf Mem Crc Go.Maps Merge
open Store (Sto Files)
attribute [local go_sem] Oper.semAt_some
def RowsOut (A:Fi) (F:Files) (ne:Nat) (held:List B) (w:World) (e:Ending) (w':World):Prop:=
 Below w.heap.size w w'/\match runsR A F ne with
 |some ls=>∃a c,e=.returned (.tuple #[.slice a (held++ls.flatten).length c,.int .i64 0])/\Lies w' a ((sortB (held++ls.flatten)).map strB)
 |none=>∃a c,e=.returned (.tuple #[.slice a 0 c,.int .i64 5])
theorem runsR_count {A:Fi} {F:Files} {m:Nat} (h0:0<A.wd) (hm:∀nm b,F nm=some b->b.length<=m):∀{k:Nat} {ls:List (List B)},runsR A F k=some ls->ls.flatten.length<=k*m
 |0,ls,h=>by cases h;simp
 |k+1,ls,h=>by
  unfold runsR at h
  split at h
  ·cases h
  ·rename_i ls' h1
   split at h
   ·cases h
   ·rename_i b hb
    split at h
    ·cases h
    ·rename_i l h2
     injection h with h;subst h;have i1:=runsR_count h0 hm h1;have i2:=readR_len h0 h2;have i3:=hm _ _ hb;rw[List.flatten_append,jL,Nat.succ_mul];have i4: ([l]:List (List B)).flatten.length=l.length:=by simp
     omega
theorem g_rows {s:Nat} {S:Sto s} {A:Fi} {D:Nat->Prop} {w:World} {x ne n:Nat} {F:Files} {held:List B} (h:InG S A D w x ne F held n) (hne:ne<=90) (hF:∀j,j<ne->F (rname A.pf j)≠none) (hsz:∀nm b,F nm=some b->b.length<=10000):
  Calls Tryz.prog 11 #[.pointer (some ⟨x,0,none⟩)] w (RowsOut A F ne held w):=by
 obtain⟨Q,R,hv,vs,h⟩:=h;have hR:∀W,Below w.heap.size w W->Calls Tryz.prog 34 #[.pointer (some ⟨x,0,none⟩)] W (RowsAns A F ne held R W):=λW hW=>rows_gen (h.srt.later hW) (by omega) hF (λnm b hb=>by have:=hsz nm b hb;omega)
 obtain⟨k1,k2,k3,k4,k5,k6⟩:=id h.srt.ok;unfold RowsOut
 cases hr:runsR A F ne with
 |some ls=>
  have hc:=runsR_count (by omega) hsz hr;have hroom:=h.srt.room;refine(rowsLaw_of h.srt ls (by omega) (λl hl b hb=>((runsR_wide hr).2 l hl).1 b hb) (λW hW=>(hR W hW).mono ?_) (held++ls.flatten) rfl (by rw[jL];have:=Nat.mul_le_mul_right 10000 hne;omega)).mono ?_
  ·intro e w' ha;unfold RowsAns at ha;rw[hr]at ha;obtain⟨hB,Bs,rs,ad,c,h1,h2,h3,h4⟩:=ha;exact⟨Bs,rs,ad,c,h1,h2,h3,h4,hB⟩
  ·rintro e w' ⟨v,rfl,hO,hB⟩;obtain⟨a,c,rfl,_,hL,_,_⟩:=own_shape hO;exact⟨hB,a,c,rfl,hL⟩
 |none=>
  have hB1:Below w.heap.size w ((w.alloc (.cells #[] 9)).alloc (.cells #[.slice (some ⟨w.heap.size,0,none⟩) 0 0] 36)):=((Below.refl _ w).alloc jn _).alloc (by simp) _;have hx:=Boxed.new (w.alloc (.cells #[] 9)) 36 (.slice (some ⟨w.heap.size,0,none⟩) 0 0);obtain⟨W1,hW1⟩:=jl ((w.alloc (.cells #[] 9)).alloc (.cells #[.slice (some ⟨w.heap.size,0,none⟩) 0 0] 36));rw[<-hW1,World.size_alloc]at hx;rw[<-hW1]at hB1;have HR:=jq (hR W1 hB1);have HX:=jq hx;have HB1:=jq hB1;have HRN:=jq hr;have hz: ((5:Int) !=0)=true:=by decide
  clear h hR k1 k2 k3 k4 k5 k6 hx hB1 hr;refine(callsIn_wide (n:=5)).1 ?_;refine callsIn_of_wp_marks Tryz.func11 rfl trivial ?_ rfl;simp only[Tryz.ntmps11,List.size_toArray,List.length_cons,List.length_nil,Nat.reduceAdd,Nat.reduceSub,Array.replicate_succ,Array.replicate_zero,List.push_toArray,List.append_toArray,List.nil_append,List.cons_append];refine wpIn_wide.2 ?_
  go_wp2_with fail
  rw[<-hW1];clear hW1;refine HR.out.mono ?_;intro e w2 ha;unfold RowsAns at ha;rw[HRN.out]at ha;obtain⟨hB2,rfl⟩:=ha;have c4:=(hB2.cell (p:=⟨w.heap.size+1,0,none⟩) HX.out.lt).trans HX.out.cell;have HB2:=jq (HB1.out.trans (hB2.mono HB1.out.size));clear hB2
  go_wp2_with fail
  exact⟨.tuple #[.slice (some ⟨w.heap.size,0,none⟩) 0 0,.int .i64 5],by simp[results,Tryz.f11,go_sem],HB2.out,_,_,rfl⟩
end Runs
namespace Runs
open Go.RowKit Go.Deep Go.Shelf Mem Crc Merge
open Store (Sto Files nv)
def MayR (wd:Nat) (l:List B):Prop:=(∀b∈l,b.length=wd)/\Rises l
instance (wd:Nat) (l:List B):Decidable (MayR wd l):=inferInstanceAs (Decidable (_/\_))
def MayK (wd:Nat) (l:List B) (k:Nat):Prop:=∀j b,j<k->l[j]? =some b->b.length=wd/\∀p,0<j->l[j-1]? =some p->p<=b
theorem mayK_all {wd:Nat} {l:List B} (h:MayK wd l l.length):MayR wd l:=by
 refine⟨λb hb=>?_,rises_iff.2 (λi a b ha hb=>?_)⟩
 ·obtain⟨j,hj⟩:=List.getElem?_of_mem hb;exact(h j b (jS.1 hj).1 hj).1
 ·exact(h (i+1) b (jS.1 hb).1 hb).2 a (Nat.succ_pos i) (by simpa using ha)
theorem mayK_next {wd:Nat} {l:List B} {k:Nat} {b:B} (h:MayK wd l k) (hb:l[k]? =some b) (hw:b.length=wd) (hp:∀p,0<k->l[k-1]? =some p->p<=b):MayK wd l (k+1):=λj c hj hc=>by
 by_cases e:j=k
 ·subst e;rw[hb]at hc;cases hc;exact⟨hw,hp⟩
 ·exact h j c (by omega) hc
attribute [local go_sem] Oper.semAt_some
theorem may_any (x wd:Nat) {a:Option Addr} {c:Nat} {vs:List SL} {l:List B} (w:World) (hx:w.cell? ⟨x,2,none⟩=some (.int .i64 (wd:Int))) (hL:Lies w a (vs.map sl)) (hR:RecsIn w (vs.map sl) l) (hn:l.length<=1000000):
  Calls Tryz.prog 56 #[.pointer (some ⟨x,0,none⟩),.slice a vs.length c] w λe w'=>e=.returned (.bool (decide (MayR wd l)))/\Below w.heap.size w w':=by
 have hlv:vs.length=l.length:=by simpa using hR.len
 obtain⟨n,hln⟩:=jl vs.length;obtain⟨mr,hmr⟩:=jl (decide (MayR wd l));rw[<-hln,<-hmr];have HLN:=jq (hln.trans hlv);have HL:=jq hL;have HR:=jq hR;have HMR:=jq hmr;have hn9:n<=1000000:=by omega
 clear hL hR hln hlv hmr hn
 go_enter Tryz.func56,Tryz.ntmps56
 go_wp2_with fail
 go_loopw[9] (λi wr=>∃k:Nat,k<=n/\i=.int .i64 (k:Int)/\(∃m,wr=w.drewN m)/\MayK wd l k) (λi _=>n-(intOf i).toNat)
 case atStart=>exact⟨0,Nat.zero_le _,rfl,⟨0,rfl⟩,λj b hj=>by omega⟩
 case round=>
  obtain⟨k,hk,rfl,⟨m,hm⟩,hmk⟩:=hrel;have hBr:Below w.heap.size w wr:=by rw[hm];exact⟨rfl,rfl,rfl,Nat.le_refl _,λ_ _=>rfl⟩
  have hxr:wr.cell? ⟨x,2,none⟩=some (.int .i64 (wd:Int)):=by rw[hm];exact hx
  have HM:=jq hm;have HMK:=jq hmk;clear hm hmk
  by_cases hlt:k<n
  ·have hkd:decide ((k:Int) <(n:Int))=true:=jd (by omega);obtain⟨b,hb⟩:∃b,l[k]? =some b:=⟨l[k]'(by rw[<-HLN.out];exact hlt),jg _⟩;obtain⟨y,hy⟩:∃y,(vs.map sl)[k]? =some y:=⟨(vs.map sl)[k]'(by rw[HR.out.len,<-HLN.out];exact hlt),jg _⟩;have hrec:=HR.out.at_ k y b hy hb;obtain⟨g,o,rfl,cy⟩:=lies_at (HL.out.later hBr) hy;obtain⟨ba,bc,rfl,_,_⟩:=id hrec;obtain⟨bl,hbl⟩:=jl b.length;rw[<-hbl]at cy hrec;have HREC:=jq hrec;have HB:=jq hb;have HBL:=jq hbl;clear hrec hy hb hbl
   by_cases hw:bl=wd
   ·have t1: ((bl:Int)==wd)=true:=by simp;omega
    have t2: ((bl:Int) !=wd)=false:=by simp;omega
    by_cases h0:k=0
    ·have d0:decide (0<k)=false:=jf (by omega);have HE:=jq (show MayK wd l (k+1)from mayK_next HMK.out HB.out (by rw[<-HBL.out];exact hw) (λp hp=>by omega));clear hw h0
     go_wp2_with fail
     go_roundw
     case rel=>exact⟨k+1,by omega,by simp,⟨m,HM.out⟩,HE.out⟩
     case measure=>simp[intOf];omega
    ·have d0:decide (0<k)=true:=jd (by omega);obtain⟨p,hp⟩:∃p,l[k-1]? =some p:=⟨l[k-1]'(by rw[<-HLN.out];omega),jg _⟩;obtain⟨yp,hyp⟩:∃y,(vs.map sl)[k-1]? =some y:=⟨(vs.map sl)[k-1]'(by rw[HR.out.len,<-HLN.out];omega),jg _⟩;have hrp:=HR.out.at_ (k-1) yp p hyp hp;obtain⟨g',o',e',cp⟩:=lies_at (HL.out.later hBr) hyp;injection e' with e';injection e' with e1 e2;subst e1 e2;obtain⟨pa,pc,rfl,_,_⟩:=id hrp;obtain⟨pl,hpl⟩:=jl p.length;rw[<-hpl]at cp hrp;have HCM:=jq (fun(V:World) (hV:Below w.heap.size w V)=>compare_any (.slice ba bl bc) (.slice pa pl pc) b p V (HREC.out.later hV) (hrp.later hV));obtain⟨cm,hcm⟩:=jl (cmpB b p);rw[<-hcm]at HCM;have hk0:0<k:=by omega
     have hk1n:k-1<n:=by omega
     have HK0:=jq hk0;have HBW:=jq (show b.length=wd by rw[<-HBL.out];exact hw);have HCL:=jq (cmpB_lt b p);have HCM2:=jq hcm;have HP:=jq hp;clear hcm hrp hyp hp hpl hw h0
     by_cases hneg:cm<0
     ·have d1:decide (cm<0)=true:=jd hneg
      have hno:mr=false:=by
       rw[HMR.out];refine jf (λh=>?_);have hbp:=HCL.out.1 (by rw[<-HCM2.out];exact hneg);have:=rises_iff.1 h.2 (k-1) p b HP.out (by rw[show k-1+1=k from by have:=HK0.out;omega];exact HB.out);exact absurd hbp (List.not_lt.2 this)
      subst hno;clear hneg
      go_wp2_with fail
      refine(HCM.out _ hBr).mono ?_;rintro e w2 ⟨rfl,rfl⟩
      go_wp2_with fail
      go_ret
      exact⟨rfl,hBr⟩
     ·have d1:decide (cm<0)=false:=jf hneg
      have HE:=jq (show MayK wd l (k+1)from mayK_next HMK.out HB.out HBW.out (λq hq hq2=>by
       rw[HP.out]at hq2;cases hq2;refine List.not_lt.1 (λh=>hneg ?_);rw[HCM2.out];exact HCL.out.2 h))
      clear hneg
      go_wp2_with fail
      refine(HCM.out _ hBr).mono ?_;rintro e w2 ⟨rfl,rfl⟩
      go_wp2_with fail
      go_roundw
      case rel=>exact⟨k+1,by omega,by simp,⟨m,HM.out⟩,HE.out⟩
      case measure=>simp[intOf];omega
   ·have t1: ((bl:Int)==wd)=false:=by simp;omega
    have t2: ((bl:Int) !=wd)=true:=by simp;omega
    have hno:mr=false:=by
     rw[HMR.out];exact jf (λh=>hw (by rw[HBL.out];exact h.1 b (jM HB.out)))
    subst hno;clear hw
    go_wp2_with fail
    go_ret
    exact⟨rfl,hBr⟩
  ·obtain rfl:k=n:=by omega
   have hkd:decide ((k:Int) <(k:Int))=false:=jf (by omega)
   have hyes:mr=true:=by
    rw[HMR.out];exact jd (mayK_all (by rw[<-HLN.out];exact HMK.out))
   subst hyes
   go_wp2_with fail
   go_ret
   exact⟨rfl,hBr⟩
end Runs
namespace Runs
open Go.RowKit Go.Deep Go.Shelf Mem Crc Merge
open Store (Sto Files setF setF_same setF_other nv)
attribute [local go_sem] Oper.semAt_some
theorem rewrite_bad {s:Nat} {S:Store.Sto s} {A:Fi} {w:World} {Q R:Nat->Prop} {F:Files} {n x ne:Nat} {hv:Value} {vh:List SL} {held:List B} (h:Srt S A w Q R false F n x ne hv vh held) {a:Option Addr} {c:Nat} {vs:List SL} {l:List B} (hL:Lies w a (vs.map sl)) (hR:RecsIn w (vs.map sl) l) (hn:l.length<=1000000) (hb:¬MayR A.wd l):
  Calls Tryz.prog 31 #[.pointer (some ⟨x,0,none⟩),.slice a vs.length c] w λe w'=>e=.returned (.int .i64 3)/\Below w.heap.size w w':=by
 have q2:=h.cell 2
 simp[sorterC]at q2
 have hM:=may_any x A.wd w q2 hL hR hn (c:=c);rw[jf hb]at hM;have HM:=jq hM;clear h hL hR hn hb q2 hM
 go_enter Tryz.func31,Tryz.ntmps31
 go_wp2_with fail
 refine HM.out.mono ?_;rintro e w1 ⟨rfl,hB1⟩;have HB1:=jq hB1;clear hB1
 go_wp2_with fail
 go_ret
 exact⟨rfl,HB1.out⟩
noncomputable def RewF (F:Files) (A:Fi) (ne:Nat) (l:List B):Files:=open Classical in if l= []then rmF F A.pf ne else setF (rmF F A.pf ne) (rname A.pf 0) (some (Frame.frameL 82 l.flatten))
def rewN (l:List B):Nat:=if l= []then 0 else 1
theorem rewrite_good {s:Nat} {S:Store.Sto s} {A:Fi} {w:World} {Q R:Nat->Prop} {F:Files} {n x ne:Nat} {hv:Value} {vh:List SL} {held:List B} (h:Srt S A w Q R false F n x ne hv vh held) (hnn:n+ne+1<100000) (hF:∀j,j<ne->F (rname A.pf j)≠none) {a:Option Addr} {c:Nat} {vs:List SL} {l:List B} (hL:Lies w a (vs.map sl)) (hR:RecsIn w (vs.map sl) l) (hc:vs.length<=c) (hn:l.length<=10000) (hb:MayR A.wd l):
  Calls Tryz.prog 31 #[.pointer (some ⟨x,0,none⟩),.slice a vs.length c] w λe w'=>e=.returned (.int .i64 0)/\∃Q',Srt S A w' Q' (λ_=>False) false (RewF F A ne l) (n+ne+rewN l) x (rewN l) (.slice none 0 0) [] []/\(∀k,Q' k->Q k\/w.heap.size<=k)/\Upon (λk=>Q k\/k=x) w w':=by
 obtain rfl:=h.sIs;have hok:=h.ok;obtain⟨k1,k2,k3,k4,k5,k6⟩:=id hok;have hlv:vs.length=l.length:=by simpa using hR.len
 have q2:=h.cell 2
 simp[sorterC]at q2
 have hM:=may_any x A.wd w q2 hL hR (by omega) (c:=c);rw[jd hb]at hM
 have hfl:l.flatten.length<=640000:=by
  rw[flat_wide hb.1];exact Nat.mul_le_mul hn k4
 have hne:∀b∈l,b≠[]:=λb hb2 e=>by
  have:=hb.1 b hb2;rw[e]at this
  simp at this
  omega
 have hSec:∀W,Below w.heap.size w W->Calls Tryz.prog 48 #[.slice a vs.length c] W λe w'=>∃v,e=.returned (.tuple #[v,.int .i64 0])/\OwnB w' W.heap.size v (Frame.frameL 82 l.flatten)/\Below W.heap.size W w':=λW hW=>section_any W (hL.later hW) hc (hR.later hW) hne (by omega) (by omega)
 obtain⟨fb,hfb⟩:=jl (Frame.frameL 82 l.flatten);have hfbl:fb.length<=1048576:=by rw[hfb,Frame.frameL_length];omega
 rw[<-hfb]at hSec;obtain⟨nl,hnl⟩:=jl vs.length;rw[<-hnl]at hM hSec⊢;have HNL:=jq (hnl.trans hlv);have HM:=jq hM;have HSEC:=jq hSec;have H:=jq h;have HF:=jq hF;have HFB:=jq hfb;clear h hF hL hR hM hSec hnl hlv hfb hb hfl hne q2 hc hn
 go_enter Tryz.func31,Tryz.ntmps31
 go_wp2_with fail
 refine HM.out.mono ?_;rintro e w1 ⟨rfl,hB1⟩;have HB1:=jq hB1;have HS1:=jq (HSEC.out w1 hB1);clear hB1
 go_wp2_with fail
 refine HS1.out.mono ?_;rintro e w2 ⟨v2,rfl,hO2,hB2⟩;obtain⟨va,vc,rfl,hvc,hL2,hbl2,_⟩:=own_shape hO2;have hB02:Below w.heap.size w w2:=HB1.out.trans (hB2.mono HB1.out.size);have HC:=jq (clear_gen (H.out.later hB02) (by omega) HF.out);have HL2:=jq hL2;have HBL2:=jq (λg hg=>(hbl2 g hg));have HB02:=jq hB02;obtain⟨fn,hfn⟩:=jl fb.length;rw[<-hfn];have HFN:=jq hfn;clear hO2 hL2 hbl2 hB2 hB02 hfn
 go_wp2_with fail
 refine HC.out.mono ?_;rintro e w3 ⟨rfl,Q3,hS3,hq3,hu3⟩;have HS3:=jq hS3;have HQ3:=jq (show∀k,Q3 k->Q k\/w.heap.size<=k from λk hk=>(hq3 k hk).imp id (λh=>Nat.le_trans HB02.out.size h));have HU3:=jq (show Upon (λk=>Q k\/k=x) w w3 from(Upon.of_below (P:=λk=>Q k\/k=x) HB02.out).trans hu3 (λg hg=>.inl hg))
 have hL3:Lies w3 va (fb.map bv):=HL2.out.upon hu3 (λg hg hq=>by
  have h1:=(HBL2.out g hg).1;have h2:=HB1.out.size;rcases hq with hq|rfl
  ·have:=S.lt H.out.sto g hq
   omega
  ·have:=H.out.blk.lt
   omega)
 have HL3:=jq hL3;clear hS3 hq3 hu3 hL3 HC
 by_cases h0:nl=0
 ·have hl0:l= []:=List.eq_nil_of_length_eq_zero (by rw[<-HNL.out];exact h0);have hz: ((nl:Int)==0)=true:=by simp;omega
  have HE:=jq (show∃Q',Srt S A w3 Q' (λ_=>False) false (RewF F A ne l) (n+ne+rewN l) x (rewN l) (.slice none 0 0) [] []/\(∀k,Q' k->Q k\/w.heap.size<=k)/\Upon (λk=>Q k\/k=x) w w3 from⟨Q3,by
   unfold RewF rewN;rw[if_pos hl0,if_pos hl0];exact HS3.out,HQ3.out,HU3.out⟩)
  clear h0 hl0
  go_wp2_with fail
  go_ret
  exact⟨rfl,HE.out⟩
 ·have hl0:¬l= []:=λe=>h0 (by rw[HNL.out,e];rfl)
  have hz: ((nl:Int)==0)=false:=by simp;omega
  have q0:=HS3.out.cell 0;have q1:=HS3.out.cell 1
  simp[sorterC]at q0 q1
  have hxl:=HS3.out.blk.lt;have hnl2:=rname_len hok 0 (by omega);have HNM:=jq (name_any A.pf k2 0 (by omega) x w3.drew q1 hxl);have HWR:=jq (fun(w4:World) (hB4:Below w3.heap.size w3 w4)=>S.write (S.later HS3.out.sto hB4) (by omega) (rname A.pf 0) hnl2.1 hnl2.2 va vc fb (HL3.out.later hB4) hfbl);obtain⟨nm,hnm⟩:=jl (nv (rname A.pf 0));rw[<-hnm]at HNM HWR;rw[<-HFN.out]at HWR;have HXQ:=jq HS3.out.xq;have HXL:=jq hxl;have HDR:=jq ((Below.refl w3.heap.size w3).drew);have HL0:=jq hl0;clear hnm hxl q1 hnl2 h0 hl0 hfbl
  go_wp2_with fail
  go_region_held3 (λw'=>w'.cell? ⟨x,0,none⟩=some (.pointer (some ⟨A.s,0,none⟩))) (first|exact q0|exact hk3|exact hk4) ((first|(go_at_call 19;refine HNM.out.mono ?_;rintro e w4 ⟨rfl,hB4⟩;have hB4:=HDR.out.trans hB4;have hk3:=(hB4.cell (p:=⟨x,0,none⟩) HXL.out).trans q0;dsimp only)|(go_at_call 28;refine(HWR.out w4 hB4).mono ?_;rintro e w5 ⟨rfl,Q5,hst5,hq5,hu5⟩;have hk4:=(World.cell?_of_block (a:=⟨x,0,none⟩) (hu5.block x (Nat.lt_of_lt_of_le HXL.out hB4.size) HXQ.out)).trans hk3;dsimp only)))
  have hb5:Blk w5 x 60 (sorterC A 0 0 (.slice none 0 0)):=(HS3.out.blk.below hB4 HXL.out).upon hu5 HXQ.out;have f5:=hb5.frozen 5;have g5:=hb5.cell 5
  simp[sorterC]at g5
  have hqx:¬Q5 x:=λh=>(hq5 x h).elim HXQ.out (λh=>by have:=Nat.lt_of_lt_of_le HXL.out hB4.size;omega)
  obtain⟨W,hW⟩:=jl (w5.setCell ⟨x,5,none⟩ (.int .i64 1));have huW:Upon (λg=>g=x) w5 W:=by rw[hW];exact(Upon.refl (λg=>g=x) w5).set (p:=⟨x,5,none⟩) (.inl rfl) _
  have hbW:Blk W x 60 (sorterC A 0 1 (.slice none 0 0)):=by
   have:=hb5.set 5 (.int .i64 1);rw[<-hW]at this
   simpa[sorterC]using this
  have hstW:=S.upon hst5 huW (λg hg hq=>hqx (by rw[<-hg];exact hq));have hz3:=HU3.out.size;have hz4:=hB4.size
  have HE:=jq (show∃Q',Srt S A W Q' (λ_=>False) false (RewF F A ne l) (n+ne+rewN l) x (rewN l) (.slice none 0 0) [] []/\(∀k,Q' k->Q k\/w.heap.size<=k)/\Upon (λk=>Q k\/k=x) w W from⟨Q5,by
   unfold RewF rewN;rw[if_neg HL0.out,if_neg HL0.out,<-HFB.out];exact⟨rfl,hbW,hstW,held_none W A.wd,(λ_ h=>h.elim),(λ_ h=>by cases h),hqx,hok,by simp,by omega⟩,λg hg=>by
   rcases hq5 g hg with h|h
   ·exact HQ3.out g h
   ·exact .inr (by omega),by
   have h1:Upon (λg=>Q g\/g=x) w3 w4:=Upon.of_below hB4;have h2:=HU3.out.trans h1 (λg hg=>.inl hg);have h3:=h2.trans hu5 (λg hg=>(HQ3.out g hg).imp (λh=>.inl h) id);exact h3.trans (huW.mono (λg hg=>Or.inr hg)) (λg hg=>.inl hg)⟩)
  rw[hW]at HE;clear hst5 hq5 hu5 hb5 hqx huW hbW hstW hz3 hz4 hB4 hk3 hk4 HNM HWR hW q0
  go_wp2_with fail
  go_ret
  exact⟨rfl,HE.out⟩
theorem g_rewrite {s:Nat} {S:Sto s} {A:Fi} {D:Nat->Prop} {w:World} {x ne n:Nat} {F:Files} {held:List B} (h:InG S A D w x ne F held n) (hnn:n+ne+1<100000) (hF:∀j,j<ne->F (rname A.pf j)≠none) {a:Option Addr} {c:Nat} {vs:List SL} {l:List B} (hL:Lies w a (vs.map sl)) (hR:RecsIn w (vs.map sl) l) (hc:vs.length<=c) (hn:l.length<=10000):
  Calls Tryz.prog 31 #[.pointer (some ⟨x,0,none⟩),.slice a vs.length c] w λe w'=>(MayR A.wd l/\e=.returned (.int .i64 0)/\InG S A (Mid D w w') w' x (rewN l) (RewF F A ne l) [] (n+ne+rewN l)/\Upon D w w')\/(¬MayR A.wd l/\e=.returned (.int .i64 3)/\Below w.heap.size w w'):=by
 obtain⟨Q,R,hv,vh,h⟩:=h
 by_cases hm:MayR A.wd l
 ·refine(rewrite_good h.srt hnn hF hL hR hc hn hm).mono ?_;rintro e w' ⟨rfl,Q',hs,hq,hu⟩;exact .inl ⟨hm,rfl,⟨_,_,_,_,hs,λk hk=>(hq k hk).imp (h.q k) (λhg=>⟨hg,S.lt hs.sto k hk⟩),λ_ h=>h.elim,.inl h.x,(λ_ h=>by cases h),λk hk=>hk.elim (λh1=>Nat.lt_of_lt_of_le (h.lt k h1) hu.size) (λh1=>h1.2)⟩,hu.mono (λg hg=>hg.elim (h.q g) (λe=>by rw[e];exact h.x))⟩
 ·refine(rewrite_bad h.srt hL hR (by omega) hm).mono ?_;rintro e w' ⟨rfl,hB⟩;exact .inr ⟨hm,rfl,hB⟩
end Runs
namespace Runs
open Go.RowKit Go.Deep Go.Shelf Mem Crc Merge
open Store (Sto Files nv)
attribute [local go_sem] Oper.semAt_some
variable {s:Nat} {S:Sto s} {A:Fi} {D:Nat->Prop} {w w':World} {x ne n:Nat} {F:Files} {held:List B}
theorem g_putForm (h:InG S A D w x ne F held n) {bl:Nat} (hb:bl≠A.wd) (a:Option Addr) (cp:Nat):
  Calls Tryz.prog 14 #[.pointer (some ⟨x,0,none⟩),.slice a bl cp] w λe w'=>e=.returned (.int .i64 3)/\w'=w:=by
 obtain⟨Q,R,hv,vs,h⟩:=h;have q2:=h.srt.cell 2
 simp[sorterC]at q2
 have t1: ((bl:Int)==(A.wd:Int))=false:=by simp;omega
 have t2: ((bl:Int) !=(A.wd:Int))=true:=by simp;omega
 clear h hb
 go_enter Tryz.func14,Tryz.ntmps14
 go_wp2_with fail
 go_ret
 exact⟨rfl,rfl⟩
theorem g_flushNone (h:InG S A D w x ne F [] n):
  Calls Tryz.prog 23 #[.pointer (some ⟨x,0,none⟩)] w λe w'=>e=.returned (.int .i64 0)/\w'=w:=by
 obtain⟨Q,R,hv,vs,h⟩:=h;have q6:=h.srt.cell 6
 simp[sorterC]at q6
 have hlv:vs.length=0:=by simpa using h.srt.mem.recs.len
 obtain⟨a,c,rfl,_,_,_,_⟩:=own_shape h.srt.mem.own;rw[hlv]at q6;clear h hlv
 go_enter Tryz.func23,Tryz.ntmps23
 go_wp2_with fail
 go_ret
 exact⟨rfl,rfl⟩
end Runs
namespace Runs
open Go.RowKit Go.Deep Go.Shelf Mem Crc Go.Maps Merge
open Store (Sto Files setF setF_same setF_other nv bare Bare St Chg none' filesOf)
open Disk (Blank)
attribute [local go_sem] Oper.semAt_some
structure LiveAt {s:Nat} (S:Store.Sto s) (A:Fi) (B0:Nat) (w:World) (x:Nat) (off:Bool) (ls:List (List B)) (held:List B) (n:Nat) (Q R:Nat->Prop) (F:Files) (hv:Value) (vs:List SL):Prop where
 srt:Srt S A w Q R off F n x ls.length hv vs held
 files:RunFiles A F ls
 q:∀k,Q k->B0<=k
 r:∀k,R k->B0<=k
 x:B0<=x
 h:∀k,hv.ownBlock=some k->B0<=k
def Live {s:Nat} (S:Store.Sto s) (A:Fi) (B0:Nat) (w:World) (x:Nat) (off:Bool) (ls:List (List B)) (held:List B) (n:Nat):Prop:=∃m Q R F hv vs,m<=n/\LiveAt S A B0 w x off ls held m Q R F hv vs
theorem Live.later {s:Nat} {S:Store.Sto s} {A:Fi} {B0:Nat} {w w':World} {x:Nat} {off:Bool} {ls:List (List B)} {held:List B} {n:Nat} (h:Live S A B0 w x off ls held n) (hB:Below w.heap.size w w'):Live S A B0 w' x off ls held n:=by
 obtain⟨m,Q,R,F,hv,vs,hm,h⟩:=h;exact⟨m,Q,R,F,hv,vs,hm,h.srt.later hB,h.files,h.q,h.r,h.x,h.h⟩
def putM (rm:Nat) (st:List (List B)×List B) (b:B):List (List B)×List B:=if st.2.length=rm then(st.1++ [st.2],[b])else(st.1,st.2++ [b])
theorem files_more {A:Fi} {F:Files} {ls:List (List B)} {held:List B} (h:RunFiles A F ls) (hl:ls.length<=1000000) (hw:∀b∈held,b.length=A.wd) (h0:held≠[]) (hm:held.length<=4096):RunFiles A (setF F (rname A.pf ls.length) (some (runB held))) (ls++ [held]):=by
 refine⟨λj l hj=>?_,λl hl'=>?_,λl hl'=>?_,λl hl'=>?_⟩
 ·by_cases e:j<ls.length
  ·rw[List.getElem?_append_left e]at hj;rw[setF_other _ (λe2=>by have:=rname_inj (by omega) (by omega) e2;omega)];exact h.at_ j l hj
  ·rw[List.getElem?_append_right (by omega)]at hj
   have:j-ls.length=0:=by
    have:=(jS.1 hj).1
    simp at this
    omega
   rw[this]at hj
   simp at hj
   subst hj;have e2:j=ls.length:=by omega
   rw[e2,setF_same]
 ·rcases List.mem_append.1 hl' with hl'|hl'
  ·exact h.wide l hl'
  ·rw[jE.1 hl'];exact hw
 ·rcases List.mem_append.1 hl' with hl'|hl'
  ·exact h.some_ l hl'
  ·rw[jE.1 hl'];exact h0
 ·rcases List.mem_append.1 hl' with hl'|hl'
  ·exact h.few l hl'
  ·rw[jE.1 hl'];exact hm
theorem Flushed.live {s:Nat} {S:Store.Sto s} {A:Fi} {B0:Nat} {w w':World} {x:Nat} {ls:List (List B)} {held:List B} {n:Nat} {Q R Q':Nat->Prop} {F:Files} {hv:Value} {vs:List SL} (h:LiveAt S A B0 w x false ls held n Q R F hv vs) (h0:held≠[]) (hf:Flushed S A w w' Q F n x ls.length held Q') (hBw:B0<=w.heap.size) (hl:ls.length<=1000000):LiveAt S A B0 w' x false (ls++ [held]) [] (n+1) Q' (λ_=>False) (setF F (rname A.pf ls.length) (some (runB held))) (.slice none 0 0) []/\Below B0 w w':=by
 refine⟨⟨by have:=hf.srt;simpa using this,files_more h.files hl h.srt.mem.wide h0 (Nat.le_trans h.srt.room h.srt.ok.2.2.2.2.2),λk hk=>(hf.q k hk).elim (h.q k) (λh=>by omega),λ_ h=>h.elim,h.x,λ_ h=>by cases h⟩,hf.upon.below hBw (λg hg=>hg.elim (h.q g) (λe=>by rw[e];exact h.x))⟩
theorem Putted.live {s:Nat} {S:Store.Sto s} {A:Fi} {B0:Nat} {w w':World} {x:Nat} {off:Bool} {ls:List (List B)} {held held':List B} {n:Nat} {Q R R':Nat->Prop} {F:Files} {hv hv':Value} {vs vs':List SL} (h:LiveAt S A B0 w x off ls held n Q R F hv vs) (hp:Putted S A w w' Q R off F n x ls.length hv held' R' hv' vs') (hBw:B0<=w.heap.size):LiveAt S A B0 w' x off ls held' n Q R' F hv' vs'/\Below B0 w w':=
 ⟨⟨hp.srt,h.files,h.q,λk hk=>(hp.r k hk).elim (h.r k) (λh=>by omega),h.x,λk hk=>(hp.h k hk).elim (h.h k) (λh=>by omega)⟩,hp.upon.below hBw (λg hg=>hg.elim (λe=>by rw[e];exact h.x) (h.h g))⟩
theorem live_put {s:Nat} {S:Store.Sto s} {A:Fi} {B0:Nat} {w0 w:World} {x:Nat} {ls:List (List B)} {held:List B} {n:Nat} (h:Live S A B0 w0 x false ls held n) (hBw:B0<=w0.heap.size) (hB:Below w0.heap.size w0 w) (hn:n<10000) (hl:ls.length<10000) {b:B} (hb:b.length=A.wd) (a:Option Addr) (cp:Nat) (hL:Lies w a (b.map bv)) (hLB:∀g,Mem.blk a=some g->g<B0\/w0.heap.size<=g):
  Calls Tryz.prog 14 #[.pointer (some ⟨x,0,none⟩),.slice a b.length cp] w λe w'=>e=.returned (.int .i64 0)/\Live S A B0 w' x false (putM A.rm (ls,held) b).1 (putM A.rm (ls,held) b).2 (n+1)/\Below B0 w w':=by
 obtain⟨m,Q,R,F,hv,vs,hm,h0⟩:=h;have h1:LiveAt S A B0 w x false ls held m Q R F hv vs:=⟨h0.srt.later hB,h0.files,h0.q,h0.r,h0.x,h0.h⟩;have hBw':B0<=w.heap.size:=Nat.le_trans hBw hB.size;unfold putM
 by_cases hf:held.length=A.rm
 ·simp only[if_pos hf]
  have hne:held≠[]:=λe=>by
   have:=h1.srt.ok.2.2.2.2.1;rw[e]at hf
   simp at hf
   omega
  refine(put_full h1.srt hf (by omega) (by omega) hb a cp hL (λg hg=>?_)).mono ?_
  ·have hx:=h0.srt.blk.lt;rcases hLB g hg with h2|h2
   ·exact⟨λhq=>by have:=h0.q g hq;omega,λe=>by have:=h0.x;omega⟩
   ·exact⟨λhq=>by have:=S.lt h0.srt.sto g hq;omega,λe=>by omega⟩
  ·rintro e w' ⟨rfl,w1,Q1,R',hv',vs',hf1,hp⟩;have hl1:=hf1.live h1 hne hBw' (by omega);have hsz:=hl1.2.size
   have hp':Putted S A w1 w' Q1 (λ_=>False) false (setF F (rname A.pf ls.length) (some (runB held))) (m+1) x (ls++ [held]).length (.slice none 0 0) [b] R' hv' vs':=by
    rw[jL];exact hp
   have hl2:=hp'.live hl1.1 (by omega);exact⟨rfl,⟨_,_,_,_,_,_,by omega,hl2.1⟩,hl1.2.trans hl2.2⟩
 ·simp only[if_neg hf];refine(put_room h1.srt (by have:=h1.srt.room;omega) hb a cp hL).mono ?_;rintro e w' ⟨rfl,R',hv',vs',hp⟩;have hl2:=hp.live h1 hBw';exact⟨rfl,⟨_,_,_,_,_,_,by omega,hl2.1⟩,hl2.2⟩
theorem live_held {s:Nat} {S:Store.Sto s} {A:Fi} {B0:Nat} {w:World} {x:Nat} {off:Bool} {ls:List (List B)} {held:List B} {n:Nat} (h:Live S A B0 w x off ls held n):
  Calls Tryz.prog 9 #[.pointer (some ⟨x,0,none⟩)] w λe w'=>e=.returned (.int .i64 held.length)/\w=w':=by
 obtain⟨m,Q,R,F,hv,vs,hm,h⟩:=h;exact held_any h.srt
theorem live_runs {s:Nat} {S:Store.Sto s} {A:Fi} {B0:Nat} {w:World} {x:Nat} {off:Bool} {ls:List (List B)} {held:List B} {n:Nat} (h:Live S A B0 w x off ls held n):
  Calls Tryz.prog 10 #[.pointer (some ⟨x,0,none⟩)] w λe w'=>e=.returned (.int .i64 ls.length)/\Below w.heap.size w w':=by
 obtain⟨m,Q,R,F,hv,vs,hm,h⟩:=h;refine(runs_any h.srt).mono ?_;rintro e w' ⟨rfl,m,rfl⟩;exact⟨rfl,rfl,rfl,rfl,Nat.le_refl _,λ_ _=>rfl⟩
theorem live_rows {s:Nat} {S:Store.Sto s} {A:Fi} {B0:Nat} {w:World} {x:Nat} {off:Bool} {ls:List (List B)} {held:List B} {n:Nat} (h:Live S A B0 w x off ls held n) (hl:ls.length<=1000) (hoff:off=false\/ls= []) (all:List B) (hall:all=held++ls.flatten) (hmax:all.length<=1000000):
  Calls Tryz.prog 11 #[.pointer (some ⟨x,0,none⟩)] w λe w'=>∃v,e=.returned (.tuple #[v,.int .i64 0])/\w'.ownsRow w.heap.size 9 1 v all.length ((sortB all).map strB)/\Below w.heap.size w w':=by
 obtain⟨m,Q,R,F,hv,vs,hm,h⟩:=h;exact rowsLaw_any h.srt ls rfl hl h.files (hoff.imp id (λe=>by rw[e];rfl)) all hall hmax
def rpf:List UInt8:=[114]
def fiR (s wd rm:Nat):Fi:=⟨s,rpf,wd,rm⟩
theorem new_live {d s g cm:Nat} {w:World} {Q:Nat->Prop} (h:St w Q s d g 400 cm false none') (B0:Nat) (hQ:∀k,Q k->B0<=k) (hB0:B0<=w.heap.size) (wd rm:Nat) (h1:1<=wd) (h2:wd<=64) (h3:1<=rm) (h4:rm<=4096):
  Calls Tryz.prog 6 #[.pointer (some ⟨s,0,none⟩),.string ⟨#[114]⟩,.int .i64 wd,.int .i64 rm] w λe w'=>∃x,e=.returned (.tuple #[.pointer (some ⟨x,0,none⟩),.int .i64 0])/\Live (bare s d g 400 cm) (fiR s wd rm) B0 w' x false [] [] 0/\Below w.heap.size w w':=by
 refine(new_any (bare s d g 400 cm) (fiR s wd rm) rfl ⟨by simp[fiR,rpf],by simp[fiR,rpf],h1,h2,h3,h4⟩ (bare_new h)).mono ?_;rintro e w' ⟨x,ne,rfl,hn⟩
 have hne:ne=0:=by
  rcases Nat.eq_zero_or_pos ne with h|h
  ·exact h
  ·exact absurd rfl (hn.runs 0 h)
 subst hne;exact⟨x,rfl,⟨0,Q,_,noF,_,_,Nat.le_refl _,hn.srt,⟨λj l hj=>by simp at hj,λl hl=>by simp at hl,λl hl=>by simp at hl,λl hl=>by simp at hl⟩,hQ,λ_ h=>h.elim,by have:=hn.fresh;omega,λ_ h=>by cases h⟩,hn.below⟩
end Runs
namespace Runs
open Go.RowKit Go.Deep Go.Shelf Mem Crc Go.Maps Merge
open Store (Sto Files bare St none')
attribute [local go_sem] Oper.semAt_some
theorem sort_three:sortB [[2],[3],[1]]= [[1],[2],[3]]:=(sortB_eq (l':=[[1],[2],[3]]) (by decide) (by decide)).symm
theorem new_byte (w:World) (c:UInt8):Lies (w.alloc (.cells #[.int .u8 (c.toNat:Int)] 5)) (some ⟨w.heap.size,0,none⟩) (([c]:B).map bv):=new_lies w 5 #[.int .u8 (c.toNat:Int)]
theorem awake_any (w:World):Calls Tryz.prog 4 #[] w λe w'=>e=.returned (.bool true)/\Below w.heap.size w w':=by
 have HB:=jq (begin_any w)
 go_enter Tryz.func4,Tryz.ntmps4
 go_wp2_with fail
 refine HB.out.mono ?_;rintro e w1 ⟨d,s,g,cm,Q,rfl,hst,hQ,hB1⟩;have HNEW:=jq (new_live hst w.heap.size hQ hB1.size 1 2 (by omega) (by omega) (by omega) (by omega));have HB1:=jq hB1;clear hst hQ hB1
 go_wp2_with fail
 refine HNEW.out.mono ?_;rintro e w2 ⟨x,rfl,hlv,hB2⟩;have hz2:w.heap.size<=w2.heap.size:=Nat.le_trans HB1.out.size hB2.size;have hBa:=(Below.refl w2.heap.size w2).alloc jn (.cells #[.int .u8 3] 5);have HP1:=jq (live_put hlv hz2 hBa (by decide) (by decide) (b:=[3]) rfl (some ⟨w2.heap.size,0,none⟩) 1 (new_byte w2 3) (λg hg=>.inr (by cases hg;exact Nat.le_refl _)));have HBB2:=jq (HB1.out.trans (hB2.mono HB1.out.size));have HBA2:=jq (hBa.mono hz2);clear hlv hB2 hz2 hBa HNEW
 go_wp2_with fail
 refine HP1.out.mono ?_;rintro e w3 ⟨rfl,hlv0,hB3⟩;have hlv:Live (bare s d g 400 cm) (fiR s 1 2) w.heap.size w3 x false [] [[3]] 1:=by simpa[putM,fiR]using hlv0
 clear hlv0;have HBB3:=jq ((HBB2.out.trans HBA2.out).trans hB3);have hz3:w.heap.size<=w3.heap.size:=HBB3.out.size;have hBa:=(Below.refl w3.heap.size w3).alloc jn (.cells #[.int .u8 1] 5);have HP2:=jq (live_put hlv hz3 hBa (by decide) (by decide) (b:=[1]) rfl (some ⟨w3.heap.size,0,none⟩) 1 (new_byte w3 1) (λg hg=>.inr (by cases hg;exact Nat.le_refl _)));have HBA3:=jq (hBa.mono hz3);clear hlv hB3 hz3 hBa HP1
 go_wp2_with fail
 refine HP2.out.mono ?_;rintro e w4 ⟨rfl,hlv0,hB4⟩;have hlv:Live (bare s d g 400 cm) (fiR s 1 2) w.heap.size w4 x false [] [[3],[1]] 2:=by simpa[putM,fiR]using hlv0
 clear hlv0;have HBB4:=jq ((HBB3.out.trans HBA3.out).trans hB4);have hz4:w.heap.size<=w4.heap.size:=HBB4.out.size;have hBa:=(Below.refl w4.heap.size w4).alloc jn (.cells #[.int .u8 2] 5);have HP3:=jq (live_put hlv hz4 hBa (by decide) (by decide) (b:=[2]) rfl (some ⟨w4.heap.size,0,none⟩) 1 (new_byte w4 2) (λg hg=>.inr (by cases hg;exact Nat.le_refl _)));have HBA4:=jq (hBa.mono hz4);clear hlv hB4 hz4 hBa HP2
 go_wp2_with fail
 refine HP3.out.mono ?_;rintro e w5 ⟨rfl,hlv0,hB5⟩;have hlv:Live (bare s d g 400 cm) (fiR s 1 2) w.heap.size w5 x false [[[3],[1]]] [[2]] 3:=by simpa[putM,fiR]using hlv0
 clear hlv0;have HBB5:=jq ((HBB4.out.trans HBA4.out).trans hB5);have HROWS:=jq (live_rows hlv (by decide) (.inl rfl) [[2],[3],[1]] rfl (by decide));have HLV:=jq hlv;clear hlv hB5 HP3
 go_wp2_with fail
 refine HROWS.out.mono ?_;rintro e w6 ⟨v,rfl,hO,hB6⟩;obtain⟨va,vc,rfl,_,hL,_,_⟩:=own_shape hO;rw[sort_three]at hL;obtain⟨W,hW⟩:=jl (w6.alloc (.cells #[.string ⟨#[1]⟩,.string ⟨#[2]⟩,.string ⟨#[3]⟩] 9));have hBW:Below w6.heap.size w6 W:=by rw[hW];exact(Below.refl _ w6).alloc jn _
 have HSAME:=jq (same_yes W va (some ⟨w6.heap.size,0,none⟩) vc 3 [⟨#[1]⟩,⟨#[2]⟩,⟨#[3]⟩] (hL.later hBW) (by rw[hW];exact new_lies w6 9 #[.string ⟨#[1]⟩,.string ⟨#[2]⟩,.string ⟨#[3]⟩]) (by decide));have hBB6:Below w.heap.size w W:=HBB5.out.trans ((hB6.mono HBB5.out.size).trans (hBW.mono (Nat.le_trans HBB5.out.size hB6.size)));have HLV6:=jq ((HLV.out.later hB6).later hBW);have HBB6:=jq hBB6;simp only[List.length_cons,List.length_nil,Nat.reduceAdd]at HSAME⊢
 go_wp2_with fail
 rw[<-hW];refine HSAME.out.mono ?_;rintro e w7 ⟨rfl,m7,hm7⟩;have hB7:Below W.heap.size W w7:=by rw[hm7];exact⟨rfl,rfl,rfl,Nat.le_refl _,λ_ _=>rfl⟩
 have hlv7:=HLV6.out.later hB7;have HRUNS:=jq (live_runs hlv7);have HLV7:=jq hlv7;have HBB7:=jq (HBB6.out.trans (hB7.mono HBB6.out.size));clear hW hBW hBB6 hm7 hB7 hlv7 HSAME hO hL
 go_wp2_with fail
 refine HRUNS.out.mono ?_;rintro e w8 ⟨rfl,hB8⟩;have HHELD:=jq (live_held (HLV7.out.later hB8));have HBB8:=jq (HBB7.out.trans (hB8.mono HBB7.out.size));clear hB8 HRUNS
 go_wp2_with fail
 refine HHELD.out.mono ?_;rintro e w9 ⟨rfl,rfl⟩
 go_wp2_with fail
 go_ret
 exact⟨rfl,HBB8.out⟩
end Runs
end Go.Proofs.YtcdcnhecimajkaaGreatDoor
