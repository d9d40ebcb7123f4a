/- Part. -/
import Derived.Test.YtcdcnhecimajkaaGreatDoorF0
import Derived.Test.YtcdcnhecimajkaaGreatDoorF0Q
import Derived.Test.YtcdcnhecimajkaaGreatDoorF10
import Derived.Sort.QuietIn
import Derived.WalkMore
set_option maxHeartbeats 2000000
set_option maxRecDepth 100000
namespace Go.Proofs.YtcdcnhecimajkaaGreatDoor
namespace Runs
open Go.RowKit Go.Deep Go.Shelf Mem Crc Merge Heap
attribute [local go_sem] Oper.semAt_some
abbrev Told:=SL×B
def told (x:Told):Array Value:=#[sl x.1]
def Tells (s:List B) (B0:Nat) (pre:List Told) (x:Told) (W:World):Prop:=pre.map Prod.snd++ [x.2] <+:s/\OwnB W B0 (sl x.1) x.2
structure Going (w0:Base) (wr:World) (hb g n c:Nat) (f:Nat->El) (all:List B) (pre:List Told):Prop where
 heads:Heads w0 wr hb g n c (λk=>(f k).1)
 up:Up w0 f n
 inv:Inv all (pre.map Prod.snd) (rw2 f) n
def AtHead (w0:Base) (hb g c:Nat) (all:List B) (J:List Told->World->Prop) (wr:World):Prop:=
 ∃(n:Nat) (f:Nat->El) (pre:List Told),Going w0 wr hb g n c f all pre/\J pre wr
theorem own_rows {w:World} {base:Nat} {v:Value} {xs:List SL} (h:OwnR w base v xs) (hp:0<xs.length):∃g cap,v=.slice (some ⟨g,0,none⟩) xs.length cap/\xs.length<=cap/\RowsAt w g xs/\base<=g/\g<w.heap.size:=by
 rcases h.2 with⟨_,e⟩|⟨g,cap,cur,rfl,hb,hg,h2,h3,h4,h5⟩
 ·omega
 ·refine⟨g,cap,rfl,h2,⟨cur,hg,λk y hy=>?_⟩,hb,Blk.lt (t:=25) hg⟩;have hk:=(jS.1 hy).1;rw[<-Array.getElem?_toList];have e: (cur.toList.take (xs.length*1))[k]? =some (sl y):=by rw[h5,List.getElem?_map,hy];rfl
  rw[List.getElem?_take]at e
  split at e
  ·exact e
  ·cases e
theorem heads_made {w0:Base} {w:World} {g c:Nat} {xs:List SL} {x:Nat->SL} (h:RowsAt w g xs) (hb:Keeps w0 w) (hg:w0.w.heap.size<=g) (_:g<w.heap.size) (hc:xs.length<=c) (hf:xs.length<=1000000) (hx:∀(k:Nat) (y:SL),xs[k]? =some y->x k=y):
  Heads w0 (w.alloc (.cells #[.slice (some ⟨g,0,none⟩) xs.length c] 170)) w.heap.size g xs.length c x:=by
 obtain⟨cs,h1,h2⟩:=h.row;refine⟨Blk.new w _ _,⟨cs,h1.alloc _,λk hk=>?_⟩,hc,hb.below ((Below.refl _ w).alloc jn _) hb.size,⟨hb.size,hg⟩,hf⟩;obtain⟨y,hy⟩:∃y,xs[k]? =some y:=⟨xs[k],jg hk⟩;rw[hx k y hy];exact h2 k y hy
def left (hb g:Nat) (w:World):Nat:=
 match w.cell? ⟨hb,0,none⟩with
 |some (.slice _ n _)=>((List.range n).map (λk=>match w.cell? ⟨g,k,none⟩with|some (.slice _ m _)=>m|_=>0)).sum
 |_=>0
theorem len_recs (f:Nat->El) (n:Nat): (recs (rw2 f) n).length=((List.range n).map (λk=>(f k).2.1.length)).sum:=by
 unfold recs row rw2
 simp[List.length_flatten,Function.comp_def]
theorem left_is {w0:Base} {w:World} {hb g n c:Nat} {f:Nat->El} (h:Heads w0 w hb g n c (λk=>(f k).1)) (hu:Up w0 f n):left hb g w=(recs (rw2 f) n).length:=by
 have c0:w.cell? ⟨hb,0,none⟩=some (.slice (some ⟨g,0,none⟩) n c):=(Down.refl 0 h hu).cell;obtain⟨cs,h1,h2⟩:=h.row;unfold left;rw[c0,len_recs];show(List.map _ _).sum=_
 congr 1
 apply List.map_congr_left
 intro k hk;have hk:=List.mem_range.1 hk;have c1:=(h1.cell k).trans (h2 k hk);obtain⟨a,q,vs,e,_⟩:=(hu k hk).at_;rw[c1,e]
theorem Going.left {w0:Base} {wr:World} {hb g n c:Nat} {f:Nat->El} {all:List B} {pre:List Told} (h:Going w0 wr hb g n c f all pre):pre.length+left hb g wr=all.length:=by
 rw[left_is h.heads h.up];have:=h.inv.same.length_eq
 simpa using this
theorem Going.ends {w0:Base} {wr:World} {hb g n c:Nat} {f:Nat->El} {all s:List B} {pre:List Told} (h:Going w0 wr hb g n c f all pre) (hn:n=0) (h1:Rises s) (h2:s.Perm all):pre.map Prod.snd=s:=by
 subst hn;have hd:=Merge.done h.inv;exact sorted_one hd.1 h1 (hd.2.trans h2.symm)
theorem front_lies {w:World} {x:SL} {r:Row} (h:RowAt w (sl x) r.1):∃(p:Addr) (ra:Option Addr) (rc:Nat),x.1=some p/\x.2.1=r.1.length/\x.2.1<=x.2.2/\w.cell? p=some (.slice ra (hd r).length rc)/\Lies w ra ((hd r).map bv):=by
 obtain⟨a,c,vs,e,h1,h2,h3⟩:=h;have hr:0<r.1.length:=List.length_pos_iff.2 r.2;have hl:=h3.len;obtain⟨xa,xn,xc⟩:=x;unfold sl at e;injection e with ea en ec;dsimp only at ea en ec⊢;subst ea en ec;rcases h2 with h2|⟨q,o,eq,_,hc⟩
 ·rw[h2]at hl
  simp at hl
  omega
 ·obtain⟨v,hv⟩:∃v,vs[0]? =some v:=⟨vs[0],jg (by omega)⟩
  have h0:r.1[0]? =some (hd r):=by
   have:=hd_some r
   rwa [List.head?_eq_getElem?]at this
  obtain⟨ra,rc,rfl,hrc,hL⟩:=h3.at_ 0 v _ hv h0;exact⟨⟨q,o,none⟩,ra,rc,eq,rfl,h1,hc 0 _ hv,hL⟩
theorem row_cons (r:Row):∃t,r.1=hd r ::t:=⟨r.1.tail,by
 obtain⟨l,hl⟩:=r
 cases l with
 |nil=>exact absurd rfl hl
 |cons a t=>rfl⟩
theorem Heads.front {w0:Base} {w:World} {hb g N c:Nat} {x:Nat->SL} (h:Heads w0 w hb g N c x) (hN:0<N) (y:SL):Heads w0 ((w.setCell ⟨g,0,none⟩ (sl y)).drew) hb g N c (put x 0 y)/\Only [g] w ((w.setCell ⟨g,0,none⟩ (sl y)).drew):=by
 obtain⟨cs,h1,h2⟩:=h.row;have hne:=h.ne;have ho:Only [g] w ((w.setCell ⟨g,0,none⟩ (sl y)).drew):=((Only.refl [g] w).set (p:=⟨g,0,none⟩) (.inl (by simp)) _).drew;have hsz:=(Array.getElem?_eq_some_iff.1 (h2 0 hN)).1;refine⟨⟨Blk.only h.cell ho (by simpa using hne),⟨_,(h1.set 0 (sl y)).drew,λj hj=>?_⟩,h.le,h.below.only ho (by simpa using h.old.2),h.old,h.few⟩,ho⟩;rw[Array.getElem?_setIfInBounds];unfold put
 by_cases e:j=0
 ·subst e;rw[if_pos rfl,if_pos rfl,if_pos hsz]
 ·rw[if_neg (Ne.symm e),if_neg e];exact h2 j hj
theorem Going.next {w0:Base} {wr:World} {hb g n c:Nat} {f:Nat->El} {all s:List B} {pre:List Told} (h:Going w0 wr hb g (n+1) c f all pre) (h1:Rises s) (h2:s.Perm all):pre.map Prod.snd++ [hd (f 0).2] <+:s/\pre.length<s.length:=by
 have hst:=prefix_of h.inv h1 h2;obtain⟨t,ht⟩:=hst;have hlen:s.length=all.length:=h2.length_eq;have hl:=h.inv.same.length_eq
 have hpos:0<(recs (rw2 f) (n+1)).length:=List.length_pos_iff.2 (λe=>by
  have:hd (f 0).2∈recs (rw2 f) (n+1):=mem_recs.2 ⟨0,by omega,by
   obtain⟨t,ht⟩:=row_cons (f 0).2;rw[show(rw2 f 0).1=(f 0).2.1 from rfl,ht]
   simp⟩
  rw[e]at this;cases this)
 simp at hl
 refine⟨?_,by omega⟩;have hls:=congrArg List.length ht
 simp at hls
 cases t with
 |nil=>simp at hls;omega
 |cons x t=>
  have hx:x=hd (f 0).2:=by
   have hp: (x ::t).Perm (recs (rw2 f) (n+1)):=by
    have h3:=(h2.trans h.inv.same.symm);rw[<-ht]at h3;exact(List.perm_append_left_iff _).1 h3
   have hr:Rises (x ::t):=by
    rw[<-ht]at h1;exact(List.pairwise_append.1 h1).2.1
   have hm1:hd (f 0).2∈x ::t:=hp.mem_iff.2 (mem_recs.2 ⟨0,by omega,by
    obtain⟨t,ht⟩:=row_cons (f 0).2;rw[show(rw2 f 0).1=(f 0).2.1 from rfl,ht]
    simp⟩)
   have hm2:hd (f 0).2<=x:=least h.inv x (hp.mem_iff.1 (by simp));rcases List.mem_cons.1 hm1 with e|hm
   ·exact e.symm
   ·exact List.le_antisymm ((List.pairwise_cons.1 hr).1 _ hm) hm2
  exact⟨t,by rw[<-ht,hx];simp⟩
theorem merge1_in (n:Nat) (_:2<=n) (l Bs:Nat) {w0:Base} {rs:List (SL×List B)} {ad:Addr} {c:Nat} {all s:List B} (hL:Lies w0.w (some ad) (rs.map (λr=>sl r.1))) (_:rs.length<=c) (hpos:0<rs.length) (hmax:rs.length<=1000000)
  (hrow:∀r∈rs,RowB w0.w w0.U r/\Rises r.2) (hall: ((rs.map Prod.snd).flatten).Perm all) (hs1:Rises s) (hs2:s.Perm all) (hsh:∀b∈all,b.length<=1000000) (_:Bs<w0.w.heap.size) (J Jx:List Told->World->Prop)
  (hJ:∀s X Y,J s X->Fr w0.w.heap.size mineT X Y->J s Y) (hJx:∀s X Y,Jx s X->Fr w0.w.heap.size mineT X Y->Jx s Y)
  (hY:∀pre x W,J pre W->pre.length<s.length->Tells s w0.w.heap.size pre x W->YieldAt Fence.wide (n-1) Tryz.prog l (told x) W λe W'=>
   (e=.returned (.bool true)/\J (pre++ [x]) W'/\KeepT w0.U mineT W W')\/(e=.returned (.bool false)/\Jx (pre++ [x]) W'))
  (W:World) (hB:Below w0.w.heap.size w0.w W) (hcs:W.cell? ⟨Bs,0,none⟩=some (.slice (some ad) rs.length c)) (h0:J [] W):
  CallsIn Fence.wide n Tryz.prog 91 #[.func (.yield l) #[] #[],.pointer (some ⟨Bs,0,none⟩)] W λe W'=>(∃v,e=.returned v)/\
   ((∃xs,xs.map Prod.snd=s/\J xs W')\/(∃pre,pre.map Prod.snd <+:s/\Jx pre W')):=by
 have HC:=jq (cloneRows_any ad c (rs.map Prod.fst) W (by rw[List.map_map];exact(hL.later hB)) (by simpa using hmax));rw[jP]at HC;have HB:=jq hB;have HROW:=jq hrow;have HALL:=jq hall;have HS1:=jq hs1;have HS2:=jq hs2;have HSH:=jq hsh;have HY:=jq hY;have HJ:=jq hJ;have HJX:=jq hJx;have H0:=jq h0;clear hL hB hrow hall hs1 hs2 hsh hY hJ hJx h0;refine callsIn_of_wp Tryz.func91 rfl trivial ?_ rfl;simp only[Tryz.ntmps91,List.size_toArray,List.length_cons,List.length_nil,Nat.reduceAdd,Nat.reduceSub,Array.replicate_succ,Array.replicate_zero,List.push_toArray,List.append_toArray,List.nil_append,List.cons_append];refine wpIn_wide.2 (wp_scope_straight ((wpIn_wide (n:=n)).1 ?_))
 gi_wp2_with fail
 refine⟨trivial,(λh=>by cases h),CallsIn.mono (callsIn_wide.2 HC.out) ?_⟩;rintro e w1 ⟨v,rfl,hO,hB1⟩;have hOR:=own_rows hO (by simpa using hpos);rw[jP]at hOR;obtain⟨g,cap,rfl,hcap,hR1,hg1,hgl1⟩:=hOR;have HD:=jq (deleteFunc_any w1 g rs.length cap (rs.map Prod.fst) (by simp) hR1 hmax hcap);have HB1:=jq hB1;clear hR1 hO hB1 HC
 gi_wp2_with fail
 refine⟨trivial,(λh=>by cases h),CallsIn.mono (callsIn_wide.2 HD.out) ?_⟩;rintro e w2 ⟨rfl,hR2,hO2⟩;obtain⟨L,hL1,hL2,hL3⟩:=kept_rows w0.w w0.U rs HROW.out
 have hLm:L.length<=rs.length:=by
  have h1: (L.map Prod.fst).length<=(rs.map Prod.fst).length:=by rw[hL1];exact List.length_filter_le _ _
  simpa using h1
 have hLl: ((rs.map Prod.fst).filter keep).length=L.length:=by rw[<-hL1,jP]
 rw[<-hL1]at hR2;have hb2:Below W.heap.size W w2:=HB1.out.trans (hO2.below HB1.out.size (by simpa using hg1));have hW0:=HB.out.size
 have hHM:=heads_made (w0:=w0) (c:=cap) (x:=λk=>(places L k).1) hR2 (show Keeps w0 w2 from⟨Nat.le_trans hW0 hb2.size,λk hk=>(hb2.block k (Nat.lt_of_lt_of_le (w0.lt k hk) hW0)).trans (HB.out.block k (w0.lt k hk))⟩) (by omega) (Nat.lt_of_lt_of_le hgl1 hO2.size) (by rw[jP];omega) (by rw[jP];omega) (λk y hy=>by
  rw[List.getElem?_map,Option.map_eq_some_iff]at hy;obtain⟨e,he,rfl⟩:=hy;rw[places_at L he])
 rw[jP]at hHM;rw[hLl];have HHM:=jq hHM;have HB2:=jq hb2;have HL:=jq (And.intro hL2 hL3);clear hR2 hO2 hL1 hL2 hL3 hLl hHM hb2 HD
 gi_wp2_with fail
 refine⟨trivial,(λh=>by cases h),CallsIn.mono (callsIn_wide.2 (init_any HHM.out (λk hk=>by
  obtain⟨e,he⟩:∃e,L[k]? =some e:=⟨L[k],jg hk⟩;rw[places_at L he];exact(HL.out.1 e (jM he)).1))) ?_⟩
 rintro e w4 ⟨rfl,f0,hHp,hperm,honly⟩;have hb4:Below W.heap.size W w4:=(HB2.out.alloc HB2.out.size _).trans (honly.below (by have:=HB2.out.size;simp;omega) (by simpa using hg1))
 have hst:AtHead w0 w2.heap.size g cap all J w4:=⟨L.length,f0,[],⟨hHp.heads,hHp.up,inv_start hHp.heap hperm (by rw[row_places];exact λe he=>(HL.out.1 e he).2) (by
  unfold recs;rw[<-row_rw2,row_places,List.map_map];have:=HL.out.2;rw[show(L.map (Subtype.val∘Prod.snd)).flatten=(rs.map Prod.snd).flatten from this];exact HALL.out)⟩,HJ.out _ _ _ H0.out (Fr.of_below hb4)⟩
 have HST:=jq hst;obtain⟨hb,hhb⟩:=jl w2.heap.size;rw[<-hhb]at HST⊢;clear hHp hperm honly hb4 hst HHM HB2 HL hhb H0 hgl1 hg1 hW0
 gi_wp2_with fail
 refine wpIn_label ?_
 gi_wp2_with fail
 gi_loopw [] (AtHead w0 hb g cap all J) (λwr=>left hb g wr)
 case atStart=>exact HST.out
 case round=>
  obtain⟨m,f,pre,hG,hJp⟩:=hrel;have c0:wr.cell? ⟨hb,0,none⟩=some (.slice (some ⟨g,0,none⟩) m cap):=(Down.refl 0 hG.heads hG.up).cell;have hfew:=hG.heads.few;have HG:=jq hG;have HJP:=jq hJp;have HLEN:=jq (len_of wr (some ⟨g,0,none⟩) m cap);clear hG hJp
  cases m with
  |zero=>
   have HE:=jq (HG.out.ends rfl HS1.out HS2.out)
   gi_wp2_with fail
   refine⟨trivial,(λh=>by cases h),CallsIn.mono (callsIn_wide.2 HLEN.out) ?_⟩;rintro e w5 ⟨rfl,rfl⟩
   gi_wp2_with fail
   simp only[Exit.noGoto_normal]
   go_end0
   exact⟨⟨_,rfl⟩,.inl ⟨pre,HE.out,HJP.out⟩⟩
  |succ m=>
   obtain⟨cs,g1,g2⟩:=HG.out.heads.row;have c1:=(g1.cell 0).trans (g2 0 (by omega));obtain⟨p,ra,rc,ep,en,enc,c2,hLr⟩:=front_lies ((HG.out.up 0 (by omega)).keep HG.out.heads.below).at_;obtain⟨x0,hx0⟩:=jl ((f 0).1);obtain⟨b,hb0⟩:=jl (hd (f 0).2);rw[<-hx0]at c1 ep en enc;rw[<-hb0]at c2 hLr;have hSL:=slice_tl x0 (by rw[en];exact List.length_pos_iff.2 (f 0).2.2) enc;have HX0:=jq hx0;have HB0:=jq hb0;have HEN:=jq en;have HENC:=jq enc;obtain⟨nx,hnx⟩:=jl (m+1)
   have hb100:b.length<=1000000:=HSH.out b (HG.out.inv.same.mem_iff.1 (List.mem_append_right _ (mem_recs.2 ⟨0,by omega,by
    obtain⟨t,ht⟩:=row_cons (f 0).2;rw[show(rw2 f 0).1=(f 0).2.1 from rfl,ht,hb0]
    simp⟩)))
   have HCL:=jq (clone_any ra rc b wr hLr (by omega));obtain⟨xa,xn,xc⟩:=x0;dsimp only at ep;subst ep;unfold sl at c1 hSL;dsimp only at c1 hSL;have hxn:1<=xn:=by have:=HEN.out;dsimp only at this;rw[this];exact List.length_pos_iff.2 (f 0).2.2
   obtain⟨q,rfl⟩:∃q,xn=q+1:=⟨xn-1,by omega⟩;obtain⟨ta,hta⟩:=jl ((tl ((some p,q+1,xc):SL)).1);have htl:tl ((some p,q+1,xc):SL)=(ta,q,xc-1):=by rw[hta];rfl
   rw[htl]at hSL;dsimp only at hSL;have HTL:=jq htl;clear hta htl;have fz:=g1.frozen 0;clear g1 g2 hx0 hb0 en enc hLr
   gi_wp2_with fail
   refine⟨trivial,(λh=>by cases h),CallsIn.mono (callsIn_wide.2 HLEN.out) ?_⟩;rintro e w5 ⟨rfl,rfl⟩
   gi_wp2_with fail
   refine⟨trivial,(λh=>by cases h),CallsIn.mono (callsIn_wide.2 HCL.out) ?_⟩;rintro e w6 ⟨v6,rfl,hO6,hB6⟩;obtain⟨va,vc,rfl,_,_,_,_⟩:=own_shape hO6;have hnext:=HG.out.next HS1.out HS2.out;rw[<-HB0.out]at hnext;have hJ6:=HJ.out _ _ _ HJP.out (Fr.of_below hB6);have hw0:=HG.out.heads.below.size;obtain⟨fn,tmps,assign,body,hy,hR⟩:=HY.out pre ((va,b.length,vc),b) w6 hJ6 hnext.2 ⟨hnext.1,own_mono hO6 hw0⟩;have HH6:=jq (HG.out.heads.keep (KeepT.of_below hB6));have HNX:=jq hnext.1;unfold told sl at hy;dsimp only at hy;clear hO6 hB6 hnext hJ6 HCL
   gi_wp2_with fail
   refine⟨(λh=>by cases h),hR.mono ?_⟩;rintro e W3 (⟨rfl,hJ3,hk3⟩|⟨rfl,hJx3⟩)
   ·have hh3:=HH6.out.keep hk3;have hfr:=hh3.front (by omega) ((ta,q,xc-1):SL);obtain⟨cs3,g1,g2⟩:=hh3.row;have c13:=(g1.cell 0).trans (g2 0 (by omega));rw[<-HX0.out]at c13;unfold sl at c13;dsimp only at c13;have fz3:=g1.frozen 0
    have c03:W3.cell? ⟨hb,0,none⟩=some (.slice (some ⟨g,0,none⟩) (m+1) cap):=by
     have:=hh3.cell.cell 0
     simpa using this
    have HFR:=jq hfr;have HJ3:=jq hJ3;have HH3:=jq hh3;clear hk3 hh3 hfr hJ3 g1 g2 hy HH6 c0 c1 c2 fz
    gi_wp2_with fail
    gi_region
    obtain⟨W4,hW4⟩:=jl ((W3.setCell ⟨g,0,none⟩ (.slice ta q (xc-1))).drew);have hfr:=HFR.out;unfold sl at hfr;dsimp only at hfr;rw[<-hW4]at hfr⊢;obtain⟨hh4,ho4⟩:=hfr;obtain⟨cs4,g1,g2⟩:=hh4.row;have c14:=(g1.cell 0).trans (g2 0 (by omega));rw[put_same]at c14;unfold sl at c14;dsimp only at c14
    have c04:W4.cell? ⟨hb,0,none⟩=some (.slice (some ⟨g,0,none⟩) (m+1) cap):=by
     have:=hh4.cell.cell 0
     simpa using this
    have hJ4:=HJ.out _ _ _ HJ3.out (HH3.out.fr ho4 (by simp));have HH4:=jq hh4;have HJ4:=jq hJ4;clear hW4 hh4 ho4 g1 g2 hJ4 HFR HJ3 HH3 c03 c13 fz3
    by_cases hq:q=0
    ·subst hq;have HPOP:=jq (heapPop_any (w:=W4) (n:=m) (f:=f) (x0:=(ta,0,xc-1)) HH4.out (λk h0 hk=>HG.out.up k hk) HG.out.inv.heap)
     have h1: (f 0).2.1= [hd (f 0).2]:=by
      obtain⟨t,ht⟩:=row_cons (f 0).2;have:=HEN.out
      try dsimp only at this
      rw[ht]at this⊢;simp only[List.length_cons]at this;rw[List.eq_nil_of_length_eq_zero (show t.length=0 by omega)]
     have HONE:=jq h1;clear h1
     gi_wp2_with fail
     refine⟨trivial,(λh=>by cases h),CallsIn.mono (callsIn_wide.2 HPOP.out) ?_⟩;rintro e w7 ⟨⟨v7,rfl⟩,f7,hHp,hperm,honly⟩
     have HR:=jq (show AtHead w0 hb g cap all J w7/\left hb g w7<left hb g wr from by
      have hgo:Going w0 w7 hb g m cap f7 all (pre++ [((va,b.length,vc),b)]):=⟨hHp.heads,hHp.up,by
       rw[List.map_append,show [((va,b.length,vc),b)].map Prod.snd= [hd (f 0).2]by rw[<-HB0.out];rfl];exact inv_pop HG.out.inv HONE.out hHp.heap hperm⟩
      refine⟨⟨m,f7,_,hgo,HJ.out _ _ _ HJ4.out (HH4.out.fr honly (by simp))⟩,?_⟩;have e1:=hgo.left;have e2:=HG.out.left
      simp at e1
      omega)
     clear hHp hperm honly
     gi_wp2_with fail
     go_roundw
     case rel=>exact HR.out.1
     case measure=>exact HR.out.2
    ·have hq0: ((q:Int)==0)=false:=by simpa using hq
     obtain⟨t,ht⟩:=row_cons (f 0).2
     have htl:t.length=q:=by
      have:=HEN.out
      try dsimp only at this
      rw[ht]at this;simp only[List.length_cons]at this
      omega
     have ht0:t≠[]:=λe=>hq (by rw[<-htl,e];rfl)
     obtain⟨y,hy0⟩:∃y:El,y=((ta,q,xc-1),⟨t,ht0⟩):=⟨_,rfl⟩
     have hput: (λk=>(put f 0 y k).1)=put (λk=>(f k).1) 0 (ta,q,xc-1):=by
      funext k
      unfold put
      split
      ·rw[hy0]
      ·rfl
     have hH4:=HH4.out;rw[<-hput]at hH4
     have hup:Up w0 (put f 0 y) (m+1):=λk hk=>by
      by_cases e:k=0
      ·subst e;rw[put_same,hy0];have h0:=HG.out.up 0 hk;rw[<-HX0.out,ht]at h0;have h1:=rowB_tl h0;rw[HTL.out]at h1;exact h1
      ·rw[put_other _ _ e];exact HG.out.up k hk
     have HFIX:=jq (fix_any hH4 hup (heap_put HG.out.inv.heap));have HTT:=jq (show(f 0).2.1=hd (f 0).2 ::y.2.1 by rw[hy0];exact ht);clear hH4 hup hput hy0 htl ht ht0
     gi_wp2_with fail
     refine⟨trivial,(λh=>by cases h),CallsIn.mono (callsIn_wide.2 HFIX.out) ?_⟩;rintro e w7 ⟨rfl,f7,hHp,hperm,honly⟩
     have HR:=jq (show AtHead w0 hb g cap all J w7/\left hb g w7<left hb g wr from by
      have hgo:Going w0 w7 hb g (m+1) cap f7 all (pre++ [((va,b.length,vc),b)]):=⟨hHp.heads,hHp.up,by
       rw[List.map_append,show [((va,b.length,vc),b)].map Prod.snd= [hd (f 0).2]by rw[<-HB0.out];rfl];exact inv_fix HG.out.inv (by omega) HTT.out hHp.heap hperm⟩
      refine⟨⟨m+1,f7,_,hgo,HJ.out _ _ _ HJ4.out (HH4.out.fr honly (by simp))⟩,?_⟩;have e1:=hgo.left;have e2:=HG.out.left
      simp at e1
      omega)
     clear hHp hperm honly
     gi_wp2_with fail
     go_roundw
     case rel=>exact HR.out.1
     case measure=>exact HR.out.2
   ·gi_wp2_with fail
    simp only[Exit.noGoto_ret];refine bodyPost_ret (results_none rfl _ _ _) rfl ?_;exact⟨⟨_,rfl⟩,.inr ⟨pre++ [((va,b.length,vc),b)],by rw[List.map_append];exact HNX.out,hJx3⟩⟩
theorem merge_any (w:World) (a:Option Addr) (n c:Nat):Calls Tryz.prog 58 #[.slice a n c] w λe w'=>e=.returned (.func (.func 91) #[] #[.pointer (some ⟨w.heap.size,0,none⟩)])/\w'=w.alloc (.cells #[.slice a n c] 127):=by
 go_enter Tryz.func58,Tryz.ntmps58
 go_wp2_with fail
 go_ret
 exact⟨rfl,rfl⟩
open Sees in
theorem merge_sees (n:Nat) (hn:2<=n) (Bs:Nat) {w0:Base} {rs:List (SL×List B)} {ad:Addr} {c:Nat} {all s:List B} (hL:Lies w0.w (some ad) (rs.map (λr=>sl r.1))) (hlc:rs.length<=c) (hpos:0<rs.length) (hmax:rs.length<=1000000)
  (hrow:∀r∈rs,RowB w0.w w0.U r/\Rises r.2) (hall: ((rs.map Prod.snd).flatten).Perm all) (hs1:Rises s) (hs2:s.Perm all) (hsh:∀b∈all,b.length<=1000000) (hBs:Bs<w0.w.heap.size) (hcs:w0.w.cell? ⟨Bs,0,none⟩=some (.slice (some ad) rs.length c)):
  SeqSees Fence.wide n Tryz.prog 91 #[.pointer (some ⟨Bs,0,none⟩)] told (Fr w0.w.heap.size mineT) (KeepT w0.U mineT) (Tells s w0.w.heap.size) (λxs=>xs.map Prod.snd=s) (λpre=>pre.map Prod.snd <+:s) s.length w0.w:=
 λl J Jx W hB hJ hJx hY h0=>merge1_in n hn l Bs hL hlc hpos hmax hrow hall hs1 hs2 hsh hBs J Jx hJ hJx hY W hB ((hB.cell (p:=⟨Bs,0,none⟩) hBs).trans hcs) h0
end Runs
end Go.Proofs.YtcdcnhecimajkaaGreatDoor
