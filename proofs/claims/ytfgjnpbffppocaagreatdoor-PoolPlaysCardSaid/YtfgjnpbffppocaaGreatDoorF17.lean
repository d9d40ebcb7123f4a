/- Part. -/
import Derived.Test.YtfgjnpbffppocaaGreatDoorF0
import Derived.Test.YtfgjnpbffppocaaGreatDoorF0Q
import Derived.Test.YtfgjnpbffppocaaGreatDoorF4
import Derived.Test.YtfgjnpbffppocaaGreatDoorF8
import Derived.Test.YtfgjnpbffppocaaGreatDoorF15
import Derived.Test.YtfgjnpbffppocaaGreatDoorF16
import Derived.RangeFuncBox
import Derived.RangeFuncLeaves
import Derived.RangeFuncBound
import Derived.RangeFuncNested
import Derived.Shelf.Abstract
import Derived.OwnWalkIn
import Derived.TacticsInMore
import Derived.LoopNIn
import Derived.LoopIn
import Derived.Outline
import Derived.Deep.AppendLies
import Derived.Maps.RangeWalk
import Derived.RangeFuncCalls
set_option maxHeartbeats 2000000
set_option maxRecDepth 100000
namespace Go.Proofs.YtfgjnpbffppocaaGreatDoor
namespace Pool
open Go.RowKit Go.Deep Mem Crc Walk
open Store (Sto Files setF setF_same setF_other nv)
theorem read_any {A:Pa} {ct:Nat} {w:World} {Qs:Nat->Prop} {hv:Nat->Option Value} {S Hd:Rows} (h:Pl A ct w Qs hv S Hd) (i:Nat) (hi:i<A.n) (hm: (S i).length<=30000):
  Calls Tryz.prog 23 #[.pointer (some ⟨A.p,0,none⟩),.int .i64 (i:Int)] w λe w'=>∃v,e=.returned (.tuple #[v,.int .i64 0])/\OwnW w' w.heap.size v (S i)/\Below w.heap.size w w':=by
 by_cases he:S i= []
 ·refine(read_none h i hi he).mono ?_;rintro e w' ⟨rfl,hB⟩;refine⟨_,rfl,?_,hB⟩;rw[he];exact World.ownsRow_nil _ _ _ _
 ·exact read_some h i hi he hm
theorem Pl.heldSome {A:Pa} {ct:Nat} {w:World} {Qs:Nat->Prop} {hv:Nat->Option Value} {S Hd:Rows} (h:Pl A ct w Qs hv S Hd) (i:Nat) (hi:i<A.n) (hne:Hd i≠[]):∃g cap,hv i=some (.slice (some ⟨g,0,none⟩) (Hd i).length cap)/\g<w.heap.size:=by
 have hr:=h.rows i hi
 cases hc:hv i with
 |none=>rw[hc]at hr;exact absurd hr hne
 |some v=>
  rw[hc]at hr;rcases(show OwnW w 0 v (Hd i)from hr).2 with⟨_,h0⟩|⟨g,cap,cur,rfl,r⟩
  ·exact absurd (List.eq_nil_of_length_eq_zero h0) hne
  ·exact⟨g,cap,rfl,(World.ownsRow.lt hr g rfl).2⟩
theorem Pl.heldAt' {A:Pa} {ct:Nat} {w:World} {Qs:Nat->Prop} {hv:Nat->Option Value} {S Hd:Rows} (h:Pl A ct w Qs hv S Hd) (i:Nat) (hi:i<A.n): (Instr.lookup 63 (.map (some A.hm)) (.int .i64 (i:Int)) false).run Tryz.prog w=.ok ((hv i).getD (.slice none 0 0)) w:=by
 obtain⟨v,rfl,_,hl⟩:=h.heldAt i hi;exact hl
theorem spill_nil {A:Pa} {ct:Nat} {w:World} {Qs:Nat->Prop} {hv:Nat->Option Value} {S Hd:Rows} (h:Pl A ct w Qs hv S Hd) (i:Nat) (hi:i<A.n) (he:Hd i= []):
  Calls Tryz.prog 31 #[.pointer (some ⟨A.p,0,none⟩),.int .i64 (i:Int)] w λe w'=>e=.returned (.int .i64 0)/\w'=w:=by
 have HT:=jq (there_in h i hi);obtain⟨v,_,hO,hl⟩:=h.heldAt i hi;rw[he]at hO;obtain⟨va,vc,rfl,_,_,_,_⟩:=own_shape hO;have c4:=h.pool.cell 4
 simp at c4 hl
 clear h hO he
 go_enter Tryz.func31,Tryz.ntmps31
 go_wp2_with fail
 refine HT.out.mono ?_;rintro e w1 ⟨rfl,rfl⟩
 go_wp2_with fail
 go_ret
 exact⟨rfl,rfl⟩
theorem spill_some {A:Pa} {ct:Nat} {w:World} {Qs:Nat->Prop} {hv:Nat->Option Value} {S Hd:Rows} (h:Pl A ct w Qs hv S Hd) (hct:ct<90000) (i:Nat) (hi:i<A.n) (hne:Hd i≠[]) (hlen: (S i).length+(Hd i).length<=30000) (hmany:many Hd A.n<=1000000):
  Calls Tryz.prog 31 #[.pointer (some ⟨A.p,0,none⟩),.int .i64 (i:Int)] w λe w'=>e=.returned (.int .i64 0)/\Went A (ct+1) (allQ A Qs hv) w w' (upd S i (S i++Hd i)) (upd Hd i []) (λ_=>False):=by
 have HT:=jq (there_in h i hi);have HRD:=jq (read_any h i hi (by omega));obtain⟨g,cap,hvi,hgl⟩:=h.heldSome i hi hne;have hl:=h.heldAt' i hi;rw[hvi]at hl;have hO:w.ownsRow 0 26 7 (.slice (some ⟨g,0,none⟩) (Hd i).length cap) (Hd i).length (flatW (Hd i)):=by have:=h.rows i hi;rw[hvi]at this;exact this
 have c4:=h.pool.cell 4
 simp at c4 hl
 have H:=jq h;obtain⟨m,hm⟩:=jl ((Hd i).length);have hm0:0<m:=by rw[hm];exact List.length_pos_iff.2 hne
 have hnz: ((m:Int)==0)=false:=by
  have:¬(m:Int)=0:=by omega
  simpa using this
 rw[<-hm]at hl hO hlen;have HO:=jq hO;have HM:=jq hm;have HNE:=jq hne;have HVI:=jq hvi;clear h hO hm hne hvi;obtain⟨i0,hi0,hz0,hz1,hz2⟩:=info_parts infoW7
 go_enter Tryz.func31,Tryz.ntmps31
 go_wp2_with fail
 refine HT.out.mono ?_;rintro e w1 ⟨rfl,rfl⟩
 go_wp2_with fail
 refine HRD.out.mono ?_;rintro e w2 ⟨v2,rfl,hO2,hB2⟩;have HP2:=jq (H.out.later hB2);have hO3:=own_later HO.out hB2
 have hL3:Lies w2 (some ⟨g,0,none⟩) (flatW (Hd i)):=by
  obtain⟨a,c,e,_,hL,_,_⟩:=own_shape hO3;injection e with e1;subst e1;exact hL
 have hBz:=hB2.size;obtain⟨l,hle⟩:=jl (S i++Hd i);have hll:l.length=(S i).length+m:=by rw[hle,jL,HM.out]
 have hok:∀x∈l,ok x:=λx hx=>by
  rw[hle]at hx;rcases List.mem_append.1 hx with hx|hx
  ·exact H.out.okS i hi x hx
  ·exact H.out.okH i hi x hx
 have hfl:flatW (S i)++flatW (Hd i)=flatW l:=by rw[hle,flatW_append]
 have hlne:l≠[]:=λe=>by
  rw[e]at hll
  simp at hll
  omega
 have hfn: (flatW (Hd i)).length=m*7:=by rw[flatW_length _ (H.out.okH i hi),HM.out]
 have HLL:=jq hll;have HOK:=jq hok;have HFL:=jq hfl;have HLN:=jq hlne;have HLE:=jq hle;have HFN:=jq hfn;have H1:=jq (oneCell_flatW (Hd i));have HC:=jq (lies_add hL3);have HO2:=jq hO2;have HB2:=jq hB2;obtain⟨sl,hsl⟩:=jl ((S i).length);rw[<-hsl]at hlen HLL;have HOS:Hid (w2.ownsRow w1.heap.size 26 7 v2 sl (flatW (S i))):=jq (by rw[hsl];exact HO2.out);clear hO2 hB2 hO3 hL3 hll hok hfl hlne hle hfn hsl
 go_wp2_with (first|(at_builtin;refine wpList_append_own _ rfl _ _ 54 rfl w1.heap.size 26 i0 (.agg #[.int .u32 0,.int .u32 0,.int .u32 0,.int .u32 0,.int .u32 0,.int .u32 0,.int .u32 0]) 7 28 Tryz.underlying54 hi0 hz0 hz1 hz2 rfl (by decide) _ _ _ rfl HOS.out ⟨g,0,none⟩ m cap (flatW (Hd i)) rfl HFN.out HC.out H1.out ?c3 ?c4 ?c5 ?_))
 case c3=>unfold maxLen;omega
 case c4=>omega
 case c5=>exact hBz
 intro v3 w3 hown3 hgrow3 hv3;have hB3:Below w1.heap.size w1 w3:=HB2.out.grown hgrow3 hBz (λq hq=>(HOS.out.lt q hq).1);rw[HFL.out]at hown3;obtain⟨va,vc,rfl,hvc,hL3,_,_⟩:=own_shape hown3;have hw:=write_some (H.out.later hB3) hct i hi va vc l hL3 HLN.out HOK.out (by rw[HLL.out];omega);rw[HLL.out]at hw;have HW:=jq hw;have HB3:=jq hB3;clear hw hB3 hown3 hgrow3 hv3 hL3 hvc
 go_wp2_with fail
 refine HW.out.mono ?_;rintro e w4 ⟨rfl,Q4,hp4,hQ4,ho4⟩;obtain⟨M,hM⟩:=jl (many Hd A.n);have hmM:m<=M:=by rw[hM,HM.out];exact len_le_many Hd i A.n hi
 have hsub:IntKind.i64.wrap ((M:Int)-(m:Int))=(M:Int)-m:=IntWalk.i64_in _ (by omega);have k5:=hp4.pool.cell 5;have k4:=hp4.pool.cell 4;have f5:=hp4.pool.frozen 5
 simp at k5 k4
 rw[<-hM]at k5 hmany
 have hr4:w4.ownsRow 0 26 7 (.slice (some ⟨g,0,none⟩) m cap) m (flatW (Hd i)):=by
  have:=hp4.rows i hi;rw[HVI.out]at this;rw[HM.out];exact this
 have hr5:=own_past hr4 hp4.pool (by decide) 5 (.int .i64 ((M:Int)-m));obtain⟨g',w6,hg',hclr,ho6,hz6⟩:=run_clear (w:=w4.setCell ⟨A.p,5,none⟩ (.int .i64 ((M:Int)-m))) (v:=.slice (some ⟨g,0,none⟩) m cap) (l:=Hd i) (base:=0) (by rw[HM.out]at hr5⊢;exact hr5) HNE.out 0;obtain rfl:g=g':=by simpa[Value.ownBlock]using hg'
 have hb5:=hp4.pool.set 5 (.int .i64 ((M:Int)-m));have hgp:A.p≠g:=λe=>(own_ne_blk hr4 hp4.pool (by decide)) (by rw[e];rfl)
 have hb6:=hb5.only ho6 (by simpa using hgp);have k46:=hb6.cell 4
 simp at k46
 obtain⟨f0,hmh,_,_⟩:=hp4.held;have hhp:A.hm≠A.p:=map_ne_blk hmh hp4.pool;have hhg:A.hm≠g:=λe=>(hp4.outside i _ g hi HVI.out rfl).2 (.inr (.inr e.symm))
 have hk6:w6.heap[A.hm]? =w4.heap[A.hm]?:=(ho6.block _ (by simp[World.setCell];exact hmh.lt) (by simpa using hhg)).trans (Below.heap_setCell _ _ _ _ hhp);obtain⟨w7,f7,hdel,hm7,hs7,hf7,hfo7,ho7,hz7⟩:=hp4.unhold (w1:=w6) hk6 i hi 0;have ho57:Only [A.p,g,A.hm] w4 w7:=(((Only.refl _ w4).set (p:=⟨A.p,5,none⟩) (.inl (by simp)) (.int .i64 ((M:Int)-m))).trans (ho6.mono (by simp))).trans (ho7.mono (by simp));have hb7:=hb6.only ho7 (by simpa using hhp.symm);have hmu:=many_upd Hd i [] A.n hi;rw[<-hM,<-HM.out]at hmu
 simp at hmu
 have hfin:=hp4.holding hi ho57 (λk hk=>by
  simp only[List.mem_cons,List.not_mem_nil,or_false]at hk;rcases hk with rfl|rfl|rfl
  ·exact .inl rfl
  ·exact .inr (.inr (.inl ⟨_,HVI.out,rfl⟩))
  ·exact .inr (.inl rfl)) [] (by
   have e: ((M:Int)-m)=(many (upd Hd i []) A.n:Int):=by omega
   rw[<-e]
   simpa using hb7) hm7 hs7 none rfl hf7 hfo7 (λv k h=>by cases h) (λx hx=>by cases hx)
 have hall:∀k,allQ A Q4 (updv hv i none) k->allQ A Qs hv k\/w1.heap.size<=k:=λk hk=>by
  rcases allQ_holding (N:=w1.heap.size) (u:=none) (λv k h=>by cases h) hi k hk with h1|h1
  ·rcases h1 with h1|h1|h1
   ·rcases hQ4 k h1 with h2|h2
    ·exact .inl (.inl h2)
    ·exact .inr (Nat.le_trans HB3.out.size h2)
   ·exact .inl (.inr (.inl h1))
   ·exact .inl (.inr (.inr h1))
  ·exact .inr h1
 have hup:Upon (allQ A Qs hv) w1 w7:=by
  refine(Upon.of_below (P:=allQ A Qs hv) HB3.out).trans (Q:=allQ A Qs hv) ((ho4.mono (λk hk=>?_)).trans (Q:=allQ A Qs hv) (Upon.of_only ho57 (λk hk=>?_)) (λk hk=>.inl hk)) (λk hk=>.inl hk)
  ·exact hk.elim .inl (λe=>.inr (.inl (.inr (.inl e))))
  ·simp only[List.mem_cons,List.not_mem_nil,or_false]at hk;rcases hk with rfl|rfl|rfl
   ·exact .inl (.inr (.inl (.inl rfl)))
   ·exact .inl (.inr (.inr ⟨i,_,hi,HVI.out,rfl⟩))
   ·exact .inl (.inr (.inl (.inr (.inr rfl))))
 rw[HLE.out]at hfin;have HFIN:=jq hfin;have HALL:=jq hall;have HUP:=jq hup;clear hfin hall hup hmu hb7 ho57 hm7 hs7 hf7 hfo7 ho7 hz7 hk6 hhg hhp hmh hb6 hgp hb5 hg' ho6 hz6 hr5 hr4 hM hp4 hQ4 ho4
 go_wp2_with fail
 go_ret
 exact⟨rfl,_,_,HFIN.out,HALL.out,λk h=>h.elim,HUP.out⟩
end Pool
namespace Pool
open Go.RowKit Go.Deep Go.Shelf Mem Crc Walk
open Store (Sto Files setF setF_same setF_other nv)
attribute [local go_sem] Oper.semAt_some
def holds (Hd:Rows):Nat->List (Nat×Nat)
 |0=>[]
 |k+1=>if 0<(Hd k).length then holds Hd k++ [(k,(Hd k).length)]else holds Hd k
theorem holds_yes (Hd:Rows) (k:Nat) (h:0<(Hd k).length):holds Hd (k+1)=holds Hd k++ [(k,(Hd k).length)]:=by rw[holds,if_pos h]
theorem holds_no (Hd:Rows) (k:Nat) (h:¬0<(Hd k).length):holds Hd (k+1)=holds Hd k:=by rw[holds,if_neg h]
theorem holds_length (Hd:Rows) (k:Nat): (holds Hd k).length<=k:=by
 induction k with
 |zero=>exact Nat.le_refl _
 |succ k ih=>unfold holds;split <;> (try simp) <;> omega
theorem holds_mem (Hd:Rows):∀k x,x∈holds Hd k->x.1<k/\x.2=(Hd x.1).length/\0<x.2:=by
 intro k
 induction k with
 |zero=>intro x h;cases h
 |succ k ih=>
  intro x h
  by_cases h0:0<(Hd k).length
  ·rw[holds_yes _ _ h0]at h;rcases List.mem_append.1 h with h|h
   ·obtain⟨a,b,c⟩:=ih x h;exact⟨by omega,b,c⟩
   ·rw[jE.1 h];exact⟨Nat.lt_succ_self _,rfl,h0⟩
  ·rw[holds_no _ _ h0]at h;obtain⟨a,b,c⟩:=ih x h;exact⟨by omega,b,c⟩
def better (b x:Nat×Nat):Nat×Nat:=if b.2<x.2 then x else b
def bestOf (l:List (Nat×Nat)):Nat×Nat:=l.foldl better (0,0)
theorem bestOf_snoc (l:List (Nat×Nat)) (x:Nat×Nat):bestOf (l++ [x])=better (bestOf l) x:=by simp[bestOf]
theorem better_yes {b x:Nat×Nat} (h:b.2<x.2):better b x=x:=if_pos h
theorem better_no {b x:Nat×Nat} (h:¬b.2<x.2):better b x=b:=if_neg h
theorem bestOf_mem (Hd:Rows):∀k,bestOf (holds Hd k)=(0,0)/\holds Hd k= []\/bestOf (holds Hd k)∈holds Hd k:=by
 intro k
 induction k with
 |zero=>exact .inl ⟨rfl,rfl⟩
 |succ k ih=>
  by_cases h0:0<(Hd k).length
  ·rw[holds_yes _ _ h0,bestOf_snoc]
   right
   by_cases hb: (bestOf (holds Hd k)).2<(Hd k).length
   ·rw[better_yes hb];simp
   ·rw[better_no hb];rcases ih with⟨h1,_⟩|h1
    ·rw[h1]at hb;exact absurd h0 hb
    ·simp[h1]
  ·rw[holds_no _ _ h0];exact ih
theorem holds_nil (Hd:Rows):∀k,holds Hd k= []->many Hd k=0:=by
 intro k
 induction k with
 |zero=>intro _;rfl
 |succ k ih=>
  intro h
  by_cases h0:0<(Hd k).length
  ·rw[holds_yes _ _ h0]at h;simp at h
  ·rw[holds_no _ _ h0]at h;have:=ih h;unfold many at this⊢;rw[List.range_succ,List.map_append,List.sum_append,this]
   simp
   simpa using h0
theorem best_in {Hd:Rows} {n:Nat} (h:0<many Hd n): (bestOf (holds Hd n)).1<n/\Hd (bestOf (holds Hd n)).1≠[]:=by
 rcases bestOf_mem Hd n with⟨_,h1⟩|h1
 ·have:=holds_nil Hd n h1
  omega
 ·obtain⟨a,b,c⟩:=holds_mem Hd n _ h1;refine⟨a,λe=>?_⟩;rw[b,e]at c
  simp at c
def Kept (n0 Bs:Nat) (W W':World):Prop:=Below n0 W W'/\W'.cell? ⟨Bs,0,none⟩=W.cell? ⟨Bs,0,none⟩
theorem Kept.refl (n0 Bs:Nat) (W:World):Kept n0 Bs W W:=⟨Below.refl _ _,rfl⟩
theorem kept_t {n0 Bs:Nat} {A B C:World} (h:Kept n0 Bs A B) (k:Kept n0 Bs B C):Kept n0 Bs A C:=⟨h.1.trans k.1,k.2.trans h.2⟩
theorem kept_b {n0 Bs:Nat} {w:World} (hn:n0<=w.heap.size) (hB:Bs<w.heap.size) (W:World) (l:Nat) (o o':Obj) (hl:w.heap.size<=l) (h:W.heap[l]? =some o) (hc:o.isCells=false) (hk:o.isWalk=false):Kept n0 Bs W (W.putObj l o'):=
 ⟨belowK_b hn W l o o' hl h hc hk,World.cell?_of_block (World.putObj_heap_other (by show Bs≠l;omega))⟩
theorem holders1_in (F:Fence) (n:Nat) (h7:F.fn 90) (hro:F.round=none) (hn:1<=n) (l Bs:Nat) {A:Pa} {ct:Nat} {w0:World} {Qs:Nat->Prop} {hv:Nat->Option Value} {S Hd:Rows} (hP:Pl A ct w0 Qs hv S Hd) (hmany:many Hd A.n<=1000000) (J Jx:List (Nat×Nat)->World->Prop)
  (hY:∀pre x W,J pre W->pre.length<A.n->(x.1<A.n/\Hd x.1≠[])->YieldAt F (n-1) Tryz.prog l #[.int .i64 (x.1:Int),.int .i64 (x.2:Int)] W λe W'=>
   (e=.returned (.bool true)/\J (pre++ [x]) W'/\Kept w0.heap.size Bs W W')\/(e=.returned (.bool false)/\Jx (pre++ [x]) W'))
  (W:World) (hB:Below w0.heap.size w0 W) (hcs:W.cell? ⟨Bs,0,none⟩=some (.pointer (some ⟨A.p,0,none⟩))) (h0:J [] W):
  CallsIn F n Tryz.prog 90 #[.func (.yield l) #[] #[],.pointer (some ⟨Bs,0,none⟩)] W λe W'=>(∃v,e=.returned v)/\
   ((∃ys,ys=holds Hd A.n/\J ys W')\/(∃pre,(∃k,k<=A.n/\pre=holds Hd k)/\Jx pre W')):=by
 have HP:=jq hP;have hn20:=hP.top.1;have HMY:=jq hmany;have c1:=(hP.later hB).pool.cell 1
 simp at c1
 clear hP hmany;refine callsIn_of_wp Tryz.func90 rfl h7 ?_ hro;simp only[Tryz.ntmps90,List.size_toArray,List.length_cons,List.length_nil,Nat.reduceAdd,Nat.reduceSub,Array.replicate_succ,Array.replicate_zero,List.push_toArray,List.append_toArray,List.nil_append,List.cons_append]
 gi_wp2
 gi_loopw [9] (λi wr=>∃k:Nat,k<=A.n/\i=.int .i64 k/\J (holds Hd k) wr/\Kept w0.heap.size Bs W wr)
  (λi _=>A.n-(intOf i).toNat)
 case atStart=>exact⟨0,Nat.zero_le _,rfl,h0,Kept.refl _ _ _⟩
 case round=>
  obtain⟨k,hk,rfl,hJs,hnx⟩:=hrel;have hcs':=hnx.2.trans hcs
  by_cases hlt:k<A.n
  ·have hPr:=HP.out.later (hB.trans hnx.1);have k4:=hPr.pool.cell 4
   simp at k4
   obtain⟨v,_,hO,hl⟩:=hPr.heldAt k hlt;obtain⟨va,vc,rfl,_,_,_,_⟩:=own_shape hO;have hul:=holds_length Hd k;have hkm:=len_le_many Hd k A.n hlt;have hkm2: (Hd k).length<=1000000:=Nat.le_trans hkm HMY.out;have HX:=jq hnx;clear hPr hO hkm hnx;obtain⟨m,hm⟩:=jl ((Hd k).length);rw[<-hm]at hl hkm2
   by_cases hpos:0<m
   ·obtain⟨fn,tmps,assign,body,hy,hR⟩:=hY _ (k,m) wr hJs (by omega) ⟨hlt,λe=>by rw[e]at hm;simp at hm;omega⟩;have hyes:=holds_yes Hd k (by omega);rw[<-hm]at hyes;have HYS:=jq hyes;clear hyes hm;dsimp only at hy
    gi_wp2
    refine hR.mono ?_;rintro e W3 (⟨rfl,hJ3,hk3⟩|⟨rfl,hJx3⟩)
    ·gi_wp2
     go_roundw
     case rel=>exact⟨k+1,by omega,by simp,by rw[HYS.out];exact hJ3,kept_t HX.out hk3⟩
     case measure=>simp[intOf];omega
    ·gi_wp2
     refine bodyPost_ret (results_none rfl _ _ _) rfl ?_;exact⟨⟨_,rfl⟩,.inr ⟨_,⟨k+1,by omega,HYS.out.symm⟩,hJx3⟩⟩
   ·have hno:=holds_no Hd k (by omega);have HNO:=jq hno;clear hno hm;obtain rfl:m=0:=by omega
    gi_wp2
    refine⟨λ_ h=>(by cases h),?_⟩
    gi_wp2
    go_roundw
    case rel=>exact⟨k+1,by omega,by simp,by rw[HNO.out];exact hJs,HX.out⟩
    case measure=>simp[intOf];omega
  ·obtain rfl:k=A.n:=by omega
   gi_wp2
   go_end0
   exact⟨⟨_,rfl⟩,.inl ⟨_,rfl,hJs⟩⟩
theorem holders_in (F:Fence) (n:Nat) (h5:F.fn 61) (hro:F.round=none) (a:Option Addr) (w:World):
  CallsIn F n Tryz.prog 61 #[.pointer a] w λe w'=>e=.returned (.func (.func 90) #[] #[.pointer (some ⟨w.heap.size,0,none⟩)])/\w'=w.alloc (.cells #[.pointer a] 34):=by
 refine callsIn_of_wp Tryz.func61 rfl h5 ?_ hro;simp only[Tryz.ntmps61,List.size_toArray,List.length_cons,List.length_nil,Nat.reduceAdd,Nat.reduceSub,Array.replicate_succ,Array.replicate_zero,List.push_toArray,List.append_toArray,List.nil_append,List.cons_append]
 gi_wp2
 go_ret
 exact⟨rfl,rfl⟩
end Pool
namespace Pool
open Go.RowKit Go.Deep Go.Shelf Mem Crc Walk
open Store (Sto Files setF setF_same setF_other nv)
attribute [local go_sem] Oper.semAt_some
theorem makes_room {A:Pa} {ct:Nat} {w:World} {Qs:Nat->Prop} {hv:Nat->Option Value} {S Hd:Rows} (h:Pl A ct w Qs hv S Hd) (hr:many Hd A.n<A.room):
  Calls Tryz.prog 42 #[.pointer (some ⟨A.p,0,none⟩)] w λe w'=>e=.returned (.int .i64 0)/\Below w.heap.size w w':=by
 have c5:=h.pool.cell 5;have c2:=h.pool.cell 2
 simp at c5 c2
 have ht:decide (many Hd A.n<A.room)=true:=by simp;omega
 clear h hr;obtain⟨M,hM⟩:=jl (many Hd A.n);obtain⟨rm,hR⟩:=jl A.room;rw[<-hM]at c5 ht;rw[<-hR]at c2 ht;clear hM hR;refine(callsIn_wide (n:=5)).1 ?_;refine callsIn_of_wp_marks Tryz.func42 rfl trivial ?_ rfl;simp only[Tryz.ntmps42,List.size_toArray,List.length_cons,List.length_nil,Nat.reduceAdd,Nat.reduceSub,Array.replicate_succ,Array.replicate_zero,List.push_toArray,List.append_toArray,List.nil_append,List.cons_append];refine wpIn_wide.2 ?_
 go_wp2_with fail
 go_quiet (fail)
 go_wp2_with fail
 refine⟨.int .i64 0,by simp[results,Tryz.f42,go_sem],rfl,?_⟩;exact⟨rfl,rfl,rfl,Nat.le_refl _,λ_ _=>rfl⟩
structure MS (S:Nat) (s:Nat×Nat) (W:World):Prop where
 b0:Boxed W S 3 (.int .i64 (s.1:Int))
 b1:Boxed W (S+1) 3 (.int .i64 (s.2:Int))
theorem boxed_at {W:World} {B:Nat} {t:TypeId} {v:Value} (h:B=W.heap.size):Boxed (W.alloc (.cells #[v] t)) B t v:=by subst h;exact Boxed.new W t v
theorem boxed_put {W:World} {B D:Nat} {t:TypeId} {v:Value} {o:Obj} (o':Obj) (h:Boxed W B t v) (hK:W.heap[D]? =some o) (hc:o.isCells=false):Boxed (W.putObj D o') B t v:=
 h.kept (grownBy_putObj' W D o') (λe=>by
  have e:B=D:=by simpa using e
  subst e;rw[show W.heap[B]? =_ from h]at hK;cases hK;cases hc)
theorem MS.own (S:Nat) {β:Type} (f:β->Nat×Nat):Own (λs W=>MS S (f s) W):=λs X Y row hs hg hr=>
 ⟨boxed_own S _ (λ_:Unit=>.int .i64 ((f s).1:Int)) () X Y row hs.b0 hg hr,boxed_own (S+1) _ (λ_:Unit=>.int .i64 ((f s).2:Int)) () X Y row hs.b1 hg hr⟩
theorem MS.best {S:Nat} {s:Nat×Nat} {W:World} (h:MS S s W) (x:Nat×Nat):MS S x ((W.setCell ⟨S,0,none⟩ (.int .i64 (x.1:Int))).setCell ⟨S+1,0,none⟩ (.int .i64 (x.2:Int))):=
 ⟨(h.b0.set _).other (by omega) _,(h.b1.other (by omega) _).set _⟩
theorem holders_stops (F:Fence) (n:Nat) (h8:F.fn 90) (hro:F.round=none) (hn:1<=n) (Bs:Nat) {A:Pa} {ct:Nat} {w0 w:World} {Qs:Nat->Prop} {hv:Nat->Option Value} {S Hd:Rows} (hP:Pl A ct w0 Qs hv S Hd) (hmany:many Hd A.n<=1000000) (hB:Below w0.heap.size w0 w) (hBs:Bs<w.heap.size)
  (hc:w.cell? ⟨Bs,0,none⟩=some (.pointer (some ⟨A.p,0,none⟩))):
  SeqStopsK F n Tryz.prog 90 #[.pointer (some ⟨Bs,0,none⟩)] (λx:Nat×Nat=>#[Value.int .i64 (x.1:Int),Value.int .i64 (x.2:Int)]) (Kept w0.heap.size Bs) (λys=>ys=holds Hd A.n)
   (λpre=>∃k,k<=A.n/\pre=holds Hd k) A.n w:=λl J Jx W hW _ _ hY h0=>
 holders1_in F n h8 hro hn l Bs hP hmany J Jx (λpre x W1 hj hl _=>hY pre x W1 hj hl) W (hB.trans (hW.mono hB.size)) ((hW.cell (p:=⟨Bs,0,none⟩) hBs).trans hc) h0
theorem makes_full {A:Pa} {ct:Nat} {w:World} {Qs:Nat->Prop} {hv:Nat->Option Value} {S Hd:Rows} (h:Pl A ct w Qs hv S Hd) (hr:A.room<=many Hd A.n) (hmany:many Hd A.n<=1000000)
  (R:Int->World->World->Prop) (hsp:∀W,Below w.heap.size w W->Calls Tryz.prog 31 #[.pointer (some ⟨A.p,0,none⟩),.int .i64 ((bestOf (holds Hd A.n)).1:Int)] W (λe w'=>∃x,e=.returned (.int .i64 x)/\R x W w'))
  (hR:∀x W w1,Below w.heap.size w W->R x W w1->∀k,w.heap.size<=k->k<W.heap.size->w1.heap[k]? =W.heap[k]?):
  Calls Tryz.prog 42 #[.pointer (some ⟨A.p,0,none⟩)] w λe w'=>∃x W w1 D,e=.returned (.int .i64 x)/\Below w.heap.size w W/\R x W w1/\w.heap.size<=D/\D<W.heap.size/\w1.heap[D]? =some (.deferred (some []))/\w'=w1.putObj D (.deferred none):=by
 have c5:=h.pool.cell 5;have c2:=h.pool.cell 2
 simp at c5 c2
 have ht:decide (many Hd A.n<A.room)=false:=by simp;omega
 have H:=jq h;have HSP:=jq hsp;have HMY:=jq hmany;have HRK:=jq hR;clear h hr hsp hmany hR;obtain⟨M,hM⟩:=jl (many Hd A.n);obtain⟨rm,hR⟩:=jl A.room;rw[<-hM]at c5 ht;rw[<-hR]at c2 ht;clear hM hR;have ht2:¬M<rm:=by simpa using ht
 refine(callsIn_wide (n:=5)).1 ?_;refine callsIn_of_wp_marks Tryz.func42 rfl trivial ?_ rfl;simp only[Tryz.ntmps42,List.size_toArray,List.length_cons,List.length_nil,Nat.reduceAdd,Nat.reduceSub,Array.replicate_succ,Array.replicate_zero,List.push_toArray,List.append_toArray,List.nil_append,List.cons_append];refine wpIn_wide.2 ?_
 go_wp2_with fail
 go_quiet (fail)
 obtain⟨V,hV⟩:=jl (w.drewN nq);have hBV:Below w.heap.size w V:=by rw[hV];exact⟨rfl,rfl,rfl,Nat.le_refl _,λ_ _=>rfl⟩
 have hsV:V.heap.size=w.heap.size:=by rw[hV];rfl
 rw[<-hV];have HBV:=jq hBV;have HSV:=jq hsV;clear hBV hsV hV
 go_wp2_with (go_at_call 61;refine(callsIn_wide.1 (holders_in Fence.wide 4 trivial rfl _ _)).mono ?_;rintro e w3 ⟨rfl,rfl⟩)
 obtain⟨W0,hW0⟩:=jl (((V.alloc (Obj.cells #[Value.int IntKind.i64 0] 3)).alloc (Obj.cells #[Value.int IntKind.i64 0] 3)).alloc (Obj.cells #[Value.pointer (some ⟨A.p,0,none⟩)] 34))
 have hps:MS V.heap.size (0,0) W0:=by
  rw[hW0];refine⟨?_,?_⟩ <;> (repeat(first|(refine boxed_at ?_;(simp <;> omega);done)|refine Boxed.alloc ?_ _))
 have hbp:Boxed W0 (V.heap.size+1+1) 34 (.pointer (some ⟨A.p,0,none⟩)):=by rw[hW0];exact boxed_at (by simp)
 have hBV0:Below V.heap.size V W0:=by rw[hW0];exact(((Below.refl _ V).alloc jn _).alloc (by simp) _).alloc (by simp;omega) _
 have hB0:Below w.heap.size w W0:=HBV.out.trans (hBV0.mono HBV.out.size);have hsz:W0.heap.size=V.heap.size+1+1+1:=by rw[hW0];simp
 have hVw:w.heap.size<=V.heap.size:=HBV.out.size;obtain⟨V0,hV0⟩:=jl V.heap.size;rw[<-hW0];rw[<-hV0]at hps hbp hBV0 hsz hVw⊢;clear hW0 hV0;refine(wpIn_wide (n:=5)).1 ?_
 refine wpIn_rangeFunc_ownG rfl (by omega) (gf:=90) (lb:=#[.pointer (some ⟨V0+1+1,0,none⟩)]) rfl trivial (enters_of Tryz.func90 (by kernel_rfl) rfl)
  (holders_stops Fence.wide 4 trivial rfl (by omega) (V0+1+1) H.out HMY.out hB0 (by omega) hbp.cell) kept_t (kept_b (by omega) (by omega)) (Below.refl _ _) (λ_=>rfl)
  (λpre W=>(MS V0 (bestOf pre) W/\Boxed W (V0+1+1) 34 (.pointer (some ⟨A.p,0,none⟩)))/\Below w.heap.size w W)
  (λ_ _ _=>False)
  (OwnFrom.and (Own.from (λs X Y row hs hg hr=>⟨MS.own _ (λpre=>bestOf pre) s X Y row hs.1 hg hr,boxed_own (V0+1+1) _ (λ_:Unit=>.pointer (some ⟨A.p,0,none⟩)) () X Y row hs.2 hg hr⟩) _) (ownFrom_below jn (by omega)))
  (λ_ _ _ _ _ hs _ _=>hs)
  ⟨⟨hps,hbp⟩,hB0⟩
  (λx=>{tmps:=#[.pointer (some ⟨A.p,0,none⟩),undef,.int .i64 0,.pointer (some ⟨V0,0,none⟩),.pointer (some ⟨V0+1,0,none⟩),.int .i64 (x.1:Int),.int .i64 (x.2:Int),.pointer (some ⟨A.p,0,none⟩),.pointer (some ⟨A.p,0,none⟩),.pointer (some ⟨A.p,5,none⟩),.int .i64 M,.pointer (some ⟨A.p,0,none⟩),.pointer (some ⟨A.p,0,none⟩),.pointer (some ⟨A.p,2,none⟩),.int .i64 rm,.bool false,.pointer (some ⟨A.p,0,none⟩),.func (.func 90) #[] #[.pointer (some ⟨V0+1+1,0,none⟩)],.int .i64 (x.1:Int),.int .i64 (x.2:Int),undef,undef,undef,undef,undef,undef,undef,undef],defers:=[]}) ?assign ?body ?done ?stop
 case assign=>
  intro l x W K hK
  gi_wp2
  exact hK
 case body=>
  rintro l pre x W ⟨⟨hp,hq⟩,hB⟩ hlt;have c3:=hp.b0.cell;have c4:=hp.b1.cell;have f3:=hp.b0.frozen;have f4:=hp.b1.frozen;obtain⟨b2,hb2⟩:=jl ((bestOf pre).2);have HB2:=jq hb2;rw[<-hb2]at c4;clear hb2
  by_cases hx:b2<x.2
  ·have hd:decide (b2<x.2)=true:=by simpa using hx
   gi_wp2
   refine⟨((KeepsOthers.setCell _ _ _).trans (KeepsOthers.setCell _ _ _)).from _,⟨((Below.refl w.heap.size W).setCell (p:=⟨V0,0,none⟩) (by simp;omega) _).setCell (p:=⟨V0+1,0,none⟩) (by simp;omega) _,?_⟩,⟨?_,(hq.other (by omega) _).other (by omega) _⟩,(hB.setCell (p:=⟨V0,0,none⟩) (by simp;omega) _).setCell (p:=⟨V0+1,0,none⟩) (by simp;omega) _⟩
   ·rw[hq.cell];exact((hq.other (B':=V0) (by omega) _).other (B':=V0+1) (by omega) _).cell
   ·rw[bestOf_snoc,better_yes (by rw[<-HB2.out];exact hx)];exact hp.best x
  ·have hd:decide (b2<x.2)=false:=by simpa using hx
   gi_wp2
   refine⟨(KeepsOthers.refl _).from _,⟨Below.refl w.heap.size W,rfl⟩,⟨?_,hq⟩,hB⟩;rw[bestOf_snoc,better_no (by rw[<-HB2.out];exact hx)];exact hp
 case done=>
  rintro D ys W hD hys ⟨⟨hp,hq⟩,hB⟩ hK;have c3:=hp.b0.cell;rw[hys]at c3;have HS:=jq (HSP.out W hB);have HB:=jq hB;have HK:=jq hK;have HDD:=jq (show w.heap.size<=D by omega);clear hp hq hB hys hK hD;dsimp only
  go_wp2_with fail
  refine HS.out.mono ?_;rintro e w1 ⟨x,rfl,hR⟩;have hDW:=(Array.getElem?_eq_some_iff.1 HK.out).1;have hK1:=(HRK.out x W w1 HB.out hR D HDD.out hDW).trans HK.out;have HK1:=jq hK1;have HR:=jq hR;clear hR hK1 c3
  go_wp2_with fail
  refine⟨by simp,.inl ⟨_,_,rfl,run_takeDeferred HK1.out,?_⟩⟩;refine⟨.int .i64 x,by simp[results,Tryz.f42,go_sem],?_⟩;exact⟨x,W,w1,D,rfl,HB.out,HR.out,HDD.out,hDW,HK1.out,rfl⟩
 case stop=>
  rintro D c pre W _ _ h _;exact h.elim
end Pool
namespace Pool
open Go.RowKit Go.Deep Mem Crc Walk
open Store (Sto Files setF setF_same setF_other nv)
theorem own_keep {w w':World} {base:Nat} {e:TypeId} {size:Nat} {v:Value} {n:Nat} {xs:List Value} (h:w.ownsRow base e size v n xs) (hk:∀g,v.ownBlock=some g->w'.heap[g]? =w.heap[g]?):w'.ownsRow base e size v n xs:=by
 refine⟨h.1,?_⟩;rcases h.2 with h0|⟨g,cap,cur,rfl,hg,hgg,r⟩
 ·exact .inl h0
 ·exact .inr ⟨g,cap,cur,rfl,hg,(hk g rfl).trans hgg,r⟩
theorem Pl.keep {A:Pa} {ct:Nat} {w w':World} {Qs:Nat->Prop} {hv:Nat->Option Value} {S Hd:Rows} (h:Pl A ct w Qs hv S Hd) (hs:w.heap.size<=w'.heap.size) (hk:∀k,allQ A Qs hv k->w'.heap[k]? =w.heap[k]?):Pl A ct w' Qs hv S Hd:=by
 obtain⟨F,j,hst,hfl,hj⟩:=h.store;obtain⟨f,hm,hms,hf⟩:=h.spilled;obtain⟨f2,hm2,hms2,hf2⟩:=h.held;refine⟨(hk _ (.inr (.inl (.inl rfl)))).trans h.pool,⟨F,j,A.T.keep hst hs (λk hq=>hk k (.inl hq)),hfl,hj⟩,⟨f,hm.keep (hk _ (.inr (.inl (.inr (.inl rfl))))),hms,hf⟩,⟨f2,hm2.keep (hk _ (.inr (.inl (.inr (.inr rfl))))),hms2,hf2⟩,λi hi=>?_,h.apart,h.outside,h.qs,h.maps,h.okS,h.okH,h.top⟩;have:=h.rows i hi
 cases hc:hv i with
 |none=>rw[hc]at this;exact this
 |some v=>
  rw[hc]at this;exact own_keep this (λg hg=>hk g (.inr (.inr ⟨i,v,hi,hc,hg⟩)))
theorem Pl.upon {A:Pa} {ct:Nat} {P:Nat->Prop} {w w':World} {Qs:Nat->Prop} {hv:Nat->Option Value} {S Hd:Rows} (h:Pl A ct w Qs hv S Hd) (hu:Upon P w w') (hP:∀k,allQ A Qs hv k->¬P k):Pl A ct w' Qs hv S Hd:=h.keep hu.size (λk hk=>hu.block k (h.lt k hk) (hP k hk))
theorem Went.put {A:Pa} {ct:Nat} {P:Nat->Prop} {w w1 W:World} {S Hd:Rows} {X:Nat->Prop} (h:Went A ct P W w1 S Hd X) (hB:Below w.heap.size w W) (hP:∀k,P k->k<w.heap.size) {D:Nat} (h1:w.heap.size<=D) (h2:D<W.heap.size) (o:Obj):Went A ct P w (w1.putObj D o) S Hd X:=by
 obtain⟨Qs,hv,hp,hq,hx,hu⟩:=h;have hg:=grownBy_putObj' w1 D o;refine⟨Qs,hv,hp.keep hg.size (λk hk=>hg.block k (hp.lt k hk) (λe=>?_)),λk hk=>(hq k hk).imp id (λh=>Nat.le_trans hB.size h),hx,?_⟩
 ·injection e with e;subst e;rcases hq k hk with h3|h3
  ·have:=hP k h3
   omega
  ·omega
 ·have:=hu.size;refine((Upon.of_below (P:=P) hB).trans (Q:=P) hu (λg hg=>.inl hg)).trans (Q:=λk=>k=D) ⟨hg.os,hg.tape,hg.output,hg.size,λk hk hn=>hg.block k hk (λe=>hn (by injection e))⟩ (λg hgD=>.inr (by have hgD:g=D:=hgD;omega))
def madeS (A:Pa) (S Hd:Rows):Rows:=if many Hd A.n<A.room then S else upd S (bestOf (holds Hd A.n)).1 (S (bestOf (holds Hd A.n)).1++Hd (bestOf (holds Hd A.n)).1)
def madeH (A:Pa) (Hd:Rows):Rows:=if many Hd A.n<A.room then Hd else upd Hd (bestOf (holds Hd A.n)).1 []
theorem made_row (A:Pa) (S Hd:Rows) (i:Nat):madeS A S Hd i++madeH A Hd i=S i++Hd i:=by
 unfold madeS madeH
 split
 ·rfl
 ·by_cases e:i=(bestOf (holds Hd A.n)).1
  ·rw[e,upd_same,upd_same];simp
  ·rw[upd_other _ e,upd_other _ e]
theorem made_len (A:Pa) (S Hd:Rows) (i:Nat): (madeS A S Hd i).length+(madeH A Hd i).length=(S i).length+(Hd i).length:=by
 have:=congrArg List.length (made_row A S Hd i)
 simpa using this
theorem made_many (A:Pa) (Hd:Rows):many (madeH A Hd) A.n<=many Hd A.n/\(1<=A.room->many Hd A.n<=A.room->many (madeH A Hd) A.n<A.room):=by
 unfold madeH
 split
 ·next h=>exact⟨Nat.le_refl _,λ_ _=>h⟩
 ·next h=>
  by_cases h0:0<many Hd A.n
  ·obtain⟨h1,h2⟩:=best_in h0;have h3:=many_upd Hd _ [] A.n h1;have h4:0<(Hd (bestOf (holds Hd A.n)).1).length:=List.length_pos_iff.2 h2
   simp at h3
   exact⟨by omega,λ_ _=>by omega⟩
  ·refine⟨?_,λhr _=>by omega⟩
   by_cases hb: (bestOf (holds Hd A.n)).1<A.n
   ·have h3:=many_upd Hd _ [] A.n hb
    simp at h3
    omega
   ·have:many (upd Hd (bestOf (holds Hd A.n)).1 []) A.n=many Hd A.n:=by
     unfold many
     congr 1
     refine List.map_congr_left (λj hj=>?_);rw[upd_other _ (by have:=List.mem_range.1 hj;omega)]
    omega
theorem went_refl {A:Pa} {ct:Nat} {w w':World} {Qs:Nat->Prop} {hv:Nat->Option Value} {S Hd:Rows} (h:Pl A ct w Qs hv S Hd) (hB:Below w.heap.size w w'):Went A ct (allQ A Qs hv) w w' S Hd (λ_=>False):=
 ⟨Qs,hv,h.later hB,λ_ hk=>.inl hk,λ_ h=>h.elim,Upon.of_below hB⟩
theorem makes_any {A:Pa} {ct:Nat} {w:World} {Qs:Nat->Prop} {hv:Nat->Option Value} {S Hd:Rows} (h:Pl A ct w Qs hv S Hd) (hct:ct<90000) (hroom:1<=A.room) (hlen:∀j,j<A.n->(S j).length+(Hd j).length<=30000) (hmany:many Hd A.n<=1000000):
  Calls Tryz.prog 42 #[.pointer (some ⟨A.p,0,none⟩)] w λe w'=>e=.returned (.int .i64 0)/\Went A (ct+1) (allQ A Qs hv) w w' (madeS A S Hd) (madeH A Hd) (λ_=>False):=by
 by_cases hr:many Hd A.n<A.room
 ·refine(makes_room h hr).mono ?_;rintro e w' ⟨rfl,hB⟩;refine⟨rfl,?_⟩;unfold madeS madeH;rw[if_pos hr,if_pos hr];exact went_refl (h.mono (Nat.le_succ _)) hB
 ·obtain⟨h1,h2⟩:=best_in (Hd:=Hd) (n:=A.n) (by omega);refine(makes_full h (by omega) hmany (λx W w'=>x=0/\Went A (ct+1) (allQ A Qs hv) W w' (upd S (bestOf (holds Hd A.n)).1 (S (bestOf (holds Hd A.n)).1++Hd (bestOf (holds Hd A.n)).1)) (upd Hd (bestOf (holds Hd A.n)).1 []) (λ_=>False)) (λW hW=>?_) (λx W w1 hW hR k hk1 hk2=>?_)).mono ?_
  ·refine(spill_some (h.later hW) hct _ h1 h2 (hlen _ h1) hmany).mono ?_;rintro e w' ⟨rfl,hw⟩;exact⟨0,rfl,rfl,hw⟩
  ·obtain⟨_,_,_,_,_,_,hu⟩:=hR;exact hu.block k hk2 (λhq=>by have:=h.lt k hq;omega)
  ·rintro e w' ⟨x,W,w1,D,rfl,hB,⟨rfl,hw⟩,hD1,hD2,_,rfl⟩;refine⟨rfl,?_⟩;unfold madeS madeH;rw[if_neg hr,if_neg hr];exact hw.put hB h.lt hD1 hD2 _
theorem put_gen {A:Pa} {ct ct':Nat} {w:World} {Qs:Nat->Prop} {hv:Nat->Option Value} {S Hd S1 H1:Rows} (h:Pl A ct w Qs hv S Hd) (i:Nat) (hi:i<A.n) (x:List Nat) (hx:ok x)
  (hmk:∀W,Below w.heap.size w W->Calls Tryz.prog 42 #[.pointer (some ⟨A.p,0,none⟩)] W λe w'=>e=.returned (.int .i64 0)/\Went A ct' (allQ A Qs hv) W w' S1 H1 (λ_=>False)) (hl1: (H1 i).length<=30000) (hm1:many H1 A.n<=1000000):
  Calls Tryz.prog 15 #[.pointer (some ⟨A.p,0,none⟩),.int .i64 (i:Int),.agg (vals x).toArray] w λe w'=>e=.returned (.int .i64 0)/\Went A ct' (allQ A Qs hv) w w' S1 (upd H1 i (H1 i++ [x])) (λ_=>False):=by
 obtain⟨a,b,c,d,e,f,g,rfl⟩:=ok_seven hx;have hal:=(Below.refl w.heap.size w).alloc jn (.cells (vals [a,b,c,d,e,f,g]).toArray 26);have hb:=Blk.new w 26 (vals [a,b,c,d,e,f,g]).toArray;have h1:=h.later hal;have HT:=jq (there_in h1 i hi);have HM:=jq (hmk _ hal);have H:=jq h;have HAL:=jq hal;have HBX:=jq hb;have HOKX:=jq hx;have HMY:=jq hm1;clear h hal hb h1 hx hmk hm1;simp only[vals,List.map]at HBX HAL HM HT⊢;obtain⟨i0,hi0,hz0,hz1,hz2⟩:=info_parts infoW7
 go_enter Tryz.func15,Tryz.ntmps15
 go_wp2_with fail
 refine HT.out.mono ?_;rintro e1 w1 ⟨rfl,rfl⟩
 go_wp2_with fail
 refine HM.out.mono ?_;rintro e2 w2 ⟨rfl,Qs2,hv2,hp2,hq2,_,hu2⟩
 go_wp2_with fail
 have hbx:=HBX.out;have hbx2:Blk w2 w.heap.size 26 #[.int .u32 (a:Int),.int .u32 (b:Int),.int .u32 (c:Int),.int .u32 (d:Int),.int .u32 (e:Int),.int .u32 (f:Int),.int .u32 (g:Int)]:=(hu2.block _ hbx.lt (λhk=>absurd (H.out.lt _ hk) (Nat.lt_irrefl _))).trans hbx
 have hS:∀W:World,W.heap[A.p]? =w2.heap[A.p]?->W.heap[w.heap.size]? =w2.heap[w.heap.size]?->W.cell? ⟨A.p,4,none⟩=some (.map (some A.hm))/\W.cell? ⟨w.heap.size,0,none⟩=some (.int .u32 (a:Int))/\W.cell? ⟨w.heap.size,1,none⟩=some (.int .u32 (b:Int))/\W.cell? ⟨w.heap.size,2,none⟩=some (.int .u32 (c:Int))/\W.cell? ⟨w.heap.size,3,none⟩=some (.int .u32 (d:Int))/\W.cell? ⟨w.heap.size,4,none⟩=some (.int .u32 (e:Int))/\W.cell? ⟨w.heap.size,5,none⟩=some (.int .u32 (f:Int))/\W.cell? ⟨w.heap.size,6,none⟩=some (.int .u32 (g:Int)):=λW e1 e2=>by
  have p1:Blk W A.p _ _:=e1.trans hp2.pool;have p2:Blk W w.heap.size _ _:=e2.trans hbx2;refine⟨p1.cell 4,p2.cell 0,p2.cell 1,p2.cell 2,p2.cell 3,p2.cell 4,p2.cell 5,p2.cell 6⟩
 obtain⟨L,hL⟩:=jl (H1 i);obtain⟨v,hve,hO,_⟩:=hp2.heldAt i hi;have hl:=hp2.drew.heldAt' i hi;rw[hve]at hl;rw[<-hL]at hO;have hal2:=Below.drew ((Below.refl w2.heap.size w2).alloc jn (.cells #[.int .u32 (a:Int),.int .u32 (b:Int),.int .u32 (c:Int),.int .u32 (d:Int),.int .u32 (e:Int),.int .u32 (f:Int),.int .u32 (g:Int)] 26));have hl2:=(hp2.later hal2).heldAt' i hi;rw[hve]at hl2;have hll:L.length<=30000:=by rw[hL];exact hl1
 obtain⟨n,hn⟩:=jl L.length;rw[<-hn]at hll;have hO2: (w2.alloc (.cells #[.int .u32 (a:Int),.int .u32 (b:Int),.int .u32 (c:Int),.int .u32 (d:Int),.int .u32 (e:Int),.int .u32 (f:Int),.int .u32 (g:Int)] 26)).drew.ownsRow 0 26 7 v n (flatW L):=by rw[hn];exact own_later hO hal2
 have hnews:∀j u,([.int .u32 (a:Int),.int .u32 (b:Int),.int .u32 (c:Int),.int .u32 (d:Int),.int .u32 (e:Int),.int .u32 (f:Int),.int .u32 (g:Int)]:List Value)[j]? =some u->(w2.alloc (.cells #[.int .u32 (a:Int),.int .u32 (b:Int),.int .u32 (c:Int),.int .u32 (d:Int),.int .u32 (e:Int),.int .u32 (f:Int),.int .u32 (g:Int)] 26)).drew.cell? ((⟨w2.heap.size,0,none⟩:Addr).add j)=some u:=World.news_of_block (heap_alloc_new w2 _)
 have hone:∀u∈([.int .u32 (a:Int),.int .u32 (b:Int),.int .u32 (c:Int),.int .u32 (d:Int),.int .u32 (e:Int),.int .u32 (f:Int),.int .u32 (g:Int)]:List Value),u.oneCell'=true:=λu hu=>by
  simp only[List.mem_cons,List.not_mem_nil,or_false]at hu;rcases hu with rfl|rfl|rfl|rfl|rfl|rfl|rfl <;> rfl
 have hvA:∀k,v.ownBlock=some k->allQ A Qs2 hv2 k:=λk hk=>by
  cases hc:hv2 i with
  |none=>rw[hc]at hve;rw[<-hve]at hk;cases hk
  |some u=>
   rw[hc]at hve;exact .inr (.inr ⟨i,u,hi,hc,by rw[show u=v from hve];exact hk⟩)
 have hvp:some A.p≠v.ownBlock:=λe=>own_ne_blk hO hp2.pool (by decide) e.symm
 have hvb:some w.heap.size≠v.ownBlock:=λe=>by
  rcases hq2 _ (hvA _ e.symm)with h3|h3
  ·exact absurd (H.out.lt _ h3) (Nat.lt_irrefl _)
  ·exact absurd h3 (by simp)
 have hvh:some A.hm≠v.ownBlock:=λe=>by
  cases hc:hv2 i with
  |none=>rw[hc]at hve;rw[<-hve]at e;cases e
  |some u=>
   rw[hc]at hve;exact(hp2.outside i u A.hm hi hc (by rw[show u=v from hve];exact e.symm)).2 (.inr (.inr rfl))
 obtain⟨_,hmh,_,_⟩:=hp2.held;have hhl:=hmh.lt;have hpl:=hp2.pool.lt;have hbl:=hbx2.lt;have hS0:=hS w2.drew rfl rfl;have hS1:=hS (w2.alloc (.cells #[.int .u32 (a:Int),.int .u32 (b:Int),.int .u32 (c:Int),.int .u32 (d:Int),.int .u32 (e:Int),.int .u32 (f:Int),.int .u32 (g:Int)] 26)).drew (hal2.block _ hpl) (hal2.block _ hbl);have HS:=jq hS;have HP2:=jq hp2;have HQ2:=jq hq2;have HU2:=jq hu2;have HO2:=jq hO2;have HN:=jq hnews;have HONE:=jq hone;have HVP:=jq hvp;have HVB:=jq hvb;have HVH:=jq hvh;have HVA:=jq hvA;have HVE:=jq hve;have HA2:=jq hal2;have HLN:=jq hn;have HLL:=jq hL;have HOV:=jq hO
 have hphm:A.p∉[A.hm]:=by
  have:=map_ne_blk hmh hp2.pool
  simpa using this.symm
 have hbhm:w.heap.size∉[A.hm]:=by
  have:A.hm<w.heap.size:=H.out.lt _ (.inr (.inl (.inr (.inr rfl))))
  simp
  omega
 have HPH:=jq hphm;have HBH:=jq hbhm;clear hbx hbx2 hS hp2 hq2 hu2 hO2 hnews hone hvp hvb hvh hvA hve hal2 hn hL hO hphm hbhm hmh
 go_region_held3 (λw'=>w'.cell? ⟨A.p,4,none⟩=some (.map (some A.hm))/\w'.cell? ⟨w.heap.size,0,none⟩=some (.int .u32 (a:Int))/\w'.cell? ⟨w.heap.size,1,none⟩=some (.int .u32 (b:Int))/\w'.cell? ⟨w.heap.size,2,none⟩=some (.int .u32 (c:Int))/\w'.cell? ⟨w.heap.size,3,none⟩=some (.int .u32 (d:Int))/\w'.cell? ⟨w.heap.size,4,none⟩=some (.int .u32 (e:Int))/\w'.cell? ⟨w.heap.size,5,none⟩=some (.int .u32 (f:Int))/\w'.cell? ⟨w.heap.size,6,none⟩=some (.int .u32 (g:Int))) (first|exact hS0|exact hS1|exact hS3|exact hS4) ((refine step_append_lies _ rfl (.tmp 27) (.tmp 29) 54 rfl 0 26 i0 (.agg #[.int .u32 0,.int .u32 0,.int .u32 0,.int .u32 0,.int .u32 0,.int .u32 0,.int .u32 0]) 7 28 Tryz.underlying54 hi0 hz0 hz1 hz2 rfl (by decide) v n (flatW L) (by simp[Act.eval]) HO2.out ⟨w2.heap.size,0,none⟩ 1 1 [.int .u32 (a:Int),.int .u32 (b:Int),.int .u32 (c:Int),.int .u32 (d:Int),.int .u32 (e:Int),.int .u32 (f:Int),.int .u32 (g:Int)] (by simp[Act.eval]) rfl HN.out HONE.out (by decide) (by unfold maxLen;omega) (by omega) (Nat.zero_le _) _ rfl ?_;intro g3 cap3 w3 hown3 hgrow3 hat3 hlt3;have hz3:=hgrow3.size;have hS3:=HS.out w3 ((hgrow3.block A.p (Nat.lt_of_lt_of_le hpl HA2.out.size) HVP.out).trans (HA2.out.block _ hpl)) ((hgrow3.block _ (Nat.lt_of_lt_of_le hbl HA2.out.size) HVB.out).trans (HA2.out.block _ hbl));obtain⟨w4,f4,hrun4,hm4,hs4,hf4,hfo4,ho4,hz4⟩:=HP2.out.hold (w1:=w3) ((hgrow3.block A.hm (Nat.lt_of_lt_of_le hhl HA2.out.size) HVH.out).trans (HA2.out.block _ hhl)) i hi (.slice (some ⟨g3,0,none⟩) (n+1) cap3);have hl3:w2.heap.size<w3.heap.size:=(by have:=HA2.out.size;simp at hz3;omega);have hS4:=HS.out w4 ((ho4.block A.p (Nat.lt_trans hpl hl3) HPH.out).trans ((hgrow3.block A.p (Nat.lt_of_lt_of_le hpl HA2.out.size) HVP.out).trans (HA2.out.block _ hpl))) ((ho4.block _ (Nat.lt_trans hbl hl3) HBH.out).trans ((hgrow3.block _ (Nat.lt_of_lt_of_le hbl HA2.out.size) HVB.out).trans (HA2.out.block _ hbl)))))
 all_goals
  obtain⟨M,hM⟩:=jl (many (H1) A.n);have hM1:M<=1000000:=by rw[hM];exact HMY.out
  have hW2:=HA2.out.size;have e3:=(hgrow3.block A.p (Nat.lt_of_lt_of_le hpl hW2) HVP.out).trans (HA2.out.block _ hpl);have hb4:Blk w4 A.p _ _:=((ho4.block A.p (Nat.lt_trans hpl hl3) HPH.out).trans e3).trans HP2.out.pool;rw[<-hM]at hb4;have k5:=hb4.cell 5;have f5:=hb4.frozen 5
  simp at k5
  have hb5:=hb4.set 5 (.int .i64 ((M:Int)+1));have hsub:IntKind.i64.wrap ((M:Int)+1)=(M:Int)+1:=IntWalk.i64_in _ (by omega)
  have hg3:g3≠A.hm:=λe=>by
   rcases hat3 with e1|e1
   ·rw[e]at e1;exact HVH.out e1.symm
   ·simp at hW2
    rw[e1]at e
    simp at e
    omega
  have hown4:=own_only hown3 ho4 (λq hq=>by
   have:g3=q:=by simpa[Value.ownBlock]using hq
   rw[<-this]
   simpa using hg3)
  have hown5:=own_past hown4 hb4 (by decide) 5 (.int .i64 ((M:Int)+1))
  have hvi:∀k,v.ownBlock=some k->∃v0,hv2 i=some v0/\v0.ownBlock=some k:=λk hk=>by
   have hve:=HVE.out
   cases hc:hv2 i with
   |none=>rw[hc]at hve;rw[<-hve]at hk;cases hk
   |some u=>
    rw[hc]at hve;exact⟨u,rfl,by rw[show u=v from hve];exact hk⟩
  have ho5:Only (A.p ::A.hm ::v.ownBlock.toList) w2 (w4.setCell ⟨A.p,5,none⟩ (.int .i64 ((M:Int)+1))):=
   (((Only.of_below HA2.out).trans (Only.of_grown hgrow3 (λq hq=>.inl (by rw[hq];simp)))).trans (ho4.mono (by simp))).set (.inl (by simp)) _
  have hub:∀u k,some (Value.slice (some ⟨g3,0,none⟩) (n+1) cap3)=some u->u.ownBlock=some k->(∃v0,hv2 i=some v0/\v0.ownBlock=some k)\/w2.heap.size<=k:=λu k hu hk=>by
   injection hu with hu;rw[<-hu]at hk;have:g3=k:=by simpa[Value.ownBlock]using hk
   subst this;rcases hat3 with e1|e1
   ·exact .inl (hvi _ e1)
   ·exact .inr (by rw[e1];exact hW2)
  have hmu:=many_upd (H1) i (L++ [[a,b,c,d,e,f,g]]) A.n hi;rw[<-hM,<-HLL.out,jL]at hmu
  simp at hmu
  have hfl:flatW (L++ [[a,b,c,d,e,f,g]])=flatW L++ [.int .u32 (a:Int),.int .u32 (b:Int),.int .u32 (c:Int),.int .u32 (d:Int),.int .u32 (e:Int),.int .u32 (f:Int),.int .u32 (g:Int)]:=by rw[flatW_append];rfl
  have hfin:=HP2.out.holding hi ho5 (λk hk=>by
   rcases List.mem_cons.1 hk with e1|hk
   ·exact .inl e1
   ·rcases List.mem_cons.1 hk with e1|hk
    ·exact .inr (.inl e1)
    ·exact .inr (.inr (.inl (hvi k (by simpa using hk))))) (L++ [[a,b,c,d,e,f,g]]) (by
    have e1: ((many (upd (H1) i (L++ [[a,b,c,d,e,f,g]])) A.n:Nat):Int)=(M:Int)+1:=by omega
    rw[e1]
    simpa using hb5) (hm4.keep (Below.heap_setCell _ _ _ _ (map_ne_blk hm4 hb4))) hs4 (some (Value.slice (some ⟨g3,0,none⟩) (n+1) cap3)) (by
    show _=_/\_;rw[hfl];have e1: (L++ [[a,b,c,d,e,f,g]]).length=n+1:=by rw[jL,<-HLN.out];rfl
    rw[e1];exact hown5) hf4 hfo4 hub (λy hy=>by
    rcases List.mem_append.1 hy with hy|hy
    ·rw[HLL.out]at hy;exact HP2.out.okH i hi y hy
    ·rw[jE.1 hy];exact HOKX.out)
  have hall:=allQ_holding (A:=A) (Qs:=Qs2) hub hi;rw[HLL.out]at hfin;have hz1':=HAL.out.size;have hz2':=HU2.out.size
  have hwent:Went A ct' (allQ A Qs hv) w (w4.setCell ⟨A.p,5,none⟩ (.int .i64 ((M:Int)+1))) (S1) (upd (H1) i (H1 i++ [[a,b,c,d,e,f,g]])) (λ_=>False):=by
   refine⟨_,_,hfin,λk hk=>?_,λk h=>h.elim,?_⟩
   ·rcases hall k hk with h3|h3
    ·rcases HQ2.out k h3 with h4|h4
     ·exact .inl h4
     ·exact .inr (by omega)
    ·exact .inr (by omega)
   ·refine((Upon.of_below (P:=allQ A Qs hv) HAL.out).trans HU2.out (λk hk=>.inl hk)).trans (Q:=allQ A Qs2 hv2) (Upon.of_only ho5 (λk hk=>?_)) (λk hk=>?_)
    ·rcases List.mem_cons.1 hk with e1|hk
     ·exact .inl (.inr (.inl (.inl e1)))
     ·rcases List.mem_cons.1 hk with e1|hk
      ·exact .inl (.inr (.inl (.inr (.inr e1))))
      ·exact .inl (HVA.out k (by simpa using hk))
    ·rcases HQ2.out k hk with h4|h4
     ·exact .inl h4
     ·exact .inr (by omega)
  have HW:=jq hwent;clear hwent hall hfin hfl hmu hub ho5 hvi hown5 hown4 hg3 hb5 hM hM1 hb4 e3 hown3 hgrow3 hat3 hlt3 hm4 hs4 hf4 hfo4 ho4 hz4 hrun4 hS3 hS4 hS0 hS1 hl hl2 hz3
  go_wp2_with fail
  go_ret
  exact⟨rfl,HW.out⟩
theorem put_any {A:Pa} {ct:Nat} {w:World} {Qs:Nat->Prop} {hv:Nat->Option Value} {S Hd:Rows} (h:Pl A ct w Qs hv S Hd) (hct:ct<90000) (i:Nat) (hi:i<A.n) (x:List Nat) (hx:ok x) (hroom:1<=A.room) (hlen:∀j,j<A.n->(S j).length+(Hd j).length<=30000) (hmany:many Hd A.n<=1000000):
  Calls Tryz.prog 15 #[.pointer (some ⟨A.p,0,none⟩),.int .i64 (i:Int),.agg (vals x).toArray] w λe w'=>e=.returned (.int .i64 0)/\Went A (ct+1) (allQ A Qs hv) w w' (madeS A S Hd) (upd (madeH A Hd) i (madeH A Hd i++ [x])) (λ_=>False):=
 put_gen h i hi x hx (λW hW=>makes_any (h.later hW) hct hroom hlen hmany) (by have:=made_len A S Hd i;have:=hlen i hi;omega) (Nat.le_trans (made_many A Hd).1 hmany)
end Pool
namespace Pool
open Go.RowKit Go.Deep Mem Crc Walk
open Store (Sto Files setF setF_same setF_other nv)
theorem read_nil_any {A:Pa} {ct:Nat} {w:World} {Qs:Nat->Prop} {hv:Nat->Option Value} {S Hd:Rows} (h:Pl A ct w Qs hv S Hd) (i:Nat) (hi:i<A.n) (he:S i= []):
  Calls Tryz.prog 23 #[.pointer (some ⟨A.p,0,none⟩),.int .i64 (i:Int)] w λe w'=>∃v,e=.returned (.tuple #[v,.int .i64 0])/\OwnW w' w.heap.size v (S i)/\Below w.heap.size w w':=by
 refine(read_none h i hi he).mono ?_;rintro e w' ⟨rfl,hB⟩;refine⟨_,rfl,?_,hB⟩;rw[he];exact World.ownsRow_nil _ _ _ _
theorem take_none {A:Pa} {ct:Nat} {w:World} {Qs:Nat->Prop} {hv:Nat->Option Value} {S Hd:Rows} (h:Pl A ct w Qs hv S Hd) (i:Nat) (hi:i<A.n) (most:Nat) (hm1:1<=most) (hm2:most<=9223372036854775807) (hlen: (S i).length+(Hd i).length<=30000) (hmany:many Hd A.n<=1000000) (ccond: (S i).length=0):
  Calls Tryz.prog 16 #[.pointer (some ⟨A.p,0,none⟩),.int .i64 (i:Int),.int .i64 (most:Int)] w λe w'=>∃v,e=.returned (.tuple #[v,.int .i64 0])/\OwnW w' w.heap.size v ((S i++Hd i).take most)/\Went A ct (allQ A Qs hv) w w' (upd S i ((S i).drop most)) (upd Hd i ((Hd i).drop (most-(S i).length))) (λk=>v.ownBlock=some k):=by
 have HT:=jq (there_in h i hi);have HR:=jq (read_nil_any h i hi (List.eq_nil_of_length_eq_zero ccond));have H:=jq h
 have hmz: ((most:Int)==0)=false:=by
  have:¬(most:Int)=0:=by omega
  simpa using this
 have hmn:decide ((most:Int) <0)=false:=by
  simp
 have HMY:=jq hmany;obtain⟨N,hN⟩:=jl ((S i).length);obtain⟨hn,hnn⟩:=jl ((Hd i).length);obtain⟨n,hne⟩:=jl (min most N);obtain⟨m,hme⟩:=jl (min (most-n) hn);have hmin1:min (most:Int) (N:Int)=(n:Int):=by omega
 have hmin2:min ((most:Int)-(n:Int)) (hn:Int)=(m:Int):=by omega
 have hnN:n<=N:=by omega
 have hnM:n<=most:=by omega
 have hmH:m<=hn:=by omega
 have hsub1:IntKind.i64.wrap ((most:Int)-(n:Int))=(most:Int)-n:=IntWalk.i64_in _ (by omega)
 obtain⟨va,vc,hgv,hlv⟩:∃va vc,(hv i).getD (.slice none 0 0)=.slice va hn vc/\hn<=vc:=by
  obtain⟨v,hve,hO,_⟩:=h.heldAt i hi;obtain⟨a,c,e,hc,_⟩:=own_shape hO;exact⟨a,c,by rw[hve,e,hnn],by rw[hnn];exact hc⟩
 rw[<-hN]at hlen ccond;rw[<-hnn]at hlen;have hn0:n=0:=by omega
 obtain rfl:n=0:=by omega
 replace hmin1:min (most:Int) (N:Int)=0:=by omega
 replace hmin2:min (most:Int) (hn:Int)=(m:Int):=by omega
 clear hn0 hsub1
 have HVL:Hid (∀(W:World) (Q:Nat->Prop) (S3:Rows),Pl A ct W Q hv S3 Hd->Lies W va (flatW (Hd i))):=jq (λW Q S3 hp=>by
  obtain⟨v,hve,hO,_⟩:=hp.heldAt i hi;obtain⟨a,c,e,_,hL,_,_⟩:=own_shape hO;rw[hgv,e]at hve;injection hve with e1;rw[e1];exact hL)
 have HGV:=jq hgv;have HNN:=jq hnn;have HN:=jq hN;have HNE:=jq hne;have HME:=jq hme;clear h hmany hgv hnn hN hne hme ccond
 go_enter Tryz.func16,Tryz.ntmps16
 go_wp2_with fail
 refine HT.out.mono ?_;rintro e1 w1 ⟨rfl,rfl⟩
 go_wp2_with fail
 refine HR.out.mono ?_;rintro e2 w2 ⟨v2,rfl,hO2,hB2⟩;obtain⟨oa,oc,rfl,hoc,hL2,hob2,_⟩:=own_shape hO2;rw[<-HN.out]at hoc⊢;have HL2:=jq hL2;have HB2:=jq hB2;have HOB2:=jq hob2;have H2:=jq (H.out.later hB2);have HO2:=jq hO2;clear hL2 hB2 hob2 hO2;obtain⟨a2,hslo,hslL⟩:=slice_low oa N oc 0 hnN hoc;have HSLL:=jq hslL;obtain⟨a3,hslh,hslM⟩:=slice_low va hn vc m hmH hlv;have HSLM:=jq hslM;clear hslL hslM
 have HSE:Hid (upd S i ((S i).drop most)=S):=jq (by
  have:S i= []:=List.eq_nil_of_length_eq_zero (by have:=HN.out;have:=HNE.out;omega);rw[this]
  conv=>rhs;rw[<-upd_id S i,this]
  simp)
 have HL3:=HL2;have HQ3:Hid (∀k,Qs k->Qs k\/w2.heap.size<=k):=jq (λk hk=>.inl hk);have HB3:Hid (Upon (Wr A Qs) w2 w2):=jq (Upon.refl _ _);have H3:=H2;obtain⟨Q3,hQ3e⟩:=jl Qs;obtain⟨w3,hw3⟩:=jl w2;obtain⟨S3,hS3⟩:=jl S;have HSE3:Hid (upd S i ((S i).drop most)=S3):=jq (by rw[hS3];exact HSE.out);have HQ4:Hid (∀k,Q3 k->Qs k\/w2.heap.size<=k):=jq (by rw[hQ3e];exact HQ3.out);have HB4:Hid (Upon (Wr A Qs) w2 w3):=jq (by rw[hw3];exact HB3.out);have HP3:Hid (Pl A ct w3 Q3 hv S3 Hd):=jq (by rw[hw3,hQ3e,hS3];exact H3.out);have HL4:Hid (Lies w3 oa (flatW (S i))):=jq (by rw[hw3];exact HL3.out);rw[<-hw3];clear hw3 hQ3e hS3 H3 HB3 HQ3 HL3 HSE;obtain⟨n,hnz⟩:=jl 0;have hl3:=HP3.out.heldAt' i hi;rw[HGV.out]at hl3;have k4:=HP3.out.pool.cell 4
 simp at k4
 go_wp2_with fail
 have htl: ((S i).take 0).length=0:=by rw[jT,<-HN.out];omega
 have hC1:=clone_walkers oa oc ((S i).take 0) w3.drew (by have:=HL4.out.take (0*7);rw[flatW_take _ _ (H.out.okS i hi)]at this;exact this) (sub_ok (H.out.okS i hi) 0).1 (by rw[htl];omega);rw[htl]at hC1;have HC1:=jq hC1;have HTL:=jq htl;have hsh1:=λW=>slice_high oa N oc 0 (by omega) W
 have hsh2:=λW=>slice_high va hn vc m (by omega) W
 have hmlen: (flatW ((Hd i).take m)).length=m*7:=by rw[flatW_length _ (sub_ok (H.out.okH i hi) m).1,jT,<-HNN.out,Nat.min_eq_left hmH]
 have HML:=jq hmlen;have H1m:=jq (oneCell_flatW ((Hd i).take m));have hpl:=HP3.out.pool.lt;have hl3d:=HP3.out.drew.heldAt' i hi;rw[HGV.out]at hl3d;have hk3:w3.drew.cell? ⟨A.p,4,none⟩=some (.map (some A.hm)):=k4;have hcap:30000<=1000000:=by decide
 clear hC1 htl hmlen hmin1 hmin2 hl3 k4
 go_region_held3 (λw'=>w'.cell? ⟨A.p,4,none⟩=some (.map (some A.hm))) (first|exact hk3|exact hk4|exact hk5) ((first|(go_at_call 44;refine HC1.out.mono ?_;rintro e4 w4 ⟨v4,rfl,hO4,hB4⟩;have hB34:Below w3.heap.size w3 w4:=((Below.refl _ w3).drew).trans hB4;have hk4:=(hB34.cell (p:=⟨A.p,4,none⟩) hpl).trans hk3;have hl4:=(HP3.out.later hB34).heldAt' i hi;rw[HGV.out]at hl4;dsimp only)|(refine step_append_any rfl (.tmp 62) (.tmp 70) rfl w3.heap.size v4 0 (flatW ((S i).take 0)) (by simp[Act.eval]) (by have:=HTL.out;rw[OwnW,this]at hO4;exact hO4) va m vc (flatW ((Hd i).take m)) (by simp[Act.eval]) HML.out (by have:=(HVL.out w4 _ _ (HP3.out.later hB34)).take (m*7);rw[flatW_take _ _ (H.out.okH i hi)]at this;exact this) H1m.out (by omega) hB34.size ?_;intro v5 w5 hown5 hg5 hb5;have hB35:Below w3.heap.size w3 w5:=hB34.grown hg5 hB34.size (λq hq=>(World.ownsRow.lt hO4 q hq).1);have hk5:=(hB35.cell (p:=⟨A.p,4,none⟩) hpl).trans hk3)))
 all_goals
  have HOW5:=jq hown5;have HB35:=jq hB35;have HLV5:=jq (World.ownsRow.lt hown5);have hhd: ((Hd i).drop m).length=hn-m:=by rw[List.length_drop,<-HNN.out]
  have hP5:=HP3.out.later hB35;have hC2:=clone_walkers a3 (vc-m) ((Hd i).drop m) w5.drew (HSLM.out w5 (Hd i) (H.out.okH i hi) HNN.out.symm (HVL.out w5 _ _ hP5)) (sub_ok (H.out.okH i hi) m).2 (by rw[hhd];omega);rw[hhd]at hC2;have HC2:=jq hC2;have hl5:=hP5.drew.heldAt' i hi;rw[HGV.out]at hl5;have hk5d:w5.drew.cell? ⟨A.p,4,none⟩=some (.map (some A.hm)):=hk5;have hhm:A.hm<w3.heap.size:=HP3.out.lt _ (.inr (.inl (.inr (.inr rfl))))
  have hphm:A.p∉[A.hm]:=by
   obtain⟨_,hmh,_,_⟩:=HP3.out.held;have:=map_ne_blk hmh HP3.out.pool
   simpa using this.symm
  have HPH:=jq hphm;clear hC2 hhd hP5 hphm hown5 hg5 hb5 hB35 hB34 hO4 hB4 hk4 hk3 hl3d hsh1 hsh2 hslo
  go_wp2_with fail
  go_region_held3 (λw'=>w'.cell? ⟨A.p,4,none⟩=some (.map (some A.hm))) (first|exact hk5d|exact hk6|exact hk7) ((go_at_call 44;refine HC2.out.mono ?_;rintro e6 w6 ⟨v6,rfl,hO6,hB6⟩;have hB56:Below w5.heap.size w5 w6:=((Below.refl _ w5).drew).trans hB6;have hB36:=HB35.out.trans (hB56.mono HB35.out.size);have hk6:=(hB36.cell (p:=⟨A.p,4,none⟩) hpl).trans (HP3.out.pool.cell 4);obtain⟨w7,f7,hrun7,hm7,hs7,hf7,hfo7,ho7,hz7⟩:=HP3.out.hold (w1:=w6) (hB36.block _ hhm) i hi v6;have hb7:=(HP3.out.pool.below hB36 hpl).only ho7 HPH.out;have hk7:=hb7.cell 4;simp at hk7;simp at hk6;dsimp only))
  obtain⟨M,hM⟩:=jl (many Hd A.n);have hM1:M<=1000000:=by rw[hM];exact HMY.out
  have hmM:m<=M:=by
   have:=len_le_many Hd i A.n hi;rw[<-hM,<-HNN.out]at this
   omega
  rw[<-hM]at hb7;have k5:=hb7.cell 5;have f5:=hb7.frozen 5
  simp at k5
  have hsub:IntKind.i64.wrap ((M:Int)-(m:Int))=(M:Int)-m:=IntWalk.i64_in _ (by omega);have hb8:=hb7.set 5 (.int .i64 ((M:Int)-m));have hz5:=HB35.out.size;have hz56:=hB56.size
  have hnot7:∀(u:Value) (q:Nat),w3.heap.size<=q->q∉[A.hm]:=λu q hq hmm=>by
   rw[jE.1 hmm]at hq
   omega
  have hown7:=own_only hO6 ho7 (λq hq=>hnot7 v6 q (by have:=(World.ownsRow.lt hO6 q hq).1;simp at this;omega));have hown8:=own_past hown7 hb7 (by decide) 5 (.int .i64 ((M:Int)-m));have hres6:=own_later HOW5.out hB56;have hres7:=own_only hres6 ho7 (λq hq=>hnot7 v5 q (HLV5.out q hq).1);have hres8:=own_past hres7 hb7 (by decide) 5 (.int .i64 ((M:Int)-m));have ho8:Only [A.p,A.hm] w3 (w7.setCell ⟨A.p,5,none⟩ (.int .i64 ((M:Int)-m))):=((Only.of_below hB36).trans (ho7.mono (by simp))).set (.inl (by simp)) _
  have hub:∀u k,some v6=some u->u.ownBlock=some k->(∃v0,hv i=some v0/\v0.ownBlock=some k)\/w3.heap.size<=k:=λu k hu hk=>by
   injection hu with hu;rw[<-hu]at hk;have:=(World.ownsRow.lt hO6 k hk).1
   simp at this
   exact .inr (by omega)
  have hmu:=many_upd Hd i ((Hd i).drop m) A.n hi;rw[<-hM,List.length_drop,<-HNN.out]at hmu
  have hdm: (Hd i).drop m=(Hd i).drop (most-(S i).length):=by
   have h1:=HME.out;have h2:=HNE.out;have h3:=HN.out
   by_cases hc:most-(S i).length<=(Hd i).length
   ·congr 1
    have:=HNN.out
    omega
   ·have:=HNN.out;rw[List.drop_of_length_le (by omega),List.drop_of_length_le (by omega)]
  have hlist: (S i).take 0++(Hd i).take m=(S i++Hd i).take most:=by
   rw[take_two,<-HN.out,<-HNN.out,<-HNE.out,<-HME.out]
  have hfin:=HP3.out.holding hi ho8 (λk hk=>by
   simp only[List.mem_cons,List.not_mem_nil,or_false]at hk;rcases hk with e1|e1
   ·exact .inl e1
   ·exact .inr (.inl e1)) ((Hd i).drop m) (by
    have e1: ((many (upd Hd i ((Hd i).drop m)) A.n:Nat):Int)=(M:Int)-m:=by omega
    rw[e1]
    simpa using hb8) (hm7.keep (Below.heap_setCell _ _ _ _ (map_ne_blk hm7 hb7))) hs7 (some v6) (own_mono hown8 (Nat.zero_le _)) hf7 hfo7 hub (sub_ok (H.out.okH i hi) m).2
  have hall:=allQ_holding (A:=A) (Qs:=Q3) hub hi;have hw2:=HB2.out.size;have hw3:=HB4.out.size
  have hQall:∀k,allQ A Q3 hv k->allQ A Qs hv k\/w1.heap.size<=k:=λk hk=>by
   rcases hk with hk|hk|hk
   ·rcases HQ4.out k hk with h1|h1
    ·exact .inl (.inl h1)
    ·exact .inr (by omega)
   ·exact .inl (.inr (.inl hk))
   ·exact .inl (.inr (.inr hk))
  have hwent:Went A ct (allQ A Qs hv) w1 (w7.setCell ⟨A.p,5,none⟩ (.int .i64 ((M:Int)-m))) (upd S i ((S i).drop most)) (upd Hd i ((Hd i).drop (most-(S i).length))) (λk=>v5.ownBlock=some k):=by
   rw[hdm,<-HSE3.out]at hfin;refine⟨_,_,hfin,λk hk=>?_,λk hk hq=>?_,?_⟩
   ·rcases hall k hk with h3|h3
    ·exact hQall k h3
    ·exact .inr (by omega)
   ·have hlt5:=HLV5.out k hk;rcases hq with hq|hq|⟨j,u,hj,hu,hq⟩
    ·have:=HP3.out.lt k (.inl hq)
     omega
    ·have:=HP3.out.lt k (.inr (.inl hq))
     omega
    ·by_cases e:j=i
     ·subst e;rw[updv_same]at hu;injection hu with hu;rw[<-hu]at hq;have:=(World.ownsRow.lt hO6 k hq).1
      simp at this
      omega
     ·rw[updv_other _ e]at hu;have:=HP3.out.lt k (.inr (.inr ⟨j,u,hj,hu,hq⟩))
      omega
   ·refine((Upon.of_below (P:=allQ A Qs hv) HB2.out).trans (Q:=allQ A Qs hv) (HB4.out.mono (λk hk=>hk.elim .inl (λe=>.inr (.inl (.inr (.inl e)))))) (λk hk=>.inl hk)).trans (Q:=allQ A Qs hv) (Upon.of_only ho8 (λk hk=>?_)) (λk hk=>.inl hk)
    ·simp only[List.mem_cons,List.not_mem_nil,or_false]at hk;rcases hk with rfl|rfl
     ·exact .inl (.inr (.inl (.inl rfl)))
     ·exact .inl (.inr (.inl (.inr (.inr rfl))))
  have hres:OwnW (w7.setCell ⟨A.p,5,none⟩ (.int .i64 ((M:Int)-m))) w1.heap.size v5 ((S i++Hd i).take most):=by
   rw[<-flatW_append,hlist]at hres8;have e1:0+m=((S i++Hd i).take most).length:=by rw[<-hlist,jL,HTL.out,jT,<-HNN.out,Nat.min_eq_left hmH]
   show _=_/\_;rw[<-e1];exact own_mono hres8 (by omega)
  have HW:=jq hwent;have HRS:=jq hres;clear hwent hres hQall hall hfin hlist hdm hmu hub ho8 hres8 hres7 hres6 hown8 hown7 hnot7 hb8 hM hM1 hO6 hB6 hB56 hB36 hm7 hs7 hf7 hfo7 ho7 hz7 hb7 hrun7 hk7 hk6 hk5d hk5 hl5
  go_wp2_with fail
  go_ret2
  exact⟨_,rfl,HRS.out,HW.out⟩
theorem take_some {A:Pa} {ct:Nat} {w:World} {Qs:Nat->Prop} {hv:Nat->Option Value} {S Hd:Rows} (h:Pl A ct w Qs hv S Hd) (hct:ct<90000) (i:Nat) (hi:i<A.n) (most:Nat) (hm1:1<=most) (hm2:most<=9223372036854775807) (hlen: (S i).length+(Hd i).length<=30000) (hmany:many Hd A.n<=1000000) (ccond:most<(S i).length):
  Calls Tryz.prog 16 #[.pointer (some ⟨A.p,0,none⟩),.int .i64 (i:Int),.int .i64 (most:Int)] w λe w'=>∃v,e=.returned (.tuple #[v,.int .i64 0])/\OwnW w' w.heap.size v ((S i++Hd i).take most)/\Went A (ct+1) (allQ A Qs hv) w w' (upd S i ((S i).drop most)) (upd Hd i ((Hd i).drop (most-(S i).length))) (λk=>v.ownBlock=some k):=by
 have HT:=jq (there_in h i hi);have HR:=jq (read_any h i hi (by omega));have H:=jq h
 have hmz: ((most:Int)==0)=false:=by
  have:¬(most:Int)=0:=by omega
  simpa using this
 have hmn:decide ((most:Int) <0)=false:=by
  simp
 have HMY:=jq hmany;obtain⟨N,hN⟩:=jl ((S i).length);obtain⟨hn,hnn⟩:=jl ((Hd i).length);obtain⟨n,hne⟩:=jl (min most N);obtain⟨m,hme⟩:=jl (min (most-n) hn);have hmin1:min (most:Int) (N:Int)=(n:Int):=by omega
 have hmin2:min ((most:Int)-(n:Int)) (hn:Int)=(m:Int):=by omega
 have hnN:n<=N:=by omega
 have hnM:n<=most:=by omega
 have hmH:m<=hn:=by omega
 have hsub1:IntKind.i64.wrap ((most:Int)-(n:Int))=(most:Int)-n:=IntWalk.i64_in _ (by omega)
 obtain⟨va,vc,hgv,hlv⟩:∃va vc,(hv i).getD (.slice none 0 0)=.slice va hn vc/\hn<=vc:=by
  obtain⟨v,hve,hO,_⟩:=h.heldAt i hi;obtain⟨a,c,e,hc,_⟩:=own_shape hO;exact⟨a,c,by rw[hve,e,hnn],by rw[hnn];exact hc⟩
 rw[<-hN]at hlen ccond;rw[<-hnn]at hlen;have hn0:0<n/\n<N:=by omega
 have hdec:decide (0<n)=true:=by simpa using hn0.1
 have hnlt:n<N:=hn0.2;clear hn0
 have HVL:Hid (∀(W:World) (Q:Nat->Prop) (S3:Rows),Pl A (ct+1) W Q hv S3 Hd->Lies W va (flatW (Hd i))):=jq (λW Q S3 hp=>by
  obtain⟨v,hve,hO,_⟩:=hp.heldAt i hi;obtain⟨a,c,e,_,hL,_,_⟩:=own_shape hO;rw[hgv,e]at hve;injection hve with e1;rw[e1];exact hL)
 have HGV:=jq hgv;have HNN:=jq hnn;have HN:=jq hN;have HNE:=jq hne;have HME:=jq hme;clear h hmany hgv hnn hN hne hme ccond
 go_enter Tryz.func16,Tryz.ntmps16
 go_wp2_with fail
 refine HT.out.mono ?_;rintro e1 w1 ⟨rfl,rfl⟩
 go_wp2_with fail
 refine HR.out.mono ?_;rintro e2 w2 ⟨v2,rfl,hO2,hB2⟩;obtain⟨oa,oc,rfl,hoc,hL2,hob2,_⟩:=own_shape hO2;rw[<-HN.out]at hoc⊢;have HL2:=jq hL2;have HB2:=jq hB2;have HOB2:=jq hob2;have H2:=jq (H.out.later hB2);have HO2:=jq hO2;clear hL2 hB2 hob2 hO2;obtain⟨a2,hslo,hslL⟩:=slice_low oa N oc n hnN hoc;have HSLL:=jq hslL;obtain⟨a3,hslh,hslM⟩:=slice_low va hn vc m hmH hlv;have HSLM:=jq hslM;clear hslL hslM
 go_wp2_with fail
 have hw:=write_some H2.out hct i hi a2 (oc-n) ((S i).drop n) (HSLL.out w2 (S i) (H.out.okS i hi) HN.out.symm HL2.out) (λe=>by
  have:=congrArg List.length e;rw[List.length_drop,<-HN.out]at this
  simp at this
  omega) (sub_ok (H.out.okS i hi) n).2 (by rw[List.length_drop,<-HN.out];omega)
 have hdn: (S i).drop n=(S i).drop most:=by rw[HNE.out,HN.out];exact drop_min _ _
 rw[List.length_drop,<-HN.out,hdn]at hw;clear hdn;refine hw.mono ?_;rintro e3 w3 ⟨rfl,Q3,hp3,hQ3,ho3⟩;have HQ4:=jq hQ3;have HB4:=jq ho3;obtain⟨S3,hS3⟩:=jl (upd S i ((S i).drop most));have HSE3:Hid (upd S i ((S i).drop most)=S3):=jq hS3.symm;rw[<-hS3]at hp3;have HP3:=jq hp3
 have HL4:=jq (HL2.out.upon ho3 (λg hg hm=>by
  have h1:=(HOB2.out g hg).1;rcases hm with hm|rfl
  ·have:=H.out.lt _ (.inl hm)
   omega
  ·have:=H.out.lt A.sm (.inr (.inl (.inr (.inl rfl))))
   omega))
 clear hp3 hQ3 ho3 hS3;have hl3:=HP3.out.heldAt' i hi;rw[HGV.out]at hl3;have k4:=HP3.out.pool.cell 4
 simp at k4
 go_wp2_with fail
 have htl: ((S i).take n).length=n:=by rw[jT,<-HN.out];omega
 have hC1:=clone_walkers oa oc ((S i).take n) w3.drew (by have:=HL4.out.take (n*7);rw[flatW_take _ _ (H.out.okS i hi)]at this;exact this) (sub_ok (H.out.okS i hi) n).1 (by rw[htl];omega);rw[htl]at hC1;have HC1:=jq hC1;have HTL:=jq htl;have hsh1:=λW=>slice_high oa N oc n (by omega) W
 have hsh2:=λW=>slice_high va hn vc m (by omega) W
 have hmlen: (flatW ((Hd i).take m)).length=m*7:=by rw[flatW_length _ (sub_ok (H.out.okH i hi) m).1,jT,<-HNN.out,Nat.min_eq_left hmH]
 have HML:=jq hmlen;have H1m:=jq (oneCell_flatW ((Hd i).take m));have hpl:=HP3.out.pool.lt;have hl3d:=HP3.out.drew.heldAt' i hi;rw[HGV.out]at hl3d;have hk3:w3.drew.cell? ⟨A.p,4,none⟩=some (.map (some A.hm)):=k4;have hcap:30000<=1000000:=by decide
 clear hC1 htl hmlen hmin1 hmin2 hl3 k4
 go_region_held3 (λw'=>w'.cell? ⟨A.p,4,none⟩=some (.map (some A.hm))) (first|exact hk3|exact hk4|exact hk5) ((first|(go_at_call 44;refine HC1.out.mono ?_;rintro e4 w4 ⟨v4,rfl,hO4,hB4⟩;have hB34:Below w3.heap.size w3 w4:=((Below.refl _ w3).drew).trans hB4;have hk4:=(hB34.cell (p:=⟨A.p,4,none⟩) hpl).trans hk3;have hl4:=(HP3.out.later hB34).heldAt' i hi;rw[HGV.out]at hl4;dsimp only)|(refine step_append_any rfl (.tmp 62) (.tmp 70) rfl w3.heap.size v4 n (flatW ((S i).take n)) (by simp[Act.eval]) (by have:=HTL.out;rw[OwnW,this]at hO4;exact hO4) va m vc (flatW ((Hd i).take m)) (by simp[Act.eval]) HML.out (by have:=(HVL.out w4 _ _ (HP3.out.later hB34)).take (m*7);rw[flatW_take _ _ (H.out.okH i hi)]at this;exact this) H1m.out (by omega) hB34.size ?_;intro v5 w5 hown5 hg5 hb5;have hB35:Below w3.heap.size w3 w5:=hB34.grown hg5 hB34.size (λq hq=>(World.ownsRow.lt hO4 q hq).1);have hk5:=(hB35.cell (p:=⟨A.p,4,none⟩) hpl).trans hk3)))
 all_goals
  have HOW5:=jq hown5;have HB35:=jq hB35;have HLV5:=jq (World.ownsRow.lt hown5);have hhd: ((Hd i).drop m).length=hn-m:=by rw[List.length_drop,<-HNN.out]
  have hP5:=HP3.out.later hB35;have hC2:=clone_walkers a3 (vc-m) ((Hd i).drop m) w5.drew (HSLM.out w5 (Hd i) (H.out.okH i hi) HNN.out.symm (HVL.out w5 _ _ hP5)) (sub_ok (H.out.okH i hi) m).2 (by rw[hhd];omega);rw[hhd]at hC2;have HC2:=jq hC2;have hl5:=hP5.drew.heldAt' i hi;rw[HGV.out]at hl5;have hk5d:w5.drew.cell? ⟨A.p,4,none⟩=some (.map (some A.hm)):=hk5;have hhm:A.hm<w3.heap.size:=HP3.out.lt _ (.inr (.inl (.inr (.inr rfl))))
  have hphm:A.p∉[A.hm]:=by
   obtain⟨_,hmh,_,_⟩:=HP3.out.held;have:=map_ne_blk hmh HP3.out.pool
   simpa using this.symm
  have HPH:=jq hphm;clear hC2 hhd hP5 hphm hown5 hg5 hb5 hB35 hB34 hO4 hB4 hk4 hk3 hl3d hsh1 hsh2 hslo
  go_wp2_with fail
  go_region_held3 (λw'=>w'.cell? ⟨A.p,4,none⟩=some (.map (some A.hm))) (first|exact hk5d|exact hk6|exact hk7) ((go_at_call 44;refine HC2.out.mono ?_;rintro e6 w6 ⟨v6,rfl,hO6,hB6⟩;have hB56:Below w5.heap.size w5 w6:=((Below.refl _ w5).drew).trans hB6;have hB36:=HB35.out.trans (hB56.mono HB35.out.size);have hk6:=(hB36.cell (p:=⟨A.p,4,none⟩) hpl).trans (HP3.out.pool.cell 4);obtain⟨w7,f7,hrun7,hm7,hs7,hf7,hfo7,ho7,hz7⟩:=HP3.out.hold (w1:=w6) (hB36.block _ hhm) i hi v6;have hb7:=(HP3.out.pool.below hB36 hpl).only ho7 HPH.out;have hk7:=hb7.cell 4;simp at hk7;simp at hk6;dsimp only))
  obtain⟨M,hM⟩:=jl (many Hd A.n);have hM1:M<=1000000:=by rw[hM];exact HMY.out
  have hmM:m<=M:=by
   have:=len_le_many Hd i A.n hi;rw[<-hM,<-HNN.out]at this
   omega
  rw[<-hM]at hb7;have k5:=hb7.cell 5;have f5:=hb7.frozen 5
  simp at k5
  have hsub:IntKind.i64.wrap ((M:Int)-(m:Int))=(M:Int)-m:=IntWalk.i64_in _ (by omega);have hb8:=hb7.set 5 (.int .i64 ((M:Int)-m));have hz5:=HB35.out.size;have hz56:=hB56.size
  have hnot7:∀(u:Value) (q:Nat),w3.heap.size<=q->q∉[A.hm]:=λu q hq hmm=>by
   rw[jE.1 hmm]at hq
   omega
  have hown7:=own_only hO6 ho7 (λq hq=>hnot7 v6 q (by have:=(World.ownsRow.lt hO6 q hq).1;simp at this;omega));have hown8:=own_past hown7 hb7 (by decide) 5 (.int .i64 ((M:Int)-m));have hres6:=own_later HOW5.out hB56;have hres7:=own_only hres6 ho7 (λq hq=>hnot7 v5 q (HLV5.out q hq).1);have hres8:=own_past hres7 hb7 (by decide) 5 (.int .i64 ((M:Int)-m));have ho8:Only [A.p,A.hm] w3 (w7.setCell ⟨A.p,5,none⟩ (.int .i64 ((M:Int)-m))):=((Only.of_below hB36).trans (ho7.mono (by simp))).set (.inl (by simp)) _
  have hub:∀u k,some v6=some u->u.ownBlock=some k->(∃v0,hv i=some v0/\v0.ownBlock=some k)\/w3.heap.size<=k:=λu k hu hk=>by
   injection hu with hu;rw[<-hu]at hk;have:=(World.ownsRow.lt hO6 k hk).1
   simp at this
   exact .inr (by omega)
  have hmu:=many_upd Hd i ((Hd i).drop m) A.n hi;rw[<-hM,List.length_drop,<-HNN.out]at hmu
  have hdm: (Hd i).drop m=(Hd i).drop (most-(S i).length):=by
   have h1:=HME.out;have h2:=HNE.out;have h3:=HN.out
   by_cases hc:most-(S i).length<=(Hd i).length
   ·congr 1
    have:=HNN.out
    omega
   ·have:=HNN.out;rw[List.drop_of_length_le (by omega),List.drop_of_length_le (by omega)]
  have hlist: (S i).take n++(Hd i).take m=(S i++Hd i).take most:=by
   rw[take_two,<-HN.out,<-HNN.out,<-HNE.out,<-HME.out]
  have hfin:=HP3.out.holding hi ho8 (λk hk=>by
   simp only[List.mem_cons,List.not_mem_nil,or_false]at hk;rcases hk with e1|e1
   ·exact .inl e1
   ·exact .inr (.inl e1)) ((Hd i).drop m) (by
    have e1: ((many (upd Hd i ((Hd i).drop m)) A.n:Nat):Int)=(M:Int)-m:=by omega
    rw[e1]
    simpa using hb8) (hm7.keep (Below.heap_setCell _ _ _ _ (map_ne_blk hm7 hb7))) hs7 (some v6) (own_mono hown8 (Nat.zero_le _)) hf7 hfo7 hub (sub_ok (H.out.okH i hi) m).2
  have hall:=allQ_holding (A:=A) (Qs:=Q3) hub hi;have hw2:=HB2.out.size;have hw3:=HB4.out.size
  have hQall:∀k,allQ A Q3 hv k->allQ A Qs hv k\/w1.heap.size<=k:=λk hk=>by
   rcases hk with hk|hk|hk
   ·rcases HQ4.out k hk with h1|h1
    ·exact .inl (.inl h1)
    ·exact .inr (by omega)
   ·exact .inl (.inr (.inl hk))
   ·exact .inl (.inr (.inr hk))
  have hwent:Went A (ct+1) (allQ A Qs hv) w1 (w7.setCell ⟨A.p,5,none⟩ (.int .i64 ((M:Int)-m))) (upd S i ((S i).drop most)) (upd Hd i ((Hd i).drop (most-(S i).length))) (λk=>v5.ownBlock=some k):=by
   rw[hdm,<-HSE3.out]at hfin;refine⟨_,_,hfin,λk hk=>?_,λk hk hq=>?_,?_⟩
   ·rcases hall k hk with h3|h3
    ·exact hQall k h3
    ·exact .inr (by omega)
   ·have hlt5:=HLV5.out k hk;rcases hq with hq|hq|⟨j,u,hj,hu,hq⟩
    ·have:=HP3.out.lt k (.inl hq)
     omega
    ·have:=HP3.out.lt k (.inr (.inl hq))
     omega
    ·by_cases e:j=i
     ·subst e;rw[updv_same]at hu;injection hu with hu;rw[<-hu]at hq;have:=(World.ownsRow.lt hO6 k hq).1
      simp at this
      omega
     ·rw[updv_other _ e]at hu;have:=HP3.out.lt k (.inr (.inr ⟨j,u,hj,hu,hq⟩))
      omega
   ·refine((Upon.of_below (P:=allQ A Qs hv) HB2.out).trans (Q:=allQ A Qs hv) (HB4.out.mono (λk hk=>hk.elim .inl (λe=>.inr (.inl (.inr (.inl e)))))) (λk hk=>.inl hk)).trans (Q:=allQ A Qs hv) (Upon.of_only ho8 (λk hk=>?_)) (λk hk=>.inl hk)
    ·simp only[List.mem_cons,List.not_mem_nil,or_false]at hk;rcases hk with rfl|rfl
     ·exact .inl (.inr (.inl (.inl rfl)))
     ·exact .inl (.inr (.inl (.inr (.inr rfl))))
  have hres:OwnW (w7.setCell ⟨A.p,5,none⟩ (.int .i64 ((M:Int)-m))) w1.heap.size v5 ((S i++Hd i).take most):=by
   rw[<-flatW_append,hlist]at hres8;have e1:n+m=((S i++Hd i).take most).length:=by rw[<-hlist,jL,HTL.out,jT,<-HNN.out,Nat.min_eq_left hmH]
   show _=_/\_;rw[<-e1];exact own_mono hres8 (by omega)
  have HW:=jq hwent;have HRS:=jq hres;clear hwent hres hQall hall hfin hlist hdm hmu hub ho8 hres8 hres7 hres6 hown8 hown7 hnot7 hb8 hM hM1 hO6 hB6 hB56 hB36 hm7 hs7 hf7 hfo7 ho7 hz7 hb7 hrun7 hk7 hk6 hk5d hk5 hl5
  go_wp2_with fail
  go_ret2
  exact⟨_,rfl,HRS.out,HW.out⟩
theorem take_all {A:Pa} {ct:Nat} {w:World} {Qs:Nat->Prop} {hv:Nat->Option Value} {S Hd:Rows} (h:Pl A ct w Qs hv S Hd) (hct:ct<90000) (i:Nat) (hi:i<A.n) (most:Nat) (hm1:1<=most) (hm2:most<=9223372036854775807) (hlen: (S i).length+(Hd i).length<=30000) (hmany:many Hd A.n<=1000000) (ccond:0<(S i).length/\(S i).length<=most):
  Calls Tryz.prog 16 #[.pointer (some ⟨A.p,0,none⟩),.int .i64 (i:Int),.int .i64 (most:Int)] w λe w'=>∃v,e=.returned (.tuple #[v,.int .i64 0])/\OwnW w' w.heap.size v ((S i++Hd i).take most)/\Went A (ct+1) (allQ A Qs hv) w w' (upd S i ((S i).drop most)) (upd Hd i ((Hd i).drop (most-(S i).length))) (λk=>v.ownBlock=some k):=by
 have HT:=jq (there_in h i hi);have HR:=jq (read_any h i hi (by omega));have H:=jq h
 have hmz: ((most:Int)==0)=false:=by
  have:¬(most:Int)=0:=by omega
  simpa using this
 have hmn:decide ((most:Int) <0)=false:=by
  simp
 have HMY:=jq hmany;obtain⟨N,hN⟩:=jl ((S i).length);obtain⟨hn,hnn⟩:=jl ((Hd i).length);obtain⟨n,hne⟩:=jl (min most N);obtain⟨m,hme⟩:=jl (min (most-n) hn);have hmin1:min (most:Int) (N:Int)=(n:Int):=by omega
 have hmin2:min ((most:Int)-(n:Int)) (hn:Int)=(m:Int):=by omega
 have hnN:n<=N:=by omega
 have hnM:n<=most:=by omega
 have hmH:m<=hn:=by omega
 have hsub1:IntKind.i64.wrap ((most:Int)-(n:Int))=(most:Int)-n:=IntWalk.i64_in _ (by omega)
 obtain⟨va,vc,hgv,hlv⟩:∃va vc,(hv i).getD (.slice none 0 0)=.slice va hn vc/\hn<=vc:=by
  obtain⟨v,hve,hO,_⟩:=h.heldAt i hi;obtain⟨a,c,e,hc,_⟩:=own_shape hO;exact⟨a,c,by rw[hve,e,hnn],by rw[hnn];exact hc⟩
 rw[<-hN]at hlen ccond;rw[<-hnn]at hlen;have hn0:0<n/\n=N:=by omega
 have hdec:decide (0<n)=true:=by simpa using hn0.1
 obtain rfl:N=n:=hn0.2.symm;clear hn0
 have HVL:Hid (∀(W:World) (Q:Nat->Prop) (S3:Rows),Pl A (ct+1) W Q hv S3 Hd->Lies W va (flatW (Hd i))):=jq (λW Q S3 hp=>by
  obtain⟨v,hve,hO,_⟩:=hp.heldAt i hi;obtain⟨a,c,e,_,hL,_,_⟩:=own_shape hO;rw[hgv,e]at hve;injection hve with e1;rw[e1];exact hL)
 have HGV:=jq hgv;have HNN:=jq hnn;have HN:=jq hN;have HNE:=jq hne;have HME:=jq hme;clear h hmany hgv hnn hN hne hme ccond
 go_enter Tryz.func16,Tryz.ntmps16
 go_wp2_with fail
 refine HT.out.mono ?_;rintro e1 w1 ⟨rfl,rfl⟩
 go_wp2_with fail
 refine HR.out.mono ?_;rintro e2 w2 ⟨v2,rfl,hO2,hB2⟩;obtain⟨oa,oc,rfl,hoc,hL2,hob2,_⟩:=own_shape hO2;rw[<-HN.out]at hoc⊢;have HL2:=jq hL2;have HB2:=jq hB2;have HOB2:=jq hob2;have H2:=jq (H.out.later hB2);have HO2:=jq hO2;clear hL2 hB2 hob2 hO2;obtain⟨a2,hslo,hslL⟩:=slice_low oa N oc N hnN hoc;have HSLL:=jq hslL;obtain⟨a3,hslh,hslM⟩:=slice_low va hn vc m hmH hlv;have HSLM:=jq hslM;clear hslL hslM;have hnn0:N-N=0:=Nat.sub_self _;rw[hnn0]at hslo;clear hnn0
 go_wp2_with fail
 have hw:=write_nil H2.out hct i hi a2 (oc-N) (λe=>by
  have:=HN.out;rw[e]at this
  simp at this
  simp at hdec
  omega)
 have hdn: (S i).drop most= []:=List.drop_of_length_le (by have:=HN.out;have:=HNE.out;omega);rw[<-hdn]at hw;clear hdn;refine hw.mono ?_;rintro e3 w3 ⟨rfl,Q3,hp3,hQ3,ho3⟩;have HQ4:=jq hQ3;have HB4:=jq ho3;obtain⟨S3,hS3⟩:=jl (upd S i ((S i).drop most));have HSE3:Hid (upd S i ((S i).drop most)=S3):=jq hS3.symm;rw[<-hS3]at hp3;have HP3:=jq hp3
 have HL4:=jq (HL2.out.upon ho3 (λg hg hm=>by
  have h1:=(HOB2.out g hg).1;rcases hm with hm|rfl
  ·have:=H.out.lt _ (.inl hm)
   omega
  ·have:=H.out.lt A.sm (.inr (.inl (.inr (.inl rfl))))
   omega))
 clear hp3 hQ3 ho3 hS3;have hl3:=HP3.out.heldAt' i hi;rw[HGV.out]at hl3;have k4:=HP3.out.pool.cell 4
 simp at k4
 go_wp2_with fail
 have htl: ((S i).take N).length=N:=by rw[jT,<-HN.out];omega
 have hC1:=clone_walkers oa oc ((S i).take N) w3.drew (by have:=HL4.out.take (N*7);rw[flatW_take _ _ (H.out.okS i hi)]at this;exact this) (sub_ok (H.out.okS i hi) N).1 (by rw[htl];omega);rw[htl]at hC1;have HC1:=jq hC1;have HTL:=jq htl;have hsh1:=λW=>slice_high oa N oc N (by omega) W
 have hsh2:=λW=>slice_high va hn vc m (by omega) W
 have hmlen: (flatW ((Hd i).take m)).length=m*7:=by rw[flatW_length _ (sub_ok (H.out.okH i hi) m).1,jT,<-HNN.out,Nat.min_eq_left hmH]
 have HML:=jq hmlen;have H1m:=jq (oneCell_flatW ((Hd i).take m));have hpl:=HP3.out.pool.lt;have hl3d:=HP3.out.drew.heldAt' i hi;rw[HGV.out]at hl3d;have hk3:w3.drew.cell? ⟨A.p,4,none⟩=some (.map (some A.hm)):=k4;have hcap:30000<=1000000:=by decide
 clear hC1 htl hmlen hmin1 hmin2 hl3 k4
 go_region_held3 (λw'=>w'.cell? ⟨A.p,4,none⟩=some (.map (some A.hm))) (first|exact hk3|exact hk4|exact hk5) ((first|(go_at_call 44;refine HC1.out.mono ?_;rintro e4 w4 ⟨v4,rfl,hO4,hB4⟩;have hB34:Below w3.heap.size w3 w4:=((Below.refl _ w3).drew).trans hB4;have hk4:=(hB34.cell (p:=⟨A.p,4,none⟩) hpl).trans hk3;have hl4:=(HP3.out.later hB34).heldAt' i hi;rw[HGV.out]at hl4;dsimp only)|(refine step_append_any rfl (.tmp 62) (.tmp 70) rfl w3.heap.size v4 N (flatW ((S i).take N)) (by simp[Act.eval]) (by have:=HTL.out;rw[OwnW,this]at hO4;exact hO4) va m vc (flatW ((Hd i).take m)) (by simp[Act.eval]) HML.out (by have:=(HVL.out w4 _ _ (HP3.out.later hB34)).take (m*7);rw[flatW_take _ _ (H.out.okH i hi)]at this;exact this) H1m.out (by omega) hB34.size ?_;intro v5 w5 hown5 hg5 hb5;have hB35:Below w3.heap.size w3 w5:=hB34.grown hg5 hB34.size (λq hq=>(World.ownsRow.lt hO4 q hq).1);have hk5:=(hB35.cell (p:=⟨A.p,4,none⟩) hpl).trans hk3)))
 all_goals
  have HOW5:=jq hown5;have HB35:=jq hB35;have HLV5:=jq (World.ownsRow.lt hown5);have hhd: ((Hd i).drop m).length=hn-m:=by rw[List.length_drop,<-HNN.out]
  have hP5:=HP3.out.later hB35;have hC2:=clone_walkers a3 (vc-m) ((Hd i).drop m) w5.drew (HSLM.out w5 (Hd i) (H.out.okH i hi) HNN.out.symm (HVL.out w5 _ _ hP5)) (sub_ok (H.out.okH i hi) m).2 (by rw[hhd];omega);rw[hhd]at hC2;have HC2:=jq hC2;have hl5:=hP5.drew.heldAt' i hi;rw[HGV.out]at hl5;have hk5d:w5.drew.cell? ⟨A.p,4,none⟩=some (.map (some A.hm)):=hk5;have hhm:A.hm<w3.heap.size:=HP3.out.lt _ (.inr (.inl (.inr (.inr rfl))))
  have hphm:A.p∉[A.hm]:=by
   obtain⟨_,hmh,_,_⟩:=HP3.out.held;have:=map_ne_blk hmh HP3.out.pool
   simpa using this.symm
  have HPH:=jq hphm;clear hC2 hhd hP5 hphm hown5 hg5 hb5 hB35 hB34 hO4 hB4 hk4 hk3 hl3d hsh1 hsh2 hslo
  go_wp2_with fail
  go_region_held3 (λw'=>w'.cell? ⟨A.p,4,none⟩=some (.map (some A.hm))) (first|exact hk5d|exact hk6|exact hk7) ((go_at_call 44;refine HC2.out.mono ?_;rintro e6 w6 ⟨v6,rfl,hO6,hB6⟩;have hB56:Below w5.heap.size w5 w6:=((Below.refl _ w5).drew).trans hB6;have hB36:=HB35.out.trans (hB56.mono HB35.out.size);have hk6:=(hB36.cell (p:=⟨A.p,4,none⟩) hpl).trans (HP3.out.pool.cell 4);obtain⟨w7,f7,hrun7,hm7,hs7,hf7,hfo7,ho7,hz7⟩:=HP3.out.hold (w1:=w6) (hB36.block _ hhm) i hi v6;have hb7:=(HP3.out.pool.below hB36 hpl).only ho7 HPH.out;have hk7:=hb7.cell 4;simp at hk7;simp at hk6;dsimp only))
  obtain⟨M,hM⟩:=jl (many Hd A.n);have hM1:M<=1000000:=by rw[hM];exact HMY.out
  have hmM:m<=M:=by
   have:=len_le_many Hd i A.n hi;rw[<-hM,<-HNN.out]at this
   omega
  rw[<-hM]at hb7;have k5:=hb7.cell 5;have f5:=hb7.frozen 5
  simp at k5
  have hsub:IntKind.i64.wrap ((M:Int)-(m:Int))=(M:Int)-m:=IntWalk.i64_in _ (by omega);have hb8:=hb7.set 5 (.int .i64 ((M:Int)-m));have hz5:=HB35.out.size;have hz56:=hB56.size
  have hnot7:∀(u:Value) (q:Nat),w3.heap.size<=q->q∉[A.hm]:=λu q hq hmm=>by
   rw[jE.1 hmm]at hq
   omega
  have hown7:=own_only hO6 ho7 (λq hq=>hnot7 v6 q (by have:=(World.ownsRow.lt hO6 q hq).1;simp at this;omega));have hown8:=own_past hown7 hb7 (by decide) 5 (.int .i64 ((M:Int)-m));have hres6:=own_later HOW5.out hB56;have hres7:=own_only hres6 ho7 (λq hq=>hnot7 v5 q (HLV5.out q hq).1);have hres8:=own_past hres7 hb7 (by decide) 5 (.int .i64 ((M:Int)-m));have ho8:Only [A.p,A.hm] w3 (w7.setCell ⟨A.p,5,none⟩ (.int .i64 ((M:Int)-m))):=((Only.of_below hB36).trans (ho7.mono (by simp))).set (.inl (by simp)) _
  have hub:∀u k,some v6=some u->u.ownBlock=some k->(∃v0,hv i=some v0/\v0.ownBlock=some k)\/w3.heap.size<=k:=λu k hu hk=>by
   injection hu with hu;rw[<-hu]at hk;have:=(World.ownsRow.lt hO6 k hk).1
   simp at this
   exact .inr (by omega)
  have hmu:=many_upd Hd i ((Hd i).drop m) A.n hi;rw[<-hM,List.length_drop,<-HNN.out]at hmu
  have hdm: (Hd i).drop m=(Hd i).drop (most-(S i).length):=by
   have h1:=HME.out;have h2:=HNE.out;have h3:=HN.out
   by_cases hc:most-(S i).length<=(Hd i).length
   ·congr 1
    have:=HNN.out
    omega
   ·have:=HNN.out;rw[List.drop_of_length_le (by omega),List.drop_of_length_le (by omega)]
  have hlist: (S i).take N++(Hd i).take m=(S i++Hd i).take most:=by
   rw[take_two,<-HN.out,<-HNN.out,<-HNE.out,<-HME.out]
  have hfin:=HP3.out.holding hi ho8 (λk hk=>by
   simp only[List.mem_cons,List.not_mem_nil,or_false]at hk;rcases hk with e1|e1
   ·exact .inl e1
   ·exact .inr (.inl e1)) ((Hd i).drop m) (by
    have e1: ((many (upd Hd i ((Hd i).drop m)) A.n:Nat):Int)=(M:Int)-m:=by omega
    rw[e1]
    simpa using hb8) (hm7.keep (Below.heap_setCell _ _ _ _ (map_ne_blk hm7 hb7))) hs7 (some v6) (own_mono hown8 (Nat.zero_le _)) hf7 hfo7 hub (sub_ok (H.out.okH i hi) m).2
  have hall:=allQ_holding (A:=A) (Qs:=Q3) hub hi;have hw2:=HB2.out.size;have hw3:=HB4.out.size
  have hQall:∀k,allQ A Q3 hv k->allQ A Qs hv k\/w1.heap.size<=k:=λk hk=>by
   rcases hk with hk|hk|hk
   ·rcases HQ4.out k hk with h1|h1
    ·exact .inl (.inl h1)
    ·exact .inr (by omega)
   ·exact .inl (.inr (.inl hk))
   ·exact .inl (.inr (.inr hk))
  have hwent:Went A (ct+1) (allQ A Qs hv) w1 (w7.setCell ⟨A.p,5,none⟩ (.int .i64 ((M:Int)-m))) (upd S i ((S i).drop most)) (upd Hd i ((Hd i).drop (most-(S i).length))) (λk=>v5.ownBlock=some k):=by
   rw[hdm,<-HSE3.out]at hfin;refine⟨_,_,hfin,λk hk=>?_,λk hk hq=>?_,?_⟩
   ·rcases hall k hk with h3|h3
    ·exact hQall k h3
    ·exact .inr (by omega)
   ·have hlt5:=HLV5.out k hk;rcases hq with hq|hq|⟨j,u,hj,hu,hq⟩
    ·have:=HP3.out.lt k (.inl hq)
     omega
    ·have:=HP3.out.lt k (.inr (.inl hq))
     omega
    ·by_cases e:j=i
     ·subst e;rw[updv_same]at hu;injection hu with hu;rw[<-hu]at hq;have:=(World.ownsRow.lt hO6 k hq).1
      simp at this
      omega
     ·rw[updv_other _ e]at hu;have:=HP3.out.lt k (.inr (.inr ⟨j,u,hj,hu,hq⟩))
      omega
   ·refine((Upon.of_below (P:=allQ A Qs hv) HB2.out).trans (Q:=allQ A Qs hv) (HB4.out.mono (λk hk=>hk.elim .inl (λe=>.inr (.inl (.inr (.inl e)))))) (λk hk=>.inl hk)).trans (Q:=allQ A Qs hv) (Upon.of_only ho8 (λk hk=>?_)) (λk hk=>.inl hk)
    ·simp only[List.mem_cons,List.not_mem_nil,or_false]at hk;rcases hk with rfl|rfl
     ·exact .inl (.inr (.inl (.inl rfl)))
     ·exact .inl (.inr (.inl (.inr (.inr rfl))))
  have hres:OwnW (w7.setCell ⟨A.p,5,none⟩ (.int .i64 ((M:Int)-m))) w1.heap.size v5 ((S i++Hd i).take most):=by
   rw[<-flatW_append,hlist]at hres8;have e1:N+m=((S i++Hd i).take most).length:=by rw[<-hlist,jL,HTL.out,jT,<-HNN.out,Nat.min_eq_left hmH]
   show _=_/\_;rw[<-e1];exact own_mono hres8 (by omega)
  have HW:=jq hwent;have HRS:=jq hres;clear hwent hres hQall hall hfin hlist hdm hmu hub ho8 hres8 hres7 hres6 hown8 hown7 hnot7 hb8 hM hM1 hO6 hB6 hB56 hB36 hm7 hs7 hf7 hfo7 ho7 hz7 hb7 hrun7 hk7 hk6 hk5d hk5 hl5
  go_wp2_with fail
  go_ret2
  exact⟨_,rfl,HRS.out,HW.out⟩
end Pool
namespace Pool
open Go.RowKit Go.Deep Mem Crc Walk Go.Maps
open Store (Sto Files setF setF_same setF_other nv)
theorem take_any {A:Pa} {ct:Nat} {w:World} {Qs:Nat->Prop} {hv:Nat->Option Value} {S Hd:Rows} (h:Pl A ct w Qs hv S Hd) (hct:ct<90000) (i:Nat) (hi:i<A.n) (most:Nat) (hm1:1<=most) (hm2:most<=9223372036854775807) (hlen: (S i).length+(Hd i).length<=30000) (hmany:many Hd A.n<=1000000):
  Calls Tryz.prog 16 #[.pointer (some ⟨A.p,0,none⟩),.int .i64 (i:Int),.int .i64 (most:Int)] w λe w'=>∃v,e=.returned (.tuple #[v,.int .i64 0])/\OwnW w' w.heap.size v ((S i++Hd i).take most)/\Went A (ct+1) (allQ A Qs hv) w w' (upd S i ((S i).drop most)) (upd Hd i ((Hd i).drop (most-(S i).length))) (λk=>v.ownBlock=some k):=by
 by_cases h0: (S i).length=0
 ·exact take_none (h.mono (Nat.le_succ _)) i hi most hm1 hm2 hlen hmany h0
 ·by_cases h1:most<(S i).length
  ·exact take_some h hct i hi most hm1 hm2 hlen hmany h1
  ·exact take_all h hct i hi most hm1 hm2 hlen hmany ⟨by omega,by omega⟩
def restS (left:Lit->Bool) (S:Rows) (n:Nat):Nat:=((List.range n).map (λi=>if left (sK i)then(S i).length else 0)).sum
theorem restS_succ (left:Lit->Bool) (S:Rows) (n:Nat):restS left S (n+1)=restS left S n+if left (sK n)then(S n).length else 0:=by unfold restS;simp[List.range_succ]
theorem sameKey_sK (i j:Nat): (sK i).sameKey (sK j)=decide (i=j):=by
 by_cases e:i=j
 ·subst e;have: (sK i).sameKey (sK i)=true:=WideAt.sameKey_self trivial;rw[this];simp
 ·have: (sK i).sameKey (sK j)=false:=Maps.sameKey_ne (λh=>e (sK_inj h));rw[this];simp[e]
theorem restS_step (left:Lit->Bool) (S:Rows) (i:Nat):∀n,restS (λz=>left z&& !z.sameKey (sK i)) S n+(if i<n/\left (sK i)=true then(S i).length else 0)=restS left S n:=by
 intro n
 induction n with
 |zero=>simp[restS]
 |succ n ih=>
  rw[restS_succ,restS_succ];simp only[sameKey_sK]
  by_cases e:n=i
  ·subst e
   simp at ih⊢
   have ih':restS (λz=>left z&& !z.sameKey (sK n)) S n=restS left S n:=by simpa using ih
   simp[ih']
  ·have e2: (i<n+1/\left (sK i)=true)↔(i<n/\left (sK i)=true):=⟨λh=>⟨by omega,h.2⟩,λh=>⟨by omega,h.2⟩⟩;simp only[e2,e,decide_false,Bool.not_false,Bool.and_true]
   omega
theorem restS_none {left:Lit->Bool} (S:Rows) (n:Nat) (h:∀x,left x=false):restS left S n=0:=by
 induction n with
 |zero=>rfl
 |succ n ih=>rw[restS_succ,ih,h];simp
theorem restS_start {left:Lit->Bool} (S:Rows) (n:Nat) (h:∀i,i<n->left (sK i)=false->S i= []):restS left S n=many S n:=by
 unfold restS many
 congr 1
 refine List.map_congr_left (λi hi=>?_)
 by_cases hl:left (sK i)=true
 ·rw[if_pos hl]
 ·rw[if_neg hl,h i (List.mem_range.1 hi) (by simpa using hl)]
  rfl
theorem all_any {A:Pa} {ct:Nat} {w:World} {Qs:Nat->Prop} {hv:Nat->Option Value} {S Hd:Rows} (h:Pl A ct w Qs hv S Hd) (hmany:many Hd A.n+many S A.n<=1000000):
  Calls Tryz.prog 11 #[.pointer (some ⟨A.p,0,none⟩)] w λe w'=>e=.returned (.int .i64 ((many Hd A.n+many S A.n:Nat):Int))/\Below w.heap.size w w':=by
 have HH:=jq (held_any h);have c3:=h.pool.cell 3
 simp at c3
 obtain⟨f,⟨D,n,hown,hd⟩,hs,hf⟩:=h.spilled;obtain⟨W2,hrun,hrg,hgr,hsz⟩:=hown.range intKeyed Tryz.underlying62;have hW2:Below w.heap.size w W2:=⟨hgr.os,hgr.tape,hgr.output,hgr.size,λk hk=>hgr.block k hk (by simp)⟩;obtain⟨T,hT⟩:=jl (many Hd A.n+many S A.n);obtain⟨M,hM⟩:=jl (many Hd A.n)
 have hst:M+restS (Maps.has D) S A.n=T:=by
  rw[restS_start S A.n (λi hi hl=>?_),hT,hM];rw[(hd _).1,hf i hi]at hl
  by_cases e:S i= []
  ·exact e
  ·rw[if_neg e]at hl;cases hl
 rw[<-hT]at hmany⊢;rw[<-hM]at HH;have HR:=jq hrg;have HB2:=jq hW2;have HST:=jq hst;have HD:=jq hd;have HS:=jq hs;have HF:=jq hf;have hsl:A.sm<w.heap.size:=h.lt _ (.inr (.inl (.inr (.inl rfl))));have htop:=h.top.1;clear hrg hW2 hst hd hs hf h hT hM hgr hown
 go_enter Tryz.func11,Tryz.ntmps11
 go_wp2_with fail
 refine HH.out.mono ?_;rintro e w1 ⟨rfl,rfl⟩
 go_wp2_with fail
 obtain⟨r,hr⟩:=jl w1.heap.size;rw[<-hr]at HR⊢;have HRR:=jq hr;clear hr hrun
 go_loopw[3] (λt wq=>∃(x:Nat) (left:Lit->Bool) (cnt:Nat),t=.int .i64 (x:Int)/\Hid (wq.ranges Tryz.prog 3 anyR A.sm r n D left cnt)/\Hid (x+restS left S A.n=T)/\Hid (Below w1.heap.size w1 wq)) (λ_ wq=>wq.rangeLeft A.sm r)
 case atStart=>exact⟨_,_,_,rfl,HR,HST,HB2⟩
 case round=>
  obtain⟨x,left,cnt,rfl,hR,hX,hB⟩:=hrel;have hxT:x<=T:=by have:=hX.out;omega
  rcases hR.out.next intKeyed 0 with⟨h0,hl,hrun⟩|⟨key,v,kl,y,w5,cnt',hkey,hlk,hv,hat,hrun,hR5,hlt,hg5,hs5,hen⟩
  ·have HL:=jq hl;clear hl h0
   go_wp2_with fail
   go_ret
   have hx:=hX.out;rw[restS_none S A.n HL.out]at hx;refine⟨?_,hB.out⟩;rw[show x=T by omega]
   rfl
  ·have hlk':=hlk;have h1:=Maps.has_true_of_atKey hat;rw[(HD.out kl).1]at h1;obtain⟨u,hu⟩:=Option.isSome_iff_exists.1 h1;obtain⟨i,hi,rfl⟩:=HS.out kl (by rw[hu];exact λh=>by cases h)
   have e1:v=u:=by
    have e:=(hat (.held u)).symm.trans ((HD.out _).2 u hu (.held u));have e3:y=(.held v,[]):=(Option.some.inj hv).symm;rw[e3]at e;exact DataW.held.inj e
   have hfi:=HF.out i hi;rw[hu]at hfi
   have hSi:u=.int .i64 ((S i).length:Int):=by
    by_cases e:S i= []
    ·rw[if_pos e]at hfi;cases hfi
    ·rw[if_neg e]at hfi;exact Option.some.inj hfi
   obtain rfl:v=.int .i64 ((S i).length:Int):=e1.trans hSi;have hstep:=restS_step left S i A.n;rw[if_pos ⟨hi,hlk⟩]at hstep;have hkey':key=.int .i64 (i:Int):=intKeyed.inj hkey (key_of (i:=i) (by omega));subst hkey';obtain⟨L,hL⟩:=jl ((S i).length);rw[<-hL]at hrun hen hstep;have hle:L<=T:=by have:=hX.out;omega
   have hw:IntKind.i64.wrap ((x:Int)+(L:Int))=(x:Int)+L:=IntWalk.i64_in _ (by omega);have hml:wr.rangeLeft A.sm r=cnt:=hR.out.left_eq;have hB5:Below w1.heap.size w1 w5:=hB.out.grown hg5 hB.out.size (λq e=>by cases e;exact Nat.le_of_eq HRR.out.symm);have HR5:=jq hR5;have HML:=jq hml;have HB5:=jq hB5;have HX5:Hid ((x+L)+restS (λz=>left z&& !z.sameKey (sK i)) S A.n=T):=jq (by have:=hX.out;omega);clear hR5 hg5 hs5 hat hv hkey h1 hu e1 hfi hSi hstep hL hml hB5 hB hX hR hlk hlk'
   go_wp2_with fail
   exact⟨⟨x+L,_,cnt',by push_cast;rfl,HR5,HX5,HB5⟩,by rw[HR5.out.left_eq,HML.out];exact hlt⟩
end Pool
namespace Pool
open Go.RowKit Go.Deep Go.Shelf Mem Crc Walk Go.Proofs.YtfgjnpbffppocaaGreatDoor.Told
open Store (Sto Files setF setF_same setF_other nv)
attribute [local go_sem] Oper.semAt_some
def sS (S Hd:Rows) (pre:List (Nat×Nat)):Rows:=λj=>if j∈pre.map Prod.fst then S j++Hd j else S j
def sH (Hd:Rows) (pre:List (Nat×Nat)):Rows:=λj=>if j∈pre.map Prod.fst then []else Hd j
theorem mem_snoc (pre:List (Nat×Nat)) (i m j:Nat):j∈(pre++ [(i,m)]).map Prod.fst↔j∈pre.map Prod.fst\/j=i:=by simp
theorem sS_snoc {S Hd:Rows} {pre:List (Nat×Nat)} {i:Nat} (m:Nat) (h:i∉pre.map Prod.fst):upd (sS S Hd pre) i (sS S Hd pre i++sH Hd pre i)=sS S Hd (pre++ [(i,m)]):=by
 funext j
 unfold sS sH upd
 by_cases e:j=i
 ·subst e;rw[if_pos rfl,if_neg h,if_neg h,if_pos ((mem_snoc _ _ _ _).2 (.inr rfl))]
 ·rw[if_neg e];dsimp only
  by_cases hj:j∈pre.map Prod.fst
  ·rw[if_pos hj,if_pos ((mem_snoc _ _ _ _).2 (.inl hj))]
  ·rw[if_neg hj,if_neg (λh=>((mem_snoc _ _ _ _).1 h).elim hj e)]
theorem sH_snoc {Hd:Rows} {pre:List (Nat×Nat)} {i:Nat} (m:Nat):upd (sH Hd pre) i []=sH Hd (pre++ [(i,m)]):=by
 funext j
 unfold sH upd
 by_cases e:j=i
 ·subst e;rw[if_pos rfl,if_pos ((mem_snoc _ _ _ _).2 (.inr rfl))]
 ·rw[if_neg e];dsimp only
  by_cases hj:j∈pre.map Prod.fst
  ·rw[if_pos hj,if_pos ((mem_snoc _ _ _ _).2 (.inl hj))]
  ·rw[if_neg hj,if_neg (λh=>((mem_snoc _ _ _ _).1 h).elim hj e)]
theorem holds_fst (Hd:Rows) (j:Nat):∀k,j∈(holds Hd k).map Prod.fst↔j<k/\Hd j≠[]
 |0=>by simp[holds]
 |k+1=>by
  have ih:=holds_fst Hd j k
  by_cases h0:0<(Hd k).length
  ·rw[holds_yes _ _ h0,List.map_append,List.mem_append,ih];simp only[List.map_cons,List.map_nil,jE]
   constructor
   ·rintro(⟨a,b⟩|rfl)
    ·exact⟨by omega,b⟩
    ·exact⟨by omega,List.length_pos_iff.1 h0⟩
   ·rintro⟨a,b⟩
    by_cases e:j=k
    ·exact .inr e
    ·exact .inl ⟨by omega,b⟩
  ·rw[holds_no _ _ h0,ih];have hk:Hd k= []:=List.eq_nil_of_length_eq_zero (by omega)
   constructor
   ·rintro⟨a,b⟩;exact⟨by omega,b⟩
   ·rintro⟨a,b⟩;refine⟨?_,b⟩;rcases Nat.lt_or_ge j k with h|h
    ·exact h
    ·obtain rfl:j=k:=by omega
     exact absurd hk b
theorem holds_few (Hd:Rows):∀k,(holds Hd k).length<=many Hd k
 |0=>Nat.le_refl _
 |k+1=>by
  have ih:=holds_few Hd k;have e:many Hd (k+1)=many Hd k+(Hd k).length:=by unfold many;simp[List.range_succ]
  rw[e]
  by_cases h0:0<(Hd k).length
  ·rw[holds_yes _ _ h0]
   simp
   omega
  ·rw[holds_no _ _ h0]
   omega
theorem many_sH (Hd:Rows) (pre:List (Nat×Nat)):∀n,many (sH Hd pre) n<=many Hd n
 |0=>Nat.le_refl _
 |n+1=>by
  have ih:=many_sH Hd pre n;have e:∀G:Rows,many G (n+1)=many G n+(G n).length:=λG=>by unfold many;simp[List.range_succ]
  rw[e,e]
  have: (sH Hd pre n).length<=(Hd n).length:=by
   unfold sH
   split <;> simp
  omega
theorem holders_saved (F:Fence) (n:Nat) (h7:F.fn 90) (hro:F.round=none) (hn:1<=n) (Bs:Nat) {A:Pa} {Hd:Rows} {w:World} (hn20:A.n<=4096) (hmany:many Hd A.n<=1000000) (T:List (Nat×Nat)->World->Prop)
  (hT:∀pre W,T pre W->W.cell? ⟨Bs,0,none⟩=some (.pointer (some ⟨A.p,0,none⟩))/\W.cell? ⟨A.p,1,none⟩=some (.int .i64 (A.n:Int))/\W.cell? ⟨A.p,4,none⟩=some (.map (some A.hm))/\
   ∀k,k<A.n->∃va vc,(Instr.lookup 63 (.map (some A.hm)) (.int .i64 (k:Int)) false).run Tryz.prog W=.ok (.slice va (sH Hd pre k).length vc) W):
  SeqTold F n Tryz.prog 90 #[.pointer (some ⟨Bs,0,none⟩)] (λx:Nat×Nat=>#[Value.int .i64 (x.1:Int),Value.int .i64 (x.2:Int)]) T
   (λpre x=>x.1<A.n/\Hd x.1≠[]/\pre=holds Hd x.1) (holds Hd A.n) w:=by
 intro l J W hB hJT hY h0;have HT:=jq hT;have HMY:=jq hmany;have HJT:=jq hJT;obtain⟨hcs,c1,_,_⟩:=hT _ _ (hJT _ _ h0);clear hmany hT hJT;refine callsIn_of_wp Tryz.func90 rfl h7 ?_ hro;simp only[Tryz.ntmps90,List.size_toArray,List.length_cons,List.length_nil,Nat.reduceAdd,Nat.reduceSub,Array.replicate_succ,Array.replicate_zero,List.push_toArray,List.append_toArray,List.nil_append,List.cons_append]
 gi_wp2
 gi_loopw [9] (λi wr=>∃k:Nat,k<=A.n/\i=.int .i64 k/\J (holds Hd k) wr)
  (λi _=>A.n-(intOf i).toNat)
 case atStart=>exact⟨0,Nat.zero_le _,rfl,h0⟩
 case round=>
  obtain⟨k,hk,rfl,hJs⟩:=hrel;obtain⟨hcs',-,k4,hlk⟩:=HT.out _ _ (HJT.out _ _ hJs)
  by_cases hlt:k<A.n
  ·obtain⟨va,vc,hl⟩:=hlk k hlt
   have hnot:k∉(holds Hd k).map Prod.fst:=λh=>by
    have:=(holds_fst Hd k k).1 h
    omega
   rw[show sH Hd (holds Hd k) k=Hd k from if_neg hnot]at hl;have hkm:=len_le_many Hd k A.n hlt;have hkm2: (Hd k).length<=1000000:=Nat.le_trans hkm HMY.out;clear hkm hlk hnot;obtain⟨m,hm⟩:=jl ((Hd k).length);rw[<-hm]at hl hkm2
   by_cases hpos:0<m
   ·obtain⟨fn,tmps,assign,body,hy,hR⟩:=hY _ (k,m) wr hJs ⟨hlt,λe=>by rw[e]at hm;simp at hm;omega,rfl⟩;have hyes:=holds_yes Hd k (by omega);rw[<-hm]at hyes;have HYS:=jq hyes;clear hyes hm;dsimp only at hy
    gi_wp2
    refine hR.mono ?_;rintro e W3 ⟨rfl,hJ3⟩
    gi_wp2
    go_roundw
    case rel=>exact⟨k+1,by omega,by simp,by rw[HYS.out];exact hJ3⟩
    case measure=>simp[intOf];omega
   ·have hno:=holds_no Hd k (by omega);have HNO:=jq hno;clear hno hm;obtain rfl:m=0:=by omega
    gi_wp2
    refine⟨λ_ h=>(by cases h),?_⟩
    gi_wp2
    go_roundw
    case rel=>exact⟨k+1,by omega,by simp,by rw[HNO.out];exact hJs⟩
    case measure=>simp[intOf];omega
  ·obtain rfl:k=A.n:=by omega
   gi_wp2
   go_end0
   exact⟨⟨_,rfl⟩,hJs⟩
structure SI (A:Pa) (ct:Nat) (w:World) (Qs:Nat->Prop) (hv:Nat->Option Value) (S Hd:Rows) (pre:List (Nat×Nat)) (W:World):Prop where
 b0:Boxed W w.heap.size 34 (.pointer (some ⟨A.p,0,none⟩))
 b1:Boxed W (w.heap.size+1) 35 (.int .i64 0)
 b2:Boxed W (w.heap.size+1+1) 34 (.pointer (some ⟨A.p,0,none⟩))
 pool:∃Q' hv',Pl A (ct+pre.length) W Q' hv' (sS S Hd pre) (sH Hd pre)/\(∀k,allQ A Q' hv' k->allQ A Qs hv k\/w.heap.size+5<=k)
 up:Upon (allQ A Qs hv) w W
theorem SI.keep {A:Pa} {ct:Nat} {w W W':World} {Qs:Nat->Prop} {hv:Nat->Option Value} {S Hd:Rows} {pre:List (Nat×Nat)} (h:SI A ct w Qs hv S Hd pre W) (hlt:∀k,allQ A Qs hv k->k<w.heap.size) (hs:W.heap.size<=W'.heap.size) (hk:∀k,k<W.heap.size->k≠w.heap.size+4->W'.heap[k]? =W.heap[k]?) (ho:W'.os=W.os/\W'.tape=W.tape/\W'.output=W.output):SI A ct w Qs hv S Hd pre W':=by
 obtain⟨Q',hv',hp,hq⟩:=h.pool;refine⟨(hk _ h.b0.lt (by omega)).trans h.b0,(hk _ h.b1.lt (by omega)).trans h.b1,(hk _ h.b2.lt (by omega)).trans h.b2,⟨Q',hv',hp.keep hs (λk h1=>hk k (hp.lt k h1) (λe=>?_)),hq⟩,⟨ho.1.trans h.up.os,ho.2.1.trans h.up.tape,ho.2.2.trans h.up.output,Nat.le_trans h.up.size hs,λk h1 h2=>(hk k (Nat.lt_of_lt_of_le h1 h.up.size) (by omega)).trans (h.up.block k h1 h2)⟩⟩;rcases hq k h1 with h2|h2
 ·have:=hlt k h2
  omega
 ·omega
theorem save_any {A:Pa} {ct:Nat} {w:World} {Qs:Nat->Prop} {hv:Nat->Option Value} {S Hd:Rows} (h:Pl A ct w Qs hv S Hd) (hct:ct+many Hd A.n<=90000) (hlen:∀j,j<A.n->(S j).length+(Hd j).length<=30000) (hmany:many Hd A.n<=1000000):
  Calls Tryz.prog 34 #[.pointer (some ⟨A.p,0,none⟩)] w λe w'=>e=.returned (.int .i64 0)/\Went A (ct+many Hd A.n) (allQ A Qs hv) w w' (sS S Hd (holds Hd A.n)) (sH Hd (holds Hd A.n)) (λ_=>False):=by
 have H:=jq h;have HMY:=jq hmany;have HLN:=jq hlen;have HCT:=jq hct;have hn20:=h.top.1;clear h hmany hlen hct;refine(callsIn_wide (n:=5)).1 ?_;refine callsIn_of_wp_marks Tryz.func34 rfl trivial ?_ rfl;simp only[Tryz.ntmps34,List.size_toArray,List.length_cons,List.length_nil,Nat.reduceAdd,Nat.reduceSub,Array.replicate_succ,Array.replicate_zero,List.push_toArray,List.append_toArray,List.nil_append,List.cons_append];refine wpIn_wide.2 ?_
 go_wp2_with (go_at_call 61;refine(callsIn_wide.1 (holders_in Fence.wide 4 trivial rfl _ _)).mono ?_;rintro e w3 ⟨rfl,rfl⟩)
 obtain⟨W0,hW0⟩:=jl (((w.alloc (Obj.cells #[Value.pointer (some ⟨A.p,0,none⟩)] 34)).alloc (Obj.cells #[Value.int IntKind.i64 0] 35)).alloc (Obj.cells #[Value.pointer (some ⟨A.p,0,none⟩)] 34));have hB0:Below w.heap.size w W0:=by rw[hW0];exact(((Below.refl _ w).alloc jn _).alloc (by simp) _).alloc (by simp;omega) _
 have hsz:W0.heap.size=w.heap.size+1+1+1:=by rw[hW0];simp
 have hlt:∀k,allQ A Qs hv k->k<w.heap.size:=H.out.lt
 have hsi:SI A ct w Qs hv S Hd [] W0:=by
  refine⟨?_,?_,?_,⟨Qs,hv,H.out.later hB0,λk hk=>.inl hk⟩,Upon.of_below hB0⟩ <;> rw[hW0] <;> (repeat(first|(refine boxed_at ?_;(simp <;> omega);done)|refine Boxed.alloc ?_ _))
 have h00:∀o o',SI A ct w Qs hv S Hd [] ((W0.alloc o).alloc o'):=λo o'=>by
  have hb:=(((Below.refl _ W0).alloc jn o).alloc (by simp) o');exact hsi.keep hlt hb.size (λk h1 _=>hb.block k h1) ⟨hb.os,hb.tape,hb.output⟩
 have HLT:=jq hlt;have HH0:=jq h00;rw[<-hW0];clear hW0 hsi hlt h00;refine(wpIn_wide (n:=5)).1 ?_
 refine wpIn_range_told rfl (by omega) (gf:=90) (lb:=#[.pointer (some ⟨w.heap.size+1+1,0,none⟩)]) rfl trivial (enters_of Tryz.func90 (by kernel_rfl) rfl)
  (holders_saved (A:=A) (Hd:=Hd) Fence.wide 4 trivial rfl (by omega) (w.heap.size+1+1) (w:=w) hn20 HMY.out (SI A ct w Qs hv S Hd) (λpre W hs=>by
   obtain⟨Q',hv',hp,_⟩:=hs.pool;have k1:=hp.pool.cell 1;have k4:=hp.pool.cell 4
   simp at k1 k4
   refine⟨hs.b2.cell,k1,k4,λk hk=>?_⟩;obtain⟨v,_,hO,hl⟩:=hp.heldAt k hk;obtain⟨va,vc,rfl,_⟩:=own_shape hO;exact⟨va,vc,hl⟩)) hB0 (λ_=>rfl)
  (SI A ct w Qs hv S Hd) (λs W o hs=>hs.keep HLT.out (by simp[World.putObj]) (λk _ h2=>World.putObj_heap_other (by omega)) ⟨rfl,rfl,rfl⟩) (λs X h=>h) HH0.out
  (λx=>{tmps:=#[.pointer (some ⟨A.p,0,none⟩),.pointer (some ⟨w.heap.size,0,none⟩),.pointer (some ⟨w.heap.size+1,0,none⟩),.int .i64 (x.1:Int),undef,.pointer (some ⟨A.p,0,none⟩),.bool false,.pointer (some ⟨A.p,0,none⟩),.func (.func 90) #[] #[.pointer (some ⟨w.heap.size+1+1,0,none⟩)],.int .i64 (x.1:Int),.int .i64 (x.2:Int),undef,undef,undef,undef,undef,undef],defers:=[]}) ?assign ?body ?done
 case assign=>
  intro l x W K hK
  gi_wp2
  exact hK
 case body=>
  rintro l pre ⟨i,m⟩ W hs ⟨hi,hne,rfl⟩ hW;dsimp only at hi hne;obtain⟨Q',hv',hp,hq⟩:=hs.pool;have c0:=hs.b0.cell
  have hnot:i∉(holds Hd i).map Prod.fst:=λh=>by
   have:=(holds_fst Hd i i).1 h
   omega
  have e1:sH Hd (holds Hd i) i=Hd i:=if_neg hnot;have e2:sS S Hd (holds Hd i) i=S i:=if_neg hnot;have hfew:=holds_few Hd i
  have hmi:many Hd i+(Hd i).length<=many Hd A.n:=by
   have hm:∀n,i<n->many Hd i+(Hd i).length<=many Hd n:=λn=>by
    induction n with
    |zero=>intro h;omega
    |succ n ih=>
     intro h;have e:many Hd (n+1)=many Hd n+(Hd n).length:=by unfold many;simp[List.range_succ]
     rw[e]
     by_cases hn:i=n
     ·subst hn;omega
     ·have:=ih (by omega);omega
   exact hm _ hi
  have hpos:0<(Hd i).length:=List.length_pos_iff.2 hne;have HSP:=jq (CallsIn.inRound l ((callsIn_wide (n:=2)).2 (spill_some hp (by have:=HCT.out;dsimp only;omega) i hi (by rw[e1];exact hne) (by rw[e1,e2];exact HLN.out i hi) (Nat.le_trans (many_sH Hd _ _) HMY.out))));have HS:=jq hs;have HQ:=jq hq;have HNOT:=jq hnot;clear hs hp hq e1 e2 hfew hmi hpos hnot;rw[hsz]at hW⊢
  gi_wp2
  refine⟨trivial,HSP.out.mono ?_⟩;rintro e W3 ⟨rfl,Q3,hv3,hp3,hq3,-,hu3⟩
  have hbox:∀k,w.heap.size<=k->k<w.heap.size+5->¬allQ A Q' hv' k:=λk h1 h2 h3=>by
   rcases HQ.out k h3 with h4|h4
   ·have:=HLT.out k h4
    omega
   ·omega
  have hkp:∀k,w.heap.size<=k->k<w.heap.size+5->W3.heap[k]? =W.heap[k]?:=λk h1 h2=>hu3.block k (by omega) (hbox k h1 h2)
  have hfin:SI A ct w Qs hv S Hd (holds Hd i++ [(i,m)]) W3:=by
   rw[sS_snoc m HNOT.out,sH_snoc m]at hp3;refine⟨(hkp _ (by omega) (by omega)).trans HS.out.b0,(hkp _ (by omega) (by omega)).trans HS.out.b1,(hkp _ (by omega) (by omega)).trans HS.out.b2,⟨Q3,hv3,by rw[jL];exact hp3,λk hk=>?_⟩,HS.out.up.trans hu3 (λk hk=>(HQ.out k hk).imp id (λh=>by omega))⟩;rcases hq3 k hk with h1|h1
   ·exact HQ.out k h1
   ·exact .inr (by omega)
  have HF:=jq hfin;have HK1:=jq (hkp (w.heap.size+1+1+1) (by omega) (by omega));have HK2:=jq (hkp (w.heap.size+1+1+1+1) (by omega) (by omega));clear hfin hkp hbox hp3 hq3 hu3
  gi_wp2
  refine⟨HK1.out,?_,HF.out⟩;rw[HK2.out];exact Array.getElem?_eq_getElem _
 case done=>
  rintro D W hD hs hK;have c1:=hs.b1.cell;have f1:=hs.b1.frozen;have HS:=jq hs;have hDD:D=w.heap.size+3:=by rw[hD,hsz]
  have hK2: (W.setCell ⟨w.heap.size+1,0,none⟩ (.int .i64 0)).heap[D]? =some (.deferred (some [])):=(Below.heap_setCell _ _ _ _ (by show D≠w.heap.size+1;omega)).trans hK;have HK:=jq hK2;clear hs hK hK2 hD;dsimp only
  go_wp2_with fail
  refine⟨by simp,.inl ⟨_,_,rfl,run_takeDeferred HK.out,?_⟩⟩;have g0:=(boxed_put (.deferred none) (HS.out.b1.set (.int .i64 0)) HK.out rfl).cell;refine⟨.int .i64 0,by simp[results,Tryz.f34,go_sem,g0],rfl,?_⟩;obtain⟨Q',hv',hp,hq⟩:=HS.out.pool;have hfew:=holds_few Hd A.n;have hg:=grownBy_putObj' (W.setCell ⟨w.heap.size+1,0,none⟩ (.int .i64 0)) D (.deferred none)
  have hnw:∀k,allQ A Q' hv' k->k≠w.heap.size+1/\k≠D:=λk hk=>by
   rcases hq k hk with h1|h1
   ·have:=HLT.out k h1
    omega
   ·omega
  have hu:Upon (λk=>k=w.heap.size+1\/k=D) W ((W.setCell ⟨w.heap.size+1,0,none⟩ (.int .i64 0)).putObj D (.deferred none)):=(Upon.set (P:=λk=>k=w.heap.size+1\/k=D) (p:=⟨w.heap.size+1,0,none⟩) (Upon.refl _ _) (.inl (.inl rfl)) _).trans (Upon.of_grown (P:=λk=>k=w.heap.size+1\/k=D) hg (λg e=>by cases e;exact .inl (.inr rfl))) (λg hg=>.inl hg);refine⟨Q',hv',(hp.mono (by omega)).upon hu (λk hk hb=>hb.elim (hnw k hk).1 (hnw k hk).2),λk hk=>(hq k hk).imp id (λh=>by omega),λk h=>h.elim,HS.out.up.trans hu (λg hg=>.inr (by omega))⟩
end Pool
namespace Pool
open Go.RowKit Go.Deep Mem Crc Walk
variable {A:Pa} {ct:Nat} {w:World} {Qs:Nat->Prop} {hv:Nat->Option Value} {S Hd:Rows}
theorem there_out (h:Pl A ct w Qs hv S Hd) (i:Int) (hi:¬(0<=i/\i<(A.n:Int))):
  Calls Tryz.prog 41 #[.pointer (some ⟨A.p,0,none⟩),.int .i64 i] w λe w'=>e=.returned (.bool false)/\w'=w:=by
 have c1:=h.pool.cell 1
 simp at c1
 clear h
 by_cases h0: (0:Int)<=i
 ·have h1:decide (i<(A.n:Int))=false:=by
   have:¬i<(A.n:Int):=λh=>hi ⟨h0,h⟩
   simpa using this
  have h0:decide ((0:Int)<=i)=true:=by simpa using h0
  clear hi
  go_enter Tryz.func41,Tryz.ntmps41
  go_wp2_with fail
  go_ret
  exact⟨rfl,rfl⟩
 ·have h0:decide ((0:Int)<=i)=false:=by simpa using h0
  clear hi
  go_enter Tryz.func41,Tryz.ntmps41
  go_wp2_with fail
  go_ret
  exact⟨rfl,rfl⟩
theorem put_out (h:Pl A ct w Qs hv S Hd) (i:Int) (hi:¬(0<=i/\i<(A.n:Int))) (x:List Nat) (hx:ok x):
  Calls Tryz.prog 15 #[.pointer (some ⟨A.p,0,none⟩),.int .i64 i,.agg (vals x).toArray] w λe w'=>e=.returned (.int .i64 9)/\Below w.heap.size w w':=by
 obtain⟨a,b,c,d,e,f,g,rfl⟩:=ok_seven hx;have hal:=(Below.refl w.heap.size w).alloc jn (.cells (vals [a,b,c,d,e,f,g]).toArray 26);have HT:=jq (there_out (h.later hal) i hi);have HB:=jq hal;clear h hal;unfold vals at HT HB⊢
 go_enter Tryz.func15,Tryz.ntmps15
 go_wp2_with fail
 refine HT.out.mono ?_;rintro e w1 ⟨rfl,rfl⟩
 go_wp2_with fail
 go_ret
 exact⟨rfl,HB.out⟩
theorem take_out (h:Pl A ct w Qs hv S Hd) (i k:Int) (hi:¬(0<=i/\i<(A.n:Int))):
  Calls Tryz.prog 16 #[.pointer (some ⟨A.p,0,none⟩),.int .i64 i,.int .i64 k] w λe w'=>e=.returned (.tuple #[.slice none 0 0,.int .i64 9])/\w'=w:=by
 have HT:=jq (there_out h i hi);clear h
 go_enter Tryz.func16,Tryz.ntmps16
 go_wp2_with fail
 refine HT.out.mono ?_;rintro e w1 ⟨rfl,rfl⟩
 go_wp2_with fail
 go_ret2
 exact⟨rfl,rfl⟩
theorem take_neg (h:Pl A ct w Qs hv S Hd) (i:Nat) (hi:i<A.n) (k:Int) (hk:k<0):
  Calls Tryz.prog 16 #[.pointer (some ⟨A.p,0,none⟩),.int .i64 (i:Int),.int .i64 k] w λe w'=>e=.returned (.tuple #[.slice none 0 0,.int .i64 1])/\w'=w:=by
 have HT:=jq (there_in h i hi);have h0:decide (k<0)=true:=by simpa using hk
 clear h hk
 go_enter Tryz.func16,Tryz.ntmps16
 go_wp2_with fail
 refine HT.out.mono ?_;rintro e w1 ⟨rfl,rfl⟩
 go_wp2_with fail
 go_ret2
 exact⟨rfl,rfl⟩
theorem take_zero (h:Pl A ct w Qs hv S Hd) (i:Nat) (hi:i<A.n):
  Calls Tryz.prog 16 #[.pointer (some ⟨A.p,0,none⟩),.int .i64 (i:Int),.int .i64 0] w λe w'=>e=.returned (.tuple #[.slice none 0 0,.int .i64 0])/\w'=w:=by
 have HT:=jq (there_in h i hi);clear h
 go_enter Tryz.func16,Tryz.ntmps16
 go_wp2_with fail
 refine HT.out.mono ?_;rintro e w1 ⟨rfl,rfl⟩
 go_wp2_with fail
 go_ret2
 exact⟨rfl,rfl⟩
theorem spill_out (h:Pl A ct w Qs hv S Hd) (i:Int) (hi:¬(0<=i/\i<(A.n:Int))):
  Calls Tryz.prog 31 #[.pointer (some ⟨A.p,0,none⟩),.int .i64 i] w λe w'=>e=.returned (.int .i64 9)/\w'=w:=by
 have HT:=jq (there_out h i hi);clear h
 go_enter Tryz.func31,Tryz.ntmps31
 go_wp2_with fail
 refine HT.out.mono ?_;rintro e w1 ⟨rfl,rfl⟩
 go_wp2_with fail
 go_ret
 exact⟨rfl,rfl⟩
theorem waiting_out (h:Pl A ct w Qs hv S Hd) (i:Int) (hi:¬(0<=i/\i<(A.n:Int))):
  Calls Tryz.prog 17 #[.pointer (some ⟨A.p,0,none⟩),.int .i64 i] w λe w'=>e=.returned (.int .i64 0)/\w'=w:=by
 have HT:=jq (there_out h i hi);clear h
 go_enter Tryz.func17,Tryz.ntmps17
 go_wp2_with fail
 refine HT.out.mono ?_;rintro e w1 ⟨rfl,rfl⟩
 go_wp2_with fail
 go_ret
 exact⟨rfl,rfl⟩
theorem new_bad (s:Nat) (n r:Int) (w:World) (hbad:¬(0<=n/\n<=4096/\1<=r/\r<=65536)):
  Calls Tryz.prog 6 #[.pointer (some ⟨s,0,none⟩),.int .i64 n,.int .i64 r] w λe w'=>e=.returned (.tuple #[.pointer none,.int .i64 1])/\w'=w:=by
 have key:∀b1 b2 b3 b4:Bool,decide (n<0)=b1->decide (4096<n)=b2->decide (r<1)=b3->decide (65536<r)=b4->(b1||b2||b3||b4)=true->Calls Tryz.prog 6 #[.pointer (some ⟨s,0,none⟩),.int .i64 n,.int .i64 r] w λe w'=>e=.returned (.tuple #[.pointer none,.int .i64 1])/\w'=w:=by
  clear hbad;intro b1 b2 b3 b4 h1 h2 h3 h4 hb
  go_enter Tryz.func6,Tryz.ntmps6
  cases b1 <;> cases b2 <;> cases b3 <;> cases b4 <;> first|(exact absurd hb (by decide))|(clear hb;go_wp2_with fail;go_ret2;exact⟨rfl,rfl⟩)
 refine key _ _ _ _ rfl rfl rfl rfl ?_;simp only[Bool.or_eq_true,decide_eq_true_eq]
 omega
end Pool
end Go.Proofs.YtfgjnpbffppocaaGreatDoor
