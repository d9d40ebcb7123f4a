/- Part. -/
import Derived.Test.YtfgjnpbffppocaaGreatDoorF0
import Derived.Test.YtfgjnpbffppocaaGreatDoorF0Q
import Derived.Test.YtfgjnpbffppocaaGreatDoorF4
import Derived.Test.YtfgjnpbffppocaaGreatDoorF6
import Derived.Test.YtfgjnpbffppocaaGreatDoorF8
import Derived.Lib.AppendZeros
import Derived.Deep.RegionLaw
import Derived.Deep.QuietTactic
set_option maxHeartbeats 4000000
set_option maxRecDepth 100000
namespace Go.Proofs.YtfgjnpbffppocaaGreatDoor
namespace Pool
open Go.RowKit Go.Deep Mem Crc Walk
structure PX where
 rm:Nat
 sa:Option Addr
 sc:Nat
 fs:Loc
 ha:Option Addr
 hc:Nat
 fh:Loc
def PX.cells (x:PX) (n:Nat):Array Value:=#[.int .i64 (x.rm:Int),.slice x.sa n x.sc,.slice x.ha n x.hc]
def PX.v (x:PX) (n:Nat):Value:=.agg (x.cells n)
structure PIn (w:World) (x:PX) (n:Nat) (S H:Rows):Prop where
 s:RwK w x.sa x.fs S n
 h:RwK w x.ha x.fh H n
 okS:∀i,i<n->∀y∈S i,ok y
 okH:∀i,i<n->∀y∈H i,ok y
def PB (x:PX) (n:Nat) (k:Nat):Prop:=RwB x.sa x.fs n k\/RwB x.ha x.fh n k
theorem PIn.later {w w':World} {x:PX} {n:Nat} {S H:Rows} (h:PIn w x n S H) (hB:Below w.heap.size w w'):PIn w' x n S H:=⟨h.s.later hB,h.h.later hB,h.okS,h.okH⟩
theorem PIn.upon {P:Nat->Prop} {w w':World} {x:PX} {n:Nat} {S H:Rows} (h:PIn w x n S H) (hu:Upon P w w') (hP:∀k,PB x n k->¬P k):PIn w' x n S H:=
 ⟨h.s.upon hu (λk hk=>hP k (.inl hk)),h.h.upon hu (λk hk=>hP k (.inr hk)),h.okS,h.okH⟩
def PNew (n:Nat) (x:PX) (S H:Rows) (w w':World) (x':PX):Prop:=x'.rm=x.rm/\PIn w' x' n S H/\(∀k,PB x' n k->PB x n k\/w.heap.size<=k)/\Below w.heap.size w w'
theorem pnew_of {w w6 w9 wf:World} {x:PX} {n:Nat} {S Hd R1 R2:Rows} {a6 a9:Option Addr} {c6 c9 lo hi:Nat} {F1 F2:Loc} (H:PIn w x n S Hd) (h6:RwK w6 a6 F1 R1 n) (h9:RwK w9 a9 F2 R2 n) (hlo:w.heap.size<=lo)
  (n6:∀k,RwB a6 F1 n k->PB x n k\/hi<=k) (n9:∀k,RwB a9 F2 n k->PB x n k\/hi<=k) (hlh:lo<=hi) (u69:Upon (λk=>lo<=k/\k<hi) w6 w9) (u9f:Upon (λk=>lo<=k/\k<hi) w9 wf) (hB:Below w.heap.size w w6)
  (o1:∀i,i<n->∀y∈R1 i,ok y) (o2:∀i,i<n->∀y∈R2 i,ok y):PNew n x R1 R2 w wf ⟨x.rm,a6,c6,F1,a9,c9,F2⟩:=by
 have hlt:∀k,PB x n k->k<w.heap.size:=λk hk=>hk.elim (H.s.lt k) (H.h.lt k)
 have hz:=hB.size;have u6f:=u69.trans u9f (λk hk=>.inl hk);refine⟨rfl,⟨h6.upon u6f (λk hk hq=>?_),h9.upon u9f (λk hk hq=>?_),o1,o2⟩,λk hk=>?_,hB.trans (u6f.below hz (λk hk=>by omega))⟩
 ·rcases n6 k hk with h|h
  ·have:=hlt k h
   omega
  ·omega
 ·rcases n9 k hk with h|h
  ·have:=hlt k h
   omega
  ·omega
 ·rcases hk with hk|hk
  ·exact(n6 k hk).imp id (λh=>by omega)
  ·exact(n9 k hk).imp id (λh=>by omega)
theorem rwb_upd {a' a:Option Addr} {f:Loc} {n i:Nat} {p:Option Addr×Nat} {k:Nat} (h:RwB a' (updl f i p) n k):blk a'=some k\/RwB a f n k\/blk p.1=some k:=by
 rcases h with h|⟨j,hj,h⟩
 ·exact .inl h
 ·by_cases e:j=i
  ·subst e;rw[updl_same]at h;exact .inr (.inr h)
  ·rw[updl_other _ e]at h;exact .inr (.inl (.inr ⟨j,hj,h⟩))
theorem ok_upd {S:Rows} {n i:Nat} {l:List (List Nat)} (h:∀j,j<n->∀y∈S j,ok y) (hl:∀y∈l,ok y):∀j,j<n->∀y∈upd S i l j,ok y:=λj hj y hy=>by
 by_cases e:j=i
 ·subst e;rw[upd_same]at hy;exact hl y hy
 ·rw[upd_other _ e]at hy;exact h j hj y hy
attribute [local go_sem] Oper.semAt_some
theorem out24_any {w:World} {x:PX} {n:Nat} {S Hd:Rows} (h:PIn w x n S Hd) (i:Nat) (hi:i<n) (hn:n<=4096) (hlen: (S i).length+(Hd i).length<=30000):
  Calls Tryz.prog 32 #[x.v n,.int .i64 (i:Int)] w λe w'=>∃x',e=.returned (x'.v n)/\PNew n x (upd S i (S i++Hd i)) (upd Hd i []) w w' x':=by
 obtain⟨rm,sa,sc,fs,ha,hc,fh⟩:=x;unfold PX.v PX.cells;dsimp only;obtain⟨W1,hW1⟩:=jl ((((w.alloc (.cells #[.int .i64 (rm:Int),.slice sa n sc,.slice ha n hc] 40)).alloc (.cells #[.int .i64 0,.slice none 0 0,.slice none 0 0] 40)).alloc (.cells #[] 26)));have hB1:Below w.heap.size w W1:=by rw[hW1];exact(((Below.refl _ w).alloc jn _).alloc (by simp) _).alloc (by simp;omega) _
 have hz1:W1.heap.size=w.heap.size+1+1+1:=by rw[hW1];simp
 have hb1:Blk W1 w.heap.size 40 #[.int .i64 (rm:Int),.slice sa n sc,.slice ha n hc]:=by rw[hW1];exact((Blk.new w _ _).alloc _).alloc _
 have hb2:Blk W1 (w.heap.size+1) 40 #[.int .i64 0,.slice none 0 0,.slice none 0 0]:=by rw[hW1];exact(Blk.at_ (by simp)).alloc _
 have ho1:W1.ownsRow (w.heap.size+1+1) 26 7 (.slice (some ⟨w.heap.size+1+1,0,none⟩) 0 0) 0 []:=by
  rw[hW1];have:=own_empty ((w.alloc (.cells #[.int .i64 (rm:Int),.slice sa n sc,.slice ha n hc] 40)).alloc (.cells #[.int .i64 0,.slice none 0 0,.slice none 0 0] 40)) 26 7
  simpa using this
 obtain⟨gs,os,hse,hgs,-⟩:=h.s.at hi;obtain⟨gh,oh,hhe,hgh,-⟩:=h.h.at hi;dsimp only at hse hhe;subst hse hhe;have h1:=h.later hB1
 have cs1:W1.cell? ⟨gs,os+i,none⟩=some (.slice (fs i).1 (S i).length (fs i).2):=by
  obtain⟨g,o,e,_,hc⟩:=h1.s.at hi;injection e with e;injection e with e1 e2;subst e1 e2;exact hc
 have ch1:W1.cell? ⟨gh,oh+i,none⟩=some (.slice (fh i).1 (Hd i).length (fh i).2):=by
  obtain⟨g,o,e,_,hc⟩:=h1.h.at hi;injection e with e;injection e with e1 e2;subst e1 e2;exact hc
 obtain⟨m,hm⟩:=jl ((S i).length);obtain⟨k,hk⟩:=jl ((Hd i).length);rw[<-hm]at cs1 hlen;rw[<-hk]at ch1 hlen;have hfS: (flatW (S i)).length=m*7:=by rw[flatW_length _ (h.okS i hi),hm]
 have hfH: (flatW (Hd i)).length=k*7:=by rw[flatW_length _ (h.okH i hi),hk]
 obtain⟨va,vc,w3,hr3,hO3,hg3,hb3⟩:=run_append_walkers W1 54 (w.heap.size+1+1) _ 0 [] ho1 (fs i).1 m (fs i).2 (flatW (S i)) hfS (h1.s.each i hi).1 (oneCell_flatW _) (by omega) (by omega);rw[Nat.zero_add]at hr3 hO3 hb3;rw[List.nil_append]at hO3;have hB3:Below (w.heap.size+1+1) W1 w3:=(Below.refl _ W1).grown hg3 (by omega) (λq hq=>Nat.le_of_eq (by simpa[Value.ownBlock]using hq));have hb13:=hb1.below hB3 (by omega);have hb23:=hb2.below hB3 (by omega)
 have hS3:w3.cell? ⟨w.heap.size,1,none⟩=some (.slice (some ⟨gs,os,none⟩) n sc)/\w3.cell? ⟨w.heap.size,2,none⟩=some (.slice (some ⟨gh,oh,none⟩) n hc)/\w3.cell? ⟨gh,oh+i,none⟩=some (.slice (fh i).1 k (fh i).2):=
  ⟨hb13.cell 1,hb13.cell 2,(hB3.cell (p:=⟨gh,oh+i,none⟩) (by show gh<_;omega)).trans ch1⟩
 have k11:=hb1.cell 1
 simp at k11
 have HB3:=jq (hB1.trans (hB3.mono (by omega)));have HO3:=jq hO3;have H:=jq h;have HLE:=jq hb13;have HLF:=jq hb23;have HFH:=jq hfH;have HM:=jq hm;have HK:=jq hk;have hz3:=hB3.size;have HLH:=jq ((h.h.each i hi).1.later (hB1.trans (hB3.mono (by omega))))
 have hAP:∀v5 w5,w5.ownsRow (w.heap.size+1+1) 26 7 v5 (m+k) (flatW (S i)++flatW (Hd i))->w3.drew.grownBy w5 (Value.slice va m vc).ownBlock->∃a5 c5,v5=.slice a5 (m+k) c5/\(w5.cell? ⟨w.heap.size,1,none⟩=some (.slice (some ⟨gs,os,none⟩) n sc)/\w5.cell? ⟨w.heap.size,2,none⟩=some (.slice (some ⟨gh,oh,none⟩) n hc)/\w5.cell? ⟨gh,oh+i,none⟩=some (.slice (fh i).1 k (fh i).2))/\Below (w.heap.size+1+1) w3 w5/\Lies w5 a5 (flatW (S i++Hd i))/\m+k<=c5/\(∀g,blk a5=some g->w.heap.size+1+1<=g/\g<w5.heap.size):=by
  intro v5 w5 hown5 hg5;have hB5:Below (w.heap.size+1+1) w3 w5:=((Below.refl _ w3).drew).grown hg5 (by show _<=w3.heap.size;omega) (λq hq=>(hO3.lt q hq).1);obtain⟨a5,c5,rfl,hc5,hL5,hb5,_⟩:=own_shape hown5;refine⟨a5,c5,rfl,⟨(hB5.cell (p:=⟨w.heap.size,1,none⟩) (by show w.heap.size<_;omega)).trans hS3.1,(hB5.cell (p:=⟨w.heap.size,2,none⟩) (by show w.heap.size<_;omega)).trans hS3.2.1,(hB5.cell (p:=⟨gh,oh+i,none⟩) (by show gh<_;omega)).trans hS3.2.2⟩,hB5,by rw[flatW_append];exact hL5,hc5,λg hg=>hb5 g hg⟩
 have HAP:=jq hAP;rw[hW1]at hr3 k11 cs1;clear hb1 hb2 ho1 h1 h hB3 hb13 hb23 hO3 hg3 hb3 ch1 hfS hfH hm hk hB1 hW1 hAP
 go_enter Tryz.func32,Tryz.ntmps32
 go_wp2_with (first|(at_builtin;refine Lib.wpList_append_run _ rfl _ _ _ _ rfl _ _ rfl rfl _ _ hr3 ?_))
 obtain⟨k31,k32,k33⟩:=hS3
 go_region_law ((first|(go_simp;go_at_call 60;refine HW5.out.mono ?_;rintro e w6 ⟨a6,c6,rfl,hk6,hf6,hc6,hB6⟩;have hb6:=HB15.out.below hB6 HB15.out.lt;have k61:=hb6.cell 1;have z61:=hb6.frozen 1;have HB6:=jq hB6;have HK6:=jq hk6;have HF6:=jq hf6;have HBX:=jq hb6;clear hB6 hk6 hf6 hb6;dsimp only)|(refine step_append_any rfl (.tmp 16) (.tmp 21) rfl (w.heap.size+1+1) _ m (flatW (S i)) (by simp[Act.eval]) HO3.out (fh i).1 k (fh i).2 (flatW (Hd i)) (by simp[Act.eval]) HFH.out HLH.out (oneCell_flatW _) (by omega) (by show _<=w3.heap.size;omega) ?_;intro v5 w5 hown5 hg5 hb5;obtain⟨a5,c5,rfl,⟨k51,k52,k53⟩,hB5,hL5,hc5,hf5⟩:=HAP.out v5 w5 hown5 hg5;have hw5:=with_any (H.out.s.later (HB3.out.trans (hB5.mono (by omega)))) sc i hi hn a5 c5 (S i++Hd i) hL5 (by rw[jL,<-HM.out,<-HK.out];exact hc5) (λg hg=>(hf5 g hg).2);rw[jL,<-HM.out,<-HK.out]at hw5;have HW5:=jq hw5;have HB15:=jq (HLE.out.below hB5 (by omega));have HB5:=jq hB5;have HL5:=jq hL5;have HF5:=jq hf5;clear hw5 hB5 hL5 hf5 hown5 hg5 hb5)))
 all_goals
  have hz5:=HB5.out.size;have hz6:=HB6.out.size;have hB6:Below w.heap.size w w6:=(HB3.out.trans (HB5.out.mono (by omega))).trans (HB6.out.mono (by omega));have hb7:=HBX.out.set 1 (.slice a6 n c6);have hb72:=((HLF.out.below HB5.out (by omega)).below HB6.out (by omega)).far (p:=⟨w.heap.size,1,none⟩) (by simp) (.slice a6 n c6);have hB8:Below w.heap.size w ((w6.setCell ⟨w.heap.size,1,none⟩ (.slice a6 n c6)).alloc (.cells #[] 26)):=(hB6.setCell jn _).alloc (by simp[World.setCell];omega) _;have hw8:Calls Tryz.prog 60 #[.slice (some ⟨gh,oh,none⟩) n hc,.int .i64 (i:Int),.slice (some ⟨w6.heap.size,0,none⟩) 0 0] ((w6.setCell ⟨w.heap.size,1,none⟩ (.slice a6 n c6)).alloc (.cells #[] 26)) _:=with_any (H.out.h.later hB8) hc i hi hn (some ⟨w6.heap.size,0,none⟩) 0 [] (.inl rfl) jn (λk hk=>by cases hk;simp[World.setCell]);have h72:=hb7.cell 2
  simp at h72
  have HW8:=jq hw8;have HB7:=jq hb7;have HB72:=jq hb72;have HB8:=jq hB8;clear hw8 hb7 hb72 hB8 hB6 k61 z61 k51 k52 k53 k31 k32 k33 k11 cs1 hr3
  go_wp2_with fail
  refine HW8.out.mono ?_;rintro e w9 ⟨a9,c9,rfl,hk9,hf9,hc9,hB9⟩;have hbz:=HB7.out.alloc (.cells #[] 26);have hb9:=hbz.below hB9 hbz.lt;have hbz2:=HB72.out.alloc (.cells #[] 26);have hb92:=hbz2.below hB9 hbz2.lt;have k90:=hb9.cell 0;have k91:=hb9.cell 1;have k92:=hb9.cell 2;have z92:=hb9.frozen 2;have q0:=hb92.cell 0;have q1:=hb92.cell 1;have q2:=hb92.cell 2;have y0:=hb92.frozen 0;have y1:=hb92.frozen 1;have y2:=hb92.frozen 2
  simp at k90 k91 k92 q0 q1 q2
  have HB9:=jq hB9;have HK9:=jq hk9;have HF9:=jq hf9;have HQ9:=jq hb9;have HR9:=jq hb92;clear hB9 hk9 hf9 hb9 hb92 hbz hbz2 h72
  go_wp2_with fail
  have hbf:=(((HR9.out.far (p:=⟨w.heap.size,2,none⟩) (by simp) (.slice a9 n c9)).set 0 (.int .i64 (rm:Int))).set 1 (.slice a6 n c6)).set 2 (.slice a9 n c9);have g0:=hbf.cell 0;have g1:=hbf.cell 1;have g2:=hbf.cell 2
  simp at g0 g1 g2
  refine bodyPost_ret (v:=.agg #[.int .i64 (rm:Int),.slice a6 n c6,.slice a9 n c9]) (by simp[results,Tryz.f32,go_sem,g0,g1,g2]) rfl ⟨⟨rm,a6,c6,updl fs i (a5,c5),a9,c9,updl fh i (some ⟨w6.heap.size,0,none⟩,0)⟩,rfl,?_⟩;have hz9:=HB9.out.size;have e8: ((w6.setCell ⟨w.heap.size,1,none⟩ (.slice a6 n c6)).alloc (.cells #[] 26)).heap.size=w6.heap.size+1:=by simp[World.setCell]
  have u68:Upon (λk=>w.heap.size<=k/\k<w.heap.size+2) w6 ((w6.setCell ⟨w.heap.size,1,none⟩ (.slice a6 n c6)).alloc (.cells #[] 26)):=Upon.alloc (Upon.set (p:=⟨w.heap.size,1,none⟩) (Upon.refl _ _) (.inl (by simp)) _) _;refine pnew_of (lo:=w.heap.size) (hi:=w.heap.size+2) H.out HK6.out HK9.out jn (λq hq=>?_) (λq hq=>?_) (by omega) (u68.trans (Upon.of_below (P:=λk=>w.heap.size<=k/\k<w.heap.size+2) HB9.out) (λk hk=>.inl hk)) (Upon.set (Upon.set (Upon.set (Upon.set (Upon.refl _ _) (.inl (by simp)) _) (.inl (by simp)) _) (.inl (by simp)) _) (.inl (by simp)) _) ((HB3.out.trans (HB5.out.mono (by omega))).trans (HB6.out.mono (by omega))) (ok_upd H.out.okS (λy hy=>(List.mem_append.1 hy).elim (H.out.okS i hi y) (H.out.okH i hi y))) (ok_upd H.out.okH (λy hy=>by cases hy))
  ·rcases rwb_upd (a:=some ⟨gs,os,none⟩) hq with h1|h1|h1
   ·have:=HF6.out q h1;exact .inr (by omega)
   ·exact .inl (.inl h1)
   ·have:=(HF5.out q h1).1;exact .inr (by omega)
  ·rcases rwb_upd (a:=some ⟨gh,oh,none⟩) hq with h1|h1|h1
   ·have:=HF9.out q h1;rw[e8]at this;exact .inr (by omega)
   ·exact .inl (.inr h1)
   ·have h1:w6.heap.size=q:=by simpa[blk]using h1
    exact .inr (by omega)
end Pool
namespace Pool
open Go.RowKit Go.Deep Mem Crc Walk
theorem RwK.cell {w w':World} {g o:Nat} {f:Loc} {R:Rows} {n:Nat} (h:RwK w (some ⟨g,o,none⟩) f R n) (hB:Below w.heap.size w w') {i:Nat} (hi:i<n):w'.cell? ⟨g,o+i,none⟩=some (.slice (f i).1 (R i).length (f i).2):=by
 obtain⟨g1,o1,e,_,hc⟩:=(h.later hB).at hi;injection e with e;injection e with e1 e2;subst e1 e2;exact hc
theorem there24_any {x:PX} {n:Nat} (i:Int) (w:World):
  Calls Tryz.prog 27 #[x.v n,.int .i64 i] w λe w'=>e=.returned (.bool (decide (0<=i)&&decide (i<(n:Int))))/\Below w.heap.size w w':=by
 obtain⟨rm,sa,sc,fs,ha,hc,fh⟩:=x;unfold PX.v PX.cells;dsimp only;have hB:=(Below.refl w.heap.size w).alloc jn (.cells #[.int .i64 (rm:Int),.slice sa n sc,.slice ha n hc] 40)
 by_cases h0:0<=i
 ·have d0:decide (0<=i)=true:=jd h0;rw[d0,Bool.true_and]
  go_enter Tryz.func27,Tryz.ntmps27
  go_wp2_with fail
  go_ret
  exact⟨rfl,hB⟩
 ·have d0:decide (0<=i)=false:=jf h0;rw[d0,Bool.false_and]
  go_enter Tryz.func27,Tryz.ntmps27
  go_wp2_with fail
  go_ret
  exact⟨rfl,hB⟩
theorem many24_any {w:World} {x:PX} {n:Nat} {S H:Rows} (h:PIn w x n S H) (hn:n<=4096) (hm:many H n<=1000000):
  Calls Tryz.prog 10 #[x.v n] w λe w'=>e=.returned (.int .i64 (many H n:Int))/\Below w.heap.size w w':=by
 obtain⟨rm,sa,sc,fs,ha,hc,fh⟩:=x;unfold PX.v PX.cells;dsimp only;obtain⟨W,hW⟩:=jl (w.alloc (.cells #[.int .i64 (rm:Int),.slice sa n sc,.slice ha n hc] 40));have hB:Below w.heap.size w W:=by rw[hW];exact(Below.refl _ w).alloc jn _
 have hb:Blk W w.heap.size 40 #[.int .i64 (rm:Int),.slice sa n sc,.slice ha n hc]:=by rw[hW];exact Blk.new w _ _
 have b2:=hb.cell 2
 simp at b2
 have HB:=jq hB;have HH:=jq h.h;clear h hb hB
 go_enter Tryz.func10,Tryz.ntmps10
 go_wp2_with fail
 rw[<-hW];clear hW
 go_loopw[3,8] (λs i wr=>∃k:Nat,k<=n/\s=.int .i64 (many H k:Int)/\i=.int .i64 (k:Int)/\wr=W) (λ_ i _=>n-(intOf i).toNat)
 case atStart=>exact⟨0,Nat.zero_le _,rfl,rfl,rfl⟩
 case round=>
  obtain⟨k,hk,rfl,rfl,rfl⟩:=hrel
  by_cases hlt:k<n
  ·obtain⟨g,o,rfl,_,_⟩:=HH.out.at hlt;have cg:=HH.out.cell HB.out hlt;have hsu:=many_succ H k;have hle:=many_le H (show k+1<=n from hlt);obtain⟨m,hm'⟩:=jl ((H k).length);obtain⟨t,ht⟩:=jl (many H k);rw[<-hm',<-ht]at hsu;rw[<-hm']at cg;rw[<-ht];have hw:IntKind.i64.wrap ((t:Int)+(m:Int))=(t:Int)+m:=IntWalk.i64_in _ (by omega);have HSU:=jq hsu;clear hsu hle hm' ht
   go_wp2_with fail
   go_roundw
   case rel=>exact⟨k+1,by omega,by rw[HSU.out];push_cast;rfl,by go_num,by trivial⟩
   case measure=>simp[intOf];omega
  ·obtain rfl:k=n:=by omega
   go_wp2_with fail
   go_ret
   exact⟨rfl,HB.out⟩
theorem all24_any {w:World} {x:PX} {n:Nat} {S H:Rows} (h:PIn w x n S H) (hn:n<=4096) (hm:many H n+many S n<=1000000):
  Calls Tryz.prog 12 #[x.v n] w λe w'=>e=.returned (.int .i64 ((many H n+many S n:Nat):Int))/\Below w.heap.size w w':=by
 obtain⟨rm,sa,sc,fs,ha,hc,fh⟩:=x;unfold PX.v PX.cells;dsimp only;obtain⟨W,hW⟩:=jl (w.alloc (.cells #[.int .i64 (rm:Int),.slice sa n sc,.slice ha n hc] 40));have hB:Below w.heap.size w W:=by rw[hW];exact(Below.refl _ w).alloc jn _
 have hb:Blk W w.heap.size 40 #[.int .i64 (rm:Int),.slice sa n sc,.slice ha n hc]:=by rw[hW];exact Blk.new w _ _
 have HMN:Hid (Calls Tryz.prog 10 #[.agg #[.int .i64 (rm:Int),.slice sa n sc,.slice ha n hc]] W λe w'=>e=.returned (.int .i64 (many H n:Int))/\Below W.heap.size W w'):=jq (by
  have:=many24_any (h.later hB) hn (by omega);unfold PX.v PX.cells at this;exact this)
 have c0:=hb.cell 0;have c1:=hb.cell 1;have c2:=hb.cell 2
 simp at c0 c1 c2
 have HB:=jq hB;have HBK:=jq hb;have HH:=jq h.s;obtain⟨M,hM⟩:=jl (many H n);rw[<-hM]at hm HMN⊢;clear h hb hB hM;rw[hW]at HMN c0 c1 c2
 go_enter Tryz.func12,Tryz.ntmps12
 go_wp2_with fail
 refine HMN.out.mono ?_;rintro e w1 ⟨rfl,hB1⟩;rw[<-hW]at hB1;clear hW;have hb1:=HBK.out.below hB1 HBK.out.lt;have b1:=hb1.cell 1
 simp at b1
 have HB1:=jq (HB.out.trans (hB1.mono HB.out.size));clear hB1 hb1 c0 c1 c2
 go_wp2_with fail
 go_loopw[3,10] (λs i wr=>∃k:Nat,k<=n/\s=.int .i64 ((M+many S k:Nat):Int)/\i=.int .i64 (k:Int)/\wr=w1) (λ_ i _=>n-(intOf i).toNat)
 case atStart=>exact⟨0,Nat.zero_le _,rfl,rfl,rfl⟩
 case round=>
  obtain⟨k,hk,rfl,rfl,rfl⟩:=hrel
  by_cases hlt:k<n
  ·obtain⟨g,o,rfl,_,_⟩:=HH.out.at hlt;have cg:=HH.out.cell HB1.out hlt;have hsu:=many_succ S k;have hle:=many_le S (show k+1<=n from hlt);obtain⟨m,hm'⟩:=jl ((S k).length);obtain⟨t,ht⟩:=jl (M+many S k);have hsu2:M+many S (k+1)=t+m:=by omega
   rw[<-hm']at cg;rw[<-ht];have hw:IntKind.i64.wrap ((t:Int)+(m:Int))=(t:Int)+m:=IntWalk.i64_in _ (by omega);have HSU:=jq hsu2;clear hsu hle hm' ht hsu2
   go_wp2_with fail
   go_roundw
   case rel=>exact⟨k+1,by omega,by rw[HSU.out];push_cast;rfl,by go_num,by trivial⟩
   case measure=>simp[intOf];omega
  ·obtain rfl:k=n:=by omega
   go_wp2_with fail
   go_ret
   exact⟨rfl,HB1.out⟩
end Pool
namespace Pool
open Go.RowKit Go.Deep Mem Crc Walk
def outS (S H:Rows) (k:Nat):Rows:=λj=>if j<k then S j++H j else S j
def outH (H:Rows) (k:Nat):Rows:=λj=>if j<k then []else H j
theorem outS_next (S H:Rows) (k:Nat):upd (outS S H k) k (outS S H k k++outH H k k)=outS S H (k+1):=by
 funext j
 unfold outS outH upd
 by_cases e:j=k
 ·subst e
  simp
 ·by_cases h:j<k
  ·simp[e,h,show j<k+1 by omega]
  ·simp[e,h,show¬j<k+1 by omega]
theorem outH_next (H:Rows) (k:Nat):upd (outH H k) k []=outH H (k+1):=by
 funext j
 unfold outH upd
 by_cases e:j=k
 ·subst e
  simp
 ·by_cases h:j<k
  ·simp[e,h,show j<k+1 by omega]
  ·simp[e,h,show¬j<k+1 by omega]
theorem outS_zero (S H:Rows):outS S H 0=S:=by funext j;simp[outS]
theorem outH_zero (H:Rows):outH H 0=H:=by funext j;simp[outH]
theorem box3_set {V:World} {b:Nat} {t:TypeId} {x0 x1 x2:Value} (h:Blk V b t #[x0,x1,x2]) (a0 a1 a2:Value):Blk (((V.setCell ⟨b,0,none⟩ a0).setCell ⟨b,1,none⟩ a1).setCell ⟨b,2,none⟩ a2) b t #[a0,a1,a2]/\Upon (λk=>k=b) V (((V.setCell ⟨b,0,none⟩ a0).setCell ⟨b,1,none⟩ a1).setCell ⟨b,2,none⟩ a2):=
 ⟨((h.set 0 a0).set 1 a1).set 2 a2,Upon.set (P:=λk=>k=b) (Upon.set (P:=λk=>k=b) (Upon.set (P:=λk=>k=b) (Upon.refl _ _) (.inl rfl) _) (.inl rfl) _) (.inl rfl) _⟩
structure SvI (w:World) (x:PX) (n:Nat) (S H:Rows) (k:Nat) (x':PX) (wr:World):Prop where
 rm:x'.rm=x.rm
 b1:Blk wr w.heap.size 40 (x'.cells n)
 b2:Blk wr (w.heap.size+1) 40 #[.int .i64 0,.slice none 0 0,.slice none 0 0]
 at_:PIn wr x' n (outS S H k) (outH H k)
 new:∀q,PB x' n q->PB x n q\/w.heap.size+2<=q
 below:Below w.heap.size w wr
 size:w.heap.size+2<=wr.heap.size
theorem save24_any {w:World} {x:PX} {n:Nat} {S H:Rows} (h:PIn w x n S H) (hn:n<=4096) (hlen:∀i,i<n->(S i).length+(H i).length<=30000):
  Calls Tryz.prog 33 #[x.v n] w λe w'=>∃x',e=.returned (x'.v n)/\PNew n x (outS S H n) (outH H n) w w' x':=by
 obtain⟨W,hW⟩:=jl ((w.alloc (.cells (x.cells n) 40)).alloc (.cells #[.int .i64 0,.slice none 0 0,.slice none 0 0] 40));have hB:Below w.heap.size w W:=by rw[hW];exact((Below.refl _ w).alloc jn _).alloc (by simp) _
 have hz:W.heap.size=w.heap.size+2:=by rw[hW];simp
 have hlt:∀q,PB x n q->q<w.heap.size:=λk hk=>hk.elim (h.s.lt k) (h.h.lt k)
 have hsv:SvI w x n S H 0 x W:=⟨rfl,by rw[hW];exact(Blk.new w _ _).alloc _,by rw[hW];exact Blk.at_ (by simp),by rw[outS_zero,outH_zero];exact h.later hB,λq hq=>.inl hq,hB,by omega⟩;have HLT:=jq hlt;have HSV:=jq hsv;have HLN:=jq hlen;have b1:=hsv.b1.cell 2;unfold PX.cells at b1
 simp at b1
 rw[hW]at b1;obtain⟨rm,sa,sc,fs,ha,hc,fh⟩:=x;unfold PX.v;unfold PX.cells at hW⊢;dsimp only at hW b1⊢;clear h hB hlt hsv hlen hz
 go_enter Tryz.func33,Tryz.ntmps33
 go_wp2_with fail
 rw[<-hW];clear hW b1
 go_loopw[7] (λi wr=>∃(k:Nat) (x':PX),k<=n/\i=.int .i64 (k:Int)/\Hid (SvI w ⟨rm,sa,sc,fs,ha,hc,fh⟩ n S H k x' wr)) (λi _=>n-(intOf i).toNat)
 case atStart=>exact⟨0,_,Nat.zero_le _,rfl,HSV⟩
 case round=>
  obtain⟨k,x',hk,rfl,HI⟩:=hrel;obtain⟨rm',sa',sc',fs',ha',hc',fh'⟩:=x';have hb1:=HI.out.b1;unfold PX.cells at hb1;have k0:=hb1.cell 0;have k1:=hb1.cell 1;have k2:=hb1.cell 2;have z0:=hb1.frozen 0;have z1:=hb1.frozen 1;have z2:=hb1.frozen 2
  simp at k0 k1 k2
  by_cases hlt:k<n
  ·have ho:Calls Tryz.prog 32 #[.agg #[.int .i64 (rm':Int),.slice sa' n sc',.slice ha' n hc'],.int .i64 (k:Int)] wr λe w'=>∃x',e=.returned (x'.v n)/\PNew n ⟨rm',sa',sc',fs',ha',hc',fh'⟩ (upd (outS S H k) k (outS S H k k++outH H k k)) (upd (outH H k) k []) wr w' x':=by
    have:=out24_any HI.out.at_ k hlt hn (by have:=HLN.out k hlt;simp[outS,outH];omega);unfold PX.v PX.cells at this;unfold PX.v PX.cells;exact this
   rw[outS_next,outH_next]at ho;have HO:=jq ho;clear ho hb1
   go_wp2_with fail
   refine HO.out.mono ?_;rintro e w2 ⟨⟨rm2,sa2,sc2,fs2,ha2,hc2,fh2⟩,rfl,hrm,hat,hnew,hB2⟩;have hb12:=HI.out.b1.below hB2 HI.out.b1.lt;have hb22:=HI.out.b2.below hB2 HI.out.b2.lt;unfold PX.cells at hb12;have q0:=hb12.cell 0;have q1:=hb12.cell 1;have q2:=hb12.cell 2;have y0:=hb12.frozen 0;have y1:=hb12.frozen 1;have y2:=hb12.frozen 2
   simp at q0 q1 q2
   have HAT:=jq hat;have HNEW:=jq hnew;have HB2:=jq hB2;have HB12:=jq hb12;have HB22:=jq hb22;dsimp only at hrm;subst hrm;clear hat hnew hB2 hb12 hb22;unfold PX.v PX.cells;dsimp only
   go_wp2_with fail
   go_roundw
   case rel=>
    obtain⟨s1,s2⟩:=box3_set HB12.out (.int .i64 (rm2:Int)) (.slice sa2 n sc2) (.slice ha2 n hc2);have hzr:=HI.out.size;have hz2:=HB2.out.size;refine⟨k+1,⟨rm2,sa2,sc2,fs2,ha2,hc2,fh2⟩,by omega,by go_num,jq ⟨HI.out.rm,s1,HB22.out.upon s2 (by omega),HAT.out.upon s2 (λq hq e=>?_),λq hq=>?_,HI.out.below.trans ((HB2.out.mono (by omega)).trans (s2.below (by omega) (λq hq=>by omega))),by have:=s2.size;omega⟩⟩
    ·rcases HNEW.out q hq with h1|h1
     ·rcases HI.out.new q h1 with h2|h2
      ·have:=HLT.out q h2
       omega
      ·omega
     ·omega
    ·rcases HNEW.out q hq with h1|h1
     ·exact HI.out.new q h1
     ·exact .inr (by omega)
   case measure=>simp[intOf];omega
  ·obtain rfl:k=n:=by omega
   have hb2:=HI.out.b2;have q0:=hb2.cell 0;have q1:=hb2.cell 1;have q2:=hb2.cell 2;have y0:=hb2.frozen 0;have y1:=hb2.frozen 1;have y2:=hb2.frozen 2
   simp at q0 q1 q2
   obtain⟨s1,s2⟩:=box3_set hb2 (.int .i64 (rm':Int)) (.slice sa' k sc') (.slice ha' k hc');have g0:=s1.cell 0;have g1:=s1.cell 1;have g2:=s1.cell 2
   simp at g0 g1 g2
   have HS2:=jq s2;clear hb2 s1 s2 hb1
   go_wp2_with fail
   refine bodyPost_ret (v:=.agg #[.int .i64 (rm':Int),.slice sa' k sc',.slice ha' k hc']) (by simp[results,Tryz.f33,go_sem,g0,g1,g2]) rfl ⟨⟨rm',sa',sc',fs',ha',hc',fh'⟩,rfl,HI.out.rm,HI.out.at_.upon HS2.out (λq hq e=>?_),λq hq=>(HI.out.new q hq).imp id (λh=>by omega),HI.out.below.trans (HS2.out.below (HI.out.below.size) (λq hq=>by omega))⟩;rcases HI.out.new q hq with h2|h2
   ·have:=HLT.out q h2
    omega
   ·omega
end Pool
namespace Pool
open Go.RowKit Go.Deep Mem Crc Walk
theorem upd_upd (S:Rows) (i:Nat) (a b:List (List Nat)):upd (upd S i a) i b=upd S i b:=by
 funext j
 unfold upd
 split <;> rfl
theorem lowA_one (g o c:Nat):lowA (some ⟨g,o,none⟩) c 1=if c=1 then some ⟨g,o,none⟩else some ⟨g,o+7,none⟩:=by
 unfold lowA;have e: (⟨g,o,none⟩:Addr).add (1*7)=⟨g,o+7,none⟩:=by unfold Addr.add;split <;> simp_all
 simp only[Option.map_some,e]
structure TkI (w:World) (x:PX) (n:Nat) (S H:Rows) (L:List (List Nat)) (o:Value) (x1:PX) (V:World):Prop where
 rm:x1.rm=x.rm
 b0:Blk V w.heap.size 40 (x1.cells n)
 b2:Blk V (w.heap.size+1) 40 #[.int .i64 0,.slice none 0 0,.slice none 0 0]
 at_:PIn V x1 n S H
 own:OwnW V (w.heap.size+2) o L
 new:∀q,PB x1 n q->PB x n q\/w.heap.size+3<=q
 ne:∀q,PB x1 n q->o.ownBlock≠some q
 below:Below w.heap.size w V
 size:w.heap.size+3<=V.heap.size
variable {w V V':World} {x x1:PX} {n:Nat} {S H:Rows} {L:List (List Nat)} {o:Value}
theorem TkI.push (h:TkI w x n S H L o x1 V) {V2 w5:World} {a5:Option Addr} {c5:Nat} {y:List Nat} (hBV:Below V.heap.size V V2) (hO:w5.ownsRow (w.heap.size+2) 26 7 (.slice a5 (L.length+1) c5) (L.length+1) (flatW L++vals y)) (hg:V2.grownBy w5 o.ownBlock) (hb:∀k,(Value.slice a5 (L.length+1) c5).ownBlock=some k->o.ownBlock=some k\/V2.heap.size<=k):
  TkI w x n S H (L++ [y]) (.slice a5 (L.length+1) c5) x1 w5:=by
 have hz:=hBV.size;have hs:=h.size;have hu:Upon (λq=>o.ownBlock=some q) V w5:=(Upon.of_below (P:=λq=>o.ownBlock=some q) hBV).trans (Upon.of_grown (P:=λq=>o.ownBlock=some q) hg (λg e=>.inl e)) (λg hg=>.inl hg);have hbase:∀q,o.ownBlock=some q->w.heap.size+2<=q:=λq hq=>(h.own.lt q hq).1
 refine⟨h.rm,h.b0.upon hu (λe=>by have:=hbase _ e;omega),h.b2.upon hu (λe=>by have:=hbase _ e;omega),h.at_.upon hu (λq hq e=>h.ne q hq e),?_,h.new,λq hq e=>?_,h.below.trans (hu.below h.below.size (λq hq=>by have:=hbase q hq;omega)),Nat.le_trans hs hu.size⟩
 ·show World.ownsRow w5 (w.heap.size+2) 26 7 _ (L++ [y]).length (flatW (L++ [y]));rw[flatW_snoc,jL];exact hO
 ·rcases hb q e with h1|h1
  ·exact h.ne q hq h1
  ·have h2:q<V.heap.size:=hq.elim (h.at_.s.lt q) (h.at_.h.lt q)
   omega
theorem TkI.turn (h:TkI w x n S H L o x1 V) (hlt:∀q,PB x n q->q<w.heap.size) {S' H':Rows} {x2:PX} {V6 V7:World} (hB:Below V.heap.size V V6) (hu:Upon (λq=>q=w.heap.size) V6 V7) (hb:Blk V7 w.heap.size 40 (x2.cells n)) (hr:x2.rm=x1.rm) (ha:PIn V6 x2 n S' H') (hn:∀q,PB x2 n q->PB x1 n q\/V.heap.size<=q):TkI w x n S' H' L o x2 V7:=by
 have hz:=hB.size;have hs:=h.size
 have hlt2:∀q,PB x2 n q->q≠w.heap.size:=λq hq e=>by
  rcases hn q hq with h1|h1
  ·rcases h.new q h1 with h2|h2
   ·have:=hlt q h2
    omega
   ·omega
  ·omega
 refine⟨hr.trans h.rm,hb,(h.b2.below hB h.b2.lt).upon hu (by omega),ha.upon hu hlt2,own_upon (own_later h.own hB) hu (λg hg e=>?_),λq hq=>?_,λq hq e=>?_,h.below.trans ((hB.mono h.below.size).trans (hu.below (by omega) (λq hq=>by omega))),Nat.le_trans hs (Nat.le_trans hz hu.size)⟩
 ·have:=(h.own.lt g hg).1
  omega
 ·rcases hn q hq with h1|h1
  ·exact h.new q h1
  ·exact .inr (by omega)
 ·rcases hn q hq with h1|h1
  ·exact h.ne q h1 e
  ·have:=(h.own.lt q e).2
   omega
attribute [local go_sem] Oper.semAt_some
theorem take24_any (h:PIn w x n S H) (i:Nat) (hi:i<n) (hn:n<=4096) (most:Nat) (hm:most<=9223372036854775807) (hlen: (S i).length+(H i).length<=20000):
  Calls Tryz.prog 29 #[x.v n,.int .i64 (i:Int),.int .i64 (most:Int)] w λe w'=>∃x' v,e=.returned (.tuple #[x'.v n,v])/\PNew n x (upd S i ((S i).drop most)) (upd H i ((H i).drop (most-(S i).length))) w w' x'/\OwnW w' w.heap.size v ((S i++H i).take most):=by
 obtain⟨rm,sa,sc,fs,ha,hc,fh⟩:=x;unfold PX.v PX.cells;dsimp only;obtain⟨W,hW⟩:=jl (((w.alloc (.cells #[.int .i64 (rm:Int),.slice sa n sc,.slice ha n hc] 40)).alloc (.cells #[.int .i64 0,.slice none 0 0,.slice none 0 0] 40)).alloc (.cells #[] 26));have hB:Below w.heap.size w W:=by rw[hW];exact(((Below.refl _ w).alloc jn _).alloc (by simp) _).alloc (by simp;omega) _
 have hlt:∀q,PB ⟨rm,sa,sc,fs,ha,hc,fh⟩ n q->q<w.heap.size:=λk hk=>hk.elim (h.s.lt k) (h.h.lt k)
 have hI:TkI w ⟨rm,sa,sc,fs,ha,hc,fh⟩ n (upd S i ((S i).drop 0)) H ((S i).take 0) (.slice (some ⟨w.heap.size+1+1,0,none⟩) 0 0) ⟨rm,sa,sc,fs,ha,hc,fh⟩ W:=by
  refine⟨rfl,?_,?_,by rw[List.drop_zero,upd_id];exact h.later hB,?_,λq hq=>.inl hq,λq hq e=>?_,hB,by rw[hW];simp⟩
  ·rw[hW];exact((Blk.new w _ _).alloc _).alloc _
  ·rw[hW];exact(Blk.at_ (by simp)).alloc _
  ·rw[hW];have:=own_empty ((w.alloc (.cells #[.int .i64 (rm:Int),.slice sa n sc,.slice ha n hc] 40)).alloc (.cells #[.int .i64 0,.slice none 0 0,.slice none 0 0] 40)) 26 7;simp only[World.size_alloc]at this;exact this
  ·have:=hlt q hq;have e:w.heap.size+1+1=q:=by simpa[Value.ownBlock]using e
   omega
 have HI:=jq hI;have HLT:=jq hlt;have HP0:=jq h;clear h hB hI hlt
 go_enter Tryz.func29,Tryz.ntmps29
 go_wp2_with fail
 rw[<-hW];clear hW
 go_loopw[8] (λo wr=>∃(j:Nat) (x1:PX) (oa:Option Addr) (oc:Nat),j<=most/\j<=(S i).length/\o=.slice oa j oc/\Hid (TkI w ⟨rm,sa,sc,fs,ha,hc,fh⟩ n (upd S i ((S i).drop j)) H ((S i).take j) o x1 wr)) (λo _=>(S i).length-Walk.lenOf o)
 case atStart=>exact⟨0,_,_,_,Nat.zero_le _,Nat.zero_le _,rfl,HI⟩
 case round=>
  obtain⟨j,⟨rm1,sa1,sc1,fs1,ha1,hc1,fh1⟩,oa,oc,hjm,hjl,rfl,HT⟩:=hrel;have hb0:=HT.out.b0;unfold PX.cells at hb0;have k0:=hb0.cell 0;have k1:=hb0.cell 1;have k2:=hb0.cell 2
  simp at k0 k1 k2
  obtain⟨gs,os,he0,hgs,cs⟩:=HT.out.at_.s.at hi;dsimp only at he0 cs;subst he0;rw[upd_same,List.length_drop]at cs;obtain⟨N,hN⟩:=jl ((S i).length);rw[<-hN]at cs hjl hlen⊢;have HN:=jq hN;clear hN hb0
  by_cases hgo:j<most/\j<N
  ·have hjm2:=hgo.1;have hjl2:=hgo.2;have d1:decide ((j:Int) <(most:Int))=true:=jd (by omega);have d2:decide ((0:Int) <((N-j:Nat):Int))=true:=jd (by omega);clear hgo;have hjS:j<(S i).length:=by rw[<-HN.out];exact hjl2
   obtain⟨y,hy⟩:=jl ((S i)[j]);have hdr: (S i).drop j=y ::(S i).drop (j+1):=by rw[hy];exact List.drop_eq_getElem_cons hjS
   have htk: (S i).take (j+1)=(S i).take j++ [y]:=by rw[hy,List.take_succ_eq_append_getElem hjS]
   have hyo:ok y:=HP0.out.okS i hi y (by rw[hy];exact List.getElem_mem hjS);have hrow:=HT.out.at_.s.each i hi;rw[upd_same]at hrow;have hokd:∀z∈(S i).drop j,ok z:=λz hz=>HP0.out.okS i hi z (List.mem_of_mem_drop hz)
   obtain⟨g0,o0,hra,hcs⟩:=walker_at hokd hrow.1 (k:=0) (x:=y) (by rw[hdr];rfl);obtain⟨rc,hrc⟩:=jl ((fs1 i).2);have hcap:N-j<=rc:=by have:=hrow.2;rw[List.length_drop,<-HN.out]at this;rw[hrc];exact this
   dsimp only at hra;rw[hra,<-hrc]at cs;obtain⟨a,b,c,d,e,f,g,hye⟩:=ok_seven hyo;have hv: (vals y).toArray=#[.int .u32 (a:Int),.int .u32 (b:Int),.int .u32 (c:Int),.int .u32 (d:Int),.int .u32 (e:Int),.int .u32 (f:Int),.int .u32 (g:Int)]:=by rw[hye];rfl
   have hvl:vals y= [.int .u32 (a:Int),.int .u32 (b:Int),.int .u32 (c:Int),.int .u32 (d:Int),.int .u32 (e:Int),.int .u32 (f:Int),.int .u32 (g:Int)]:=by rw[hye];rfl
   rw[hvl]at hcs;have p0:=hcs 0 _ rfl;have p1:=hcs 1 _ rfl;have p2:=hcs 2 _ rfl;have p3:=hcs 3 _ rfl;have p4:=hcs 4 _ rfl;have p5:=hcs 5 _ rfl;have p6:=hcs 6 _ rfl;simp only[Nat.zero_mul,Nat.zero_add,Nat.add_zero]at p0 p1 p2 p3 p4 p5 p6;have hBV:Below wr.heap.size wr (wr.alloc (.cells #[.int .u32 (a:Int),.int .u32 (b:Int),.int .u32 (c:Int),.int .u32 (d:Int),.int .u32 (e:Int),.int .u32 (f:Int),.int .u32 (g:Int)] 26)):=(Below.refl _ wr).alloc jn _;have hown:=own_later HT.out.own hBV;have hjt: ((S i).take j).length=j:=by rw[jT,<-HN.out];omega
   have hnl:=new_lies wr 26 #[.int .u32 (a:Int),.int .u32 (b:Int),.int .u32 (c:Int),.int .u32 (d:Int),.int .u32 (e:Int),.int .u32 (f:Int),.int .u32 (g:Int)];have hsz:=HT.out.size
   obtain⟨a5,c5,w5,hr5,hO5,hg5,hb5⟩:=run_append_walkers _ 54 (w.heap.size+2) _ ((S i).take j).length _ hown (some ⟨wr.heap.size,0,none⟩) 1 1 (vals y) (by rw[vals_length,hyo.1]) (by rw[hvl];exact hnl) (λu hu=>by
    obtain⟨m,_,rfl⟩:=List.mem_map.1 hu
    rfl) (by rw[hjt];omega) (by simp;omega)
   have hT5:=HT.out.push (y:=y) hBV hO5 hg5 hb5;rw[hjt]at hr5 hT5;rw[<-htk]at hT5;have hb50:=hT5.b0;unfold PX.cells at hb50;have q1:=hb50.cell 1;have q2:=hb50.cell 2;have z1:=hb50.frozen 1
   simp at q1 q2
   have cs5:w5.cell? ⟨gs,os+i,none⟩=some (.slice (some ⟨g0,o0,none⟩) (N-j) rc):=by
    obtain⟨g',o',e',_,hc'⟩:=hT5.at_.s.at hi;dsimp only at e' hc';injection e' with e';injection e' with e1 e2;subst e1 e2;rw[upd_same,List.length_drop,<-HN.out,hra,<-hrc]at hc';exact hc'
   have hll:=λW=>low_lies (a:=some ⟨g0,o0,none⟩) (len:=N-j) (cap:=rc) (m:=1) (by omega) hcap W ((S i).drop j) hokd (by rw[List.length_drop,<-HN.out])
   have hrow5:=hT5.at_.s.each i hi;rw[upd_same]at hrow5;dsimp only at hrow5;rw[hra]at hrow5;have hla:=hll _ hrow5.1;rw[List.drop_drop]at hla;have hB5d:Below w5.heap.size w5 w5.drew:=(Below.refl _ w5).drew;have hw5:=with_any (hT5.at_.s.later hB5d) sc1 i hi hn (lowA (some ⟨g0,o0,none⟩) rc 1) (rc-1) ((S i).drop (j+1)) (hla.later hB5d) (by rw[List.length_drop,<-HN.out];omega) (λq hq=>hT5.at_.s.lt q (.inr ⟨i,hi,by dsimp only;rw[hra];exact lowA_blk hq⟩));rw[List.length_drop,<-HN.out,show N-(j+1)=N-j-1 by omega,lowA_one]at hw5;have h1N: (1:Int)<=((N-j:Nat):Int):=by omega
   have HW5:=jq hw5;have HT5:=jq hT5;have HRA:=jq hra;clear hw5 hT5 hra hla hrow5 hll hb50 hO5 hg5 hb5 hnl hown hBV hcs hv hvl hye hrow hokd hyo hdr htk hjS hy hjt hB5d hrc
   go_wp2_with (first|(at_builtin;refine Lib.wpList_append_run _ rfl _ _ _ _ rfl _ _ rfl rfl _ _ hr5 ?_))
   clear p0 p1 p2 p3 p4 p5 p6 k0 k1 k2 cs hr5
   go_region_law ((first|(go_simp;go_at_call 60;refine HW5.out.mono ?_;rintro e w6 ⟨a6,c6,rfl,hk6,hf6,hc6,hB6⟩;have hb6:=(HT5.out.b0.drew).below hB6 (HT5.out.b0.drew).lt;unfold PX.cells at hb6;have k61:=hb6.cell 1;have z61:=hb6.frozen 1;simp at k61;have HB6:=jq hB6;have HK6:=jq hk6;have HF6:=jq hf6;have HBX:=jq hb6;clear hB6 hk6 hf6 hb6;dsimp only)))
   all_goals
    go_wp2_with fail
    go_roundw
    case rel=>
     have hB56:Below w5.heap.size w5 w6:=((Below.refl _ w5).drew).trans HB6.out
     have hT6:=HT5.out.turn (x2:=⟨rm1,a6,c6,updl fs1 i (if rc=1 then some ⟨g0,o0,none⟩else some ⟨g0,o0+7,none⟩,rc-1),ha1,hc1,fh1⟩) HLT.out hB56 (Upon.set (P:=λq=>q=w.heap.size) (p:=⟨w.heap.size,1,none⟩) (Upon.refl _ _) (.inl rfl) (.slice a6 n c6)) (HBX.out.set 1 _) rfl ⟨HK6.out,HT5.out.at_.h.later hB56,ok_upd HT5.out.at_.okS (λz hz=>HP0.out.okS i hi z (List.mem_of_mem_drop hz)),HT5.out.at_.okH⟩ (λq hq=>by
      rcases hq with hq|hq
      ·rcases rwb_upd (a:=some ⟨gs,os,none⟩) hq with h1|h1|h1
       ·exact .inr (HF6.out q h1)
       ·exact .inl (.inl h1)
       ·exact .inl (.inl (.inr ⟨i,hi,by dsimp only;rw[HRA.out];rw[<-lowA_one]at h1;exact lowA_blk h1⟩))
      ·exact .inl (.inr hq))
     rw[upd_upd]at hT6;exact⟨j+1,_,_,_,by omega,by omega,by go_num,jq hT6⟩
    case measure=>simp[Walk.lenOf];omega
  ·obtain⟨K,hK⟩:=jl ((H i).length);obtain⟨T2,hT2⟩:=jl ((S i).take most);obtain⟨M0,hM0⟩:=jl T2.length;have hjmin:j=min most N:=by omega
   have hM0j:M0=j:=by rw[hM0,hT2,jT,<-HN.out,hjmin]
   have hdr: (S i).drop j=(S i).drop most:=by rw[hjmin,HN.out];exact drop_min _ _
   have htk: (S i).take j=T2:=by rw[hjmin,HN.out,hT2];exact take_min _ _
   have hT0:=HT.out;rw[hdr,htk]at hT0
   have HT0:Hid (TkI w ⟨rm,sa,sc,fs,ha,hc,fh⟩ n (upd S i ((S i).drop most)) (upd H i ((H i).drop 0)) (T2++(H i).take 0) (.slice oa j oc) ⟨rm1,some ⟨gs,os,none⟩,sc1,fs1,ha1,hc1,fh1⟩ wr):=jq (by
    rw[List.take_zero,List.append_nil,List.drop_zero,upd_id];exact hT0)
   have HK:=jq hK;have HM0:=jq hM0;have HT2:=jq hT2;have hKl:K<=20000:=by omega
   have hM0l:M0<=20000:=by omega
   have hM0m:M0<=most:=by omega
   have hd:decide (j<most)=false\/(decide (j<most)=true/\decide (0<N-j)=false):=by
    by_cases hjm2:j<most
    ·exact .inr ⟨jd (by omega),jf (by omega)⟩
    ·exact .inl (jf (by omega))
   have HN3:=jq (show M0=min most N by omega);clear hK hM0 hT2 hjmin hdr htk hT0 hgo;rcases hd with d1|⟨d1,d2⟩
   all_goals
    go_wp2_with fail
    subst hM0j
    go_loopw[8] (λo wr=>∃(j t:Nat) (x1:PX) (oa:Option Addr) (oc:Nat),t<=most/\j<=K/\Hid (t=M0+j)/\o=.slice oa t oc/\Hid (TkI w ⟨rm,sa,sc,fs,ha,hc,fh⟩ n (upd S i ((S i).drop most)) (upd H i ((H i).drop j)) (T2++(H i).take j) o x1 wr)) (λo _=>M0+K-Walk.lenOf o)
    case atStart=>exact⟨0,M0,_,_,_,hM0m,Nat.zero_le _,jq rfl,rfl,HT0⟩
    case round=>
     obtain⟨j,t,⟨rm1,sa1,sc1,fs1,ha1,hc1,fh1⟩,oa,oc,hjm,hjl,HTT,rfl,HT⟩:=hrel;have hb0:=HT.out.b0;unfold PX.cells at hb0;have k0:=hb0.cell 0;have k1:=hb0.cell 1;have k2:=hb0.cell 2
     simp at k0 k1 k2
     obtain⟨gs,os,he0,hgs,cs⟩:=HT.out.at_.h.at hi;dsimp only at he0 cs;subst he0;rw[upd_same,List.length_drop,<-HK.out]at cs;clear hb0
     by_cases hgo:t<most/\j<K
     ·have hjm2:=hgo.1;have hjl2:=hgo.2;have d1':decide (t<most)=true:=jd (by omega);have d2':decide (0<K-j)=true:=jd (by omega);have htb:t<=40000:=by rw[HTT.out];omega
      clear hgo d1;have hjS:j<(H i).length:=by rw[<-HK.out];exact hjl2
      obtain⟨y,hy⟩:=jl ((H i)[j]);have hdr: (H i).drop j=y ::(H i).drop (j+1):=by rw[hy];exact List.drop_eq_getElem_cons hjS
      have htk:T2++(H i).take (j+1)=(T2++(H i).take j)++ [y]:=by rw[hy,List.take_succ_eq_append_getElem hjS,List.append_assoc]
      have hyo:ok y:=HP0.out.okH i hi y (by rw[hy];exact List.getElem_mem hjS);have hrow:=HT.out.at_.h.each i hi;rw[upd_same]at hrow;have hokd:∀z∈(H i).drop j,ok z:=λz hz=>HP0.out.okH i hi z (List.mem_of_mem_drop hz)
      obtain⟨g0,o0,hra,hcs⟩:=walker_at hokd hrow.1 (k:=0) (x:=y) (by rw[hdr];rfl);obtain⟨rc,hrc⟩:=jl ((fh1 i).2);have hcap:K-j<=rc:=by have:=hrow.2;rw[List.length_drop,<-HK.out]at this;rw[hrc];exact this
      dsimp only at hra;rw[hra,<-hrc]at cs;obtain⟨a,b,c,d,e,f,g,hye⟩:=ok_seven hyo;have hv: (vals y).toArray=#[.int .u32 (a:Int),.int .u32 (b:Int),.int .u32 (c:Int),.int .u32 (d:Int),.int .u32 (e:Int),.int .u32 (f:Int),.int .u32 (g:Int)]:=by rw[hye];rfl
      have hvl:vals y= [.int .u32 (a:Int),.int .u32 (b:Int),.int .u32 (c:Int),.int .u32 (d:Int),.int .u32 (e:Int),.int .u32 (f:Int),.int .u32 (g:Int)]:=by rw[hye];rfl
      rw[hvl]at hcs;have p0:=hcs 0 _ rfl;have p1:=hcs 1 _ rfl;have p2:=hcs 2 _ rfl;have p3:=hcs 3 _ rfl;have p4:=hcs 4 _ rfl;have p5:=hcs 5 _ rfl;have p6:=hcs 6 _ rfl;simp only[Nat.zero_mul,Nat.zero_add,Nat.add_zero]at p0 p1 p2 p3 p4 p5 p6;have hBV:Below wr.heap.size wr (wr.alloc (.cells #[.int .u32 (a:Int),.int .u32 (b:Int),.int .u32 (c:Int),.int .u32 (d:Int),.int .u32 (e:Int),.int .u32 (f:Int),.int .u32 (g:Int)] 26)):=(Below.refl _ wr).alloc jn _;have hown:=own_later HT.out.own hBV;have hjt: (T2++(H i).take j).length=t:=by rw[jL,jT,<-HK.out,<-HM0.out,HTT.out];omega
      have hnl:=new_lies wr 26 #[.int .u32 (a:Int),.int .u32 (b:Int),.int .u32 (c:Int),.int .u32 (d:Int),.int .u32 (e:Int),.int .u32 (f:Int),.int .u32 (g:Int)];have hsz:=HT.out.size
      obtain⟨a5,c5,w5,hr5,hO5,hg5,hb5⟩:=run_append_walkers _ 54 (w.heap.size+2) _ (T2++(H i).take j).length _ hown (some ⟨wr.heap.size,0,none⟩) 1 1 (vals y) (by rw[vals_length,hyo.1]) (by rw[hvl];exact hnl) (λu hu=>by
       obtain⟨m,_,rfl⟩:=List.mem_map.1 hu
       rfl) (by rw[hjt];omega) (by simp;omega)
      have hT5:=HT.out.push (y:=y) hBV hO5 hg5 hb5;rw[hjt]at hr5 hT5;rw[<-htk]at hT5;have hb50:=hT5.b0;unfold PX.cells at hb50;have q1:=hb50.cell 1;have q2:=hb50.cell 2;have z1:=hb50.frozen 2
      simp at q1 q2
      have cs5:w5.cell? ⟨gs,os+i,none⟩=some (.slice (some ⟨g0,o0,none⟩) (K-j) rc):=by
       obtain⟨g',o',e',_,hc'⟩:=hT5.at_.h.at hi;dsimp only at e' hc';injection e' with e';injection e' with e1 e2;subst e1 e2;rw[upd_same,List.length_drop,<-HK.out,hra,<-hrc]at hc';exact hc'
      have hll:=λW=>low_lies (a:=some ⟨g0,o0,none⟩) (len:=K-j) (cap:=rc) (m:=1) (by omega) hcap W ((H i).drop j) hokd (by rw[List.length_drop,<-HK.out])
      have hrow5:=hT5.at_.h.each i hi;rw[upd_same]at hrow5;dsimp only at hrow5;rw[hra]at hrow5;have hla:=hll _ hrow5.1;rw[List.drop_drop]at hla;have hB5d:Below w5.heap.size w5 w5.drew:=(Below.refl _ w5).drew;have hw5:=with_any (hT5.at_.h.later hB5d) hc1 i hi hn (lowA (some ⟨g0,o0,none⟩) rc 1) (rc-1) ((H i).drop (j+1)) (hla.later hB5d) (by rw[List.length_drop,<-HK.out];omega) (λq hq=>hT5.at_.h.lt q (.inr ⟨i,hi,by dsimp only;rw[hra];exact lowA_blk hq⟩));rw[List.length_drop,<-HK.out,show K-(j+1)=K-j-1 by omega,lowA_one]at hw5;have h1N: (1:Int)<=((K-j:Nat):Int):=by omega
      have HW5:=jq hw5;have HT5:=jq hT5;have HRA:=jq hra;clear hw5 hT5 hra hla hrow5 hll hb50 hO5 hg5 hb5 hnl hown hBV hcs hv hvl hye hrow hokd hyo hdr htk hjS hy hjt hB5d hrc
      go_wp2_with (first|(at_builtin;refine Lib.wpList_append_run _ rfl _ _ _ _ rfl _ _ rfl rfl _ _ hr5 ?_))
      clear p0 p1 p2 p3 p4 p5 p6 k0 k1 k2 cs hr5
      go_region_law ((first|(go_simp;go_at_call 60;refine HW5.out.mono ?_;rintro e w6 ⟨a6,c6,rfl,hk6,hf6,hc6,hB6⟩;have hb6:=(HT5.out.b0.drew).below hB6 (HT5.out.b0.drew).lt;unfold PX.cells at hb6;have k61:=hb6.cell 2;have z61:=hb6.frozen 2;simp at k61;have HB6:=jq hB6;have HK6:=jq hk6;have HF6:=jq hf6;have HBX:=jq hb6;clear hB6 hk6 hf6 hb6;dsimp only)))
      all_goals
       go_wp2_with fail
       go_roundw
       case rel=>
        have hB56:Below w5.heap.size w5 w6:=((Below.refl _ w5).drew).trans HB6.out
        have hT6:=HT5.out.turn (x2:=⟨rm1,sa1,sc1,fs1,a6,c6,updl fh1 i (if rc=1 then some ⟨g0,o0,none⟩else some ⟨g0,o0+7,none⟩,rc-1)⟩) HLT.out hB56 (Upon.set (P:=λq=>q=w.heap.size) (p:=⟨w.heap.size,2,none⟩) (Upon.refl _ _) (.inl rfl) (.slice a6 n c6)) (HBX.out.set 2 _) rfl ⟨HT5.out.at_.s.later hB56,HK6.out,HT5.out.at_.okS,ok_upd HT5.out.at_.okH (λz hz=>HP0.out.okH i hi z (List.mem_of_mem_drop hz))⟩ (λq hq=>by
         rcases hq with hq|hq
         ·exact .inl (.inl hq)
         ·rcases rwb_upd (a:=some ⟨gs,os,none⟩) hq with h1|h1|h1
          ·exact .inr (HF6.out q h1)
          ·exact .inl (.inr h1)
          ·exact .inl (.inr (.inr ⟨i,hi,by dsimp only;rw[HRA.out];rw[<-lowA_one]at h1;exact lowA_blk h1⟩)))
        rw[upd_upd]at hT6;exact⟨j+1,t+1,_,_,_,by omega,by omega,jq (by rw[HTT.out];omega),by go_num,jq hT6⟩
       case measure=>
        have:=HTT.out
        simp[Walk.lenOf]
        omega
     ·have htt:=HTT.out;have hn3:=HN3.out;have hj3:j=min (most-N) K:=by omega
      have hd':decide (t<most)=false\/(decide (t<most)=true/\decide (0<K-j)=false):=by
       by_cases hjm2:t<most
       ·exact .inr ⟨jd (by omega),jf (by omega)⟩
       ·exact .inl (jf (by omega))
      have hS2: (H i).drop j=(H i).drop (most-(S i).length):=by rw[hj3,HK.out,HN.out];exact drop_min _ _
      have hL2:T2++(H i).take j=(S i++H i).take most:=by
       rw[take_two,<-HN.out,<-HK.out,HT2.out,show(S i).take (min most N)=(S i).take most by rw[HN.out];exact take_min _ _]
       congr 2
       omega
      have hT3:=HT.out;rw[hS2,hL2]at hT3;have q0:=hT3.b2.cell 0;have q1:=hT3.b2.cell 1;have q2:=hT3.b2.cell 2;have y0:=hT3.b2.frozen 0;have y1:=hT3.b2.frozen 1;have y2:=hT3.b2.frozen 2
      simp at q0 q1 q2
      obtain⟨s1,s2⟩:=box3_set hT3.b2 (.int .i64 (rm1:Int)) (.slice sa1 n sc1) (.slice (some ⟨gs,os,none⟩) n hc1);have g0:=s1.cell 0;have g1:=s1.cell 1;have g2:=s1.cell 2
      simp at g0 g1 g2
      have HT3:=jq hT3;have HS2:=jq s2;clear d1 htt hn3 hj3 hgo hS2 hL2 hT3 s1 s2;rcases hd' with d1'|⟨d1',d2'⟩
      all_goals
       go_wp2_with fail
       refine bodyPost_ret (v:=.tuple #[.agg #[.int .i64 (rm1:Int),.slice sa1 n sc1,.slice (some ⟨gs,os,none⟩) n hc1],.slice oa t oc]) (by simp[results,Tryz.f29,go_sem,g0,g1,g2]) rfl ⟨⟨rm1,sa1,sc1,fs1,some ⟨gs,os,none⟩,hc1,fh1⟩,_,rfl,⟨HT3.out.rm,HT3.out.at_.upon HS2.out (λq hq e=>?_),λq hq=>(HT3.out.new q hq).imp id (λh=>by omega),HT3.out.below.trans (HS2.out.below HT3.out.below.size (λq hq=>by omega))⟩,own_mono (own_upon HT3.out.own HS2.out (λq hq e=>?_)) (by omega)⟩
       ·have hsz:=HT3.out.size;rcases HT3.out.new q hq with h1|h1
        ·have:=HLT.out q h1
         omega
        ·omega
       ·have:=(HT3.out.own.lt q hq).1
        omega
end Pool
end Go.Proofs.YtfgjnpbffppocaaGreatDoor
