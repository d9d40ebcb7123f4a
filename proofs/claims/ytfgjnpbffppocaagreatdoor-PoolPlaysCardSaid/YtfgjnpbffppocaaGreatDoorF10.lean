/- Part. -/
import Derived.Test.YtfgjnpbffppocaaGreatDoorF0
import Derived.Test.YtfgjnpbffppocaaGreatDoorF0Q
import Derived.Test.YtfgjnpbffppocaaGreatDoorF4
import Derived.Test.YtfgjnpbffppocaaGreatDoorF9
import Derived.Deep.DeepCutAuto
import Derived.Deep.QuietTactic
set_option maxHeartbeats 4000000
set_option maxRecDepth 100000
namespace Go.Proofs.YtfgjnpbffppocaaGreatDoor
namespace Pool
open Go.RowKit Go.Deep Mem Crc Walk
def rb (H:Rows):Nat->Nat
 |0=>0
 |k+1=>if(H (rb H k)).length<(H k).length then k else rb H k
theorem rb_lt (H:Rows):∀k,0<k->rb H k<k
 |0,h=>absurd h (by omega)
 |k+1,_=>by
  unfold rb
  by_cases h0: (H (rb H k)).length<(H k).length
  ·rw[if_pos h0];omega
  ·rw[if_neg h0]
   by_cases hk:0<k
   ·have:=rb_lt H k hk;omega
   ·obtain rfl:k=0:=by omega
    exact Nat.one_pos
def fulS (rm:Nat) (S H:Rows) (n:Nat):Rows:=if many H n=rm then upd S (rb H n) (S (rb H n)++H (rb H n))else S
def fulH (rm:Nat) (H:Rows) (n:Nat):Rows:=if many H n=rm then upd H (rb H n) []else H
structure PutI (w:World) (x:PX) (n:Nat) (S H:Rows) (y:List Nat) (x1:PX) (V:World):Prop where
 rm:x1.rm=x.rm
 b0:Blk V w.heap.size 40 (x1.cells n)
 b1:Blk V (w.heap.size+1) 26 (vals y).toArray
 b2:Blk V (w.heap.size+2) 40 #[.int .i64 0,.slice none 0 0,.slice none 0 0]
 at_:PIn V x1 n S H
 new:∀q,PB x1 n q->PB x n q\/w.heap.size+3<=q
 below:Below w.heap.size w V
 size:w.heap.size+3<=V.heap.size
theorem PutI.later {w V V':World} {x x1:PX} {n:Nat} {S H:Rows} {y:List Nat} (h:PutI w x n S H y x1 V) (hB:Below V.heap.size V V'):PutI w x n S H y x1 V':=
 ⟨h.rm,h.b0.below hB h.b0.lt,h.b1.below hB h.b1.lt,h.b2.below hB h.b2.lt,h.at_.later hB,h.new,h.below.trans (hB.mono h.below.size),Nat.le_trans h.size hB.size⟩
attribute [local go_sem] Oper.semAt_some
theorem put24_any {w:World} {x:PX} {n:Nat} {S H:Rows} (h:PIn w x n S H) (i:Nat) (hi:i<n) (hn:n<=4096) (y:List Nat) (hy:ok y) (hlen:∀j,j<n->(S j).length+(H j).length<=20000) (hm:many H n<=1000000):
  Calls Tryz.prog 28 #[x.v n,.int .i64 (i:Int),.agg (vals y).toArray] w λe w'=>∃x',e=.returned (x'.v n)/\PNew n x (fulS x.rm S H n) (upd (fulH x.rm H n) i (fulH x.rm H n i++ [y])) w w' x':=by
 obtain⟨rm,sa,sc,fs,ha,hc,fh⟩:=x;obtain⟨a,b,c,d,e,f,g,hye⟩:=ok_seven hy;have hv: (vals y).toArray=#[.int .u32 (a:Int),.int .u32 (b:Int),.int .u32 (c:Int),.int .u32 (d:Int),.int .u32 (e:Int),.int .u32 (f:Int),.int .u32 (g:Int)]:=by rw[hye];rfl
 rw[hv];unfold PX.v PX.cells;dsimp only;obtain⟨W,hW⟩:=jl (((w.alloc (.cells #[.int .i64 (rm:Int),.slice sa n sc,.slice ha n hc] 40)).alloc (.cells #[.int .u32 (a:Int),.int .u32 (b:Int),.int .u32 (c:Int),.int .u32 (d:Int),.int .u32 (e:Int),.int .u32 (f:Int),.int .u32 (g:Int)] 26)).alloc (.cells #[.int .i64 0,.slice none 0 0,.slice none 0 0] 40));have hB:Below w.heap.size w W:=by rw[hW];exact(((Below.refl _ w).alloc jn _).alloc (by simp) _).alloc (by simp;omega) _
 have hI:PutI w ⟨rm,sa,sc,fs,ha,hc,fh⟩ n S H y ⟨rm,sa,sc,fs,ha,hc,fh⟩ W:=by
  refine⟨rfl,?_,?_,?_,h.later hB,λq hq=>.inl hq,hB,by rw[hW];simp⟩
  ·rw[hW];exact((Blk.new w _ _).alloc _).alloc _
  ·rw[hW,hv];exact(Blk.at_ (by simp)).alloc _
  ·rw[hW];exact Blk.at_ (by simp)
 have hlt:∀q,PB ⟨rm,sa,sc,fs,ha,hc,fh⟩ n q->q<w.heap.size:=λk hk=>hk.elim (h.s.lt k) (h.h.lt k)
 have HP0:=jq h;have HI:=jq hI;have HLT:=jq hlt;have HLN:=jq hlen;have HY:=jq hy;have HV:=jq hv
 have HMN:Hid (Calls Tryz.prog 10 #[.agg #[.int .i64 (rm:Int),.slice sa n sc,.slice ha n hc]] W.drew λe w'=>e=.returned (.int .i64 (many H n:Int))/\Below W.heap.size W w'):=jq (by
  have:=many24_any (h.later (hB.trans (((Below.refl _ W).drew).mono hB.size))) hn (by omega);unfold PX.v PX.cells at this;exact this.mono (λe w' hh=>⟨hh.1,((Below.refl _ W).drew).trans hh.2⟩))
 have hS0:W.drew.cell? ⟨w.heap.size,0,none⟩=some (.int .i64 (rm:Int))/\W.drew.cell? ⟨w.heap.size,1,none⟩=some (.slice sa n sc)/\W.drew.cell? ⟨w.heap.size,2,none⟩=some (.slice ha n hc):=⟨hI.b0.cell 0,hI.b0.cell 1,hI.b0.cell 2⟩;clear h hB hI hlt hlen hy hv hye
 go_enter Tryz.func28,Tryz.ntmps28
 go_wp2_with fail
 rw[<-hW];clear hW
 go_region_held3 (λw'=>w'.cell? ⟨w.heap.size,0,none⟩=some (.int .i64 (rm:Int))/\w'.cell? ⟨w.heap.size,1,none⟩=some (.slice sa n sc)/\w'.cell? ⟨w.heap.size,2,none⟩=some (.slice ha n hc)) (first|exact hS0|exact hS1) (first|(go_at_call 10;refine HMN.out.mono ?_;rintro e w1 ⟨rfl,hB1⟩;have hb1:=HI.out.b0.below hB1 HI.out.b0.lt;have hS1:w1.cell? ⟨w.heap.size,0,none⟩=some (.int .i64 (rm:Int))/\w1.cell? ⟨w.heap.size,1,none⟩=some (.slice sa n sc)/\w1.cell? ⟨w.heap.size,2,none⟩=some (.slice ha n hc):=⟨hb1.cell 0,hb1.cell 1,hb1.cell 2⟩;dsimp only))
 have HI1:=jq (HI.out.later hB1)
 go_upto_if 14 with(fail)
 go_cut[7,8,17,18] (λs7 s8 s17 s18 wx=>∃x1:PX,Hid (PutI w ⟨rm,sa,sc,fs,ha,hc,fh⟩ n (fulS rm S H n) (fulH rm H n) y x1 wx))
 case first=>
  by_cases he:many H n=rm
  ·have ht: ((many H n:Int)==(rm:Int))=true:=by rw[he];simp
   obtain⟨M,hM⟩:=jl (many H n);rw[<-hM]at ht⊢;have HE:=jq he;have c2:=HI1.out.b0.cell 2;unfold PX.cells at c2
   simp at c2
   rw[ht];clear hS0 hS1 hB1 hb1 hM he ht
   go_wp2_with fail
   go_loopw[7,18] (λs7 s18 wr=>∃(k q:Nat),k<=n/\s7=.int .i64 (rb H k:Int)/\s18=.int .i64 (k:Int)/\wr=w1.drewN q) (λ_ s18 _=>n-(intOf s18).toNat)
   case atStart=>exact⟨0,0,Nat.zero_le _,rfl,rfl,rfl⟩
   case round=>
    obtain⟨k,q,hk,rfl,rfl,rfl⟩:=hrel
    by_cases hlt:k<n
    ·obtain⟨g0,o0,e0,_,ck⟩:=HI1.out.at_.h.at hlt
     obtain⟨g1,o1,e1,_,cb⟩:=HI1.out.at_.h.at (show rb H k<n by
      by_cases h0:0<k
      ·have:=rb_lt H k h0;omega
      ·obtain rfl:k=0:=by omega
       exact hlt)
     dsimp only at e0 e1 ck cb;subst e0;injection e1 with e1;injection e1 with e1 e2;subst e1 e2;obtain⟨B,hBe⟩:=jl (rb H k);obtain⟨lk,hlk⟩:=jl ((H k).length);obtain⟨lb,hlb⟩:=jl ((H B).length)
     have hBn:B<n:=by
      rw[hBe]
      by_cases h0:0<k
      ·have:=rb_lt H k h0;omega
      ·obtain rfl:k=0:=by omega
       exact hlt
     have hnx:rb H (k+1)=if lb<lk then k else B:=by rw[hlb,hlk,hBe];rfl
     rw[<-hBe]at cb⊢;rw[<-hlb]at cb;rw[<-hlk]at ck;have HNX:=jq hnx;clear hnx hBe hlk hlb
     by_cases hb:lb<lk
     ·have hd:decide ((lb:Int) <(lk:Int))=true:=by simpa using hb
      go_wp2_with fail
      go_quiet (fail)
      go_wp2_with fail
      go_roundw
      case rel=>exact⟨k+1,q+nq,by omega,by rw[HNX.out,if_pos hb],by go_num,rfl⟩
      case measure=>simp[intOf];omega
     ·have hd:decide ((lb:Int) <(lk:Int))=false:=by simpa using hb
      go_wp2_with fail
      go_quiet (fail)
      go_wp2_with fail
      go_roundw
      case rel=>exact⟨k+1,q+nq,by omega,by rw[HNX.out,if_neg hb],by go_num,rfl⟩
      case measure=>simp[intOf];omega
    ·obtain rfl:k=n:=by omega
     have hkb:=rb_lt H k (by omega)
     have ho:Calls Tryz.prog 32 #[.agg #[.int .i64 (rm:Int),.slice sa k sc,.slice ha k hc],.int .i64 (rb H k:Int)] (w1.drewN q) λe w'=>∃x',e=.returned (x'.v k)/\PNew k ⟨rm,sa,sc,fs,ha,hc,fh⟩ (upd S (rb H k) (S (rb H k)++H (rb H k))) (upd H (rb H k) []) (w1.drewN q) w' x':=by
      have:=out24_any (HI1.out.at_.later (⟨rfl,rfl,rfl,Nat.le_refl _,λ_ _=>rfl⟩:Below w1.heap.size w1 (w1.drewN q))) (rb H k) hkb hn (by have:=HLN.out _ hkb;omega);unfold PX.v PX.cells at this;unfold PX.v PX.cells;exact this
     have HO:=jq ho;have k0: (w1.drewN q).cell? ⟨w.heap.size,0,none⟩=some (.int .i64 (rm:Int)):=HI1.out.b0.cell 0;have k1: (w1.drewN q).cell? ⟨w.heap.size,1,none⟩=some (.slice sa k sc):=HI1.out.b0.cell 1;have k2: (w1.drewN q).cell? ⟨w.heap.size,2,none⟩=some (.slice ha k hc):=HI1.out.b0.cell 2;clear ho c2
     go_wp2_with fail
     refine HO.out.mono ?_;rintro e2 w2 ⟨⟨rm2,sa2,sc2,fs2,ha2,hc2,fh2⟩,rfl,hrm,hat,hnew,hB2⟩;have hB12:Below w1.heap.size w1 w2:=(⟨rfl,rfl,rfl,Nat.le_refl _,λ_ _=>rfl⟩:Below w1.heap.size w1 (w1.drewN q)).trans hB2;have hI2:=HI1.out.later hB12;have z0:=hI2.b0.frozen 0;have z1:=hI2.b0.frozen 1;have z2:=hI2.b0.frozen 2;have q0:=hI2.b0.cell 0;have q1:=hI2.b0.cell 1;have q2:=hI2.b0.cell 2;unfold PX.cells at q0 q1 q2
     simp at q0 q1 q2
     dsimp only at hrm;subst hrm;have HI2:=jq hI2;have HAT:=jq hat;have HNEW:=jq hnew;clear hat hnew hB2 hB12 hI2 k0 k1 k2;unfold PX.v PX.cells;dsimp only
     go_wp2_with fail
     go_meet
     obtain⟨s1,s2⟩:=box3_set HI2.out.b0 (.int .i64 (rm2:Int)) (.slice sa2 k sc2) (.slice ha2 k hc2);have hz2:=HI2.out.size;have hzz:w1.heap.size=(w1.drewN q).heap.size:=rfl;have hz1:=HI1.out.size;refine⟨⟨rm2,sa2,sc2,fs2,ha2,hc2,fh2⟩,jq ⟨rfl,s1,HI2.out.b1.upon s2 (by omega),HI2.out.b2.upon s2 (by omega),?_,λq' hq=>?_,HI2.out.below.trans (s2.below (by omega) (λq hq=>by omega)),by have:=s2.size;omega⟩⟩
     ·unfold fulS fulH;rw[if_pos HE.out,if_pos HE.out];refine HAT.out.upon s2 (λq' hq e=>?_);rcases HNEW.out q' hq with h1|h1
      ·have:=HLT.out q' h1
       omega
      ·omega
     ·rcases HNEW.out q' hq with h1|h1
      ·exact .inl h1
      ·exact .inr (by omega)
  ·have ht: ((many H n:Int)==(rm:Int))=false:=by
    rw[beq_eq_false_iff_ne]
    omega
   rw[ht];have HE:=jq he;clear hS0 hS1 hB1 hb1 he ht
   go_wp2_with fail
   go_meet
   exact⟨_,jq (by unfold fulS fulH;rw[if_neg HE.out,if_neg HE.out];exact HI1.out)⟩
 case rest=>
  obtain⟨⟨rm1,sa1,sc1,fs1,ha1,hc1,fh1⟩,HI2⟩:=hcut;have hrm:=HI2.out.rm;dsimp only at hrm;subst hrm;obtain⟨S1,hS1e⟩:=jl (fulS rm1 S H n);obtain⟨H1,hH1e⟩:=jl (fulH rm1 H n)
  have hl1: (H1 i).length<=20000:=by
   have:=HLN.out i hi;rw[hH1e];unfold fulH
   split
   ·by_cases e:i=rb H n
    ·rw[<-e,upd_same];simp
    ·rw[upd_other _ e];omega
   ·omega
  rw[<-hS1e,<-hH1e]at HI2;have HS1:=jq hS1e;have HH1:=jq hH1e;clear hS1e hH1e;have hsz:=HI2.out.size;have hB1:=(Below.refl wc.heap.size wc).alloc jn (.cells #[] 26);have hI3:=HI2.out.later hB1;obtain⟨gh,oh,he0,hgh,hcw⟩:=HI2.out.at_.h.at hi;dsimp only at he0 hcw;subst he0;obtain⟨k,hk⟩:=jl ((H1 i).length);rw[<-hk]at hcw hl1;have ch1: (wc.alloc (.cells #[] 26)).cell? ⟨gh,oh+i,none⟩=some (.slice (fh1 i).1 k (fh1 i).2):=(hB1.cell (p:=⟨gh,oh+i,none⟩) hgh).trans hcw;have cb2:=hI3.b0.cell 2;unfold PX.cells at cb2
  simp at cb2
  have hfH: (flatW (H1 i)).length=k*7:=by rw[flatW_length _ (HI2.out.at_.okH i hi),hk]
  obtain⟨va,vc,w3,hr3,hO3,hg3,hb3⟩:=run_append_walkers (wc.alloc (.cells #[] 26)) 54 wc.heap.size _ 0 [] (own_empty wc 26 7) (fh1 i).1 k (fh1 i).2 (flatW (H1 i)) hfH (hI3.at_.h.each i hi).1 (oneCell_flatW _) (by omega) (by simp);rw[Nat.zero_add]at hr3 hO3 hb3;rw[List.nil_append]at hO3;have hB13:Below wc.heap.size wc w3:=hB1.grown hg3 (by simp) (λq hq=>Nat.le_of_eq (by simpa[Value.ownBlock]using hq));have hI4:=HI2.out.later hB13;have hz3:=hB13.size;have k30:=hI4.b0.cell 2;unfold PX.cells at k30;have k3a:=(hI4.b0.alloc (.cells #[.int .u32 (a:Int),.int .u32 (b:Int),.int .u32 (c:Int),.int .u32 (d:Int),.int .u32 (e:Int),.int .u32 (f:Int),.int .u32 (g:Int)] 26)).cell 2;unfold PX.cells at k3a;have kw:=hI4.b1;rw[HV.out]at kw;have kw0:=kw.cell 0;have kw1:=kw.cell 1;have kw2:=kw.cell 2;have kw3:=kw.cell 3;have kw4:=kw.cell 4;have kw5:=kw.cell 5;have kw6:=kw.cell 6
  simp at k30 k3a kw0 kw1 kw2 kw3 kw4 kw5 kw6
  have hAP:∀V2 v5 w5,Below w3.heap.size w3 V2->V2.ownsRow wc.heap.size 26 7 (.slice va k vc) k (flatW (H1 i))->w5.ownsRow wc.heap.size 26 7 v5 (k+1) (flatW (H1 i)++vals y)->V2.grownBy w5 (Value.slice va k vc).ownBlock->∃a5 c5,v5=.slice a5 (k+1) c5/\Below wc.heap.size wc w5/\Lies w5 a5 (flatW (H1 i++ [y]))/\k+1<=c5/\(∀g,blk a5=some g->wc.heap.size<=g/\g<w5.heap.size):=by
   intro V2 v5 w5 hBV hoV hown5 hg5;have hB5:Below wc.heap.size wc w5:=(hB13.trans (hBV.mono hz3)).grown hg5 (Nat.le_trans hz3 hBV.size) (λq hq=>(hoV.lt q hq).1);obtain⟨a5,c5,rfl,hc5,hL5,hb5,_⟩:=own_shape hown5;exact⟨a5,c5,rfl,hB5,by rw[flatW_snoc];exact hL5,hc5,hb5⟩
  have HAP:=jq hAP;have HO3:=jq hO3;have HB13:=jq hB13;have HK:=jq hk;have h7: (vals y).length=1*7:=by rw[vals_length,HY.out.1]
  have H7:=jq h7
  have H1c:Hid (∀u∈vals y,u.oneCell'=true):=jq (λu hu=>by
   obtain⟨n,_,rfl⟩:=List.mem_map.1 hu
   rfl)
  have HVL:Hid (∀V:World,Lies (V.alloc (.cells #[.int .u32 (a:Int),.int .u32 (b:Int),.int .u32 (c:Int),.int .u32 (d:Int),.int .u32 (e:Int),.int .u32 (f:Int),.int .u32 (g:Int)] 26)) (some ⟨V.heap.size,0,none⟩) (vals y)):=jq (λV=>by
   have:=new_lies V 26 (vals y).toArray;rw[HV.out]at this
   have e: (vals y)= [.int .u32 (a:Int),.int .u32 (b:Int),.int .u32 (c:Int),.int .u32 (d:Int),.int .u32 (e:Int),.int .u32 (f:Int),.int .u32 (g:Int)]:=by
    have:=congrArg Array.toList HV.out
    simpa using this
   rw[e];exact this)
  have hz2:wc.heap.size<=w3.drew.heap.size:=hz3;clear hcw hB1 hI3 hfH hO3 hg3 hb3 hB13 hI4 kw hAP hk h7
  go_wp2_with (first|(at_builtin;refine Lib.wpList_append_run _ rfl _ _ _ _ rfl _ _ rfl rfl _ _ hr3 ?_))
  have hAL:Below w3.heap.size w3 (w3.drew.alloc (.cells #[.int .u32 (a:Int),.int .u32 (b:Int),.int .u32 (c:Int),.int .u32 (d:Int),.int .u32 (e:Int),.int .u32 (f:Int),.int .u32 (g:Int)] 26)):=((Below.refl _ w3).drew).alloc jn _;have HOV:=jq (own_later HO3.out hAL);have HAL:=jq hAL;clear hAL ch1 cb2 hr3 hB1
  go_region_law ((first|(go_simp;go_at_call 60;refine HW5.out.mono ?_;rintro e w6 ⟨a6,c6,rfl,hk6,hf6,hc6,hB6⟩;have hi6:=HI5.out.later hB6;have k60:=hi6.b0.cell 0;have k61:=hi6.b0.cell 1;have k62:=hi6.b0.cell 2;have z62:=hi6.b0.frozen 2;have q0:=hi6.b2.cell 0;have q1:=hi6.b2.cell 1;have q2:=hi6.b2.cell 2;have y0:=hi6.b2.frozen 0;have y1:=hi6.b2.frozen 1;have y2:=hi6.b2.frozen 2;unfold PX.cells at k60 k61 k62;simp at k60 k61 k62 q0 q1 q2;have HB6:=jq hB6;have HK6:=jq hk6;have HF6:=jq hf6;have HI6:=jq hi6;clear hB6 hk6 hf6 hi6;dsimp only)|(refine step_append_any rfl (.tmp 49) (.tmp 51) rfl wc.heap.size _ k (flatW (H1 i)) (by simp[Act.eval]) HOV.out (some ⟨w3.heap.size,0,none⟩) 1 1 (vals y) (by simp[Act.eval]) H7.out (HVL.out w3.drew) H1c.out (by omega) (by simp;omega) ?_;intro v5 w5 hown5 hg5 hb5;obtain⟨a5,c5,rfl,hB5,hL5,hc5,hf5⟩:=HAP.out _ v5 w5 HAL.out HOV.out hown5 hg5;have hi5:=HI2.out.later hB5;have k52:=hi5.b0.cell 2;unfold PX.cells at k52;simp at k52;have hw5:=with_any hi5.at_.h hc1 i hi hn a5 c5 (H1 i++ [y]) hL5 (by rw[jL,<-HK.out];exact hc5) (λg hg=>(hf5 g hg).2);rw[jL,<-HK.out]at hw5;have HW5:=jq hw5;have HI5:=jq hi5;have HB5:=jq hB5;have HF5:=jq hf5;clear hw5 hB5 hL5 hf5 hown5 hg5 hb5 hi5)))
  all_goals
   go_wp2_with fail
   have hbf:=(((HI6.out.b2.far (p:=⟨w.heap.size,2,none⟩) (by simp) (.slice a6 n c6)).set 0 (.int .i64 (rm1:Int))).set 1 (.slice sa1 n sc1)).set 2 (.slice a6 n c6);have g0:=hbf.cell 0;have g1:=hbf.cell 1;have g2:=hbf.cell 2
   simp at g0 g1 g2
   refine bodyPost_ret (v:=.agg #[.int .i64 (rm1:Int),.slice sa1 n sc1,.slice a6 n c6]) (by simp[results,Tryz.f28,go_sem,g0,g1,g2]) rfl ⟨⟨rm1,sa1,sc1,fs1,a6,c6,updl fh1 i (a5,c5)⟩,rfl,?_⟩;rw[<-HS1.out,<-HH1.out];have hz5:=HB5.out.size;have hz6:=HI6.out.size
   refine pnew_of (lo:=w.heap.size) (hi:=w.heap.size+3) (x:=⟨rm1,sa,sc,fs,ha,hc,fh⟩) HP0.out HI6.out.at_.s HK6.out jn (λq hq=>HI2.out.new q (.inl hq)) (λq hq=>?_) (by omega) (Upon.refl _ _) (Upon.set (Upon.set (Upon.set (Upon.set (Upon.refl _ _) (.inl (by dsimp only;omega)) _) (.inl (by dsimp only;omega)) _) (.inl (by dsimp only;omega)) _) (.inl (by dsimp only;omega)) _) HI6.out.below HI2.out.at_.okS (ok_upd HI2.out.at_.okH (λz hz=>by
    rcases List.mem_append.1 hz with h1|h1
    ·exact HI2.out.at_.okH i hi z h1
    ·rw[jE.1 h1];exact HY.out))
   rcases rwb_upd (a:=some ⟨gh,oh,none⟩) hq with h1|h1|h1
   ·have:=HF6.out q h1;exact .inr (by omega)
   ·exact HI2.out.new q (.inr h1)
   ·have:=(HF5.out q h1).1;exact .inr (by omega)
end Pool
end Go.Proofs.YtfgjnpbffppocaaGreatDoor
