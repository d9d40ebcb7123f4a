/- Part. -/
import Derived.Test.YtfgjnpbffppocaaGreatDoorF0
import Derived.Test.YtfgjnpbffppocaaGreatDoorF0Q
import Derived.Test.YtfgjnpbffppocaaGreatDoorF36
import Derived.Deep.Slices
set_option maxHeartbeats 1000000
namespace Go.Proofs.YtfgjnpbffppocaaGreatDoor
namespace Ext
open Go.RowKit Go.Shelf Go.Deep Mem
set_option maxRecDepth 100000
theorem not_u64x (y:Nat) (h:y<2^64):bits .xor .u64 18446744073709551615 (y:Int)=((2^64-1-y:Nat):Int):=by
 have:=u64_xor_nat 18446744073709551615 y (by decide) h;rw[show((18446744073709551615:Nat):Int)=18446744073709551615 from rfl]at this;rw[this]
 congr 1
 apply Nat.eq_of_testBit_eq
 intro i;have h1:=Nat.testBit_two_pow_sub_succ (x:=y) (n:=64) h i;rw[show 2^64-(y+1)=2^64-1-y by omega]at h1;rw[h1,Nat.testBit_xor,show(18446744073709551615:Nat)=2^64-1 by decide,Nat.testBit_two_pow_sub_one]
 by_cases hi:i<64
 ·simp[hi]
 ·simp[hi]
  exact Nat.testBit_lt_two_pow (Nat.lt_of_lt_of_le h (Nat.pow_le_pow_right (by decide) (by omega)))
theorem infoI: (Tryz.prog.info? 3).map (λi=>(i.zero,i.size,i.bytes))=some (some (.int .i64 0),1,8):=by kernel_rfl
def lenOf:Value->Nat
 |.slice _ n _=>n
 |_=>0
theorem own_form {w:World} {base:Nat} {e:TypeId} {size n:Nat} {v:Value} {xs:List Value} (h:w.ownsRow base e size v n xs):∃a cap,v=.slice a n cap/\n<=cap/\(0<n->∃g,a=some ⟨g,0,none⟩/\base<=g/\g<w.heap.size/\∀j u,xs[j]? =some u->w.cell? ⟨g,j,none⟩=some u):=by
 rcases h.2 with⟨rfl,rfl⟩|⟨g,cap,cur,rfl,r⟩
 ·exact⟨none,0,rfl,Nat.le_refl _,λh=>by omega⟩
 ·exact⟨some ⟨g,0,none⟩,cap,rfl,r.2.2.1,λ_=>⟨g,rfl,(h.lt g rfl).1,(h.lt g rfl).2,λj u hj=>by
   have:=h.cells (g:=g) rfl j u hj;have e: (⟨g,0,none⟩:Addr).add j=⟨g,j,none⟩:=by unfold Addr.add;split <;> simp_all
   rwa [e]at this⟩⟩
theorem row_of_own {w:World} {base:Nat} {a:Option Addr} {cp:Nat} {l:List Int} {bs:List Nat} (h:w.ownsRow base 3 1 (.slice a l.length cp) l.length (l.map (Value.int .i64))) (hb:∀g∈bs,g<base) (hl:l.length<=100000):Row w bs a cp l:=by
 obtain⟨a',cap,e,hc,hf⟩:=own_form h;cases e;refine⟨hc,hl,?_⟩
 by_cases h0:0<l.length
 ·obtain⟨g,rfl,h1,h2,h3⟩:=hf h0;refine .inr ⟨g,0,rfl,h2,λhm=>by have:=hb g hm;omega,λi x hx=>?_⟩;rw[Nat.zero_add];exact h3 i _ (by simp[hx])
 ·exact .inl (List.eq_nil_of_length_eq_zero (by omega))
structure Took (C g cap:Nat) (k:List Bool) (n:Int) (w:World) (e:Ending) (w':World):Prop where
 out:∃a cp,e=.returned (.tuple #[.slice a (takeL k n).length cp,.int .i64 (takeEr k n)])/\w'.ownsRow w.heap.size 3 1 (.slice a (takeL k n).length cp) (takeL k n).length ((takeL k n).map (Value.int .i64))
 map:Holds C g cap (takeK k n) w'
 only:Only [C,g] w w'
theorem take_no (C g cap:Nat) (k:List Bool) (n:Int) (w:World) (h:Holds C g cap k w) (hn:n<0\/(freeN k:Int) <n):
  Calls Tryz.prog 94 #[.pointer (some ⟨C,0,none⟩),.int .i64 n] w λe w'=>Took C g cap k n w e w':=by
 have e1:takeL k n= []:=by unfold takeL;rw[if_pos hn]
 have e2:takeK k n=k:=by unfold takeK;rw[e1];rfl
 have h2:=tak_le k;have h3: ((k.length:Int)-tak k)=freeN k:=by unfold freeN;omega
 have hF:=free_holds h;rw[h3]at hF
 have fin:∀w',Holds C g cap k w'->Only [C,g] w w'->∀e,e=.returned (.tuple #[.slice none 0 0,.int .i64 (takeEr k n)])->Took C g cap k n w e w':=λw' h1 h2 e he=>by
  refine⟨⟨none,0,by rw[e1];exact he,by rw[e1];exact World.ownsRow_nil _ _ _ _⟩,by rw[e2];exact h1,h2⟩
 have FIN:=jq fin;have HF:=jq hF;have HH:=jq h;clear fin h e1 e2 h2 h3 hF
 by_cases h0:n<0
 ·have d:decide (n<0)=true:=by simpa using h0
  have e:takeEr k n=1:=if_pos h0;rw[e]at FIN
  go_enter Tryz.func94,Tryz.ntmps94
  go_wp2_with fail
  go_ret2
  exact FIN.out _ HH.out (Only.refl _ _) _ rfl
 ·have d:decide (n<0)=false:=by simpa using h0
  have h1: (freeN k:Int) <n:=by omega
  have d2:decide ((freeN k:Int) <n)=true:=by simpa using h1
  have e:takeEr k n=7:=by unfold takeEr;rw[if_neg h0,if_pos h1]
  rw[e]at FIN
  go_enter Tryz.func94,Tryz.ntmps94
  go_wp2_with (go_at_call 124;refine HF.out.mono ?_;rintro e w' ⟨rfl,q,rfl⟩)
  go_ret2
  exact FIN.out _ (HH.out.drewN _) ((Only.refl _ _).drewN _) _ rfl
theorem take_yes (C g cap:Nat) (k:List Bool) (N:Nat) (w:World) (h:Holds C g cap k w) (hT:Tab w) (hC0:0<C) (_:0<g) (hN:N<=freeN k):
  Calls Tryz.prog 94 #[.pointer (some ⟨C,0,none⟩),.int .i64 N] w λe w'=>Took C g cap k N w e w':=by
 obtain⟨i0,hi0,hz0,hz1,hz2⟩:=info_parts infoI;have h2:=tak_le k;have hsm:=h.small;have h3: ((k.length:Int)-tak k)=freeN k:=by unfold freeN;omega
 have hF:=free_holds h;rw[h3]at hF;obtain⟨cs,hcs,hwb⟩:=h.words;obtain⟨X,hX⟩:=choose_lt (α:=Nat) hwb;obtain⟨f,hf⟩:∃f:Nat->Bool,f=λi=>(X (i/64)).testBit (i%64):=⟨_,rfl⟩
 have hfk:∀i,i<k.length->f i=k.getD i true:=λi hi=>by
  have:=(hX (i/64) (by unfold nw;omega)).2.2 (i%64) (by omega) (by omega);rw[show i/64*64+i%64=i by omega]at this;rw[hf,List.getD_eq_getElem?_getD,this]
  rfl
 have hfl:frees f k.length=freeL k:=frees_congr _ _ _ hfk;have hlen:=freeL_length k
 have e1:takeL k N=(frees f k.length).take N:=by
  unfold takeL;rw[if_neg (by omega),hfl]
  rfl
 have e3:takeEr k N=0:=by unfold takeEr;rw[if_neg (by omega),if_neg (by omega)]
 have hdone:∀m,((frees f m).take N).length=N->(frees f m).take N=takeL k N:=λm hm=>by
  rw[e1];rw[jT]at hm
  by_cases hmk:m<=k.length
  ·obtain⟨d,hd⟩:=Nat.exists_eq_add_of_le hmk;rw[hd,frees_take f m d N (by omega)]
  ·obtain⟨d,hd⟩:=Nat.exists_eq_add_of_le (Nat.le_of_not_le hmk);rw[hd,frees_take f k.length d N (by rw[hfl,hlen];omega)]
 have hlow:∀m,((frees f m).take N).length<N->m<k.length:=λm hm=>by
  apply Nat.lt_of_not_le
  intro hle;obtain⟨d,hd⟩:=Nat.exists_eq_add_of_le hle;rw[hd,frees_take f k.length d N (by rw[hfl,hlen];omega),jT,hfl,hlen]at hm
  omega
 have HD:=jq hdone;have HLO:=jq hlow;have HX:=jq hX;have HFD:=jq hf;have HCS:=jq hcs;have HF:=jq hF;have HH:=jq h;have HT:=jq hT;have E3:=jq e3;have hCw:=h.lt.1;have hgw:=h.lt.2;have d:decide ((N:Int) <0)=false:=by simp
 have d2:decide (freeN k<N)=false:=by simp;omega
 clear hF hdone hlow hX hf hcs hwb h e1 e3 h2 h3 hfk hfl hlen hT
 go_enter Tryz.func94,Tryz.ntmps94
 go_wp2_with (go_at_call 124;refine HF.out.mono ?_;rintro e w' ⟨rfl,q,rfl⟩)
 go_loopw[6,7] (λo t wr=>∃(at_:Nat) (a:Option Addr) (cp:Nat) (L:List Int),t=.int .i64 at_/\at_<=nw k/\o=.slice a L.length cp/\Hid (L=(frees f (at_*64)).take N)/\Hid (wr.ownsRow w.heap.size 3 1 (.slice a L.length cp) L.length (L.map (Value.int .i64)))/\Hid (Below w.heap.size w wr)) (λ_ t _=>nw k-(intOf t).toNat)
 case atStart=>exact⟨0,none,0,[],rfl,Nat.zero_le _,rfl,jq (by simp[frees]),jq (World.ownsRow_nil _ _ _ _),jq (below_drewN (Below.refl _ _) _)⟩
 case round=>
  obtain⟨at_,a,cp,L,rfl,hat,rfl,hL,hown,hB⟩:=hrel;have hLN:L.length<=N:=by rw[hL.out,jT];omega
  have hNk:N<=65536:=by unfold freeN at hN;omega
  by_cases hlt:L.length<N
  ·have hak:at_*64<k.length:=HLO.out _ (by rw[<-hL.out];exact hlt);have hak2:at_<nw k:=by unfold nw;omega
   obtain⟨hX0,hX1,_⟩:=HX.out at_ hak2;have c0:=(hB.out.cell (p:=⟨C,0,none⟩) hCw).trans ((HH.out.map.cell 0));have c1:=(hB.out.cell (p:=⟨g,at_,none⟩) hgw).trans ((HCS.out.cell at_).trans hX1)
   simp at c0
   have hL2:L=frees f (at_*64):=by
    have:=hL.out;rw[this,jT]at hlt;rw[this,jW (by omega)]
   have HL2:=jq hL2;have hnw:nw k<=1024:=by unfold nw;omega
   clear hX1 hL2
   go_wp2_with fail
   go_loopw[6,8] (λo x wq=>∃(y b:Nat) (a:Option Addr) (cp:Nat) (L:List Int),o=.slice a L.length cp/\x=.int .u64 y/\b<=64/\y<2^64/\L.length<=N/\Hid (L=frees f (at_*64+b))/\Hid (∀c,c<64->y.testBit c=(decide (c<b)||(X at_).testBit c))/\Hid (wq.ownsRow w.heap.size 3 1 (.slice a L.length cp) L.length (L.map (Value.int .i64)))/\Hid (Below w.heap.size w wq)) (λo _ _=>N-lenOf o)
   case atStart=>exact⟨X at_,0,a,cp,L,rfl,rfl,by omega,hX0,hLN,HL2,jq (λc _=>by simp),hown,hB⟩
   case round=>
    obtain⟨y,b,a,cp,L,rfl,rfl,hb,hy,hLN,hL,hbits,hown,hB⟩:=hrel;have hbr:wr.ownsRow w.heap.size 3 1 (.slice a L.length cp) L.length (L.map (Value.int .i64)):=hown.out
    by_cases hlt:L.length<N
    ·by_cases hy1:y=2^64-1
     ·have y1: ((y:Int)==18446744073709551615)=true:=by simp;omega
      have hL2:L=(frees f ((at_+1)*64)).take N:=by
       have e:frees f ((at_+1)*64)=frees f (at_*64+b):=by
        obtain⟨d,hd⟩:=Nat.exists_eq_add_of_le hb;rw[show(at_+1)*64=at_*64+b+d by omega];refine frees_skip f _ d (λi h1 h2=>?_);have h3:=hbits.out (i%64) (by omega);rw[full_bits y hy hy1 _ (by omega)]at h3;rw[HFD.out];have e1:i/64=at_:=by omega
        have e2:¬i%64<b:=by omega
        simp[e2]at h3
        show(X (i/64)).testBit (i%64)=true;rw[e1];exact h3
       rw[e,<-hL.out,jW hLN]
      have HL3:=jq hL2;clear hL2 hbr
      go_wp2_with fail
      go_roundw
      case rel=>
       first|exact⟨at_+1,a,cp,L,by simp,by omega,rfl,HL3,hown,hB⟩|((repeat apply Exists.intro);refine⟨?_,rfl⟩;exact⟨at_+1,a,cp,L,by simp,by omega,rfl,HL3,hown,hB⟩)
      case measure=>simp[intOf];omega
     ·have y1: ((y:Int)==18446744073709551615)=false:=by simp;omega
      obtain⟨z,hz⟩:∃z:Nat,z=2^64-1-y:=⟨_,rfl⟩;have hnot:bits .xor .u64 IntKind.u64.max (y:Int)=(z:Int):=by rw[hz];exact not_u64x y hy
      obtain⟨l1,l2,l3⟩:=low_bits y hy hy1;obtain⟨j,hj⟩:=jl (low y);rw[<-hj]at l1 l2 l3;have hmore:=more_int y j hy l1;obtain⟨y',hy'⟩:∃y',y'=more y j:=⟨_,rfl⟩;rw[<-hy']at hmore;have L2:=jq l2;have L3:=jq l3;have HY:=jq hy';clear l2 l3 hy';have HTZ:=jq (tz_any z (by omega) (by omega) wr (HT.out.below hB.out (by omega)));have hw1:IntKind.i64.wrap ((at_:Int)*64)=(at_:Int)*64:=IntWalk.i64_in _ (by omega);have hw2:IntKind.i64.wrap ((at_:Int)*64+(j:Int))=(at_:Int)*64+j:=IntWalk.i64_in _ (by omega);rw[show Lib.ctz 64 z=j by rw[hz,hj];rfl]at HTZ;clear hz hj;have hBs:=hB.out.size
      go_wp2_with fail
      refine HTZ.out.mono ?_;rintro e w' ⟨rfl,rfl⟩
      go_wp2_with (first|(at_builtin;refine wpList_append_own _ rfl _ _ 104 rfl w.heap.size 3 i0 (.int .i64 0) 1 8 Tryz.underlying104 hi0 hz0 hz1 hz2 rfl (by decide) _ _ _ rfl (hbr.alloc _) ⟨wr.heap.size,0,none⟩ 1 1 [.int .i64 ((at_:Int)*64+j)] rfl rfl ?c1 ?c2 ?c3 ?c4 ?c5 ?_))
      case c1=>
       intro j u hj
       match j,hj with
       |0,hj=>simp at hj;subst hj;simp[Addr.add]
      case c2=>intro u hu;simp at hu;subst hu;rfl
      case c3=>unfold maxLen;omega
      case c4=>omega
      case c5=>simp;omega
      intro v' w1 hown1 hgrow1 _;obtain⟨a1,cp1,rfl,_,_⟩:=own_form hown1;have hB1:Below w.heap.size w w1:=(hB.out.alloc hBs _).grown hgrow1 (by simp;omega) (λq hq=>(hbr.lt q hq).1)
      have hstep:L++ [(at_:Int)*64+j]=frees f (at_*64+(j+1)):=by
       have hbj:b<=j:=by
        apply Nat.le_of_not_lt
        intro hlt;have:=hbits.out j l1;rw[L2.out]at this
        simp[hlt]at this
       obtain⟨d,hd⟩:=Nat.exists_eq_add_of_le hbj
       have e1:frees f (at_*64+j)=L:=by
        rw[hL.out,hd,<-Nat.add_assoc];refine frees_skip f _ d (λi h1 h2=>?_);have h3:=hbits.out (i%64) (by omega);rw[L3.out _ (by omega)]at h3;rw[HFD.out];have e1:i/64=at_:=by omega
        have e2:¬i%64<b:=by omega
        simp[e2]at h3
        show(X (i/64)).testBit (i%64)=true;rw[e1];exact h3
       rw[<-Nat.add_assoc,frees_succ,e1]
       have e2:f (at_*64+j)=false:=by
        rw[HFD.out];show(X ((at_*64+j)/64)).testBit ((at_*64+j)%64)=false;rw[show(at_*64+j)/64=at_ by omega,show(at_*64+j)%64=j by omega];have:=hbits.out j l1;rw[L2.out]at this;cases hx: (X at_).testBit j
        ·rfl
        ·rw[hx]at this;simp at this
       rw[e2]
       simp
      have hown2:w1.ownsRow w.heap.size 3 1 (.slice a1 (L++ [(at_:Int)*64+j]).length cp1) (L++ [(at_:Int)*64+j]).length ((L++ [(at_:Int)*64+j]).map (Value.int .i64)):=by
       rw[List.map_append,jL];exact hown1
      have hbits2:∀c,c<64->y'.testBit c=(decide (c<j+1)||(X at_).testBit c):=λc hc=>by
       rw[HY.out,more_bit,hbits.out c hc]
       by_cases h1:c<j
       ·have:=hbits.out c hc;rw[L3.out c h1]at this;rw[<-this]
        simp[show c<j+1 by omega]
       ·by_cases h2:c=j
        ·subst h2;simp
        ·have hbj:b<=j:=by
          apply Nat.le_of_not_lt
          intro hlt;have:=hbits.out j l1;rw[L2.out]at this
          simp[hlt]at this
         simp[show¬c<j+1 by omega,show¬j=c by omega,show¬c<b by omega]
      have hy2:y'<2^64:=by rw[HY.out];exact more_lt y j hy l1
      have HO2:=jq hown2;have HS2:=jq hstep;have HB2:=jq hbits2;have HBB:=jq hB1;have hl1: (L++ [(at_:Int)*64+j]).length=L.length+1:=by simp
      clear hown1 hgrow1 hown2 hstep hbits2 hB1 hbr hown
      go_wp2_with fail
      go_roundw
      case rel=>
       first|exact⟨y',j+1,a1,cp1,L++ [(at_:Int)*64+j],by rw[hl1],rfl,by omega,hy2,by omega,HS2,HB2,HO2,HBB⟩|((repeat apply Exists.intro);refine⟨?_,rfl⟩;exact⟨y',j+1,a1,cp1,L++ [(at_:Int)*64+j],by rw[hl1],rfl,by omega,hy2,by omega,HS2,HB2,HO2,HBB⟩)
      case measure=>simp[lenOf];omega
    ·have hlN:L.length=N:=by omega
     have hL2:L=(frees f ((at_+1)*64)).take N:=by
      obtain⟨d,hd⟩:=Nat.exists_eq_add_of_le hb;rw[show(at_+1)*64=at_*64+b+d by omega,frees_take f _ d N (by rw[<-hL.out];omega),<-hL.out,jW hLN]
     have HL3:=jq hL2;have d3:decide (L.length<N)=false:=by simp;omega
     clear hL2 hbr hlN
     by_cases hy1:y=2^64-1
     ·have y1: ((y:Int)==18446744073709551615)=true:=by simp;omega
      go_wp2_with fail
      go_roundw
      case rel=>
       first|exact⟨at_+1,a,cp,L,by simp,by omega,rfl,HL3,hown,hB⟩|((repeat apply Exists.intro);refine⟨?_,rfl⟩;exact⟨at_+1,a,cp,L,by simp,by omega,rfl,HL3,hown,hB⟩)
      case measure=>simp[intOf];omega
     ·have y1: ((y:Int)==18446744073709551615)=false:=by simp;omega
      go_wp2_with fail
      go_roundw
      case rel=>exact⟨at_+1,a,cp,L,by simp,by omega,rfl,HL3,hown,hB⟩
      case measure=>simp[intOf];omega
  ·have hLk:L=takeL k N:=by
    have:=HD.out (at_*64) (by rw[<-hL.out];omega);rw[<-hL.out]at this;exact this
   have hrow:Row wr [C,g] a cp L:=row_of_own hown.out (by simp;omega) (by omega);have hh:=HH.out.later hB.out;have hH:=hold_any C g cap cp a k L wr hh hrow;rw[hLk,takeL_turn]at hH;have hown':=hown.out;rw[hLk]at hown';have HHO:=jq hH;have HOW:=jq hown';have hBs:=hB.out.size
   have hne:∀q,(Value.slice a (takeL k N).length cp).ownBlock=some q->q∉[C,g]:=λq hq=>by
    have:=(hown'.lt q hq).1
    simp
    omega
   have HNE:=jq hne;have d3:¬(takeL k N).length<N:=by rw[<-hLk];exact hlt
   rw[hLk];clear hown' hH hh hrow hne hown hL hlt hLN hLk
   go_wp2_with (go_at_call 122;refine HHO.out.mono ?_;rintro e w1 ⟨rfl,hh,ho⟩)
   go_ret2
   refine⟨⟨a,cp,by rw[E3.out];rfl,own_only HOW.out ho HNE.out⟩,hh,(Only.of_below hB.out).trans ho⟩
theorem take_any (C g cap:Nat) (k:List Bool) (n:Int) (w:World) (h:Holds C g cap k w) (hT:Tab w) (hC0:0<C) (hg0:0<g):
  Calls Tryz.prog 94 #[.pointer (some ⟨C,0,none⟩),.int .i64 n] w λe w'=>Took C g cap k n w e w':=by
 by_cases hn:n<0\/(freeN k:Int) <n
 ·exact take_no C g cap k n w h hn
 ·obtain⟨N,rfl⟩:∃N:Nat,n=N:=⟨n.toNat,by omega⟩;exact take_yes C g cap k N w h hT hC0 hg0 (by omega)
theorem fresh_holds {n:Int} {w w':World} (h:Fresh n w w'):Holds (w.heap.size+1) w.heap.size ((cnt n+63)/64).toNat (List.replicate (cnt n).toNat false) w':=by
 have hc:0<=cnt n/\cnt n<=65536:=by unfold cnt;omega
 have e0: (List.replicate (cnt n).toNat false).length=(cnt n).toNat:=by simp
 have e1:nw (List.replicate (cnt n).toNat false)=((cnt n+63)/64).toNat:=by unfold nw;rw[e0];omega
 refine⟨by rw[e0];omega,?_,_,h.words,λj hj=>⟨0,by decide,?_,λb _ hb2=>?_⟩⟩
 ·rw[e1,e0];have e2: (tak (List.replicate (cnt n).toNat false):Int)=0:=by unfold tak;rw[List.count_replicate];rfl
  rw[e2,show(((cnt n).toNat:Nat):Int)=cnt n by omega];exact h.map
 ·rw[e1]at hj
  have: (madeCells #[Value.int .u64 0] ((cnt n+63)/64).toNat)[j]? =(List.replicate ((cnt n+63)/64).toNat (Value.int .u64 0))[j]?:=by
   rw[<-toList_madeCells_one,Array.getElem?_toList]
  rw[this,List.getElem?_replicate,if_pos hj]
  rfl
 ·rw[e0]at hb2;rw[List.getElem?_replicate,if_pos hb2,Nat.zero_testBit]
end Ext
end Go.Proofs.YtfgjnpbffppocaaGreatDoor
