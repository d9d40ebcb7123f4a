/- Part. -/
import Derived.Test.YtndkohocgfmamaaGreatDoorF32
import Derived.Test.YtndkohocgfmamaaGreatDoorF40
import Derived.StillTailTactics
set_option maxHeartbeats 4000000
set_option maxRecDepth 100000
namespace Go.Proofs.YtndkohocgfmamaaGreatDoor
open Go.Proofs.Tryz
namespace Round
open Go
section
variable {P:Program}{Q:Exit->Act->World->Prop}{l n:Nat}
theorem IK:¬LetsOut (Calm Q):=by rintro⟨a,w,h⟩;exact h
theorem IL:∀e a w,Calm Q e a w->Q e a w:=λe a w h=>by cases e <;> first|exact h|exact h.elim
variable {a:Act}{w:World}{id:Nat}{ops:List Oper}
theorem TJ(h:Q .normal a w):Calm Q .normal a w:=h
theorem xS(c:P.follows .mixedOrders=true)(hd:sN ops=true)(b:Region.lexB .any ops.toArray=true)(h:wpQuiet P ops.toArray (λw'=>∃n,w'=w.drewN n) (λa'=>∀w',(∃n,w'=w.drewN n)->Q .normal a' w') ops a): (Code.region id ops.toArray true).wpIn (Fence.wide.inRound l) n P Q a w:=by
 refine wpIn_mono (yT (Q:=Calm Q) c hd IK ?_) IL;simp only[Region.lexB,Bool.and_eq_true]at b;refine wpAny_of_quiet (C:=λw'=>∃n,w'=w.drewN n) (Q:=λa'=>∀w',(∃n,w'=w.drewN n)->Q .normal a' w') (Q':=Calm Q) (w:=w.drew) (λ_ w' d h=>h w' d) _ _ _ ⟨1,rfl⟩ ?_;have:=wpAnyQ_lex (C:=λw'=>∃n,w'=w.drewN n) (md:=.any) b.1 ops.toArray.toList 0 (Array.replicate ops.toArray.size false) a (by simp) (by simpa using b.2) (by simpa using h)
 simpa using this
theorem TK(m:Nat)(p:P.follows .mixedOrders=true)(hd:sN ops=true)(c:Region.lexTailB .any ops.toArray m=true)(h:wpStill P ops.toArray w.drew (λa'=>wpList P ops.toArray (Calm Q) (ops.drop m) a' w.drew) (ops.take m) a): (Code.region id ops.toArray true).wpIn (Fence.wide.inRound l) n P Q a w:=by
 refine wpIn_mono (yT (Q:=Calm Q) p hd IK ?_) IL;simp only[Region.lexTailB,Bool.and_eq_true,decide_eq_true_eq]at c;obtain⟨⟨⟨⟨r,i⟩,q⟩,hc⟩,o⟩:=c;have v:m<ops.length:=by simpa using i
 have b: (ops.take m).length=m:=by simp;omega
 have e: (ops.drop m).length=ops.toArray.size-m:=by simp
 have u:HeadInv .any ops.toArray m (Array.replicate ops.toArray.size false):=
  ⟨by simp,λj x _ hl=>(by rw[getD_replicate_false]at hl;cases hl),λt _ s=>getD_in (by simpa using s) (getD_replicate_false _ _)⟩
 have H:=wpAnyL_lex (md:=.any) (g:=ops.toArray.size-m) r q hc i (ops.take m) 0 _ a (λj f=>by
  have k:j<m:=by rw[b]at f;exact f
  simp[k]) (by simpa using b) u (by rw[b];exact o) h
 have:=wpAny_of_head (Q':=Calm Q) (g:=ops.toArray.size-m) (λlisted a' d=>by
  have:=wpAny_of_seq (md:=.any) (Q':=Calm Q) (ops.drop m) m listed a' w.drew (λj=>by simp[List.getElem?_drop]) (by rw[e];exact d.1) d.2
  rwa [e]at this) _ _ _ H
 rw[b,show m+(ops.toArray.size-m)=ops.toArray.size by omega]at this;exact this
end
end Round
namespace aX
open Go.RowKit Go.Deep Mem Crc oW Merge Round
open Runs (SL sl fe lW Told told Ar Merging Gi Sd AJ AL AO Sc)
attribute [local go_sem] Oper.semAt_some
theorem IQ: (prog.info? 49).map (λi=>(i.zero,i.size,i.bytes))=some (some (.agg #[.int .u32 0,.int .u32 0,.int .u64 0]),3,16):=by kernel_rfl
theorem TL(o:List KC)(p:KC): (fI o p).length<=o.length+1:=by
 rcases nK o with rfl|⟨b,q,rfl⟩
 ·rw[uQ];simp
 ·rw[nL,nE]
  split <;> simp
theorem uR(l:List KC): (merged l).length<=l.length:=by
 have h:∀(l o:List KC),(l.foldl fI o).length<=o.length+l.length:=by
  intro l
  induction l with
  |nil=>intro o;simp
  |cons a t b=>
   intro o;have c:=b (fI o a);have d:=TL o a;rw[List.foldl_cons,List.length_cons]
   omega
 have:=h l [];unfold merged
 simpa using this
theorem TM{o:List KC}{p:KC}(c:∀q∈o,q.2<=av)(d:p.2<=av):∀q∈fI o p,q.2<=av:=by
 rcases nK o with rfl|⟨e,q,rfl⟩
 ·rw[uQ];intro q hq;rw[jE.1 hq];exact d
 ·rw[nL]at c⊢;rw[nE];intro r b
  split at b
  ·rcases List.mem_append.1 b with b|b
   ·exact c r (by simp[b])
   ·rw[jE.1 b];exact uN _
  ·rcases List.mem_append.1 b with b|b
   ·exact c r b
   ·rw[jE.1 b];exact d
theorem TN{l:List KC}(h:∀p∈l,p.2<=av):∀q∈merged l,q.2<=av:=by
 have c:∀(l o:List KC),(∀p∈l,p.2<=av)->(∀q∈o,q.2<=av)->∀q∈l.foldl fI o,q.2<=av:=by
  intro l
  induction l with
  |nil=>intro o _ b;exact b
  |cons a t e=>
   intro o hl b;exact e (fI o a) (λp d=>hl p (by simp[d])) (TM b (hl a (by simp)))
 exact c l [] h (λq hq=>by cases hq)
theorem vH(o:List KC)(q:KC)(n:Nat): ((o++ [q]).flatMap aH).set (o.length*3+2) (.int .u64 (n:Int))=(o++ [(q.1,n)]).flatMap aH:=by
 have hl: (o.flatMap aH).length=o.length*3:=Args.xQ aH 3 o (λx _=>rfl);rw[ig,ig,List.set_append_right _ _ (by rw[hl];omega),hl,show o.length*3+2-o.length*3=2 by omega]
 simp[aH]
theorem TP{f:Nat}{X Y:World}{g n cap:Nat}{base:Nat}{e:TypeId}{size:Nat}{xs:List Value}(d:Below X.heap.size X Y)(r:X.ownsRow base e size (.slice (some ⟨g,0,none⟩) n cap) n xs)(i:Nat)(u:Value):KeepsFrom f X ((Y.setCell ⟨g,i,none⟩ u).drew):=by
 refine⟨by have:=d.size;simpa[World.setCell,World.drew]using this,λk o _ b hc=>?_⟩;have q:=(dG.1 b).1
 by_cases c:k=g
 ·subst c;rcases r.2 with⟨h,_⟩|⟨m,s,cur,h,_,p,_⟩
  ·simp at h
  ·have j:m=k:=by
    injection h with h;injection h with h;injection h with h;exact h.symm
   subst j;rw[p]at b;cases b;cases hc
 ·exact((Below.heap_setCell Y ⟨g,i,none⟩ u k c).trans (d.block k q)).trans b
def Mg(K:List KC)(pre:List Go.Proofs.YtndkohocgfmamaaGreatDoor.Runs.Told):List KC:=merged (K.take pre.length)
theorem TQ(a:Option Addr)(cp:Nat)(p:KC)(c:p.1<=av/\p.2<=av)(d f b:Nat)(g:d=p.1/4294967296)(h:f=p.1%4294967296)(i:b=p.2)(w:World)(j:Lies w a ((ai p).map bv)):
  Calls prog 73 #[.slice a 16 cp] w λe w'=>e=.returned (.agg #[.int .u32 (d:Int),.int .u32 (f:Int),.int .u64 (b:Int)])/\Below w.heap.size w w':=by
 have:=mK a cp p.1 p.2 (by have:=c.1;unfold av at this;omega) (by have:=c.2;unfold av at this;omega) w j;rw[g,h,i];exact this
theorem TR{w:World}{U:Nat->Prop}{Bs:Nat}{rs:List (SL×List B)}{ad:Addr}{c:Nat}(hM:Merging w U Bs rs ad c)(a9:∀k,U k->k<w.heap.size)(f6:rs.length<=1000000)(K:List KC)(f1:∀p∈K,p.1<=av/\p.2<=av)(d9: ((rs.map Prod.snd).flatten).Perm (K.map ai))(f8:aS (K.map ai))(e8:K.length<=1000000):
  Calls prog 38 #[.func (.func 112) #[] #[.pointer (some ⟨Bs,0,none⟩)]] w λe w'=>∃v,e=.returned v/\w'.ownsRow w.heap.size 49 3 v (merged K).length ((merged K).flatMap aH)/\Below w.heap.size w w':=by
 obtain⟨i0,b1,c4,c5,c6⟩:=info_parts IQ;obtain⟨W1,y4⟩:=jl (w.alloc (.cells #[.slice none 0 0] 32));have x1:Below w.heap.size w W1:=by rw[y4];exact(Below.refl _ w).alloc jn _
 obtain⟨tb,y0⟩:=jl w.heap.size;have e0:Boxed W1 tb 32 (.slice none 0 0):=by rw[y4,y0];exact Boxed.new w _ _
 have f7:W1.heap.size=w.heap.size+1:=by rw[y4];simp
 have x3:Merging W1 U Bs rs ad c:=hM.upon (P:=λ_=>False) (Upon.of_below x1) (λ_ _ h=>h);have d8:∀k,U k->k<W1.heap.size:=λk T=>by have:=a9 k T;omega
 have i4:=jq (Gi 4 (by omega) Bs (w0:=⟨W1,U,d8⟩) (s:=K.map ai) x3.row x3.cap x3.pos f6 x3.rows d9 f8 (oN _) (λb hb=>by
  obtain⟨p,_,rfl⟩:=List.mem_map.1 hb;rw[dZ];omega) x3.box.lt (by have:=x3.box.cell 0;simpa using this))
 have d1:=jq f1;have i1:=jq e8;have h9:=jq x1;have g9:=jq e0;have i6:=jq y4;have d3:=jq y0;have d2:=jq f7;have a6:=jq a9;have j9:=jq (World.ownsRow_nil W1 w.heap.size 49 3);clear hM x3 a9 f6 f1 d9 f8 e8 y4 x1 e0 f7 y0;refine(callsIn_wide (n:=5)).1 ?_;refine callsIn_of_wp_marks func38 rfl trivial ?_ rfl;simp only[ntmps38,List.size_toArray,List.length_cons,List.length_nil,Nat.reduceAdd,Nat.reduceSub,Array.replicate_succ,Array.replicate_zero,List.push_toArray,List.append_toArray,List.nil_append,List.cons_append]
 gi_wp2_with fail
 refine(wpIn_wide (n:=5)).2 (wp_scope_straight ((wpIn_wide (n:=5)).1 ?_))
 gi_wp2_with fail
 rw[<-i6.out,<-d3.out];refine wpIn_label ?_
 gi_wp2_with fail
 refine sM rfl (by omega) (gf:=112) (lb:=#[.pointer (some ⟨Bs,0,none⟩)]) rfl trivial (enters_of func112 (by kernel_rfl) rfl) i4.out ?mine (λh k=>h.trans k) (λW l o o' hl ho hc _=>fe.putObj W l o o' (λhu=>by have:=d8 l hu;omega) ho hc) ?aT (Below.refl _ _) (λ_=>rfl)
  (λpre W=>((∃v,Boxed W tb 32 v/\W.ownsRow w.heap.size 49 3 v (Mg K pre).length ((Mg K pre).flatMap aH)/\∀g,v.ownBlock=some g->w.heap.size<=g)/\Below w.heap.size w W)/\pre.length<=K.length)
  (λ_ _ _=>False)
  (OwnFrom.and (OwnFrom.and (Own.from (holdsRow_own w.heap.size tb 32 49 3 (λpre:List Go.Proofs.YtndkohocgfmamaaGreatDoor.Runs.Told=>(Mg K pre).length) (λpre=>(Mg K pre).flatMap aH) (λ_ v=>∀g,v.ownBlock=some g->w.heap.size<=g)) _) (ownFrom_below jn (by have:=h9.out.size;omega))) (λ_ _ _ _ hs _ _=>hs))
  (λ_ _ _ _ _ hs _ _=>hs) ?TS (λ_ _ _ _ h _=>h)
  ⟨⟨⟨_,g9.out,j9.out,λg hg=>by cases hg⟩,h9.out⟩,aC _⟩
  (λy=>{tmps:=#[.func (.func 112) #[] #[.pointer (some ⟨Bs,0,none⟩)],undef,.slice none 0 0,.pointer (some ⟨tb,0,none⟩),sl y.1,undef,undef,.func (.func 112) #[] #[.pointer (some ⟨Bs,0,none⟩)],sl y.1,undef,undef,undef,undef,undef,undef,undef,undef,undef,undef,undef,undef,undef,undef,undef,undef,undef,undef,undef,undef,undef,undef,undef,undef,undef,undef,undef,undef,undef,undef,undef,undef,undef,undef,undef,undef,undef,undef,undef,undef,undef,undef,undef,undef,undef,undef],defers:=[]}) ?assign ?body ?done ?stop
 case mine=>
  intro X Y S;refine⟨S.size,λk o R ho hc=>(S.block k (dG.1 ho).1 (.inr (fun⟨cs,t,fr,O,h2⟩=>?_))).trans ho⟩;rw[ho]at O;cases O;cases hc
 case aT=>
  rintro pre y W l o o' ⟨O,h2⟩ hl ho hc;exact⟨O,ownsRow_putObj h2 o' ho hc⟩
 case TS=>
  rintro pre X Y ⟨⟨⟨v,hv,Z,h5⟩,R⟩,z5⟩ S;refine⟨⟨⟨v,S.keep (t:=32) hv (.inr (by decide)),S.row Z (by decide),h5⟩,R.trans ⟨S.os,S.tape,S.output,S.size,λk T=>S.block k (aD T R.size) (.inl (by have:=d2.out;show k<W1.heap.size;omega))⟩⟩,z5⟩
 case assign=>
  intro l y W K hK;unfold told;unfold sl at hK⊢
  gi_wp2
  exact hK
 case body=>
  rintro l pre ⟨⟨xa,xn,xc⟩,b⟩ W ⟨⟨⟨v,hv,Z,h5⟩,R⟩,z5⟩ hlt ⟨f3,hO⟩
  obtain⟨p,hp⟩:∃p,K[pre.length]? =some p:=by
   rw[jP]at hlt;exact⟨K[pre.length],jg hlt⟩
  have hb:b=ai p:=by
   obtain⟨tl,k3⟩:=f3
   have O: (K.map ai)[pre.length]? =some b:=by
    rw[<-k3]
    simp
   rw[List.getElem?_map,hp]at O;exact(Option.some.inj O).symm
  subst hb;have f2:=jM hp;have b5:=d1.out p f2;have j1:ai p≠[]:=λe=>by have:=dZ p;rw[e]at this;cases this
  obtain⟨gb,cb,k9,ey,j5,d5,_,_⟩:=AJ hO j1;dsimp only at ey;injection ey with i8 z1;injection z1 with z1 i9;subst i8 i9;rw[dZ]at z1;subst z1
  have d7:∀y:Go.Proofs.YtndkohocgfmamaaGreatDoor.Runs.Told,Mg K (pre++ [y])=fI (Mg K pre) p:=λy=>by
   unfold Mg;rw[jL,List.length_cons,List.length_nil,bF,hp];exact Bp _ _
  have z7: (Mg K pre).length<=K.length:=by
   unfold Mg;exact ax (uR _) (by rw[jT];omega)
  have e7:pre.length+1<=K.length:=(jS.1 hp).1;obtain⟨f,b8⟩:=jl (p.1/4294967296);obtain⟨r,b9⟩:=jl (p.1%4294967296);obtain⟨i,b0⟩:=jl p.2;have c7:=jq (TQ (some ⟨gb,0,none⟩) xc p b5 f r i b8 b9 b0 W d5);obtain⟨M,hM⟩:=jl (Mg K pre);rw[<-hM]at Z z7;obtain⟨m,hm⟩:=jl M.length;have x9:=Z;rw[<-hm]at x9 z7;obtain⟨va,vc,rfl,j7,d6,k4,k5⟩:=own_shape x9;have hs:=R.size;have HV:=jq hv;have HB:=jq R;have D:=jq x9;have k7:=jq h5;have d0:=jq d7;have HM:=jq hM;have y2:=jq hm;have i3:=jq b5;have a0:=jq b8;have a7:=jq b9;have z9:=jq b0;have c8:=jq e7;have c9:=jq d6;have l2:m<=1000000:=ax z7 i1.out;clear hv R Z x9 h5 d7 hM hm b5 b8 b9 b0 e7 d6 hp f2 hO f3 hlt z5 d5 j5 z7 j7 k4 k5;unfold sl
  gi_wp2_with fail
  refine⟨trivial,(CallsIn.inRound l (callsIn_wide.2 c7.out)).mono ?_⟩;rintro e w1 ⟨rfl,x1⟩;have g4:Boxed w1 tb 32 (.slice va m vc):=(x1.block tb HV.out.lt).trans HV.out;have hcs: (w1.alloc (.cells #[.int .u32 (f:Int),.int .u32 (r:Int),.int .u64 (i:Int)] 49)).cell? ⟨tb,0,none⟩=some (.slice va m vc):=(g4.alloc _).cell;have h9:=jq x1;clear x1 g4 c7
  gi_wp2_with fail
  obtain⟨V,z2⟩:=jl (w1.alloc (.cells #[.int .u32 (f:Int),.int .u32 (r:Int),.int .u64 (i:Int)] 49));obtain⟨vb,h5⟩:=jl w1.heap.size;have a8:Below W.heap.size W V:=by rw[z2];exact h9.out.alloc h9.out.size _
  have y6:Blk V vb 49 #[.int .u32 (f:Int),.int .u32 (r:Int),.int .u64 (i:Int)]:=by rw[z2,h5];exact Blk.new w1 _ _
  rw[<-z2,<-h5];have g5:W.heap.size<=vb:=by rw[h5];exact h9.out.size
  have j:Boxed V tb 32 (.slice va m vc):=(a8.block tb HV.out.lt).trans HV.out;have c0:=j.cell;have k0:=y6.cell 0;have k1:=y6.cell 1;have k2:=y6.cell 2
  simp at k0 k1 k2
  have u:=jq a8;have h6:=jq y6;have k8:=jq g5;have N:=jq j;clear z2 h5 a8 y6 g5 j hcs h9
  by_cases hq:∃(o:List KC) (q:KC),M=o++ [q]/\q.1=p.1
  ·obtain⟨o,q,h4,y9⟩:=hq;obtain⟨k,T⟩:∃k,m=k+1:=⟨o.length,by rw[y2.out,h4];simp⟩;subst T;have b3:o.length=k:=by have:=y2.out;rw[h4]at this;simp at this;omega
   obtain⟨g,off,z0,q0,q1,q2,x4⟩:=nH c9.out (show M[k]? =some q by rw[h4,<-b3];simp)
   have b4:off=0:=by
    obtain⟨g',i7,_,A,_⟩:=D.out.2.resolve_left (λe=>by have:=e.2;omega);injection A with A;rw[z0]at A;injection A with A;injection A
   subst b4;subst z0;obtain⟨qn,b6⟩:=jl q.2;rw[y9]at q0 q1;rw[<-a0.out]at q0;rw[<-a7.out]at q1;rw[<-b6]at q2;rw[Nat.zero_add]at q0 q1 q2;have r0:V.cell? ⟨g,k*3,none⟩=some (.int .u32 (f:Int)):=(u.out.cell (p:=⟨g,k*3,none⟩) x4).trans q0;have r1:V.cell? ⟨g,k*3+1,none⟩=some (.int .u32 (r:Int)):=(u.out.cell (p:=⟨g,k*3+1,none⟩) x4).trans q1;have r2:V.cell? ⟨g,k*3+2,none⟩=some (.int .u64 (qn:Int)):=(u.out.cell (p:=⟨g,k*3+2,none⟩) x4).trans q2;have HQ:=jq (And.intro h4 (And.intro y9 (And.intro b6 b3)));have l3:IntKind.i64.wrap (((k+1:Nat):Int)-1)=(k:Int):=by rw[show((k+1:Nat):Int)-1=k by omega];exact IntWalk.i64_in _ (by omega)
   have j2:decide ((0:Int) <((k+1:Nat):Int))=true:=by simp
   have z4: (k:Int) <((k+1:Nat):Int):=by omega
   have z3: (0:Int)<=(k:Int):=by omega
   clear h4 y9 b6 b3 q0 q1 q2;refine xS (by kernel_rfl) (by kernel_rfl) (by kernel_rfl) ?_
   repeat(any_goals (first|go_big_quiet_step (fail)|quiet_step (fail)))
   all_goals(refine wpQuiet_nil ?_;intro _ x5;obtain⟨nq,x6⟩:=x5;subst x6)
   obtain⟨V2,E⟩:=jl (V.drewN nq);have d:Below V.heap.size V V2:=by rw[E];exact⟨rfl,rfl,rfl,aj _,λ_ _=>rfl⟩
   rw[<-E];have j4:g<V.heap.size:=aD x4 u.out.size;have z:=h6.out.below d h6.out.lt;have F:Boxed V2 tb 32 (.slice (some ⟨g,0,none⟩) (k+1) vc):=(d.block tb N.out.lt).trans N.out;have s2:V2.cell? ⟨g,k*3+2,none⟩=some (.int .u64 (qn:Int)):=(d.cell (p:=⟨g,k*3+2,none⟩) j4).trans r2;have c0:=F.cell;have k2:=z.cell 2
   simp at k2
   have I:V2.ownsRow w.heap.size 49 3 (.slice (some ⟨g,0,none⟩) (k+1) vc) (k+1) (M.flatMap aH):=own_later (own_later D.out u.out) d;have fz:=I.frozenAt (k*3+2)
   have f4:qn<=av:=by
    rw[HQ.out.2.2.1];refine TN (l:=K.take pre.length) (λp hp=>(d1.out p (rW hp)).2) q ?_;have:=HM.out;unfold Mg at this;rw[<-this,HQ.out.1]
    simp
   have e3:i<=av:=by rw[z9.out];exact i3.out.2
   have i5:=jq (λw=>(rD qn i f4 e3 w).mono (R':=λe w'=>e=.returned (.int .u64 ((sat (qn+i):Nat):Int))/\w'=w) (λ_ _ h=>⟨h.1,h.2.symm⟩));have h7:=jq I;have x0:=jq d;have d4:=jq F;clear E d z F I r0 r1 r2 k0 k1 f4 e3 j2
   gi_wp2_with fail
   have l4:IntKind.i64.wrap (k:Int)=(k:Int):=IntWalk.i64_in _ (by omega);have l1: (k:Int) <(k:Int)+1:=by omega
   refine TK 14 (by kernel_rfl) (by kernel_rfl) (by kernel_rfl) ?_;simp only[List.take_succ_cons,List.take_zero,List.drop_succ_cons,List.drop_zero]
   repeat still_step
   still_call (i5.out _)
   repeat still_step
   refine wpStill_nil ?_
   change wpList _ _ _ _ _ V2.drew
   go_wp2_with fail
   obtain⟨V3,x7⟩:=jl ((V2.setCell ⟨g,k*3+2,none⟩ (.int .u64 ((sat (qn+i):Nat):Int))).drew);have f9:=(h7.out.stored (k*3+2) (.int .u64 ((sat (qn+i):Nat):Int))).1;have e4:=(D.out.lt g rfl).1;have h8:Below W.heap.size W V2:=u.out.trans (x0.out.mono u.out.size)
   have y1:Upon (λx=>x=g) W V3:=by
    rw[x7];exact((Upon.of_below (P:=λx=>x=g) h8).set (p:=⟨g,k*3+2,none⟩) (.inl rfl) _).drew
   have x8:tb≠g:=λe=>d4.out.not_row (by decide) h7.out (by rw[e];rfl)
   have g6:Boxed V3 tb 32 (.slice (some ⟨g,0,none⟩) (k+1) vc):=by
    rw[x7];exact(Below.heap_setCell V2 ⟨g,k*3+2,none⟩ _ tb x8).trans d4.out
   have b7:V3.ownsRow w.heap.size 49 3 (.slice (some ⟨g,0,none⟩) (k+1) vc) (fI M p).length ((fI M p).flatMap aH):=by
    rw[HQ.out.1,nE,if_pos HQ.out.2.1];have A: (o++ [(q.1,sat (q.2+p.2))]).length=k+1:=by rw[jL,HQ.out.2.2.2];rfl
    rw[A,<-vH o q,HQ.out.2.2.2,<-HQ.out.1,<-HQ.out.2.2.1,<-z9.out,x7];exact f9
   have e5:KeepsFrom W1.heap.size W V3:=by
    rw[x7];exact TP h8 D.out _ _
   have j0:Hid (KeepsFrom W1.heap.size W V3/\fe U lW W V3/\(((∃v,Boxed V3 tb 32 v/\V3.ownsRow w.heap.size 49 3 v (Mg K (pre++ [(((some (⟨gb,0,none⟩:Addr),16,xc),ai p):Go.Proofs.YtndkohocgfmamaaGreatDoor.Runs.Told)])).length ((Mg K (pre++ [(((some (⟨gb,0,none⟩:Addr),16,xc),ai p):Go.Proofs.YtndkohocgfmamaaGreatDoor.Runs.Told)])).flatMap aH)/\∀g,v.ownBlock=some g->w.heap.size<=g)/\Below w.heap.size w V3)/\(pre++ [(((some (⟨gb,0,none⟩:Addr),16,xc),ai p):Go.Proofs.YtndkohocgfmamaaGreatDoor.Runs.Told)]).length<=K.length)):=jq ⟨e5,fe.Gb y1 (λx j _=>by
    subst j;exact⟨λhu=>by have:=a6.out _ hu;omega,AO D.out (by decide) x rfl⟩),⟨⟨_,g6,by rw[d0.out,<-HM.out];exact b7,λg' j3=>(b7.lt g' j3).1⟩,HB.out.trans (y1.below hs (λx j=>by rw[j];exact e4))⟩,by rw[jL];exact c8.out⟩
   rw[<-x7];clear f9 e4 h8 y1 x8 g6 b7 e5 x7 c0 k2 s2 fz;refine TJ ?_
   gi_wp2_with fail
   exact j0.out
  ·have f0:fI M p=M++ [p]:=by
    rcases nK M with e|⟨o,q,e⟩
    ·rw[e,uQ];rfl
    ·rw[nL]at e;rw[e,nE,if_neg (λh=>hq ⟨o,q,e,h⟩)]
   have i2:=jq f0
   have j8: (decide ((0:Int) <(m:Int))=false/\m=0)\/(decide ((0:Int) <(m:Int))=true/\∃(k qs qv:Nat) (g:Nat),m=k+1/\va=some ⟨g,0,none⟩/\V.cell? ⟨g,k*3,none⟩=some (.int .u32 (qs:Int))/\V.cell? ⟨g,k*3+1,none⟩=some (.int .u32 (qv:Int))/\(qs≠f\/(qs=f/\qv≠r))):=by
    rcases Nat.eq_zero_or_pos m with h0|h0
    ·exact .inl ⟨by rw[h0];simp,h0⟩
    ·right
     refine⟨by simpa using h0,?_⟩
     obtain⟨o,q,h4⟩:∃o q,M=o++ [q]:=by
      rcases nK M with e|⟨o,q,e⟩
      ·have:=y2.out;rw[e]at this
       simp at this
       omega
      ·exact⟨o,q,by rw[e,nL]⟩
     have T:m=o.length+1:=by rw[y2.out,h4];simp
     obtain⟨g,off,z0,q0,q1,q2,x4⟩:=nH c9.out (show M[o.length]? =some q by rw[h4];simp)
     have b4:off=0:=by
      obtain⟨g',i7,_,A,_⟩:=D.out.2.resolve_left (λe=>by have:=e.2;omega);injection A with A;rw[z0]at A;injection A with A;injection A
     subst b4;rw[Nat.zero_add]at q0 q1;refine⟨o.length,q.1/4294967296,q.1%4294967296,g,T,z0,(u.out.cell (p:=⟨g,o.length*3,none⟩) x4).trans q0,(u.out.cell (p:=⟨g,o.length*3+1,none⟩) x4).trans q1,?_⟩;have y9:q.1≠p.1:=λe=>hq ⟨o,q,h4,e⟩
     have O:=a0.out;have h2:=a7.out
     by_cases e:q.1/4294967296=f
     ·right
      refine⟨e,λe2=>y9 ?_⟩
      omega
     ·exact .inl e
   clear hq f0
   have z8:Hid (∀V2:World,Below V.heap.size V V2->∀(C:World) (g3 G:Nat),C.ownsRow w.heap.size 49 3 (.slice (some ⟨g3,0,none⟩) (m+1) G) (m+1) (M.flatMap aH++ [.int .u32 (f:Int),.int .u32 (r:Int),.int .u64 (i:Int)])->(V2.alloc (.cells #[.int .u32 (f:Int),.int .u32 (r:Int),.int .u64 (i:Int)] 49)).grownBy C (Value.slice va m vc).ownBlock->
     Boxed C tb 32 (.slice va m vc)/\KeepsFrom W1.heap.size W (C.setCell ⟨tb,0,none⟩ (.slice (some ⟨g3,0,none⟩) (m+1) G))/\fe U lW W (C.setCell ⟨tb,0,none⟩ (.slice (some ⟨g3,0,none⟩) (m+1) G))/\(((∃v,Boxed (C.setCell ⟨tb,0,none⟩ (.slice (some ⟨g3,0,none⟩) (m+1) G)) tb 32 v/\(C.setCell ⟨tb,0,none⟩ (.slice (some ⟨g3,0,none⟩) (m+1) G)).ownsRow w.heap.size 49 3 v (Mg K (pre++ [(((some (⟨gb,0,none⟩:Addr),16,xc),ai p):Go.Proofs.YtndkohocgfmamaaGreatDoor.Runs.Told)])).length ((Mg K (pre++ [(((some (⟨gb,0,none⟩:Addr),16,xc),ai p):Go.Proofs.YtndkohocgfmamaaGreatDoor.Runs.Told)])).flatMap aH)/\∀g,v.ownBlock=some g->w.heap.size<=g)/\Below w.heap.size w (C.setCell ⟨tb,0,none⟩ (.slice (some ⟨g3,0,none⟩) (m+1) G)))/\(pre++ [(((some (⟨gb,0,none⟩:Addr),16,xc),ai p):Go.Proofs.YtndkohocgfmamaaGreatDoor.Runs.Told)]).length<=K.length)):=jq (λV2 d C g3 G L J=>by
    have h8:Below W.heap.size W V2:=u.out.trans (d.mono u.out.size);have x9:V2.ownsRow w.heap.size 49 3 (.slice va m vc) m (M.flatMap aH):=own_later (own_later D.out u.out) d;have k6:Boxed V2 tb 32 (.slice va m vc):=(d.block tb N.out.lt).trans N.out;have y0:w.heap.size<=tb:=by rw[d3.out];exact aj _
    obtain⟨a1,a2,a3,a4,a5⟩:=k6.appended (by decide) x9 (by have:=h8.size;omega) y0 L J
    have y1:Upon (λx=>x=tb\/(Value.slice va m vc).ownBlock=some x) W (C.setCell ⟨tb,0,none⟩ (.slice (some ⟨g3,0,none⟩) (m+1) G)):=by
     have O:Upon (λx=>x=tb\/(Value.slice va m vc).ownBlock=some x) W V2:=Upon.of_below h8;have h2:=O.trans (Upon.of_below (P:=λx=>x=tb\/(Value.slice va m vc).ownBlock=some x) ((Below.refl _ V2).alloc jn (.cells #[.int .u32 (f:Int),.int .u32 (r:Int),.int .u64 (i:Int)] 49))) (λx j=>.inl j);have h3:=h2.trans (Upon.of_grown (P:=λx=>x=tb\/(Value.slice va m vc).ownBlock=some x) J (λx j=>.inl (.inr j))) (λx j=>.inl j);exact h3.set (p:=⟨tb,0,none⟩) (.inl (.inl rfl)) _
    have j6:KeepsFrom W1.heap.size W V2:=⟨h8.size,λk o _ T _=>(h8.block k (dG.1 T).1).trans T⟩;refine⟨a1,j6.trans (a4.from _),fe.Gb y1 (λx j _=>?_),⟨⟨_,a2,?_,λg hg=>?_⟩,HB.out.trans (y1.below hs (λx j=>?_))⟩,by rw[jL];exact c8.out⟩
    ·rcases j with rfl|j
     ·exact⟨λhu=>by have:=a6.out _ hu;omega,AL (t:=32) HV.out (by decide)⟩
     ·exact⟨λhu=>by have:=a6.out _ hu;have:=(D.out.lt x j).1;omega,AO D.out (by decide) x j⟩
    ·rw[d0.out,<-HM.out,i2.out,jL,ig,<-y2.out];have A: [p].flatMap aH= [.int .u32 (f:Int),.int .u32 (r:Int),.int .u64 (i:Int)]:=by rw[a0.out,a7.out,z9.out];rfl
     rw[A];exact a3
    ·exact(L.lt g hg).1
    ·rcases j with rfl|j
     ·exact y0
     ·exact(D.out.lt x j).1)
   rcases j8 with⟨t0,h0⟩|⟨t0,k,qs,qv,g,z6,rfl,r0,r1,y7|⟨f5,y7⟩⟩
   ·have tn:decide (0<m)=false:=by rw[h0];rfl
    clear h0;refine xS (by kernel_rfl) (by kernel_rfl) (by kernel_rfl) ?_
    repeat(any_goals (first|go_big_quiet_step (fail)|quiet_step (fail)))
    refine wpQuiet_nil ?_;intro _ x5;obtain⟨nq,x6⟩:=x5;subst x6;obtain⟨V2,E⟩:=jl (V.drewN nq);have d:Below V.heap.size V V2:=by rw[E];exact⟨rfl,rfl,rfl,aj _,λ_ _=>rfl⟩
    rw[<-E];have z:=h6.out.below d h6.out.lt;have F:Boxed V2 tb 32 (.slice va m vc):=(d.block tb N.out.lt).trans N.out;have c0:=F.cell;have k0:=z.cell 0;have k1:=z.cell 1;have k2:=z.cell 2
    simp at k0 k1 k2
    have I:V2.ownsRow w.heap.size 49 3 (.slice va m vc) m (M.flatMap aH):=own_later (own_later D.out u.out) d;have g8:w.heap.size<=V2.heap.size:=ax (ax hs u.out.size) d.size;have cA: (V2.alloc (.cells #[.int .u32 (f:Int),.int .u32 (r:Int),.int .u64 (i:Int)] 49)).cell? ⟨tb,0,none⟩=some (.slice va m vc):=(F.alloc _).cell;have h7:=jq I;have x0:=jq d;have y3:=jq (dQ (jG V2 49 #[.int .u32 (f:Int),.int .u32 (r:Int),.int .u64 (i:Int)]));clear E d z F I t0 tn
    gi_wp2_with (first
     |(gi_at_builtin
       refine yS _ rfl _ _ 32 rfl w.heap.size 49 i0 (.agg #[.int .u32 0,.int .u32 0,.int .u64 0]) 3 16 underlying32 b1 c4 c5 c6 rfl (by decide) _ _ _ rfl (h7.out.alloc _) ⟨V2.heap.size,0,none⟩ 1 1 [.int .u32 (f:Int),.int .u32 (r:Int),.int .u64 (i:Int)] rfl rfl y3.out (by simp[Value.oneCell']) (by decide) (by unfold maxLen;omega) (by omega) (by rw[World.size_alloc];omega) ?_;intro g3 G C L J y5 y8;have H:=z8.out V2 x0.out C g3 G L J;have g1:=H.1.cell;have g2:=H.1.frozen;have HE:=jq H.2;clear H L J y5 y8)
     |gi_round_op_a)
    exact HE.out
   ·have x8: ((qs:Int)==(f:Int))=false:=by simpa using λe: (qs:Int)=f=>y7 (by omega)
    have c2:IntKind.i64.wrap ((m:Int)-1)=(k:Int):=by rw[show(m:Int)-1=k by omega];exact IntWalk.i64_in _ (by omega)
    have z4: (k:Int) <(m:Int):=by omega
    have z3: (0:Int)<=(k:Int):=by omega
    have tn:decide (0<m)=true:=by rw[z6];simp
    clear z6 y7;refine xS (by kernel_rfl) (by kernel_rfl) (by kernel_rfl) ?_
    repeat(any_goals (first|go_big_quiet_step (fail)|quiet_step (fail)))
    refine wpQuiet_nil ?_;intro _ x5;obtain⟨nq,x6⟩:=x5;subst x6;obtain⟨V2,E⟩:=jl (V.drewN nq);have d:Below V.heap.size V V2:=by rw[E];exact⟨rfl,rfl,rfl,aj _,λ_ _=>rfl⟩
    rw[<-E];have z:=h6.out.below d h6.out.lt;have F:Boxed V2 tb 32 (.slice (some ⟨g,0,none⟩) m vc):=(d.block tb N.out.lt).trans N.out;have c0:=F.cell;have k0:=z.cell 0;have k1:=z.cell 1;have k2:=z.cell 2
    simp at k0 k1 k2
    have I:V2.ownsRow w.heap.size 49 3 (.slice (some ⟨g,0,none⟩) m vc) m (M.flatMap aH):=own_later (own_later D.out u.out) d;have g8:w.heap.size<=V2.heap.size:=ax (ax hs u.out.size) d.size;have cA: (V2.alloc (.cells #[.int .u32 (f:Int),.int .u32 (r:Int),.int .u64 (i:Int)] 49)).cell? ⟨tb,0,none⟩=some (.slice (some ⟨g,0,none⟩) m vc):=(F.alloc _).cell;have h7:=jq I;have x0:=jq d;have y3:=jq (dQ (jG V2 49 #[.int .u32 (f:Int),.int .u32 (r:Int),.int .u64 (i:Int)]));clear E d z F I t0 tn x8 c2 z4 z3 r0 r1
    gi_wp2_with (first
     |(gi_at_builtin
       refine yS _ rfl _ _ 32 rfl w.heap.size 49 i0 (.agg #[.int .u32 0,.int .u32 0,.int .u64 0]) 3 16 underlying32 b1 c4 c5 c6 rfl (by decide) _ _ _ rfl (h7.out.alloc _) ⟨V2.heap.size,0,none⟩ 1 1 [.int .u32 (f:Int),.int .u32 (r:Int),.int .u64 (i:Int)] rfl rfl y3.out (by simp[Value.oneCell']) (by decide) (by unfold maxLen;omega) (by omega) (by rw[World.size_alloc];omega) ?_;intro g3 G C L J y5 y8;have H:=z8.out V2 x0.out C g3 G L J;have g1:=H.1.cell;have g2:=H.1.frozen;have HE:=jq H.2;clear H L J y5 y8)
     |gi_round_op_a)
    exact HE.out
   ·rw[f5]at r0;have x8: ((qv:Int)==(r:Int))=false:=by simpa using λe: (qv:Int)=r=>y7 (by omega)
    have c2:IntKind.i64.wrap ((m:Int)-1)=(k:Int):=by rw[show(m:Int)-1=k by omega];exact IntWalk.i64_in _ (by omega)
    have z4: (k:Int) <(m:Int):=by omega
    have z3: (0:Int)<=(k:Int):=by omega
    have tn:decide (0<m)=true:=by rw[z6];simp
    clear z6 y7 f5;refine xS (by kernel_rfl) (by kernel_rfl) (by kernel_rfl) ?_
    repeat(any_goals (first|go_big_quiet_step (fail)|quiet_step (fail)))
    refine wpQuiet_nil ?_;intro _ x5;obtain⟨nq,x6⟩:=x5;subst x6;obtain⟨V2,E⟩:=jl (V.drewN nq);have d:Below V.heap.size V V2:=by rw[E];exact⟨rfl,rfl,rfl,aj _,λ_ _=>rfl⟩
    rw[<-E];have z:=h6.out.below d h6.out.lt;have F:Boxed V2 tb 32 (.slice (some ⟨g,0,none⟩) m vc):=(d.block tb N.out.lt).trans N.out;have c0:=F.cell;have k0:=z.cell 0;have k1:=z.cell 1;have k2:=z.cell 2
    simp at k0 k1 k2
    have I:V2.ownsRow w.heap.size 49 3 (.slice (some ⟨g,0,none⟩) m vc) m (M.flatMap aH):=own_later (own_later D.out u.out) d;have g8:w.heap.size<=V2.heap.size:=ax (ax hs u.out.size) d.size;have cA: (V2.alloc (.cells #[.int .u32 (f:Int),.int .u32 (r:Int),.int .u64 (i:Int)] 49)).cell? ⟨tb,0,none⟩=some (.slice (some ⟨g,0,none⟩) m vc):=(F.alloc _).cell;have h7:=jq I;have x0:=jq d;have y3:=jq (dQ (jG V2 49 #[.int .u32 (f:Int),.int .u32 (r:Int),.int .u64 (i:Int)]));clear E d z F I t0 tn x8 c2 z4 z3 r0 r1
    gi_wp2_with (first
     |(gi_at_builtin
       refine yS _ rfl _ _ 32 rfl w.heap.size 49 i0 (.agg #[.int .u32 0,.int .u32 0,.int .u64 0]) 3 16 underlying32 b1 c4 c5 c6 rfl (by decide) _ _ _ rfl (h7.out.alloc _) ⟨V2.heap.size,0,none⟩ 1 1 [.int .u32 (f:Int),.int .u32 (r:Int),.int .u64 (i:Int)] rfl rfl y3.out (by simp[Value.oneCell']) (by decide) (by unfold maxLen;omega) (by omega) (by rw[World.size_alloc];omega) ?_;intro g3 G C L J y5 y8;have H:=z8.out V2 x0.out C g3 G L J;have g1:=H.1.cell;have g2:=H.1.frozen;have HE:=jq H.2;clear H L J y5 y8)
     |gi_round_op_a)
    exact HE.out
 case done=>
  rintro Dk ys W hD g7 ⟨⟨⟨v,hv,Z,_⟩,R⟩,z5⟩ hK
  have e6:ys.length=K.length:=by
   have:=congrArg List.length g7;rw[jP,jP]at this;exact this
  have e9:Mg K ys=merged K:=by unfold Mg;rw[e6,lC]
  rw[e9]at Z;have c1:=hv.cell;have g0:=(Go.Proofs.YtndkohocgfmamaaGreatDoor.Runs.FM (.deferred none) hv hK rfl).cell;have HK:=jq hK;have HB:=jq R;have D:=jq Z;have l0:=(dG.1 hK).1;obtain⟨va,vc,rfl,_,_,_,_⟩:=own_shape Z;clear hK R hv Z e6 g7 e9;dsimp only
  gi_wp2
  go_wp2_with fail
  rw[Exit.noGoto_ret];refine⟨by simp,.inl ⟨_,_,rfl,run_takeDeferred HK.out,?_⟩⟩;refine⟨.slice va (merged K).length vc,by simp[results,Tryz.f38,results38,go_sem],_,rfl,?_,?_⟩
  ·exact ownsRow_putObj D.out _ HK.out rfl
  ·exact HB.out.trans ((Below.refl _ W).grown (grownBy_putObj' W Dk _) (by have:=HB.out.size;omega) (λq e=>by cases e;have:=d2.out;omega))
 case stop=>
  rintro Dk c pre W hD _ hI hK;exact hI.elim
end aX
end Go.Proofs.YtndkohocgfmamaaGreatDoor
