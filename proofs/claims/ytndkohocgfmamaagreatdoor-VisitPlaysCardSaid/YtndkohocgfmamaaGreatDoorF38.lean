/- Part. -/
import Derived.Test.YtndkohocgfmamaaGreatDoorF37
import Derived.StillTailTactics
set_option maxHeartbeats 2000000
set_option maxRecDepth 100000
namespace Go.Proofs.YtndkohocgfmamaaGreatDoor
open Go.Proofs.Tryz
namespace Vp
open Go.RowKit Go.Deep Mem Crc Merge aX
open Runs (aW Fi Mid SL sortB dJ jO rname aR)
open Store (Sto Files setF fF fG nv)
attribute [local go_sem] Oper.semAt_some
theorem nC{k a d:Nat}(e:a=k/4294967296)(f:d=k%4294967296):lX k=.agg #[.int .u32 (a:Int),.int .u32 (d:Int)]:=by rw[e,f];rfl
variable {w:World}{b s c x hb n:Nat}{H:List KC}{D:Nat->Prop}{F:Files}
theorem _root_.Go.Proofs.YtndkohocgfmamaaGreatDoor.aX.bM.Bh(h:bM w b H)(k:Nat)(a:k<=av): (Instr.lookup 67 (.map (some b)) (lX k) true).run prog w.drew=.ok (.tuple #[.int .u64 ((tot H k:Nat):Int),.bool (decide (tot H k≠0))]) w.drew:=bM.look_ok (w:=w.drew) h k a
theorem _root_.Go.Proofs.YtndkohocgfmamaaGreatDoor.aX.bM.Bj(h:bM w b H)(k:Nat)(a:k<=av): (Instr.lookup 67 (.map (some b)) (lX k) false).run prog w.drew=.ok (.int .u64 ((tot H k:Nat):Int)) w.drew:=bM.look (w:=w.drew) h k a
theorem add_zero(c:Nat)(a d:Nat)(w:World):Calls prog 14 #[.pointer (some ⟨c,0,none⟩),.int .u32 (a:Int),.int .u32 (d:Int),.int .u64 0] w λe w'=>e=.returned (.int .i64 0)/\Below w.heap.size w w':=by
 go_enter func14,ntmps14
 go_wp2_with fail
 go_ret
 exact⟨rfl,by first|exact((((Below.refl _ w).alloc jn _).setCell jn _).setCell jn _)|exact(Below.refl _ w).alloc jn _⟩
theorem aL.put{s:Nat}{S:Sto s}{A:Fi}{rm:Nat}{D:Nat->Prop}{w w2:World}{c x hb:Nat}{ne:Nat}{F:Files}{H:List KC}{n:Nat}(h:aL S A rm D w c x hb ne F H n){p:KC}(j:iI p)(k:tot H p.1≠0\/H.length<rm)(i:bM w2 hb (fH H p))(a:w.grownBy w2 (some hb)):aL S A rm D w2 c x hb ne F (fH H p) n/\Upon (λg=>g=hb) w w2:=by
 have d:Upon (λg=>g=hb) w w2:=Upon.of_grown a (λg a=>.inl (by injection a with a;exact a.symm));refine⟨⟨h.blk.upon d (λe=>h.hc e.symm),h.aF.keep d (λg a e=>h.hD (e▸a)),i,h.held.put j,?_,h.cD,h.hD,h.hc,h.lm,h.jQ⟩,d⟩;have:=Tc h.held p;have:=h.room;rcases k with f|f
 ·rw[if_neg f]at *
  omega
 ·split at* <;> omega
theorem Im{S:Sto s}{A:Fi}{rm:Nat}{ne:Nat}(h:aL S A rm D w c x hb ne F H n)(p:KC)(a:iI p)(m o:Nat)(E:m=p.1/4294967296)(G:o=p.1%4294967296)(Q:tot H p.1≠0):
  Calls prog 14 #[.pointer (some ⟨c,0,none⟩),.int .u32 (m:Int),.int .u32 (o:Int),.int .u64 (p.2:Int)] w λe w'=>e=.returned (.int .i64 0)/\aL S A rm D w' c x hb ne F (fH H p) n/\Upon (λg=>g=hb) w w':=by
 obtain⟨f,C⟩:=jl p.2;have x9: ((f:Int)==0)=false:=by have:=a.2.1;simp;omega
 have h6:f<=av:=by rw[C];exact a.2.2
 obtain⟨t,d⟩:=jl (tot H p.1);have h9:t<=av:=by rw[d];exact h.held.Bl _
 obtain⟨V,z⟩:=jl (w.alloc (.cells #[.int .u32 (m:Int),.int .u32 (o:Int)] 99));have r:Below w.heap.size w V:=by rw[z];exact(Below.refl _ w).alloc jn _
 obtain⟨pb,P⟩:=jl w.heap.size;have h0:Blk V pb 99 #[.int .u32 (m:Int),.int .u32 (o:Int)]:=by rw[z,P];exact Blk.new w _ _
 have B:=h.later r;have O:=B.map.Bh p.1 a.1;have x3:=jq (nC E G);have x5:=jq d;have x1:=jq a;rw[nC E G,<-d]at O;have x0:decide (t≠0)=true:=by rw[d];simpa using Q
 rw[x0]at O;have x4:=jq (λw=>(rD t f h9 h6 w).mono (R':=λe w'=>e=.returned (.int .u64 ((sat (t+f):Nat):Int))/\w'=w) (λ_ _ h=>⟨h.1,h.2.symm⟩))
 have x6:Hid (∀W:World,Below V.heap.size V W->∃w2,(Instr.mapUpdate 67 (.map (some hb)) (.agg #[.int .u32 (m:Int),.int .u32 (o:Int)]) (.int .u64 ((sat (t+f):Nat):Int))).run prog W=.ok () w2/\aL S A rm D w2 c x hb ne F (fH H p) n/\Upon (λg=>g=hb) w w2):=jq (λW Z=>by
  have i:=B.later Z;obtain⟨w2,X,h2,h3,h4⟩:=i.map.update i.held (by have:=i.room;have:=i.qj.2;omega) p a;rw[nC E G,<-d,<-C]at X;have Y:=i.put a (.inl Q) h2 h3;exact⟨w2,X,Y.1,(Upon.of_below (r.trans (Z.mono r.size))).trans Y.2 (λg hg=>.inl hg)⟩)
 have U:=jq B;have q:=jq h0;have x7:=jq z;have x2:=jq P;rw[<-C];clear E G C d Q x0 z P a h B h0 r h6 h9
 go_enter func14,ntmps14
 go_wp2_with fail
 rw[<-x7.out,<-x2.out];have j:=U.out.blk.cell 1;have k:=q.out.cell 0;have l:=q.out.cell 1
 simp at j k l
 go_still (by kernel_rfl)
 change Exit.then _ _ _ _ V.drew
 obtain⟨V1,M⟩:=jl V.drew;have u:Below V.heap.size V V1:=by rw[M];exact(Below.refl _ V).drew
 rw[<-M];have T:=jq (U.out.later u);have J:=jq (q.out.below u q.out.lt);have I:=jq u;clear M u O j k l
 go_wp2_with fail
 go_quiet (fail)
 obtain⟨V2,N⟩:=jl (V1.drewN nq);have v:Below V1.heap.size V1 V2:=by rw[N];exact⟨rfl,rfl,rfl,aj _,λ_ _=>rfl⟩
 rw[<-N];have y:=T.out.later v;have L:=J.out.below v J.out.lt;have x8:=jq y;have R:=jq (I.out.trans (v.mono I.out.size));have h8:=y.map.Bj p.1 x1.out.1;rw[x3.out,<-x5.out]at h8;have j:=y.blk.cell 1;have k:=L.cell 0;have l:=L.cell 1
 simp at j k l
 clear N v y L T J I
 go_wp2_with fail
 refine wp_region_still_tail 13 (by kernel_rfl) (by kernel_rfl) ?_;simp only[List.take_succ_cons,List.take_zero,List.drop_succ_cons,List.drop_zero]
 repeat still_step
 still_call (x4.out _)
 repeat still_step
 refine wpStill_nil ?_
 change wpList _ _ _ _ _ V2.drew
 obtain⟨w3,y0,h7,hu⟩:=x6.out V2.drew (R.out.trans ((Below.refl _ V2).drew.mono R.out.size));have HE:=jq (And.intro h7 hu);clear h7 hu h8 j k l
 go_wp2_with fail
 go_ret
 exact⟨rfl,HE.out⟩
theorem Io{S:Sto s}{A:Fi}{rm:Nat}{ne:Nat}(h:aL S A rm D w c x hb ne F H n)(p:KC)(a:iI p)(q r:Nat)(I:q=p.1/4294967296)(J:r=p.1%4294967296)(x1:tot H p.1=0)(h9:H.length<rm):
  Calls prog 14 #[.pointer (some ⟨c,0,none⟩),.int .u32 (q:Int),.int .u32 (r:Int),.int .u64 (p.2:Int)] w λe w'=>e=.returned (.int .i64 0)/\aL S A rm D w' c x hb ne F (fH H p) n/\Upon (λg=>g=hb) w w':=by
 obtain⟨i,G⟩:=jl p.2;have y4: ((i:Int)==0)=false:=by have:=a.2.1;simp;omega
 have h6:i<=av:=by rw[G];exact a.2.2
 obtain⟨t,f⟩:=jl (tot H p.1);have x0:t<=av:=by rw[f];exact h.held.Bl _
 obtain⟨V,C⟩:=jl (w.alloc (.cells #[.int .u32 (q:Int),.int .u32 (r:Int)] 99));have v:Below w.heap.size w V:=by rw[C];exact(Below.refl _ w).alloc jn _
 obtain⟨pb,U⟩:=jl w.heap.size;have h0:Blk V pb 99 #[.int .u32 (q:Int),.int .u32 (r:Int)]:=by rw[C,U];exact Blk.new w _ _
 have E:=h.later v;have T:=E.map.Bh p.1 a.1;have x6:=jq (nC I J);have x8:=jq f;have x4:=jq a;rw[nC I J,<-f]at T;have x2:decide (t≠0)=false:=by rw[f];simpa using x1
 rw[x2]at T;have y2: ((H.length:Int)==(rm:Int))=false:=by simp;omega
 obtain⟨N,O⟩:=jl H.length;have x3:=jq O;have x7:=jq (λw=>(rD t i x0 h6 w).mono (R':=λe w'=>e=.returned (.int .u64 ((sat (t+i):Nat):Int))/\w'=w) (λ_ _ h=>⟨h.1,h.2.symm⟩))
 have x9:Hid (∀W:World,Below V.heap.size V W->∃w2,(Instr.mapUpdate 67 (.map (some hb)) (.agg #[.int .u32 (q:Int),.int .u32 (r:Int)]) (.int .u64 ((sat (t+i):Nat):Int))).run prog W=.ok () w2/\aL S A rm D w2 c x hb ne F (fH H p) n/\Upon (λg=>g=hb) w w2):=jq (λW hW=>by
  have j:=E.later hW;obtain⟨w2,h1,h2,h3,h4⟩:=j.map.update j.held (by have:=j.room;have:=j.qj.2;omega) p a;rw[nC I J,<-f,<-G]at h1;have h5:=j.put a (.inr h9) h2 h3;exact⟨w2,h1,h5.1,(Upon.of_below (v.trans (hW.mono v.size))).trans h5.2 (λg hg=>.inl hg)⟩)
 have Z:=jq E;have u:=jq h0;have y0:=jq C;have x5:=jq U;rw[<-O]at y2;rw[<-G];clear O h9 I J G f x1 x2 C U a h E h0 v h6 x0
 go_enter func14,ntmps14
 go_wp2_with fail
 rw[<-y0.out,<-x5.out];have k:=Z.out.blk.cell 1;have l:=u.out.cell 0;have o:=u.out.cell 1
 simp at k l o
 go_still (by kernel_rfl)
 change Exit.then _ _ _ _ V.drew
 obtain⟨V1,Q⟩:=jl V.drew;have y:Below V.heap.size V V1:=by rw[Q];exact(Below.refl _ V).drew
 rw[<-Q];have d:=jq (Z.out.later y);have M:=jq (u.out.below y u.out.lt);have L:=jq y;have y1:∀(m:Nat) (X:TypeId),(Builtin.len_ #[67] X #[.map (some hb)]).run prog (V1.drewN m)=.ok (.int .i64 (N:Int)) (V1.drewN m):=λm X=>by rw[x3.out];exact bM.len (w:=V1.drewN m) d.out.map d.out.held X
 have j0:=d.out.blk.cell 0;have j1:=d.out.blk.cell 1
 simp at j0 j1
 clear Q y T k l o
 go_wp2_with fail
 go_quiet (fail)
 obtain⟨V2,R⟩:=jl (V1.drewN nq);have z:Below V1.heap.size V1 V2:=by rw[R];exact⟨rfl,rfl,rfl,aj _,λ_ _=>rfl⟩
 rw[<-R];have B:=d.out.later z;have P:=M.out.below z M.out.lt;have y3:=jq B;have Y:=jq (L.out.trans (z.mono L.out.size));have h8:=B.map.Bj p.1 x4.out.1;rw[x6.out,<-x8.out]at h8;have k:=B.blk.cell 1;have l:=P.cell 0;have o:=P.cell 1
 simp at k l o
 clear R z B P d M L y1 j0 j1
 go_wp2_with fail
 refine wp_region_still_tail 13 (by kernel_rfl) (by kernel_rfl) ?_;simp only[List.take_succ_cons,List.take_zero,List.drop_succ_cons,List.drop_zero]
 repeat still_step
 still_call (x7.out _)
 repeat still_step
 refine wpStill_nil ?_
 change wpList _ _ _ _ _ V2.drew
 obtain⟨w3,y5,h7,hu⟩:=x9.out V2.drew (Y.out.trans ((Below.refl _ V2).drew.mono Y.out.size));have HE:=jq (And.intro h7 hu);clear h7 hu h8 k l o
 go_wp2_with fail
 go_ret
 exact⟨rfl,HE.out⟩
theorem Td{S:Sto s}{A:Fi}{rm:Nat}{ne:Nat}(h:aL S A rm D w c x hb ne F H n)(p:KC)(k:iI p)(u v:Nat)(I:u=p.1/4294967296)(J:v=p.1%4294967296)(h5:tot H p.1=0)(h4:H.length=rm)(x5:n<100000)(x3:ne<100000):
  Calls prog 14 #[.pointer (some ⟨c,0,none⟩),.int .u32 (u:Int),.int .u32 (v:Int),.int .u64 (p.2:Int)] w λe w'=>e=.returned (.int .i64 0)/\∃D',aL S A rm D' w' c x hb (ne+1) (iY A F ne H) (fH [] p) (n+1)/\(∀g,D' g->D g\/w.heap.size<=g)/\Upon (λg=>D g\/g=hb) w w':=by
 obtain⟨z,G⟩:=jl p.2;have z6: ((z:Int)==0)=false:=by have:=k.2.1;simp;omega
 have x1:z<=av:=by rw[G];exact k.2.2
 obtain⟨t,i⟩:=jl (tot H p.1);have z1:t<=av:=by rw[i];exact h.held.Bl _
 obtain⟨V,E⟩:=jl (w.alloc (.cells #[.int .u32 (u:Int),.int .u32 (v:Int)] 99));have R:Below w.heap.size w V:=by rw[E];exact(Below.refl _ w).alloc jn _
 obtain⟨o,h2⟩:=jl w.heap.size;have x0:Blk V o 99 #[.int .u32 (u:Int),.int .u32 (v:Int)]:=by rw[E,h2];exact Blk.new w _ _
 have W:=h.later R;have h0:=W.map.Bh p.1 k.1;have y4:=jq (nC I J);have z5:=jq i;have O:=jq k;rw[nC I J,<-i]at h0;have x6:decide (t≠0)=false:=by rw[i];simpa using h5
 rw[x6]at h0;have y9: ((H.length:Int)==(rm:Int))=true:=by simp;omega
 obtain⟨N,U⟩:=jl H.length;have x9:=jq U;have z0:t=0:=by rw[i];exact h5
 subst z0;have y6:=jq (λw=>(rD 0 z (aC _) x1 w).mono (R':=λe w'=>e=.returned (.int .u64 ((sat z:Nat):Int))/\w'=w) (λ_ _ h=>⟨by have:=h.1;rwa [Nat.zero_add]at this,h.2.symm⟩));have y5:=jq (nC I J);have x7:=jq G;have M:=jq R;have h8:=jq W;have y:=jq x0;have y7:=jq E;have y1:=jq h2;rw[<-U]at y9;rw[<-G];have h7:=jq (And.intro x5 x3)
 have x8:=jq (show dP H=1 from by
  have:=h.qj.1;unfold dP;rw[if_neg (λe=>by rw[e]at h4;simp at h4;omega)])
 have y2:=jq (show∀g,D g->g<o from λg a=>by have:=h.lt g a;omega);have y3:=jq (show hb<o from by have:=h.map.lt;omega);clear U h4 I J G i h5 x6 E h2 k h W x0 R x1 z1 x5 x3
 go_enter func14,ntmps14
 go_wp2_with fail
 rw[<-y7.out,<-y1.out];have l:=h8.out.blk.cell 1;have q:=y.out.cell 0;have r:=y.out.cell 1
 simp at l q r
 go_still (by kernel_rfl)
 change Exit.then _ _ _ _ V.drew
 obtain⟨V1,X⟩:=jl V.drew;have B:Below V.heap.size V V1:=by rw[X];exact(Below.refl _ V).drew
 rw[<-X];have f:=jq (h8.out.later B);have Q:=jq (y.out.below B y.out.lt);have L:=jq B;have y8:∀(m:Nat) (ty:TypeId),(Builtin.len_ #[67] ty #[.map (some hb)]).run prog (V1.drewN m)=.ok (.int .i64 (N:Int)) (V1.drewN m):=λm ty=>by rw[x9.out];exact bM.len (w:=V1.drewN m) f.out.map f.out.held ty
 have j0:=f.out.blk.cell 0;have j1:=f.out.blk.cell 1
 simp at j0 j1
 clear X B h0 l q r
 go_wp2_with fail
 go_quiet (fail)
 obtain⟨V2,Y⟩:=jl (V1.drewN nq);have C:Below V1.heap.size V1 V2:=by rw[Y];exact⟨rfl,rfl,rfl,aj _,λ_ _=>rfl⟩
 rw[<-Y];have T:=f.out.later C;have h9:=Q.out.below C Q.out.lt;have z4:=jq T;have h6:=jq (L.out.trans (C.mono L.out.size));have j:=xA T h7.out.1 h7.out.2;rw[x8.out]at j;have j:=jq j;have y0:=jq h9;clear Y C T h9 f Q L y8 j0 j1
 go_wp2_with fail
 refine j.out.mono ?_;rintro e w1 ⟨rfl,D',d⟩;have z3:=h6.out.size
 have h3:Blk w1 o 99 #[.int .u32 (u:Int),.int .u32 (v:Int)]:=y0.out.upon d.upon (λa=>by
  rcases a with a|a
  ·have:=y2.out o a;omega
  ·have:=y3.out;omega)
 have h1:=d.ctr.map.Bj p.1 O.out.1;rw[y4.out,iX]at h1;have l:=d.ctr.blk.cell 1;have q:=h3.cell 0;have r:=h3.cell 1
 simp at l q r h1
 obtain⟨w3,z2,x4,x2,_⟩:=(d.ctr.later ((Below.refl _ w1).drew)).map.update uM (by simp) p O.out;have Z:=(d.ctr.later ((Below.refl _ w1).drew)).put O.out (.inr (by have:=d.ctr.qj.1;simp;omega)) x4 x2;rw[y5.out,iX,<-x7.out,Nat.zero_add]at z2;have HE:Hid (∃D',aL S A rm D' w3 c x hb (ne+1) (iY A F ne H) (fH [] p) (n+1)/\(∀g,D' g->D g\/w.heap.size<=g)/\Upon (λg=>D g\/g=hb) w w3):=jq ⟨D',Z.1,λg a=>(d.dom g a).imp id (λhh=>by have:=M.out.size;omega),((Upon.of_below (M.out.trans (h6.out.mono M.out.size))).trans d.upon (λg a=>.inl a)).trans ((Upon.of_below (P:=λg=>g=hb) ((Below.refl _ w1).drew)).trans Z.2 (λg a=>.inl a)) (λg a=>.inl (.inr a))⟩;clear d h3 x4 x2 Z z3 j
 go_wp2_with fail
 refine wp_region_still_tail 13 (by kernel_rfl) (by kernel_rfl) ?_;simp only[List.take_succ_cons,List.take_zero,List.drop_succ_cons,List.drop_zero]
 repeat still_step
 still_call (y6.out _)
 repeat still_step
 refine wpStill_nil ?_
 change wpList _ _ _ _ _ w1.drew
 clear h1 l q r
 go_wp2_with fail
 go_ret
 exact⟨rfl,HE.out⟩
end Vp
end Go.Proofs.YtndkohocgfmamaaGreatDoor
