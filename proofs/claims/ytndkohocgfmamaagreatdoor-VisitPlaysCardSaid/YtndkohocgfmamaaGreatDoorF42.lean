/- Part. -/
import Derived.Test.YtndkohocgfmamaaGreatDoorF38
import Derived.Test.YtndkohocgfmamaaGreatDoorF39
import Derived.Test.YtndkohocgfmamaaGreatDoorF41
set_option maxHeartbeats 2000000
set_option maxRecDepth 100000
namespace Go.Proofs.YtndkohocgfmamaaGreatDoor
open Go.Proofs.Tryz
namespace Vp
open Go.RowKit Go.Deep Mem Crc Merge aX
open Runs (aW Fi Mid SL sortB dJ jO rname aR runsR)
open Store (Sto Files setF fF fG nv)
attribute [local go_sem] Oper.semAt_some
def jR(b:B):KC:=(bO (b.take 8) 0,bO (b.drop 8) 0)
variable {b:B}{H:List KC}{ls:List (List B)}{s c x hb n:Nat}{D:Nat->Prop}{w:World}{F:Files}
theorem IU(h:b.length=16): (jR b).1<=av/\(jR b).2<=av:=by
 have a:=ou (b.take 8) 0;have d:=ou (b.drop 8) 0;rw[show(b.take 8).length=8 by rw[jT];omega]at a;rw[show(b.drop 8).length=8 by rw[List.length_drop];omega]at d;unfold jR av
 constructor
 ·show bO (b.take 8) 0<=_
  omega
 ·show bO (b.drop 8) 0<=_
  omega
theorem TT(l:List UInt8):∀n,bO l n=n*256^l.length+bO l 0:=by
 induction l with
 |nil=>intro n;simp[bO]
 |cons a t d=>
  intro n;simp only[bO,List.length_cons];rw[d (256*n+a.toNat),d (256*0+a.toNat),iJ];generalize 256^t.length=P;have e: (256*n+a.toNat)*P=256*(n*P)+a.toNat*P:=by rw[Nat.add_mul,mG]
  have f:n*(P*256)=256*(n*P):=by rw[<-mG,iy]
  have g: (256*0+a.toNat)*P=a.toNat*P:=by rw[Nat.mul_zero,Nat.zero_add]
  omega
theorem Br:∀(l:List UInt8) (n:Nat),bB l.length (bO l n)=l
 | [],_=>rfl
 |a ::t,n=>by
  simp only[List.length_cons,bB,bO];rw[Br t]
  congr 1
  have e:=TT t (256*n+a.toNat);have d:=ou t 0;rw[Nat.zero_add,Nat.one_mul]at d
  have f:bO t (256*n+a.toNat)/256^t.length=256*n+a.toNat:=by
   rw[e,iy,Nat.mul_add_div (by omega),Nat.div_eq_of_lt d,Nat.add_zero]
  rw[f]
  apply UInt8.toNat_inj.1
  simp
theorem TU(h:b.length=16):ai (jR b)=b:=by
 have a:=Br (b.take 8) 0;have d:=Br (b.drop 8) 0;rw[show(b.take 8).length=8 by rw[jT];omega]at a;rw[show(b.drop 8).length=8 by rw[List.length_drop];omega]at d;unfold ai jR;rw[a,d,iq]
def bC(H:List KC)(ls:List (List B)):List KC:=(sortB (H.map ai++ls.flatten)).map jR
theorem qp(d:∀l∈ls,∀b∈l,b.length=16): (bC H ls).map ai=sortB (H.map ai++ls.flatten)/\∀p∈bC H ls,p.1<=av/\p.2<=av:=by
 have h:∀b∈sortB (H.map ai++ls.flatten),b.length=16:=λb hb=>by
  rcases List.mem_append.1 ((dJ _).mem_iff.1 hb)with hb|hb
  ·obtain⟨p,_,rfl⟩:=List.mem_map.1 hb;exact dZ p
  ·obtain⟨l,hl,hb⟩:=List.mem_flatten.1 hb;exact d l hl b hb
 unfold bC
 constructor
 ·rw[List.map_map]
  conv=>rhs;rw[<-List.map_id (sortB (H.map ai++ls.flatten))]
  exact qI (λb hb=>TU (h b hb))
 ·intro p a;obtain⟨b,hb,rfl⟩:=List.mem_map.1 a;exact IU (h b hb)
structure IV{s:Nat}(S:Sto s)(A:Fi)(rm:Nat)(D:Nat->Prop)(w W:World)(c x hb b2:Nat)(ne:Nat)(F:Files)(H:List KC)(n:Nat)(K:List KC)(D':Nat->Prop)(v:Value):Prop where
 ctr:aL S A rm D' W c x hb ne F H n
 dom:∀g,D' g->D g\/w.heap.size<=g
 upon:Upon (λg=>D g\/g=b2) w W
 box:Boxed W b2 32 v
 row:W.ownsRow w.heap.size 49 3 v (merged K).length ((merged K).flatMap aH)
theorem TV(args:Array Value)(w:World): (callFunc 36 args).run prog w=.ok (.enter 36 args) w:=enters_of func36 (by kernel_rfl) rfl args w
theorem TW{S:Sto s}{A:Fi}{rm:Nat}{y b2:Nat}{ne:Nat}(h:aL S A rm D w c x hb ne F H n)(I:Boxed w y 28 (.pointer (some ⟨c,0,none⟩)))(J:Boxed w b2 32 (.slice none 0 0))(O:¬D y)(T:¬D b2)(hr:runsR A F ne=some ls)(hl:ne<=1000)(hF:∀j,j<ne->F (rname A.pf j)≠none)(y4:∀nm b,F nm=some b->b.length<=1000000)(y0: (H.map ai++ls.flatten).length<=1000000){W:World}{pre:List KC}{t:Nat->Prop}(hp:pre.Perm H)(q:om S A rm D w W w.heap.size x ne F pre n t):
  Calls prog 36 #[.pointer (some ⟨y,0,none⟩),.pointer (some ⟨b2,0,none⟩)] W λe N=>∃rr v,e=.returned (.int .i64 rr)/\N.cell? ⟨x,6,none⟩=some v/\N.frozen? ⟨x,6,none⟩=false/\rr=0/\∃D' u,IV S A rm D w (N.setCell ⟨x,6,none⟩ (.slice none 0 0)) c x hb b2 ne F H n (bC H ls) D' u:=by
 obtain⟨Q,R,hv,vs,Y⟩:=q.live;have B:=Runs.rows_gen Y.aF hl hF y4;unfold Runs.RowsAns at B;rw[hr]at B;dsimp only at B;have y5:∀l∈ls,∀b∈l,b.length=16:=λl z6 b hb=>by rw[<-h.jQ];exact((Runs.nk hr).2 l z6).1 b hb
 obtain⟨x5,x6⟩:=qp (H:=H) y5;have x7:∀k,R k->t k:=Y.r;have x9:=h.blk.upon q.upon h.cD;have y6:Boxed W y 28 (.pointer (some ⟨c,0,none⟩)):=(q.upon.block y I.lt O).trans I;have o:Boxed W b2 32 (.slice none 0 0):=(q.upon.block b2 J.lt T).trans J;have k1:=y6.cell;have k2:=x9.cell 2
 simp at k2
 have x0:=jq B;have d:=jq h;have m:=jq q;have E:=jq o;have L:=jq (And.intro x5 x6);have z0:=jq hp;have z1:=jq x7;have y8:=jq (show(bC H ls).length<=1000000 from by unfold bC;rw[jP,(dJ _).length_eq];exact y0);have y9:=jq hl;have HB:=jq (And.intro I.lt (And.intro J.lt (And.intro O T)));clear h I J O T y0 hp q B x9 y6 o x5 x6 hF y4 hr Y x7 y5 hl
 go_enter func36,ntmps36
 go_wp2_with fail
 refine x0.out.mono ?_;rintro e w1 ⟨X,Bs,rs,ad,cc,rfl,hM,y3,y1⟩
 have x8: ((rs.map Prod.snd).flatten).Perm ((bC H ls).map ai):=by
  rw[L.out.1];exact(y1.trans (List.Perm.append_right _ (z0.out.map ai))).trans (dJ _).symm
 have y2:aS ((bC H ls).map ai):=by rw[L.out.1];exact jO _
 have x4:=m.out.lt
 have h9:=jq (TR hM (λg a=>by
  rcases a with a|a
  ·have:=x4 g (z1.out g a);have:=X.size
   omega
  ·exact a.2) (by rw[y3];have:=y9.out;omega) (bC H ls) L.out.2 x8 y2 y8.out)
 have C:=jq X;clear hM y3 y1 X x8 y2 x4 k1 k2 x0
 go_wp2_with fail
 refine h9.out.mono ?_;rintro e w2 ⟨v,rfl,h0,x3⟩;have V:Below W.heap.size W w2:=C.out.trans (x3.mono C.out.size);have o:Boxed w2 b2 32 (.slice none 0 0):=(V.block b2 E.out.lt).trans E.out;have k3:=o.cell;have f3:=o.frozen;have M:=jq h0;have y7:=jq V;have x1:=jq o;obtain⟨va,vc,rfl,_,_,_,_⟩:=own_shape h0;clear h0 x3 V o h9
 go_wp2_with fail
 go_ret
 obtain⟨W3,G⟩:=jl (w2.setCell ⟨b2,0,none⟩ (.slice va (merged (bC H ls)).length vc));rw[<-G];have z:∀g,t g->D g\/w.heap.size<=g:=λg a=>(m.out.dom g a).imp id (λZ=>by omega)
 have x2:¬t b2:=λa=>(z b2 a).elim HB.out.2.2.2 (λZ=>by have:=HB.out.2.1;omega)
 have h7:Upon (λg=>g=b2) W W3:=by
  rw[G];exact(Upon.of_below (P:=λg=>g=b2) y7.out).set (p:=⟨b2,0,none⟩) (.inl rfl) _
 have z7:=m.out.live.keep h7 (λg a e=>x2 (e▸a));obtain⟨h1,h2,U,h4⟩:=aW.forget z7;obtain⟨vx,z9⟩:=si.1 h1;have a4:=m.out.upon.size;have a3:W.heap.size<=W3.heap.size:=h7.size
 have h8:Upon (λg=>D g\/g=b2) w (W3.setCell ⟨x,6,none⟩ (.slice none 0 0)):=by
  have e1:Upon (λg=>D g\/g=b2) w W:=m.out.upon.mono (λg a=>.inl a);exact(e1.trans h7 (λg a=>.inl (.inr a))).set (p:=⟨x,6,none⟩) ((z x U).imp (λh=>.inl h) id) _
 have a1:b2≠x:=λe=>x2 (e▸U)
 have a2: (Value.slice va (merged (bC H ls)).length vc).ownBlock≠some x:=λe=>by
  have h5:=(M.out.lt x e).1;have h6:=m.out.lt x U;have:=C.out.size
  omega
 have z3: (Value.slice va (merged (bC H ls)).length vc).ownBlock≠some b2:=λe=>x1.out.not_row (by decide) M.out (by rw[e])
 have z4:b2≠c:=λe=>by
  have hc:=d.out.blk.upon m.out.upon d.out.cD;have i:=E.out;unfold Blk at hc;unfold Boxed at i;rw[e,hc]at i;injection i with i;injection i with _ i;cases i
 have z5:b2≠hb:=λe=>by
  obtain⟨f,⟨Dm,nm,⟨es,cl,z2,_⟩,_⟩,_⟩:=d.out.map.keep (m.out.upon.block hb d.out.map.lt d.out.hD);have i:=E.out;unfold Boxed at i;rw[e,z2]at i;cases i
 refine⟨0,vx,by simp,z9,h2,rfl,t,.slice va (merged (bC H ls)).length vc,⟨⟨?_,h4,?_,d.out.held,d.out.room,?_,?_,d.out.hc,d.out.lm,d.out.jQ⟩,z,h8,?_,?_⟩⟩
 ·exact d.out.blk.upon h8 (λa=>a.elim d.out.cD (λe=>z4 e.symm))
 ·exact d.out.map.keep (h8.block hb d.out.map.lt (λa=>a.elim d.out.hD (λe=>z5 e.symm)))
 ·exact λa=>(z c a).elim d.out.cD (λZ=>by have:=d.out.blk.lt;omega)
 ·exact λa=>(z hb a).elim d.out.hD (λZ=>by have:=d.out.map.lt;omega)
 ·have a0:Boxed W3 b2 32 (.slice va (merged (bC H ls)).length vc):=by rw[G];exact x1.out.set _
  exact(Below.heap_setCell W3 ⟨x,6,none⟩ _ b2 a1).trans a0
 ·have z8:W3.ownsRow w1.heap.size 49 3 (.slice va (merged (bC H ls)).length vc) (merged (bC H ls)).length ((merged (bC H ls)).flatMap aH):=by rw[G];exact dU M.out z3 _
  exact bH (dU z8 (p:=⟨x,6,none⟩) a2 _) (by have:=C.out.size;omega)
structure IW{s:Nat}(S:Sto s)(A:Fi)(rm:Nat)(D:Nat->Prop)(w W:World)(c x hb:Nat)(ne:Nat)(F:Files)(H:List KC)(n:Nat)(K:List KC)(D':Nat->Prop)(v:Value):Prop where
 ctr:aL S A rm D' W c x hb ne F H n
 dom:∀g,D' g->D g\/w.heap.size<=g
 upon:Upon D w W
 row:W.ownsRow w.heap.size 49 3 v (merged K).length ((merged K).flatMap aH)
theorem uL{S:Sto s}{A:Fi}{rm:Nat}{ne:Nat}(h:aL S A rm D w c x hb ne F H n)(q:runsR A F ne=some ls)(hl:ne<=1000)(hF:∀j,j<ne->F (rname A.pf j)≠none)(r:∀nm b,F nm=some b->b.length<=1000000)(p: (H.map ai++ls.flatten).length<=1000000):
  Calls prog 11 #[.pointer (some ⟨c,0,none⟩)] w λe w'=>∃D' v,e=.returned (.tuple #[v,.int .i64 0])/\IW S A rm D w w' c x hb ne F H n (bC H ls) D' v:=by
 obtain⟨W0,f⟩:=jl ((w.alloc (.cells #[.pointer (some ⟨c,0,none⟩)] 28)).alloc (.cells #[.slice none 0 0] 32));have k:Below w.heap.size w W0:=by rw[f];exact((Below.refl _ w).alloc jn _).alloc (by simp) _
 have t:Boxed W0 w.heap.size 28 (.pointer (some ⟨c,0,none⟩)):=by rw[f];exact(Boxed.new w _ _).alloc _
 have y:Boxed W0 (w.heap.size+1) 32 (.slice none 0 0):=by
  have:=Boxed.new (w.alloc (.cells #[.pointer (some ⟨c,0,none⟩)] 28)) 32 (.slice none 0 0);rw[World.size_alloc]at this;rw[f];exact this
 have i:=h.later k;have m:=jq (Ik i i.lt 36 #[] #[.pointer (some ⟨w.heap.size,0,none⟩),.pointer (some ⟨w.heap.size+1,0,none⟩)] TV (λB W=>B=0/\∃D' u,IV S A rm D W0 W c x hb (w.heap.size+1) ne F H n (bC H ls) D' u) (λpre J W I G=>TW i t y (λa=>by have:=h.lt _ a;omega) (λa=>by have:=h.lt _ a;omega) q hl hF r p I G));have l:=jq k;have E:=jq f;have M:∀(o:Fn) (first cap:Array Value) (w:World),(Instr.makeFunc o first cap).run prog w=.ok (.func o first cap) w:=λ_ _ _ _=>rfl
 clear h q hl hF r p k t y i f
 go_enter func11,ntmps11
 go_wp2_with fail
 rw[<-E.out];refine m.out.mono ?_;rintro e w1 ⟨B,rfl,rfl,D',u,d⟩;have N:=d.box.cell;have z:=l.out.size;have C:Hid (IW S A rm D w w1 c x hb ne F H n (bC H ls) D' u):=jq ⟨d.ctr,λg a=>(d.dom g a).imp id (λL=>by omega),(Upon.of_below (P:=D) l.out).trans d.upon (λg a=>a.imp id (λe=>by omega)),bH d.row z⟩;obtain⟨va,vc,rfl,_,_,_,_⟩:=own_shape d.row;clear d z m
 go_wp2_with fail
 go_ret2
 exact⟨D',_,rfl,C.out⟩
end Vp
namespace Vp
open Go.RowKit Go.Deep Mem Crc Merge aX
def gK(w:World)(b:Nat)(v:Value)(l:List KC):Prop:=w.ownsRow b 49 3 v l.length (l.flatMap aH)
theorem IX{p q:KC}:∀(H:List KC) (i:Nat),H[i]? =some q->q.1=p.1->(∀(j:Nat) (r:KC),j<i->H[j]? =some r->r.1≠p.1)->bD H p=H.set i (q.1,sat (q.2+p.2))
 | [],i,h,_,_=>by simp at h
 |a ::t,0,h,e,_=>by
  simp at h
  subst h;unfold bD;rw[if_pos e]
  rfl
 |a ::t,i+1,h,e,hb=>by
  unfold bD;rw[if_neg (hb 0 a (by omega) rfl),IX t i (by simpa using h) e (λj r f d=>hb (j+1) r (by omega) (by simpa using d))]
  rfl
theorem IY{p:KC}:∀(H:List KC),(∀q∈H,q.1≠p.1)->bD H p=H++ [p]
 | [],_=>rfl
 |a ::t,h=>by
  unfold bD;rw[if_neg (h a qG),IY t (λq hq=>h q (eD _ hq))]
  rfl
theorem oU{q:KC}(n:Nat):∀(H:List KC) (i:Nat),H[i]? =some q->(H.flatMap aH).set (i*3+2) (.int .u64 (n:Int))=(H.set i (q.1,n)).flatMap aH
 | [],i,h=>by simp at h
 |a ::t,0,h=>by
  simp at h
  subst h
  rfl
 |a ::t,i+1,h=>by
  have d:=oU n t i (by simpa using h);rw[ju,jC,jC,<-d,List.set_append_right _ _ (by simp[aH];omega)]
  congr 2
  simp[aH]
  omega
theorem IZ{base:Nat}(w:World)(y:TypeId)(v:Value)(l:List KC)(h:gK w base v l)(a:Option Addr)(cp:Nat)(d:List KC)(A:Lies w a (d.flatMap aH))(J:l.length+d.length<=1000000)(hb:base<=w.heap.size):
  ∃a' c' w',(Builtin.append_ #[32,32] y #[v,.slice a d.length cp]).run prog w=.ok (.slice a' (l++d).length c') w'/\gK w' base (.slice a' (l++d).length c') (l++d)/\w.grownBy w' v.ownBlock:=by
 obtain⟨i,p,I,z,E⟩:=info_parts IQ;have r:=underlying32
 have key:∃k w',(Builtin.append_ #[32,32] y #[v,.slice a d.length cp]).run prog w=.ok k w'/\gK w' base k (l++d)/\w.grownBy w' v.ownBlock:=by
  cases a with
  |some B=>
   obtain⟨k,w',q,o,m,_⟩:=run_append_own (P:=prog) w base 32 y 49 i (.agg #[.int .u32 0,.int .u32 0,.int .u64 0]) 3 16 r p I z E rfl (by decide) v l.length (l.flatMap aH) h B d.length cp (d.flatMap aH) (Args.xQ aH 3 d (λx _=>rfl)) (λj u f=>by
    cases A with
    |inl e=>rw[e]at f;simp at f
    |inr e=>exact dQ (.inr e) j u f) (λu f=>by
     obtain⟨x,_,f⟩:=rR.1 f;unfold aH at f;simp only[List.mem_cons,List.not_mem_nil,or_false]at f;rcases f with rfl|rfl|rfl <;> rfl) (by unfold maxLen;omega) (by omega) hb
   refine⟨k,w',q,?_,m⟩;unfold gK;rw[jL,ig];exact o
  |none=>
   have C:d= []:=by
    have:=Runs.EQ A
    cases d with
    |nil=>rfl
    |cons x t=>rw[jC]at this;simp[aH]at this
   subst C;refine⟨v,w,?_,by rw[List.append_nil];exact h,⟨rfl,rfl,rfl,aj _,λ_ _ _=>rfl⟩⟩;rcases h.2 with⟨rfl,e⟩|⟨g,cap,cur,rfl,_,m,G,_⟩
   ·simp[Builtin.append_,run_underlying r,sizeOf,typeInfo,p,Builtin.lenOf,Builtin.firstCells]
   ·simp[Builtin.append_,run_underlying r,sizeOf,typeInfo,p,z,Builtin.lenOf,Builtin.firstCells,G]
    rfl
 obtain⟨k,w',q,o,m⟩:=key;obtain⟨a',c',rfl,_,_,_,_⟩:=own_shape o;exact⟨a',c',w',q,o,m⟩
attribute [local go_sem] Oper.semAt_some
theorem I4(H:List KC)(p:KC)(a:Option Addr)(c:Nat)(j k d:Nat)(h3:j=p.1/4294967296)(M:k=p.1%4294967296)(h9:d=p.2)(w:World)(hL:Lies w a (H.flatMap aH))(hn:H.length<=100000)(x4:∀q∈H,q.2<=av)(hp:p.2<=av):
  Calls prog 53 #[.slice a H.length c,.agg #[.int .u32 (j:Int),.int .u32 (k:Int),.int .u64 (d:Int)]] w λe w'=>∃a' c',e=.returned (.slice a' (bD H p).length c')/\gK w' w.heap.size (.slice a' (bD H p).length c') (bD H p)/\Below w.heap.size w w':=by
 obtain⟨W1,X⟩:=jl (w.alloc (.cells #[.int .u32 (j:Int),.int .u32 (k:Int),.int .u64 (d:Int)] 49));obtain⟨vb,x7⟩:=jl w.heap.size;have S:Below w.heap.size w W1:=by rw[X];exact(Below.refl _ w).alloc jn _
 have Y:Blk W1 vb 49 #[.int .u32 (j:Int),.int .u32 (k:Int),.int .u64 (d:Int)]:=by rw[X,x7];exact Blk.new w _ _
 have h2:gK (W1.alloc (.cells #[] 49)) W1.heap.size (.slice (some ⟨W1.heap.size,0,none⟩) 0 0) []:=fT W1 49 3;have z:Below W1.heap.size W1 (W1.alloc (.cells #[] 49)):=(Below.refl _ W1).alloc jn _;obtain⟨oa,oc,w3,o,E,x0⟩:=IZ _ 32 _ [] h2 a c H ((hL.later S).later z) (by simp;omega) z.size;rw[List.nil_append]at o E;have T:Below W1.heap.size W1 w3:=z.grown x0 z.size (λq hq=>(h2.lt q hq).1);obtain⟨_,_,R,_,U,_,_⟩:=own_shape E;injection R with R l e2;subst R;clear l e2;have B:=Y.below T Y.lt;have HF:=jq (nM H oa oc j k p.1 (by rw[h3,M];omega) (by rw[M];exact fJ _ (by decide)) w3 U (by omega));have Z:=B.cell 0;have h0:=B.cell 1;have G:=B.cell 2
 simp at Z h0 G
 have h4:=jq (And.intro x4 hp);have y:=jq (And.intro h3 (And.intro M h9));have x9:=jq U;have u:=jq E;have P:=jq T;have y6:=jq B;have C:=jq S;have y2:=jq x7;obtain⟨n,h1⟩:=jl H.length;rw[<-h1]at o HF hn⊢;have t:=jq h1;clear S Y h2 z E x0 T U B x4 hp h3 M h9 hL h1;rw[X]at o;simp only[World.size_alloc]at o;rw[y2.out]at Z h0 G
 go_enter func53,ntmps53
 go_wp2_with (first|(at_builtin;refine Lib.wpList_append_run _ rfl _ _ _ _ rfl _ _ rfl rfl _ _ o ?_))
 refine HF.out.mono ?_;rintro e f ⟨y3,rfl⟩;rcases y3 with⟨i,q,v,hq,h8,rfl⟩|⟨x3,rfl⟩
 ·have y9:i<n:=by rw[t.out];exact(jS.1 v).1
  obtain⟨g,off,rfl,q0,q1,q2,I⟩:=nH x9.out v
  have y5:off=0:=by
   obtain⟨g',y7,_,l,_⟩:=u.out.2.resolve_left (λe=>by have:=e.2;have:=t.out;omega);injection l with l;injection l with l;injection l
  subst y5;obtain⟨O,J⟩:=jl q.2;rw[Nat.zero_add,<-J]at q2;have fz:=u.out.frozenAt (i*3+2);have x5:=jM v;have y1:=jq (λW=>(TY O d (by rw[J];exact h4.out.1 q x5) (by rw[y.out.2.2];exact h4.out.2) W).mono (R':=λe w'=>e=.returned (.int .u64 ((sat (O+d):Nat):Int))/\w'=W) (λ_ _ h=>⟨h.1,h.2.symm⟩));have HC:Hid (bD H p=H.set i (q.1,sat (O+d))):=jq (by rw[J,y.out.2.2];exact IX H i v hq h8);have HI:=jq v;have HG:=jq I;have y8:f.cell? ⟨w.heap.size,2,none⟩=some (.int .u64 (d:Int)):=G;clear x5 hq h8 J q0 q1 Z h0 G v I o
  go_wp2_with fail
  refine wp_region_still_tail 12 (by kernel_rfl) (by kernel_rfl) ?_;simp only[List.take_succ_cons,List.take_zero,List.drop_succ_cons,List.drop_zero]
  repeat still_step
  still_call (y1.out _)
  repeat still_step
  refine wpStill_nil ?_
  change wpList _ _ _ _ _ f.drew
  go_wp2_with fail
  go_ret
  have x6:=(u.out.stored (i*3+2) (.int .u64 ((sat (O+d):Nat):Int))).1;have r:=C.out.size;have y4:=(u.out.lt g rfl).1;have x2: (bD H p).length=n:=by rw[HC.out,List.length_set];exact t.out.symm
  rw[x2];refine⟨_,oc,rfl,?_,?_⟩
  ·unfold gK;rw[x2,HC.out,<-oU _ H i HI.out];rw[<-t.out]at x6;exact bH x6 r
  ·exact((C.out.trans (P.out.mono r)).setCell (p:=⟨g,i*3+2,none⟩) (ax r y4) _).drew
 ·have hC:bD H p=H++ [p]:=IY H x3;have A:Below f.heap.size f (f.alloc (.cells #[.int .u32 (j:Int),.int .u32 (k:Int),.int .u64 (d:Int)] 49)):=(Below.refl _ f).alloc jn _;have h7:=own_later u.out A
  have h6:Lies (f.alloc (.cells #[.int .u32 (j:Int),.int .u32 (k:Int),.int .u64 (d:Int)] 49)) (some ⟨f.heap.size,0,none⟩) ([p].flatMap aH):=by
   have l: [p].flatMap aH= [.int .u32 (j:Int),.int .u32 (k:Int),.int .u64 (d:Int)]:=by rw[y.out.1,y.out.2.1,y.out.2.2];rfl
   rw[l];exact Full.tV f 49 #[.int .u32 (j:Int),.int .u32 (k:Int),.int .u64 (d:Int)] _
  have r:=C.out.size;have N:=P.out.size;obtain⟨ra,rc,w5,L,V,x1⟩:=IZ (f.alloc (.cells #[.int .u32 (j:Int),.int .u32 (k:Int),.int .u64 (d:Int)] 49)) 32 _ H h7 (some ⟨f.heap.size,0,none⟩) 1 [p] h6 (by rw[<-t.out];simp;omega) (ax N A.size);have h5:Below W1.heap.size W1 w5:=(P.out.trans (A.mono N)).grown x1 (ax N A.size) (λg I=>(u.out.lt g I).1);rw[<-hC]at L V;rw[<-t.out]at L;obtain⟨m,hm⟩:=jl ((bD H p).length);rw[<-hm]at L;have y0:=jq (bH V r);have x8:=jq (C.out.trans (h5.mono r));have Q:=jq hm;clear A h7 h6 hC h5 V x1 hm x3 o r N
  go_wp2_with (first|(at_builtin;refine Lib.wpList_append_run _ rfl _ _ _ _ rfl _ _ rfl rfl _ _ L ?_))
  go_ret
  rw[<-Q.out];refine⟨_,_,rfl,?_,x8.out⟩;have:=y0.out;rw[<-Q.out]at this;unfold gK;rw[<-Q.out];exact this
open Runs (eP strB tZ)
theorem Bt(H:List KC)(a:Option Addr)(c:Nat)(w:World)(M:Lies w a (H.flatMap aH))(hn:H.length<=100000)(P:∀q∈H,q.1<=av/\q.2<=av):
  Calls prog 39 #[.slice a H.length c] w λe w'=>∃a' c',e=.returned (.slice a' H.length c')/\eP w' w.heap.size (.slice a' H.length c') (H.map ai)/\Below w.heap.size w w':=by
 obtain⟨W1,t⟩:=jl (w.alloc (.cells #[] 9));have L:Below w.heap.size w W1:=by rw[t];exact(Below.refl _ w).alloc jn _
 have N:eP W1 w.heap.size (.slice (some ⟨w.heap.size,0,none⟩) 0 0) []:=by rw[t];exact fT w 9 1
 obtain⟨n,C⟩:=jl H.length;rw[<-C]at hn⊢;have m:=jq C;have HL:=jq M;have h7:=jq P;have Y:=jq L;have h0:=jq N;have h8:=jq t;clear C M P L N t
 go_enter func39,ntmps39
 go_wp2_with fail
 rw[<-h8.out]
 go_loopw[3,8] (λo i wr=>∃(k:Nat) (f:Option Addr) (h:Nat),k<=n/\i=.int .i64 (k:Int)/\o=.slice f k h/\Hid (eP wr w.heap.size (.slice f k h) ((H.take k).map ai))/\Hid (Below w.heap.size w wr)) (λ_ i _=>n-(intOf i).toNat)
 case atStart=>exact⟨0,_,_,by omega,rfl,rfl,by simpa using h0,Y⟩
 case round=>
  obtain⟨k,f,h,hk,rfl,rfl,v,l⟩:=hrel
  by_cases hlt:k<n
  ·have x1:decide (k<n)=true:=jd hlt;obtain⟨p,u⟩:∃p,H[k]? =some p:=⟨_,jg (by rw[<-m.out];exact hlt)⟩;obtain⟨g,off,rfl,T,U,V,hg⟩:=nH (HL.out.later (l.out)) u;obtain⟨J,h2⟩:=h7.out p (jM u);obtain⟨sn,R⟩:=jl (p.1/4294967296);obtain⟨vn,S⟩:=jl (p.1%4294967296);obtain⟨I,B⟩:=jl p.2;rw[<-R]at T;rw[<-S]at U;rw[<-B]at V;have y:=jq (λW=>Bo sn vn I p.1 (by omega) (by unfold av at J;omega) (by omega) (by omega) W);have Q: (p.1,I)=p:=by rw[B]
   rw[Q]at y;obtain⟨j,G⟩:∃s:ByteArray,s=⟨(ai p).toArray⟩:=⟨_,rfl⟩;rw[<-G]at y
   have X:Hid (∀W,Below wr.heap.size wr W->∃a' c' w',(Builtin.append_ #[33,33] 33 #[.slice f k h,.slice (some ⟨W.heap.size,0,none⟩) 1 1]).run prog (W.alloc (.cells #[.string j] 9))=.ok (.slice a' (k+1) c') w'/\Hid (eP w' w.heap.size (.slice a' (k+1) c') ((H.take (k+1)).map ai))/\Hid (Below w.heap.size w w')):=jq (λW O=>by
    have d:=(l.out.trans (O.mono l.out.size));have r:Below W.heap.size W (W.alloc (.cells #[.string j] 9)):=(Below.refl _ W).alloc jn _;have x0:=own_later (own_later v.out O) r
    have h9:Lies (W.alloc (.cells #[.string j] 9)) (some ⟨W.heap.size,0,none⟩) ([ai p].map strB):=by
     have e: [ai p].map strB= [.string j]:=by rw[G];rfl
     rw[e];exact Full.tV W 9 #[.string j] _
    have x3: ((H.take k).map ai).length=k:=by rw[jP,jT,<-m.out];omega
    obtain⟨a',c',w',E,z,h5⟩:=tZ (W.alloc (.cells #[.string j] 9)) 33 (.slice f k h) ((H.take k).map ai) x0 (some ⟨W.heap.size,0,none⟩) 1 [ai p] h9 (by rw[x3];simp;omega) (ax d.size r.size);have e: (H.take k).map ai++ [ai p]=(H.take (k+1)).map ai:=by rw[bF,u];simp
    rw[e]at E z;have x4: ((H.take (k+1)).map ai).length=k+1:=by rw[jP,jT,<-m.out];omega
    rw[x4]at E z;exact⟨a',c',w',E,jq z,jq ((d.trans (r.mono d.size)).grown h5 (ax d.size r.size) (λq hq=>(v.out.lt q hq).1))⟩)
   clear G Q u J h2 R S B hg
   go_wp2_with fail
   refine(y.out _).mono ?_;rintro e w2 ⟨rfl,d⟩;obtain⟨a',c',w3,x2,h3,Z⟩:=X.out w2 d;clear d T U V
   go_wp2_with (first|(at_builtin;refine Lib.wpList_append_run _ rfl _ _ _ _ rfl _ _ rfl rfl _ _ x2 ?_))
   go_roundw
   case rel=>exact⟨k+1,a',c',by omega,by go_num,by go_num,h3,Z⟩
   case measure=>simp[intOf];omega
  ·obtain rfl:k=n:=by omega
   have x1:decide (k<k)=false:=jf (by omega);have A:=v.out;rw[jW (by rw[<-m.out];exact aj _)]at A;have h6:=jq A;clear A
   go_wp2_with fail
   go_ret
   exact⟨f,h,rfl,h6.out,l.out⟩
theorem merge_any(l:List B)(hw:∀b∈l,b.length=16)(a:Option Addr)(c:Nat)(w:World)(U:Lies w a (l.map strB))(hn:l.length<=100000):
  Calls prog 41 #[.slice a l.length c] w λe w'=>∃a' c',e=.returned (.slice a' ((l.map jR).foldl bD []).length c')/\gK w' w.heap.size (.slice a' ((l.map jR).foldl bD []).length c') ((l.map jR).foldl bD [])/\Below w.heap.size w w':=by
 obtain⟨W1,y⟩:=jl (w.alloc (.cells #[] 49));have T:Below w.heap.size w W1:=by rw[y];exact(Below.refl _ w).alloc jn _
 have V:gK W1 w.heap.size (.slice (some ⟨w.heap.size,0,none⟩) 0 0) []:=by rw[y];exact fT w 49 3
 obtain⟨n,L⟩:=jl l.length;rw[<-L]at hn⊢;have P:=jq L;have HL:=jq U;have HW:=jq hw;have h0:=jq T;have h9:=jq V;have x1:=jq y;clear L U hw T V y
 go_enter func41,ntmps41
 go_wp2_with fail
 rw[<-x1.out]
 go_loopw[3,8] (λo i wr=>∃(k m:Nat) (M:List KC) (h:Option Addr) (j:Nat),k<=n/\i=.int .i64 (k:Int)/\o=.slice h m j/\Hid (m=M.length/\M=((l.take k).map jR).foldl bD []/\m<=k/\∀q∈M,q.1<=av/\q.2<=av)/\Hid (gK wr w.heap.size (.slice h m j) M)/\Hid (Below w.heap.size w wr)) (λ_ i _=>n-(intOf i).toNat)
 case atStart=>exact⟨0,0,[],_,_,by omega,rfl,rfl,jq ⟨rfl,by simp,by omega,λq hq=>by cases hq⟩,h9,h0⟩
 case round=>
  obtain⟨k,m,M,h,j,hk,rfl,rfl,Q,R,t⟩:=hrel
  by_cases hlt:k<n
  ·have x3:decide (k<n)=true:=jd hlt;obtain⟨b,hb⟩:∃b,l[k]? =some b:=⟨_,jg (by rw[<-P.out];exact hlt)⟩;have I:=HW.out b (jM hb);obtain⟨E,v⟩:=IU I;obtain⟨g,off,rfl,hcell⟩:=aA.iB (HL.out.later t.out) (k:=k) (u:=strB b) (by rw[List.getElem?_map,hb];rfl);obtain⟨p,r⟩:=jl (jR b);rw[<-r]at E v;obtain⟨sn,N⟩:=jl (p.1/4294967296);obtain⟨vn,O⟩:=jl (p.1%4294967296);obtain⟨S,J⟩:=jl p.2;have A:=jq (λW=>Tp b I p.1 p.2 (by rw[r];rfl) (by rw[r];rfl) W);rw[<-N,<-O,<-J]at A;have Y:wr.cell? ⟨g,off+k,none⟩=some (.string ⟨b.toArray⟩):=hcell;obtain⟨sb,Z⟩:∃s:ByteArray,s=⟨b.toArray⟩:=⟨_,rfl⟩;rw[<-Z]at A Y
   have h7:Hid (∀W,Below wr.heap.size wr W->Calls prog 53 #[.slice h m j,.agg #[.int .u32 (sn:Int),.int .u32 (vn:Int),.int .u64 (S:Int)]] W λe w'=>∃a' f c',e=.returned (.slice a' f c')/\Hid (f=(bD M p).length/\bD M p=((l.take (k+1)).map jR).foldl bD []/\f<=k+1/\∀q∈bD M p,q.1<=av/\q.2<=av)/\Hid (gK w' w.heap.size (.slice a' f c') (bD M p))/\Hid (Below w.heap.size w w')):=jq (λW X=>by
    obtain⟨m1,m2,m3,m4⟩:=Q.out;obtain⟨_,_,C,_,x2,_,_⟩:=own_shape (own_later R.out X);injection C with C e1 e2;subst C;have:=I4 M p h j sn vn S N O J W x2 (by omega) (λq hq=>(m4 q hq).2) v;rw[<-m1]at this;refine this.mono ?_;rintro e w' ⟨a',c',rfl,h5,h6⟩;have d:=(t.out.trans (X.mono t.out.size));have x4:=IC M p;exact⟨a',_,c',rfl,jq ⟨rfl,by rw[m2,bF,hb,r];simp,by omega,TD m4 ⟨E,v⟩⟩,jq (bH h5 d.size),jq (d.trans (h6.mono d.size))⟩)
   clear Z r E v N O J hb I hcell
   go_wp2_with fail
   refine(A.out _).mono ?_;rintro e w2 ⟨rfl,d⟩;have h3:=jq d;clear d Y
   go_wp2_with fail
   refine(h7.out _ h3.out).mono ?_;rintro e w3 ⟨a',f,c',rfl,h8,x0,h4⟩
   go_wp2_with fail
   go_roundw
   case rel=>exact⟨k+1,f,bD M p,a',c',by omega,by go_num,rfl,h8,x0,h4⟩
   case measure=>simp[intOf];omega
  ·obtain rfl:k=n:=by omega
   have x3:decide (k<k)=false:=jf (by omega);have G:=Q.out;rw[jW (by rw[<-P.out];exact aj _)]at G;have z:=jq G;clear G
   go_wp2_with fail
   go_ret
   rw[<-z.out.2.1,<-z.out.1];refine⟨h,j,rfl,?_,t.out⟩;have:=R.out;unfold gK at this⊢;rw[<-z.out.1]at this⊢;exact this
end Vp
end Go.Proofs.YtndkohocgfmamaaGreatDoor
