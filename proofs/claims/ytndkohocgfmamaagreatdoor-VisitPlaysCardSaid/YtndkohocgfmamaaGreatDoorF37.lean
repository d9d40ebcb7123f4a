/- Part. -/
import Derived.Test.YtndkohocgfmamaaGreatDoorF32
import Derived.Test.YtndkohocgfmamaaGreatDoorF36
set_option maxHeartbeats 4000000
set_option maxRecDepth 100000
namespace Go.Proofs.YtndkohocgfmamaaGreatDoor
open Go.Proofs.Tryz
namespace aX
open Go.RowKit Go.Deep Mem Crc
open Go.Maps (Keyed)
open Runs (ng GV Mid Sj)
open Store (Sto)
structure aL{s:Nat}(S:Sto s)(rm:Nat)(D:Nat->Prop)(w:World)(c x hb:Nat)(off:Bool)(ls:List (List KC))(H:List KC)(n:Nat):Prop where
 blk:Blk w c 69 #[.int .i64 (rm:Int),.map (some hb),.pointer (some ⟨x,0,none⟩)]
 aF:ng S (GV s rm) D w x off (ls.map (λl=>l.map ai)) [] n
 map:bM w hb H
 held:Held H
 room:H.length<=rm
 cD:¬D c
 hD:¬D hb
 hc:hb≠c
 qj:1<=rm/\rm<=4096
 lt:∀g,D g->g<w.heap.size
theorem aL.keep{s:Nat}{S:Sto s}{rm:Nat}{D P:Nat->Prop}{w w':World}{c x hb:Nat}{off:Bool}{ls:List (List KC)}{H:List KC}{n:Nat}(h:aL S rm D w c x hb off ls H n)(a:Upon P w w')(b:∀g,D g\/g=c\/g=hb->¬P g):aL S rm D w' c x hb off ls H n:=
 ⟨h.blk.upon a (b c (.inr (.inl rfl))),h.aF.keep a (λg d=>b g (.inl d)),h.map.keep (a.block hb h.map.lt (b hb (.inr (.inr rfl)))),h.held,h.room,h.cD,h.hD,h.hc,h.qj,λg d=>aD (h.lt g d) a.size⟩
variable {D:DataW Value}{H pre:List KC}{f:Lit->Option Value}
theorem SI{k:TypeId}{R:Value->Option (DataW Value×List MemPlace)}{w w':World}{b r n:Nat}{left:Lit->Bool}{cnt:Nat}(h:w.ranges prog k R b r n D left cnt)(hb:w'.heap[b]? =w.heap[b]?)(o:w'.heap[r]? =w.heap[r]?):w'.ranges prog k R b r n D left cnt:=by
 obtain⟨d,clock,since,seen,a,e,g,i,j,l,m⟩:=h;exact⟨d,clock,since,seen,a,hb.trans e,g,i,j,o.trans l,m⟩
structure Met(H:List KC)(left:Lit->Bool)(pre:List KC):Prop where
 one:pre.Nodup
 mem:∀p,p∈pre↔p∈H/\left (dY p.1)=false
theorem SK(a:Held H)(hd:iE D f)(d:nA f H):Met H (Maps.has D) []:=by
 refine⟨oM,λp=>?_⟩
 constructor
 ·intro h;cases h
 ·rintro⟨b,hl⟩;rw[(hd _).1,d.at_ p.1 (a.ok p b).1,a.tot b,if_neg (by have:=(a.ok p b).2.1;omega)]at hl;cases hl
theorem Ih(i:Held H){left:Lit->Bool}(h:Met H left pre){p:KC}(j:p∈H)(hl:left (dY p.1)=true):Met H (λz=>left z&& !z.sameKey (dY p.1)) (pre++ [p]):=by
 have u:p∉pre:=λt=>by
  have:=((h.mem p).1 t).2;rw[hl]at this;cases this
 refine⟨List.nodup_append.2 ⟨h.one,by simp,λa ha b hb e=>?_⟩,λq=>?_⟩
 ·have o:b=p:=by simpa using hb
  rw[e,o]at ha;exact u ha
 ·rw[List.mem_append,jE,h.mem q]
  constructor
  ·rintro(⟨d,g⟩|d)
   ·exact⟨d,by rw[g];rfl⟩
   ·rw[d];have: (dY p.1).sameKey (dY p.1)=true:=WideAt.sameKey_self trivial;exact⟨j,by rw[this];simp⟩
  ·rintro⟨d,g⟩
   by_cases e:q=p
   ·exact .inr e
   ·have r:q.1≠p.1:=λl=>e (by
     have k:=i.tot d;have m:=i.tot j;rw[l]at k;exact Prod.ext l (k.symm.trans m))
    have v: (dY q.1).sameKey (dY p.1)=false:=Maps.sameKey_ne (λe=>r (Be (i.ok q d).1 (i.ok p j).1 e));rw[v]at g
    simp at g
    exact .inl ⟨d,g⟩
theorem SN(a:Held H){left:Lit->Bool}(h:Met H left pre)(hl:∀z,left z=false):pre.Perm H:=Ii h.one a.nodup (λp=>by rw[h.mem p,hl];simp)
theorem Ij{α:Type}:∀(l L:List α),l.Nodup->(∀x∈l,x∈L)->l.length<=L.length
 | [],_,_,_=>aC _
 |a ::r,L,hp,hs=>by
  obtain⟨e,g⟩:=oL.1 hp;obtain⟨s,t,rfl⟩:=rP (hs a (by simp))
  have:=Ij r (s++t) g (λx d=>by
   have b:=hs x (by simp[d]);simp only[List.mem_append,List.mem_cons]at b⊢;rcases b with b|b|b
   ·exact .inl b
   ·rw[b]at d;exact absurd d e
   ·exact .inr b)
  simp only[jL,List.length_cons]at this⊢
  omega
theorem Met.length{H:List KC}(b:Held H){left:Lit->Bool}{pre:List KC}(h:Met H left pre){p:KC}(d:p∈H)(hl:left (dY p.1)=true):pre.length<H.length:=by
 have a:=Ih b h d hl
 have: (pre++ [p]).length<=H.length:=by
  exact Ij _ _ a.one (λq hq=>((a.mem q).1 hq).1)
 simp at this
 omega
theorem SQ(q:Held H)(hd:iE D f)(g:nA f H){key v:Value}{b:Lit}{y:DataW Value×List MemPlace}(r:keyOf prog 99 key=some b)(t:jH v=some y)(l:∀zd,D.atKey b zd=y.1):∃p,p∈H/\b=dY p.1/\key=lX p.1/\v=.int .u64 (p.2:Int):=by
 have j:=Maps.has_true_of_atKey l;rw[(hd b).1]at j;obtain⟨u,a⟩:=Option.isSome_iff_exists.1 j;obtain⟨k,i,rfl⟩:=g.keys b (by rw[a];exact λh=>by cases h);rw[g.at_ k i]at a
 by_cases d:tot H k=0
 ·rw[if_pos d]at a;cases a
 ·rw[if_neg d]at a;refine⟨(k,tot H k),q.mem d,rfl,qi.inj r (xG k i),?_⟩;have e:=(l (.held u)).symm.trans ((hd _).2 u (by rw[g.at_ k i,if_neg d];exact a) (.held u));have o:y=(.held v,[]):=(Option.some.inj t).symm;rw[o]at e;have m:=DataW.held.inj e;rw[m];exact(Option.some.inj a).symm
theorem SS(x:Nat)(u:FrameMode)(w:World)(v:Value)(hc:w.cell? ⟨x,6,none⟩=some v)(b:w.frozen? ⟨x,6,none⟩=false):
  CallsD prog 68 #[.pointer (some ⟨x,0,none⟩)] u w λe a w'=>a=u/\(e=.returned (.tuple #[])/\w'=w.setCell ⟨x,6,none⟩ (.slice none 0 0)):=by
 go_enter_d func68,ntmps68
 go_wp2
 go_end0
 exact⟨rfl,rfl⟩
end aX
namespace Vp
open Go.RowKit Go.Deep Mem Crc Merge aX
open Runs (aW Fi Mid GN rname)
open Store (Sto Files)
structure aL{s:Nat}(S:Sto s)(A:Fi)(rm:Nat)(D:Nat->Prop)(w:World)(c x hb:Nat)(ne:Nat)(F:Files)(H:List KC)(n:Nat):Prop where
 blk:Blk w c 69 #[.int .i64 (rm:Int),.map (some hb),.pointer (some ⟨x,0,none⟩)]
 aF:aW S A D w x ne F [] n
 map:bM w hb H
 held:Held H
 room:H.length<=rm
 cD:¬D c
 hD:¬D hb
 hc:hb≠c
 lm:A.rm=rm
 jQ:A.wd=16
variable {s:Nat}{S:Sto s}{A:Fi}{rm:Nat}{D P:Nat->Prop}{w w':World}{c x hb ne n:Nat}{F:Files}{H:List KC}{held:List B}
theorem aW.lt(h:aW S A D w x ne F held n):∀g,D g->g<w.heap.size:=by
 obtain⟨Q,R,a,vs,h⟩:=h;exact h.lt
theorem aL.lt(h:aL S A rm D w c x hb ne F H n):∀g,D g->g<w.heap.size:=aW.lt h.aF
theorem aL.qj(h:aL S A rm D w c x hb ne F H n):1<=rm/\rm<=4096:=by
 obtain⟨_,_,_,_,a,b⟩:=h.aF.room.2.1;rw[<-h.lm];exact⟨a,b⟩
theorem aL.keep(h:aL S A rm D w c x hb ne F H n)(b:Upon P w w')(a:∀g,D g\/g=c\/g=hb->¬P g):aL S A rm D w' c x hb ne F H n:=
 ⟨h.blk.upon b (a c (.inr (.inl rfl))),h.aF.keep b (λg d=>a g (.inl d)),h.map.keep (b.block hb h.map.lt (a hb (.inr (.inr rfl)))),h.held,h.room,h.cD,h.hD,h.hc,h.lm,h.jQ⟩
theorem aL.later(h:aL S A rm D w c x hb ne F H n)(a:Below w.heap.size w w'):aL S A rm D w' c x hb ne F H n:=h.keep (P:=λ_=>False) (Upon.of_below a) (λ_ _ h=>h)
theorem aW.forget(h:aW S A D w x ne F held n):w.cell? ⟨x,6,none⟩≠none/\w.frozen? ⟨x,6,none⟩=false/\D x/\aW S A D (w.setCell ⟨x,6,none⟩ (.slice none 0 0)) x ne F [] n:=by
 obtain⟨Q,R,i,vs,a⟩:=h;have h:=a.aF;have d:=h.cell 6
 simp[Runs.sorterC]at d
 have b:Only [x] w (w.setCell ⟨x,6,none⟩ (.slice none 0 0)):=(Only.refl [x] w).set (p:=⟨x,6,none⟩) (.inl (by simp)) _;refine⟨by rw[d];simp,h.blk.frozen 6,a.x,Q,λ_=>False,.slice none 0 0,[],⟨⟨h.nY,by have:=h.blk.set 6 (.slice none 0 0);simpa[Runs.sorterC]using this,S.keep h.fq b.size (λq hq=>b.block q (S.lt h.fq q hq) (by rintro e;rw[jE.1 e]at hq;exact h.xq hq)),Runs.rE _ A.wd,(λ_ h=>h.elim),(λ_ h=>by cases h),h.xq,h.ok,by simp,h.few⟩,a.q,(λ_ h=>h.elim),a.x,(λ_ h=>by cases h),(λk g=>by have:=a.lt k g;simpa[World.setCell]using this)⟩⟩
open Go.Maps (Keyed)
open Runs (SL sortB dJ jO aR)
open Store (setF fF fG nv)
attribute [local go_sem] Oper.semAt_some
structure om{s:Nat}(S:Sto s)(A:Fi)(rm:Nat)(D:Nat->Prop)(w W:World)(r x:Nat)(ne:Nat)(F:Files)(pre:List KC)(n:Nat)(D1:Nat->Prop):Prop where
 live:aW S A D1 W x ne F (pre.map ai) n
 dom:∀g,D1 g->D g\/r<g
 lt:∀g,D1 g->g<W.heap.size
 upon:Upon D w W
theorem Ik{s:Nat}{S:Sto s}{A:Fi}{rm:Nat}{D:Nat->Prop}{w:World}{c x hb:Nat}{ne:Nat}{F:Files}{H:List KC}{n:Nat}(h:aL S A rm D w c x hb ne F H n)(x3:∀g,D g->g<w.heap.size)(U:Nat)(fst cap:Array Value)(d4:∀args w,(callFunc U args).run prog w=.ok (.enter U args) w)(Fin:Int->World->Prop)(y2:∀(pre:List KC) (D1:Nat->Prop) (W:World),pre.Perm H->om S A rm D w W w.heap.size x ne F pre n D1->Calls prog U (fst++cap) W λe W'=>∃u v,e=.returned (.int .i64 u)/\W'.cell? ⟨x,6,none⟩=some v/\W'.frozen? ⟨x,6,none⟩=false/\Fin u (W'.setCell ⟨x,6,none⟩ (.slice none 0 0))):
  Calls prog 35 #[.pointer (some ⟨c,0,none⟩),.func (.func U) fst cap] w λe w'=>∃u,e=.returned (.int .i64 u)/\Fin u w':=by
 have c1:=h.blk.cell 1;have c2:=h.blk.cell 2
 simp at c1 c2
 obtain⟨f,⟨Dm,nm,z5,hd⟩,hf⟩:=h.map;obtain⟨W2,O,z8,B,d5⟩:=z5.range qi underlying67;have x8:Below w.heap.size w W2:=⟨B.os,B.tape,B.output,B.size,λk hk=>B.block k hk (by simp)⟩;have x1:=jq y2;have i:=jq h;have HR:=jq z8;have h5:=jq x8;have HD:=jq hd;have HF:=jq hf;have h4:=jq x3;clear h y2 z8 B x8 hd hf z5 x3
 go_enter_defers func35,ntmps35
 go_wp2_with fail
 obtain⟨r,hr⟩:=jl w.heap.size;have x4:om S A rm D w W2 r x ne F [] n D:=⟨by have:=i.out.aF.later h5.out;simpa using this,λg d=>.inl d,λg d=>aD (h4.out g d) h5.out.size,Upon.of_below h5.out⟩;have a7:=jq x4;have b2:=jq (SK i.out.held HD.out HF.out);rw[<-hr]at HR x1⊢;have z:=jq hr;clear O x4 hr c1 c2
 go_loopw[] (λwq=>∃left cnt pre D1,Hid (wq.ranges prog 99 jH hb r nm Dm left cnt)/\Hid (aX.Met H left pre)/\Hid (om S A rm D w wq r x ne F pre n D1)) (λwq=>wq.rangeLeft hb r)
 case atStart=>exact⟨_,_,_,_,HR,b2,a7⟩
 case round=>
  obtain⟨left,cnt,pre,D1,Y,X,o⟩:=hrel;rcases Y.out.next qi 0 with⟨h0,hl,O⟩|⟨key,v,kl,y,m,b8,y8,h6,hv,x9,O,x7,hlt,L,c8,y3⟩
  ·have a3:=jq (x1.out pre D1 wr (SN i.out.held X.out hl) o.out);clear h0 hl
   go_wp2_with fail
   refine a3.out.mono ?_;rintro e w6 ⟨u,vx,rfl,y1,y5,y4⟩;have a4:=jq y4;have a2:=jq y1;have a5:=jq y5;clear y4 y1 y5
   go_wp2_with fail
   refine leaves_cons (f:=68) (args:=#[.pointer (some ⟨x,0,none⟩)]) (by simp) (by simp[go_sem]) ?_;refine(SS x .returning w6 vx a2.out a5.out).mono ?_;rintro e u' d6 ⟨rfl,rfl,rfl⟩;exact⟨_,results_tmp rfl _ _ _,u,rfl,a4.out⟩
  ·obtain⟨p,hp,rfl,rfl,rfl⟩:=SQ i.out.held HD.out HF.out y8 hv x9;have h7:=i.out.held.ok p hp;have a0:r<wr.heap.size:=Y.out.lt
   have l:om S A rm D w m r x ne F pre n D1:=⟨o.out.live.keep (P:=λg=>g=r) (Upon.of_grown L (λg d=>.inl (by injection d with d;exact d.symm))) (λg d e=>by
     rcases o.out.dom g d with h|h
     ·have:=h4.out g h;have:=z.out
      omega
     ·omega),o.out.dom,λg d=>aD (o.out.lt g d) L.size,o.out.upon.trans (Upon.of_grown (P:=λg=>g=r) L (λg d=>.inl (by injection d with d;exact d.symm))) (λg d=>.inr (by rw[d,z.out];exact aj _))⟩
   obtain⟨t,h8⟩:=jl (p.1/4294967296);obtain⟨vn,h9⟩:=jl (p.1%4294967296);have c7:t<4294967296:=by rw[h8];have:=h7.1;unfold av at this;omega
   have c9:vn<4294967296:=by rw[h9];exact fJ _ (by decide)
   have y9:p.1=t*4294967296+vn:=by omega
   obtain⟨T,h2⟩:=jl p.2;have c4:T<18446744073709551616:=by rw[h2];have:=h7.2.2;unfold av at this;omega
   unfold lX at O y3;rw[<-h8,<-h9,<-h2]at O y3
   have z7:∀w,Calls prog 66 #[.agg #[.int .u32 (t:Int),.int .u32 (vn:Int)],.int .u64 (T:Int)] w λe w'=>∃a cp,e=.returned (.slice a 16 cp)/\Lies w' a ((ai p).map bv)/\Below w.heap.size w w':=λw=>(Il t vn T p.1 y9 c7 c9 c4 w).mono (by
    rintro e w' ⟨val,rfl,hO,hB⟩;have c6: (p.1,T)=p:=by rw[h2]
    rw[c6]at hO;obtain⟨a,cp,rfl,_,o,_,_⟩:=own_shape hO;rw[dZ];exact⟨a,cp,rfl,o,hB⟩)
   have b7:=jq z7;have b6:=jq x7;have E:=jq l;have c5:=X.out.length i.out.held hp h6;have z9: (pre.map ai).length<rm:=by rw[jP];have:=i.out.room;omega
   have b3:=jq (Ih i.out.held X.out hp h6);obtain⟨pb,h3⟩:=jl m.heap.size;obtain⟨V0,Z⟩:=jl (m.alloc (.cells #[.int .u32 (t:Int),.int .u32 (vn:Int)] 99));have V:Below m.heap.size m V0:=by rw[Z];exact(Below.refl _ m).alloc jn _
   have J:Blk V0 pb 99 #[.int .u32 (t:Int),.int .u32 (vn:Int)]:=by rw[Z,h3];exact Blk.new m _ _
   have h1:Blk V0 c 69 #[.int .i64 (rm:Int),.map (some hb),.pointer (some ⟨x,0,none⟩)]:=((i.out.blk.upon l.upon i.out.cD).below V (by
    have:=i.out.blk.lt;have:=l.upon.size
    omega))
   have x0:=jq V;have d1:=jq J;have d0:=jq h1;have a1:pb<V0.heap.size:=J.lt
   have x6:∀(W:World),Below V0.heap.size V0 W->∀(a:Option Addr) (cp:Nat),Lies W a ((ai p).map bv)->Calls prog 69 #[.pointer (some ⟨x,0,none⟩),.slice a 16 cp] W λe w'=>e=.returned (.int .i64 0)/\aW S A (Mid D1 W w') w' x ne F ((pre++ [p]).map ai) n/\Upon D1 W w':=λW c0 a cp c3=>by
    have:=GN ((l.live.later V).later c0) (by rw[i.out.lm];exact z9) (b:=ai p) (by rw[dZ,i.out.jQ]) a cp c3;rw[dZ]at this;rw[aZ];exact this
   have b5:=jq x6;have d2:=jq h3;have d3:=jq a0;have b4:=jq Y.out.left_eq;have b0:=jq hlt;have M:V0.drew.cell? ⟨c,2,none⟩=some (.pointer (some ⟨x,0,none⟩))/\V0.drew.cell? ⟨pb,0,none⟩=some (.int .u32 (t:Int))/\V0.drew.cell? ⟨pb,1,none⟩=some (.int .u32 (vn:Int)):=⟨h1.cell 2,J.cell 0,J.cell 1⟩
   have z1:¬D1 c:=λd=>by
    rcases l.dom c d with h|h
    ·exact i.out.cD h
    ·have:=i.out.blk.lt;have:=z.out
     omega
   have z2:¬D1 hb:=λd=>by
    rcases l.dom hb d with h|h
    ·exact i.out.hD h
    ·have:=i.out.map.lt;have:=z.out
     omega
   have z4:¬D1 r:=λd=>by
    rcases l.dom r d with h|h
    ·have:=h4.out r h;have:=z.out
     omega
    ·omega
   have z3:¬D1 pb:=λd=>by
    have:=l.lt pb d
    omega
   have y0:c<V0.heap.size:=h1.lt
   have y6:hb<m.heap.size:=by
    have:=i.out.map.lt;have:=l.upon.size
    omega
   have z6:r<m.heap.size:=by have:=L.size;omega
   have G:=jq (And.intro z1 (And.intro z2 (And.intro z4 z3)));have j:=jq (And.intro y0 (And.intro a1 (And.intro y6 z6)));clear z1 z2 z4 z3 y0 y6 z6 a1;have E:=jq l;clear y8 hv x9 h7 l y9 h8 h9 h2 z7 x7 c5 z9 V J h1 x6 a0 Y o X hp h6 hlt L c8
   go_wp2_with fail
   rw[<-Z,<-h3];clear Z h3
   go_region_held3 (λw'=>w'.cell? ⟨c,2,none⟩=some (.pointer (some ⟨x,0,none⟩))/\w'.cell? ⟨pb,0,none⟩=some (.int .u32 (t:Int))/\w'.cell? ⟨pb,1,none⟩=some (.int .u32 (vn:Int))) (first|exact M|exact N|exact y7) ((first|(go_at_call 66;refine(b7.out _).mono ?_;rintro e w6 ⟨a6,b9,rfl,x5,I⟩;have N:=And.intro ((I.cell (p:=⟨c,2,none⟩) j.out.1).trans M.1) (And.intro ((I.cell (p:=⟨pb,0,none⟩) j.out.2.1).trans M.2.1) ((I.cell (p:=⟨pb,1,none⟩) j.out.2.1).trans M.2.2));have a8:=jq x5;have C:=jq (((Below.refl V0.heap.size V0).drew).trans I);clear x5 I;dsimp only)|(go_at_call 69;refine(b5.out w6 C.out a6 b9 a8.out).mono ?_;rintro e w7 ⟨rfl,z0,Q⟩;have y7:=And.intro ((World.cell?_of_block (a:=⟨c,2,none⟩) (Q.block c (aD j.out.1 C.out.size) G.out.1)).trans N.1) (And.intro ((World.cell?_of_block (a:=⟨pb,0,none⟩) (Q.block pb (aD j.out.2.1 C.out.size) G.out.2.2.2)).trans N.2.1) ((World.cell?_of_block (a:=⟨pb,1,none⟩) (Q.block pb (aD j.out.2.1 C.out.size) G.out.2.2.2)).trans N.2.2));have b1:=jq z0;have R:=jq Q;clear z0 Q;dsimp only)))
   have q:Below m.heap.size m w6:=x0.out.trans (C.out.mono x0.out.size);have x2:=jq (SI b6.out ((R.out.block hb (aD j.out.2.2.1 q.size) G.out.2.1).trans (q.block hb j.out.2.2.1)) ((R.out.block r (aD j.out.2.2.2 q.size) G.out.2.2.1).trans (q.block r j.out.2.2.2)))
   have a9:Hid (om S A rm D w w7 r x ne F (pre++ [p]) n (Mid D1 w6 w7)):=jq ⟨b1.out,λg d=>by
    rcases d with d|d
    ·exact E.out.dom g d
    ·right
     have:=q.size;have:=j.out.2.2.2
     omega,λg d=>by
    rcases d with d|d
    ·have:=E.out.lt g d;have:=q.size;have:=R.out.size
     omega
    ·exact d.2,(E.out.upon.trans (Upon.of_below (P:=D) q) (λg d=>.inl d)).trans R.out (λg d=>(E.out.dom g d).imp id (λhh=>by have:=z.out;omega))⟩
   clear M N y7 q
   go_wp2_with fail
   exact⟨⟨_,b8,pre++ [p],_,x2,b3,a9⟩,by rw[x2.out.left_eq,b4.out];exact b0.out⟩
end Vp
namespace Vp
open Go.RowKit Go.Deep Mem Crc Merge aX
open Runs (aW Fi Mid SL sortB dJ jO rname aR)
open Store (Sto Files setF fF fG nv)
attribute [local go_sem] Oper.semAt_some
variable {s c x hb n:Nat}{D:Nat->Prop}{w:World}{F:Files}{H:List KC}
theorem SV{S:Sto s}{A:Fi}{rm:Nat}{ne:Nat}(h:aL S A rm D w c x hb ne F H n):
  Calls prog 9 #[.pointer (some ⟨c,0,none⟩)] w λe w'=>e=.returned (.int .i64 (H.length:Int))/\w=w':=by
 have c1:=h.blk.cell 1
 simp at c1
 have hl:=λb=>h.map.len h.held b
 obtain⟨N,a⟩:=jl H.length;rw[<-a]at hl⊢;clear h a
 go_enter func9,ntmps9
 go_wp2_with fail
 go_ret
 exact⟨rfl,rfl⟩
def dP(H:List KC):Nat:=if H= []then 0 else 1
noncomputable def iY(A:Fi)(F:Files)(ne:Nat)(H:List KC):Files:=if H= []then F else setF F (rname A.pf ne) (some (aR (H.map ai)))
theorem SX{l l':List B}(h:l.Perm l'):aR l=aR l':=by
 unfold aR;rw[show sortB l=sortB l' from Runs.tY ((dJ l).trans h) (jO l)]
structure oq{s:Nat}(S:Sto s)(A:Fi)(rm:Nat)(D:Nat->Prop)(w W:World)(c x hb ne:Nat)(F:Files)(H:List KC)(n:Nat)(D':Nat->Prop):Prop where
 ctr:aL S A rm D' W c x hb ne F H n
 dom:∀g,D' g->D g\/w.heap.size<=g
 upon:Upon D w W
theorem om.back{S:Sto s}{A:Fi}{rm:Nat}{ne:Nat}(h:aL S A rm D w c x hb ne F H n){W W':World}{pre:List KC}{b:Nat->Prop}(d:om S A rm D w W w.heap.size x ne F pre n b){D2:Nat->Prop}{ne':Nat}{F':Files}{held:List B}{n':Nat}(z:Upon b W W')(y:aW S A D2 W' x ne' F' held n')(q:∀g,D2 g->b g\/W.heap.size<=g):∃v,W'.cell? ⟨x,6,none⟩=some v/\W'.frozen? ⟨x,6,none⟩=false/\oq S A rm D w (W'.setCell ⟨x,6,none⟩ (.slice none 0 0)) c x hb ne' F' H n' D2:=by
 obtain⟨j,k,l,m⟩:=aW.forget y;obtain⟨v,E⟩:=si.1 j;have G:=d.upon.size
 have e:∀g,D2 g->D g\/w.heap.size<=g:=λg a=>by
  rcases q g a with h|h
  ·rcases d.dom g h with h|h
   ·exact .inl h
   ·right;omega
  ·right;omega
 have o:∀g,b g->D g\/w.heap.size<=g:=λg a=>(d.dom g a).imp id (λh=>by omega)
 have C:Upon D w W':=d.upon.trans z o;have i:Upon D w (W'.setCell ⟨x,6,none⟩ (.slice none 0 0)):=C.set (p:=⟨x,6,none⟩) (e x l) _;have r:¬D2 c:=λa=>(e c a).elim h.cD (λt=>by have:=h.blk.lt;omega)
 have u:¬D2 hb:=λa=>(e hb a).elim h.hD (λt=>by have:=h.map.lt;omega)
 refine⟨v,E,k,⟨h.blk.upon i h.cD,m,h.map.keep (i.block hb h.map.lt h.hD),h.held,h.room,r,u,h.hc,h.lm,h.jQ⟩,e,i⟩
theorem SY(args:Array Value)(w:World): (callFunc 55 args).run prog w=.ok (.enter 55 args) w:=enters_of func55 (by kernel_rfl) rfl args w
variable {s:Nat}{S:Sto s}{A:Fi}{rm:Nat}{D P:Nat->Prop}{w w':World}{c x hb ne n:Nat}{F:Files}{H:List KC}{held:List B}
theorem S9(h:aL S A rm D w c x hb ne F H n)(u:n<100000)(hl:ne<100000):
  Calls prog 35 #[.pointer (some ⟨c,0,none⟩),.func (.func 55) #[.pointer (some ⟨x,0,none⟩)] #[]] w λe w'=>e=.returned (.int .i64 0)/\∃D',oq S A rm D w w' c x hb (ne+dP H) (iY A F ne H) H (n+dP H) D':=by
 refine(Ik h h.lt 55 #[.pointer (some ⟨x,0,none⟩)] #[] SY (λp W=>p=0/\∃D',oq S A rm D w W c x hb (ne+dP H) (iY A F ne H) H (n+dP H) D') (λpre q W j a=>?_)).mono ?_
 ·show Calls prog 55 #[.pointer (some ⟨x,0,none⟩)] W _
  by_cases b:pre= []
  ·subst b;refine(Runs.Sl (by have:=a.live;simpa using this)).mono ?_;rintro e r ⟨rfl,rfl⟩;obtain⟨v,k,l,d⟩:=a.back h (Upon.refl _ _) a.live (λg i=>.inl i);have:H= []:=j.symm.eq_nil;subst this;exact⟨0,v,rfl,k,l,rfl,q,d⟩
  ·have m:H≠[]:=λe=>b (by subst e;exact j.eq_nil)
   refine(Runs.R5 a.live (by simpa using b) u hl).mono ?_;rintro e r ⟨rfl,o,y⟩;rw[SX (j.map ai)]at o;obtain⟨v,k,l,d⟩:=a.back h y o (λg i=>i.imp id (λh=>h.1));refine⟨0,v,rfl,k,l,rfl,?_⟩;unfold dP iY;rw[if_neg m,if_neg m];exact⟨_,d⟩
 ·rintro e w' ⟨p,rfl,rfl,t⟩;exact⟨rfl,t⟩
structure kz{s:Nat}(S:Sto s)(A:Fi)(rm:Nat)(D:Nat->Prop)(w w':World)(c x hb ne:Nat)(F:Files)(H:List KC)(n:Nat)(D':Nat->Prop):Prop where
 ctr:aL S A rm D' w' c x hb ne F H n
 dom:∀g,D' g->D g\/w.heap.size<=g
 upon:Upon (λg=>D g\/g=hb) w w'
theorem oq.clear{w1 w2:World}{D':Nat->Prop}(d:oq S A rm D w w1 c x hb ne F H n D')(j:bM w2 hb [])(i:w1.grownBy w2 (some hb)):kz S A rm D w w2 c x hb ne F [] n D':=by
 have h:Upon (λg=>g=hb) w1 w2:=Upon.of_grown i (λg b=>.inl (by injection b with b;exact b.symm));have a:=d.ctr;exact⟨⟨a.blk.upon h (λe=>a.hc e.symm),a.aF.keep h (λg b e=>a.hD (e▸b)),j,uM,aC _,a.cD,a.hD,a.hc,a.lm,a.jQ⟩,d.dom,(d.upon.mono (λg b=>.inl b)).trans h (λg b=>.inl (.inr b))⟩
theorem xA(h:aL S A rm D w c x hb ne F H n)(j:n<100000)(hl:ne<100000):
  Calls prog 21 #[.pointer (some ⟨c,0,none⟩)] w λe w'=>e=.returned (.int .i64 0)/\∃D',kz S A rm D w w' c x hb (ne+dP H) (iY A F ne H) [] (n+dP H) D':=by
 have c2:=h.blk.cell 2
 simp at c2
 have b:=jq (S9 h j hl);have m:∀(d:Fn) (first cap:Array Value) (w:World),(Instr.makeFunc d first cap).run prog w=.ok (.func d first cap) w:=λ_ _ _ _=>rfl
 clear h j hl
 go_enter func21,ntmps21
 go_wp2_with fail
 refine b.out.mono ?_;rintro e w1 ⟨rfl,D',a⟩;have c1:=a.ctr.blk.cell 1
 simp at c1
 obtain⟨w2,o,i,g,l⟩:=a.ctr.map.clear 0;have k:=jq (a.clear i g);clear a i g l c2 b
 go_wp2_with fail
 go_ret
 exact⟨rfl,D',k.out⟩
theorem AB(h:aL S A rm D w c x hb ne F H n):
  Calls prog 10 #[.pointer (some ⟨c,0,none⟩)] w λe w'=>e=.returned (.int .i64 (ne:Int))/\∃m,w'=w.drewN m:=by
 have c2:=h.blk.cell 2
 simp at c2
 have a:=jq (Runs.R6 h.aF);clear h
 go_enter func10,ntmps10
 go_wp2_with fail
 refine a.out.mono ?_;rintro e w1 ⟨rfl,m,rfl⟩
 go_wp2_with fail
 go_ret
 exact⟨rfl,m,rfl⟩
theorem Ta(h:aL S A rm D w c x hb ne F H n)(q:n+ne<100000)(hF:∀j,j<ne->F (rname A.pf j)≠none):
  Calls prog 25 #[.pointer (some ⟨c,0,none⟩)] w λe w'=>e=.returned (.int .i64 0)/\∃D',kz S A rm D w w' c x hb 0 (Runs.iW F A.pf ne) [] (n+ne) D':=by
 have c1:=h.blk.cell 1
 simp at c1
 obtain⟨w2,z,p,m,v⟩:=h.map.clear 0;have l:oq S A rm D w w c x hb ne F H n D:=⟨h,λg b=>.inl b,Upon.refl _ _⟩;have d:=l.clear p m;have c2:=d.ctr.blk.cell 2
 simp at c2
 have t:=jq (Runs.R7 d.ctr.aF q hF);have k:=jq d;clear h l d p m v q hF
 go_enter func25,ntmps25
 go_wp2_with fail
 refine t.out.mono ?_;rintro e r ⟨rfl,o,i⟩;have a:=k.out.ctr;have y:=k.out.upon.size;have u:Hid (kz S A rm D w r c x hb 0 (Runs.iW F A.pf ne) [] (n+ne) (Mid D w2 r)):=jq ⟨⟨a.blk.upon i a.cD,o,a.map.keep (i.block hb a.map.lt a.hD),uM,aC _,λb=>b.elim a.cD (λh=>by have:=a.blk.lt;omega),λb=>b.elim a.hD (λh=>by have:=a.map.lt;omega),a.hc,a.lm,a.jQ⟩,λg b=>b.imp id (λh=>by omega),k.out.upon.trans i (λg b=>.inl (.inl b))⟩;clear o i a y
 go_wp2_with fail
 go_ret
 exact⟨rfl,_,u.out⟩
theorem kg(S:Sto s)(A:Fi)(t:A.s=s)(I:A.ok)(y:A.wd=16)(rm:Nat)(r:A.rm=rm){Q:Nat->Prop}(h:S.At w Q false F n):
  Calls prog 6 #[.pointer (some ⟨s,0,none⟩),nv A.pf,.int .i64 (rm:Int)] w λe w'=>∃c x hb ne D,e=.returned (.tuple #[.pointer (some ⟨c,0,none⟩),.int .i64 0])/\aL S A rm D w' c x hb ne F [] n/\(∀k,D k->Q k\/w.heap.size<=k)/\w.heap.size<=c/\w.heap.size<=hb/\(∀j,j<ne->F (rname A.pf j)≠none)/\F (rname A.pf ne)=none/\Below w.heap.size w w':=by
 have a:=jq (Runs.R8 S A t I h Q (λ_ h=>h) (S.lt h));rw[y,r,t]at a;unfold nv at a⊢;obtain⟨z,u⟩:∃z:ByteArray,z=⟨A.pf.toArray⟩:=⟨_,rfl⟩;rw[<-u]at a⊢;clear u
 go_enter func6,ntmps6
 go_wp2_with fail
 refine a.out.mono ?_;rintro e w1 ⟨x,ne,rfl,q,o,p,l⟩;have J:=run_makeMap (P:=prog) 67 w1;have i:=jq q;have g:=jq (And.intro o p);have d:=jq l;clear q l a o p
 go_wp2_with fail
 go_ret2
 obtain⟨W,b⟩:=jl ((w1.alloc (.map #[] 0)).alloc (.cells #[.int .i64 (rm:Int),.map (some w1.heap.size),.pointer (some ⟨x,0,none⟩)] 69));have B:Below w1.heap.size w1 (w1.alloc (.map #[] 0)):=(Below.refl _ w1).alloc jn _;have m:Below w1.heap.size w1 W:=by rw[b];exact B.alloc (by simp) _
 have v:=d.out.size
 have C:Blk W (w1.heap.size+1) 69 #[.int .i64 (rm:Int),.map (some w1.heap.size),.pointer (some ⟨x,0,none⟩)]:=by
  have:=Blk.new (w1.alloc (.map #[] 0)) 69 #[.int .i64 (rm:Int),.map (some w1.heap.size),.pointer (some ⟨x,0,none⟩)];rw[World.size_alloc]at this;rw[b];exact this
 have G:bM W w1.heap.size []:=by
  rw[b];exact(bM.made w1).keep (Below.heap_alloc _ _ _ (by simp))
 have hlt:=aW.lt i.out;refine⟨w1.heap.size+1,x,w1.heap.size,ne,Mid Q w w1,by simp,?_,λk E=>E.imp id (λh=>h.1),by omega,v,g.out.1,g.out.2,?_⟩
 ·rw[<-b];exact⟨C,i.out.later m,G,uM,aC _,λh=>by have:=hlt _ h;omega,λh=>by have:=hlt _ h;omega,by omega,r,y⟩
 ·rw[<-b];exact d.out.trans (m.mono v)
end Vp
end Go.Proofs.YtndkohocgfmamaaGreatDoor
