/- Part. -/
import Derived.Test.YtndkohocgfmamaaGreatDoorF35
import Derived.Test.YtndkohocgfmamaaGreatDoorF42
import Derived.Test.YtndkohocgfmamaaGreatDoorF43
set_option maxHeartbeats 8000000
set_option maxRecDepth 100000
namespace Go.Proofs.YtndkohocgfmamaaGreatDoor
open Go.Proofs.Tryz
namespace Vp
open Go.RowKit Go.Deep Mem Crc Merge aX bQ
open Runs (eP strB Fi sV bR dm rname aR fw cu)
open Store (nv)
def cV(A:Fi)(ha:Option Addr)(hn hc:Nat)(mh:Option Addr)(hl mc ne:Nat):Value:=.agg #[.slice ha hn hc,nv A.pf,.int .i64 A.wd,.int .i64 A.rm,.slice mh hl mc,.int .i64 ne]
def eX(L:List FF)(A:Fi)(ne:Nat)(H:List KC):List FF:=if H= []then L else eO L (rname A.pf ne) (aR (H.map ai))
structure dB(w W:World)(xb rb:Nat)(v0 v1 v2 v3 v4 v5:Value):Prop where
 below:Below w.heap.size w W
 bx:Blk W xb 37 #[v0,v1,v2,v3,v4,v5]
 br:∃u0 u1 u2 u3 u4 u5,Blk W rb 37 #[u0,u1,u2,u3,u4,u5]
 x:w.heap.size<=xb
 r:xb<rb
variable {w W W':World}{xb rb:Nat}{v0 v1 v2 v3 v4 v5:Value}
theorem I7(w:World)(v0 v1 v2 v3 v4 v5:Value):dB w ((w.alloc (.cells #[v0,v1,v2,v3,v4,v5] 37)).alloc (.cells #[.slice none 0 0,.string ⟨#[]⟩,.int .i64 0,.int .i64 0,.slice none 0 0,.int .i64 0] 37)) w.heap.size (w.heap.size+1) v0 v1 v2 v3 v4 v5:=by
 have:=Blk.new (w.alloc (.cells #[v0,v1,v2,v3,v4,v5] 37)) 37 #[.slice none 0 0,.string ⟨#[]⟩,.int .i64 0,.int .i64 0,.slice none 0 0,.int .i64 0];rw[World.size_alloc]at this;exact⟨((Below.refl _ w).alloc jn _).alloc (by simp) _,(Blk.new w _ _).alloc _,⟨_,_,_,_,_,_,this⟩,aj _,by omega⟩
theorem dB.later(h:dB w W xb rb v0 v1 v2 v3 v4 v5)(e:Below W.heap.size W W'):dB w W' xb rb v0 v1 v2 v3 v4 v5:=by
 obtain⟨u0,u1,u2,u3,u4,j,f⟩:=h.br;exact⟨h.below.trans (e.mono h.below.size),h.bx.below e h.bx.lt,⟨u0,u1,u2,u3,u4,j,f.below e f.lt⟩,h.x,h.r⟩
theorem dB.cells(h:dB w W xb rb v0 v1 v2 v3 v4 v5): (W.cell? ⟨xb,0,none⟩=some v0/\W.cell? ⟨xb,1,none⟩=some v1/\W.cell? ⟨xb,2,none⟩=some v2/\W.cell? ⟨xb,3,none⟩=some v3/\W.cell? ⟨xb,4,none⟩=some v4/\W.cell? ⟨xb,5,none⟩=some v5)/\(W.frozen? ⟨xb,0,none⟩=false/\W.frozen? ⟨xb,1,none⟩=false/\W.frozen? ⟨xb,2,none⟩=false/\W.frozen? ⟨xb,3,none⟩=false/\W.frozen? ⟨xb,4,none⟩=false/\W.frozen? ⟨xb,5,none⟩=false):=by
 have h:=h.bx;exact⟨⟨by rw[h.cell];rfl,by rw[h.cell];rfl,by rw[h.cell];rfl,by rw[h.cell];rfl,by rw[h.cell];rfl,by rw[h.cell];rfl⟩,h.frozen 0,h.frozen 1,h.frozen 2,h.frozen 3,h.frozen 4,h.frozen 5⟩
theorem dB.res(h:dB w W xb rb v0 v1 v2 v3 v4 v5): (∃u0 u1 u2 u3 u4 f,W.cell? ⟨rb,0,none⟩=some u0/\W.cell? ⟨rb,1,none⟩=some u1/\W.cell? ⟨rb,2,none⟩=some u2/\W.cell? ⟨rb,3,none⟩=some u3/\W.cell? ⟨rb,4,none⟩=some u4/\W.cell? ⟨rb,5,none⟩=some f)/\(W.frozen? ⟨rb,0,none⟩=false/\W.frozen? ⟨rb,1,none⟩=false/\W.frozen? ⟨rb,2,none⟩=false/\W.frozen? ⟨rb,3,none⟩=false/\W.frozen? ⟨rb,4,none⟩=false/\W.frozen? ⟨rb,5,none⟩=false):=by
 obtain⟨u0,u1,u2,u3,u4,f,e⟩:=h.br;exact⟨⟨u0,u1,u2,u3,u4,f,by rw[e.cell];rfl,by rw[e.cell];rfl,by rw[e.cell];rfl,by rw[e.cell];rfl,by rw[e.cell];rfl,by rw[e.cell];rfl⟩,e.frozen 0,e.frozen 1,e.frozen 2,e.frozen 3,e.frozen 4,e.frozen 5⟩
theorem dB.held(h:dB w W xb rb v0 v1 v2 v3 v4 v5)(u:Value):dB w (W.setCell ⟨xb,0,none⟩ u) xb rb u v1 v2 v3 v4 v5:=by
 obtain⟨u0,u1,u2,u3,u4,f,e⟩:=h.br;exact⟨h.below.setCell (p:=⟨xb,0,none⟩) h.x u,h.bx.set 0 u,⟨u0,u1,u2,u3,u4,f,e.far (Nat.ne_of_gt h.r) u⟩,h.x,h.r⟩
theorem dB.recs(h:dB w W xb rb v0 v1 v2 v3 v4 v5)(u:Value):dB w (W.setCell ⟨xb,4,none⟩ u) xb rb v0 v1 v2 v3 u v5:=by
 obtain⟨u0,u1,u2,u3,u4,f,e⟩:=h.br;exact⟨h.below.setCell (p:=⟨xb,4,none⟩) h.x u,h.bx.set 4 u,⟨u0,u1,u2,u3,u4,f,e.far (Nat.ne_of_gt h.r) u⟩,h.x,h.r⟩
theorem dB.done(h:dB w W xb rb v0 v1 v2 v3 v4 v5)(f:Upon (λg=>g=xb\/g=rb) W W'):Below w.heap.size w W':=h.below.trans (f.below h.below.size (λg e=>by
 have:=h.x;have:=h.r;rcases e with rfl|rfl <;> omega))
theorem dB.row(h:dB w W xb rb v0 v1 v2 v3 v4 v5)(x:Upon (λg=>g=xb\/g=rb) W W'){base:Nat}{e:TypeId}{size n:Nat}{v:Value}{xs:List Value}(f:W.ownsRow base e size v n xs)(j:e≠37):W'.ownsRow base e size v n xs:=by
 obtain⟨u0,u1,u2,u3,u4,y,u⟩:=h.br
 exact fC f x (λg k m=>by
  rcases m with rfl|rfl
  ·exact aV f h.bx j k
  ·exact aV f u j k)
theorem dB.over{P:Nat->Prop}(h:dB w W xb rb v0 v1 v2 v3 v4 v5)(e:Upon P W W')(k:¬P xb)(j:¬P rb)(f:Below w.heap.size w W'):dB w W' xb rb v0 v1 v2 v3 v4 v5:=by
 obtain⟨u0,u1,u2,u3,u4,m,hb⟩:=h.br;exact⟨f,h.bx.upon e k,⟨u0,u1,u2,u3,u4,m,hb.upon e j⟩,h.x,h.r⟩
variable {V:World}{b:Nat}{t:TypeId}
theorem I8{u0 u1 u2 u3 u4:Value}(h:Blk V b t #[u0,u1,u2,u3,u4])(a0 a1 a2 a3 a4:Value):Blk (((((V.setCell ⟨b,0,none⟩ a0).setCell ⟨b,1,none⟩ a1).setCell ⟨b,2,none⟩ a2).setCell ⟨b,3,none⟩ a3).setCell ⟨b,4,none⟩ a4) b t #[a0,a1,a2,a3,a4]/\Upon (λk=>k=b\/k=b) V (((((V.setCell ⟨b,0,none⟩ a0).setCell ⟨b,1,none⟩ a1).setCell ⟨b,2,none⟩ a2).setCell ⟨b,3,none⟩ a3).setCell ⟨b,4,none⟩ a4):=
 ⟨((((h.set 0 a0).set 1 a1).set 2 a2).set 3 a3).set 4 a4,Upon.set (Upon.set (Upon.set (Upon.set (Upon.set (Upon.refl _ _) (.inl (.inl rfl)) _) (.inl (.inl rfl)) _) (.inl (.inl rfl)) _) (.inl (.inl rfl)) _) (.inl (.inl rfl)) _⟩
theorem dB.ends(h:dB w W xb rb v0 v1 v2 v3 v4 v5)(a0 a1 a2 a3 a4 a5:Value):
  Blk ((((((W.setCell ⟨rb,0,none⟩ a0).setCell ⟨rb,1,none⟩ a1).setCell ⟨rb,2,none⟩ a2).setCell ⟨rb,3,none⟩ a3).setCell ⟨rb,4,none⟩ a4).setCell ⟨rb,5,none⟩ a5) rb 37 #[a0,a1,a2,a3,a4,a5]/\Upon (λg=>g=xb\/g=rb) W ((((((W.setCell ⟨rb,0,none⟩ a0).setCell ⟨rb,1,none⟩ a1).setCell ⟨rb,2,none⟩ a2).setCell ⟨rb,3,none⟩ a3).setCell ⟨rb,4,none⟩ a4).setCell ⟨rb,5,none⟩ a5):=by
 obtain⟨u0,u1,u2,u3,u4,f,e⟩:=h.br;exact⟨(((((e.set 0 a0).set 1 a1).set 2 a2).set 3 a3).set 4 a4).set 5 a5,Upon.set (Upon.set (Upon.set (Upon.set (Upon.set (Upon.set (Upon.refl _ _) (.inl (.inr rfl)) _) (.inl (.inr rfl)) _) (.inl (.inr rfl)) _) (.inl (.inr rfl)) _) (.inl (.inr rfl)) _) (.inl (.inr rfl)) _⟩
theorem dB.xY(h:dB w W xb rb v0 v1 v2 v3 v4 v5)(a0 a1 a2 a3 a4 a5:Value):
  dB w ((((((W.setCell ⟨xb,0,none⟩ a0).setCell ⟨xb,1,none⟩ a1).setCell ⟨xb,2,none⟩ a2).setCell ⟨xb,3,none⟩ a3).setCell ⟨xb,4,none⟩ a4).setCell ⟨xb,5,none⟩ a5) xb rb a0 a1 a2 a3 a4 a5/\Upon (λg=>g=xb\/g=rb) W ((((((W.setCell ⟨xb,0,none⟩ a0).setCell ⟨xb,1,none⟩ a1).setCell ⟨xb,2,none⟩ a2).setCell ⟨xb,3,none⟩ a3).setCell ⟨xb,4,none⟩ a4).setCell ⟨xb,5,none⟩ a5):=by
 obtain⟨u0,u1,u2,u3,u4,k,j⟩:=h.br;have e:rb≠xb:=Nat.ne_of_gt h.r;have f:Upon (λg=>g=xb\/g=rb) W ((((((W.setCell ⟨xb,0,none⟩ a0).setCell ⟨xb,1,none⟩ a1).setCell ⟨xb,2,none⟩ a2).setCell ⟨xb,3,none⟩ a3).setCell ⟨xb,4,none⟩ a4).setCell ⟨xb,5,none⟩ a5):=Upon.set (Upon.set (Upon.set (Upon.set (Upon.set (Upon.set (Upon.refl _ _) (.inl (.inl rfl)) _) (.inl (.inl rfl)) _) (.inl (.inl rfl)) _) (.inl (.inl rfl)) _) (.inl (.inl rfl)) _) (.inl (.inl rfl)) _;exact⟨⟨h.done f,(((((h.bx.set 0 a0).set 1 a1).set 2 a2).set 3 a3).set 4 a4).set 5 a5,⟨_,_,_,_,_,_,(((((j.far e a0).far e a1).far e a2).far e a3).far e a4).far e a5⟩,h.x,h.r⟩,f⟩
theorem gB{a0 a1 a2 a3 a4 a5:Value}(h:Blk V b t #[a0,a1,a2,a3,a4,a5]):V.cell? ⟨b,0,none⟩=some a0/\V.cell? ⟨b,1,none⟩=some a1/\V.cell? ⟨b,2,none⟩=some a2/\V.cell? ⟨b,3,none⟩=some a3/\V.cell? ⟨b,4,none⟩=some a4/\V.cell? ⟨b,5,none⟩=some a5:=⟨by rw[h.cell];rfl,by rw[h.cell];rfl,by rw[h.cell];rfl,by rw[h.cell];rfl,by rw[h.cell];rfl,by rw[h.cell];rfl⟩
open Runs (Hl Ho)
attribute [local go_sem] Oper.semAt_some
theorem Uf(A:Fi)(E:A.ok)(I:A.wd=16)(H:List KC)(L:List FF)(mh an:Option Addr)(mc nc ne:Nat)(w:World)(G:H.length<=A.rm)(D:ne<=100000)(z:Lies w mh ((H.map ai).map strB))(u:Lies w an (aU L))(x:L.length<=100000):
  Calls prog 54 #[sV A mh H.length mc ne,.slice an L.length nc] w λe w'=>∃k mc' aG aN,e=.returned (.tuple #[sV A k 0 mc' (ne+dP H),.slice aG (eX L A ne H).length aN])/\bR w.heap.size w' an aG L (eX L A ne H)/\Below w.heap.size w w':=by
 by_cases f:H= []
 ·subst f;refine(Ho A mh an mc L.length nc ne w).mono ?_;rintro e w' ⟨rfl,h⟩;exact⟨mh,mc,an,nc,rfl,⟨u.later h,.inl ⟨rfl,rfl⟩⟩,h⟩
 ·have m:=Hl A E (H.map ai) L mh an mc nc ne w (by simpa using f) (λb hb=>by
   obtain⟨p,_,rfl⟩:=List.mem_map.1 hb;rw[dZ,I]) (by rw[jP];exact G) D z u x
  rw[jP]at m;refine m.mono ?_;rintro e w' ⟨k,mc',aG,aN,rfl,-,v,h⟩;unfold eX dP;rw[if_neg f,if_neg f];obtain⟨_,_,j,_,y,C,_⟩:=own_shape v;injection j with j _ _;subst j;exact⟨k,mc',aG,aN,rfl,⟨y,.inr C⟩,h⟩
theorem I9(A:Fi)(x0:A.ok)(y3:A.wd=16)(H:List KC)(L:List FF)(ha an mh:Option Addr)(hc nc hl mc ne:Nat)(w:World)(hH:Lies w ha (H.flatMap aH))(Z:Lies w an (aU L))(y0:∀q∈H,q.1<=av/\q.2<=av)(hr:H.length<=A.rm)(y2:ne<=100000)(hL:L.length<=100000):
  Calls prog 20 #[cV A ha H.length hc mh hl mc ne,.slice an L.length nc] w λe w'=>∃f mc' aG aN,e=.returned (.tuple #[cV A none 0 0 f 0 mc' (ne+dP H),.slice aG (eX L A ne H).length aN])/\bR w.heap.size w' an aG L (eX L A ne H)/\Below w.heap.size w w':=by
 have a1:A.rm<=4096:=x0.2.2.2.2.2;obtain⟨sp,x3⟩:∃s:ByteArray,nv A.pf=.string s:=⟨_,rfl⟩;obtain⟨wd,x4⟩:∃z:Int,z=(A.wd:Int):=⟨_,rfl⟩;obtain⟨rm,x2⟩:∃z:Int,z=(A.rm:Int):=⟨_,rfl⟩;have HS:Hid (∀(a:Option Addr) (k c j:Nat),sV A a k c j=.agg #[.string sp,.int .i64 wd,.int .i64 rm,.slice a k c,.int .i64 j]):=jq (λa k c j=>by unfold sV;rw[x3,x4,x2]);have HC:Hid (∀(a:Option Addr) (k c:Nat) (b:Option Addr) (m d j:Nat),cV A a k c b m d j=.agg #[.slice a k c,.string sp,.int .i64 wd,.int .i64 rm,.slice b m d,.int .i64 j]):=jq (λa k c b m d j=>by unfold cV;rw[x3,x4,x2]);rw[HC.out];obtain⟨W1,y⟩:=jl ((w.alloc (.cells #[.slice ha H.length hc,.string sp,.int .i64 wd,.int .i64 rm,.slice mh hl mc,.int .i64 ne] 37)).alloc (.cells #[.slice none 0 0,.string ⟨#[]⟩,.int .i64 0,.int .i64 0,.slice none 0 0,.int .i64 0] 37));obtain⟨xb,D⟩:=jl w.heap.size;obtain⟨rb,x1⟩:=jl (w.heap.size+1);have C:=I7 w (.slice ha H.length hc) (.string sp) (.int .i64 wd) (.int .i64 rm) (.slice mh hl mc) (.int .i64 ne);rw[<-y,<-x1,<-D]at C;have x:=jq C;have y9:=jq Z;have HR:=jq (Bt H ha hc W1 (hH.later C.below) (by omega) y0)
 have G:Hid (∀V,Below w.heap.size w V->∀a c,Lies V a ((H.map ai).map strB)->Calls prog 54 #[.agg #[.string sp,.int .i64 wd,.int .i64 rm,.slice a H.length c,.int .i64 ne],.slice an L.length nc] V λe w'=>∃f mc' aG aN,e=.returned (.tuple #[.agg #[.string sp,.int .i64 wd,.int .i64 rm,.slice f 0 mc',.int .i64 ((ne+dP H:Nat):Int)],.slice aG (eX L A ne H).length aN])/\Hid (bR V.heap.size w' an aG L (eX L A ne H))/\Hid (Below V.heap.size V w')):=jq (λV hV a c a0=>by
  have:=Uf A x0 y3 H L a an c nc ne V hr y2 a0 (Z.later hV) hL;rw[HS.out]at this;refine this.mono ?_;rintro e w' ⟨f,mc',aG,aN,rfl,h1,h2⟩;rw[HS.out];exact⟨f,mc',aG,aN,rfl,jq h1,jq h2⟩)
 obtain⟨hn,y1⟩:=jl H.length;obtain⟨ln,x9⟩:=jl L.length;rw[<-y1]at HR G y x⊢;rw[<-x9]at G⊢;have z7:=jq (And.intro D x1);obtain⟨⟨I,c1,c2,J,M,N⟩,f0,f1,T,U,X,Y⟩:=x.out.cells;clear x0 y3 hH Z y0 hr y2 hL x3 x4 x2 C y1 x9 a1
 go_enter func20,ntmps20
 go_wp2_with fail
 rw[<-y,<-D,show xb+1=rb by omega];clear y D x1 I c1 c2 J M N f0 f1 T U X Y;refine HR.out.mono ?_;rintro e w2 ⟨a',c',rfl,h0,z8⟩;have h5:=x.out.later z8;obtain⟨_,_,u,_,x6,_,x8⟩:=own_shape h0;injection u with u O R;subst u;clear O R;obtain⟨⟨I,c1,c2,J,M,N⟩,f0,f1,T,U,X,Y⟩:=h5.cells;have y5:=jq h5;have y7:=jq x6;have y6:=jq (λg hg=>(h0.lt g (x8.trans hg)).1);clear h0 x6 x8 h5
 go_wp2_with fail
 generalize h3:w2.setCell ⟨xb,4,none⟩ (.slice a' hn c')=W3;have h6:=y5.out.recs (.slice a' hn c');rw[h3]at h6
 have x7:Lies W3 a' ((H.map ai).map strB):=by
  rw[<-h3];refine y7.out.upon (Upon.set (P:=λk=>k=xb) (Upon.refl _ _) (p:=⟨xb,4,none⟩) (.inl rfl) _) (λg hg e=>?_);have h1:=y6.out g hg;have h2:=x.out.bx.lt
  omega
 have h:=jq h6;have y8:=jq x7;clear I c1 c2 J M N f0 f1 T U X Y h3 h6 x7;refine(G.out W3 h.out.below a' c' y8.out).mono ?_;rintro e E ⟨f,mc',aG,aN,rfl,z6,y4⟩;obtain⟨ne',h9⟩:=jl (ne+dP H);obtain⟨a3,h8⟩:=jl ((eX L A ne H).length);rw[<-h9,<-h8];have h7:=(h.out.later y4.out).later ((Below.refl E.heap.size E).alloc jn (.cells #[.string sp,.int .i64 wd,.int .i64 rm,.slice f 0 mc',.int .i64 ne'] 35));obtain⟨⟨u0,u1,u2,u3,u4,u5,r0,r1,r2,r3,r4,r5⟩,z0,z1,z2,z3,z4,z5⟩:=h7.res;have x5:=jq h7;have HE:=jq (And.intro h9 h8);clear h7 h9 h8
 go_wp2_with fail
 obtain⟨z9,hu⟩:=x5.out.ends (.slice none 0 0) (.string sp) (.int .i64 wd) (.int .i64 rm) (.slice f 0 mc') (.int .i64 ne');obtain⟨u,O,R,e3,e4,e5⟩:=gB z9;refine bodyPost_ret (v:=.tuple #[.agg #[.slice none 0 0,.string sp,.int .i64 wd,.int .i64 rm,.slice f 0 mc',.int .i64 ne'],.slice aG a3 aN]) (by simp[results,Tryz.f20,go_sem,u,O,R,e3,e4,e5]) rfl ?_;have hz:=h.out.below.size;refine⟨f,mc',aG,aN,by rw[HC.out,<-HE.out.1,<-HE.out.2],?_,x5.out.done hu⟩;have a2:=h.out.bx.lt;obtain⟨_,_,_,_,_,_,h4⟩:=h.out.br;have h4:=h4.lt;have a4:=z7.out;exact((z6.out.later ((Below.refl E.heap.size E).alloc jn _)).upon y9.out ⟨by omega,a2⟩ ⟨by omega,h4⟩ hu).mono hz
end Vp
namespace Vp
open Go.RowKit Go.Deep Mem Crc Merge aX bQ
open Runs (eP strB Fi sV bR dm rname aR fw cu)
open Store (nv)
def gD(rm:Nat)(H:List KC)(p:KC):Bool:=H.all (λq=>q.1 !=p.1)&&H.length==rm
def eu(rm:Nat)(H:List KC)(p:KC):List KC:=if gD rm H p then []else H
def jU(rm ne:Nat)(H:List KC)(p:KC):Nat:=if gD rm H p then ne+dP H else ne
def iZ(L:List FF)(A:Fi)(ne:Nat)(H:List KC)(p:KC):List FF:=if gD A.rm H p then eX L A ne H else L
variable {H:List KC}{p q:KC}
theorem Ug{rm:Nat}(hq:q∈H)(e:q.1=p.1):gD rm H p=false:=by
 unfold gD;rw[Bool.and_eq_false_iff]
 left
 rw[List.all_eq_false];exact⟨q,hq,by simp[e]⟩
theorem Uh{rm:Nat}(h:H.length≠rm):gD rm H p=false:=by
 unfold gD;rw[Bool.and_eq_false_iff]
 right
 simpa using h
theorem Ui{rm:Nat}(e:∀q∈H,q.1≠p.1)(h:H.length=rm):gD rm H p=true:=by
 unfold gD;rw[Bool.and_eq_true];exact⟨List.all_eq_true.2 (λq hq=>by simpa using e q hq),by simpa using h⟩
theorem Uj(rm:Nat)(H:List KC)(p:KC): (eu rm H p).length<=H.length:=by
 unfold eu
 split <;> simp
theorem Uk{rm:Nat}(h:q∈eu rm H p):q∈H:=by
 unfold eu at h
 split at h
 ·cases h
 ·exact h
attribute [local go_sem] Oper.semAt_some
theorem Ul(A:Fi)(z7:A.ok)(e8:A.wd=16)(H:List KC)(p:KC)(L:List FF)(ha an mh:Option Addr)(hc nc hl mc ne x y C:Nat)(d6:x=p.1/4294967296)(e6:y=p.1%4294967296)(b9:C=p.2)(i0:p.2≠0)(w:World)(hH:Lies w ha (H.flatMap aH))(hN:Lies w an (aU L))(y8:∀q∈H,q.1<=av/\q.2<=av)(hp:p.2<=av)(u:H.length<=A.rm)(c8:ne<=100000)(hL:L.length<=100000):
  Calls prog 19 #[cV A ha H.length hc mh hl mc ne,.slice an L.length nc,.agg #[.int .u32 (x:Int),.int .u32 (y:Int),.int .u64 (C:Int)]] w λe w'=>∃a9 b8 E g8 mc' aG aN,e=.returned (.tuple #[cV A a9 (bD (eu A.rm H p) p).length b8 E g8 mc' (jU A.rm ne H p),.slice aG (iZ L A ne H p).length aN])/\gK w' w.heap.size (.slice a9 (bD (eu A.rm H p) p).length b8) (bD (eu A.rm H p) p)/\bR w.heap.size w' an aG L (iZ L A ne H p)/\Below w.heap.size w w':=by
 have c9:A.rm<=4096:=z7.2.2.2.2.2;obtain⟨sp,d7⟩:∃s:ByteArray,nv A.pf=.string s:=⟨_,rfl⟩;obtain⟨wd,e9⟩:∃z:Int,z=(A.wd:Int):=⟨_,rfl⟩;obtain⟨rm,x1⟩:∃z:Nat,z=A.rm:=⟨_,rfl⟩;have HC:Hid (∀(a:Option Addr) (k c:Nat) (b:Option Addr) (m d j:Nat),cV A a k c b m d j=.agg #[.slice a k c,.string sp,.int .i64 wd,.int .i64 (rm:Int),.slice b m d,.int .i64 j]):=jq (λa k c b m d j=>by unfold cV;rw[d7,e9,x1])
 have a6:Hid (∀V a c,Lies V a (H.flatMap aH)->Lies V an (aU L)->Calls prog 20 #[.agg #[.slice a H.length c,.string sp,.int .i64 wd,.int .i64 (rm:Int),.slice mh hl mc,.int .i64 ne],.slice an L.length nc] V λe w'=>∃E mc' aG aN,e=.returned (.tuple #[.agg #[.slice none 0 0,.string sp,.int .i64 wd,.int .i64 (rm:Int),.slice E 0 mc',.int .i64 ((ne+dP H:Nat):Int)],.slice aG (eX L A ne H).length aN])/\Hid (bR V.heap.size w' an aG L (eX L A ne H))/\Hid (Below V.heap.size V w')):=jq (λV a c h1 h2=>by
  have:=I9 A z7 e8 H L a an mh c nc hl mc ne V h1 h2 y8 u c8 hL;rw[HC.out]at this;refine this.mono ?_;rintro e w' ⟨E,mc',aG,aN,rfl,h1,h2⟩;rw[HC.out];exact⟨E,mc',aG,aN,rfl,jq h1,jq h2⟩)
 rw[HC.out];obtain⟨D,x0⟩:=jl H.length;obtain⟨ln,y7⟩:=jl L.length;rw[<-x0,<-y7]at a6⊢;rw[<-x1];obtain⟨T,h8⟩:=jl (((w.alloc (.cells #[.slice ha D hc,.string sp,.int .i64 wd,.int .i64 (rm:Int),.slice mh hl mc,.int .i64 ne] 37)).alloc (.cells #[.int .u32 (x:Int),.int .u32 (y:Int),.int .u64 (C:Int)] 49)).alloc (.cells #[.slice none 0 0,.string ⟨#[]⟩,.int .i64 0,.int .i64 0,.slice none 0 0,.int .i64 0] 37));obtain⟨xb,x2⟩:=jl w.heap.size;obtain⟨vb,z9⟩:=jl (w.heap.size+1);obtain⟨rb,z8⟩:=jl (w.heap.size+2)
 have O:dB w T xb rb (.slice ha D hc) (.string sp) (.int .i64 wd) (.int .i64 (rm:Int)) (.slice mh hl mc) (.int .i64 ne):=by
  have U:=Blk.new ((w.alloc (.cells #[.slice ha D hc,.string sp,.int .i64 wd,.int .i64 (rm:Int),.slice mh hl mc,.int .i64 ne] 37)).alloc (.cells #[.int .u32 (x:Int),.int .u32 (y:Int),.int .u64 (C:Int)] 49)) 37 #[.slice none 0 0,.string ⟨#[]⟩,.int .i64 0,.int .i64 0,.slice none 0 0,.int .i64 0];rw[World.size_alloc,World.size_alloc]at U;rw[h8,x2,z8];exact⟨(((Below.refl _ w).alloc jn _).alloc (by simp) _).alloc (by simp;omega) _,((Blk.new w _ _).alloc _).alloc _,⟨_,_,_,_,_,_,U⟩,aj _,by omega⟩
 have Y:Blk T vb 49 #[.int .u32 (x:Int),.int .u32 (y:Int),.int .u64 (C:Int)]:=by
  have U:=Blk.new (w.alloc (.cells #[.slice ha D hc,.string sp,.int .i64 wd,.int .i64 (rm:Int),.slice mh hl mc,.int .i64 ne] 37)) 49 #[.int .u32 (x:Int),.int .u32 (y:Int),.int .u64 (C:Int)];rw[World.size_alloc]at U;rw[h8,z9];exact U.alloc _
 have N:Hid (Calls prog 52 #[.slice ha D hc,.int .u32 (x:Int),.int .u32 (y:Int)] T λe w'=>xR H p.1 e/\w'=T):=jq (by rw[x0];exact nM H ha hc x y p.1 (by omega) (by omega) T (hH.later O.below) (by omega));have HH:=jq (hH.later O.below);have HN:=jq (hN.later O.below);have a7:=jq hN;have G:=jq O;have x5:=jq Y;have a8:=jq (And.intro x2 (And.intro z9 z8));have x8:=jq (And.intro y8 (And.intro hp (And.intro u c9)));have HP:=jq (And.intro d6 (And.intro e6 b9));have I:=jq (And.intro x0 (And.intro y7 x1));have i7: ((C:Int)==0)=false:=by simp;omega
 obtain⟨⟨c0,c1,c2,c3,c4,c5⟩,f0,f1,f2,f3,f4,f5⟩:=O.cells;have q0:=Y.cell 0;have q1:=Y.cell 1;have q2:=Y.cell 2
 simp at q0 q1 q2
 clear O Y z7 e8 hH hN y8 hp u c8 hL d7 e9 x1 x0 y7 d6 e6 b9 c9 i0
 go_enter func19,ntmps19
 go_wp2_with fail
 rw[<-h8,<-x2,show xb+1=vb by omega,show vb+1=rb by omega];clear h8 x2 z9 z8;refine N.out.mono ?_;rintro e w2 ⟨b6,i1⟩;subst i1
 obtain⟨iv,t,rfl,c6,c7⟩:∃(iv:Int) (t:Bool),e=.returned (.tuple #[.int .i64 iv,.bool t])/\(t=true->gD rm H p=false)/\(t=false->gD rm H p=(H.length==rm)):=by
  rcases b6 with⟨i,q,hi,hq,i6,rfl⟩|⟨g9,rfl⟩
  ·exact⟨_,true,rfl,λ_=>Ug (jM hi) hq,λh=>by cases h⟩
  ·exact⟨_,false,rfl,λh=>(by cases h),λ_=>by
    by_cases u:H.length=rm
    ·rw[Ui g9 u];simp[u]
    ·rw[Uh u];simp[u]⟩
 have h4:=jq c6;have h5:=jq c7;clear b6 c6 c7
 go_upto_region 4 with(fail)
 go_cut[35] (λi3 R=>i3=.bool (gD rm H p)/\R=w2)
 case first=>
  cases t with
  |true=>
   have N:=jq (h4.out rfl);clear h4 h5
   go_wp2_with fail
   go_meet
   exact⟨by rw[N.out],rfl⟩
  |false=>
   have N:=jq (h5.out rfl);clear h4 h5
   by_cases u:D=rm
   ·have ht: ((D:Int)==(rm:Int))=true:=by rw[u];simp
    have HR:=jq u;clear u
    go_wp2_with fail
    go_meet
    exact⟨by rw[N.out,<-I.out.1,HR.out];simp,rfl⟩
   ·have ht: ((D:Int)==(rm:Int))=false:=by simp;omega
    have HR:=jq u;clear u
    go_wp2_with fail
    go_meet
    exact⟨by rw[N.out,<-I.out.1];simpa using HR.out,rfl⟩
 case rest=>
  obtain⟨rfl,e7⟩:=hcut;rw[e7];clear e7 h4 h5;obtain⟨fb,y5⟩:=jl (gD rm H p);rw[<-y5];have h6:=jq y5;clear y5
  go_upto_if 35 with(fail)
  go_cut[1] (λs1 R=>∃(a1 m1 a2:Option Addr) (k1 c1 Z d1 h0 x3 x4:Nat),s1=.slice a2 x3 x4/\Hid (x3=(iZ L A ne H p).length/\h0=jU rm ne H p/\k1=(eu rm H p).length)/\Hid (dB w R xb rb (.slice a1 k1 c1) (.string sp) (.int .i64 wd) (.int .i64 (rm:Int)) (.slice m1 Z d1) (.int .i64 h0))/\Hid (Blk R vb 49 #[.int .u32 (x:Int),.int .u32 (y:Int),.int .u64 (C:Int)])/\Hid (Lies R a1 ((eu rm H p).flatMap aH))/\Hid (bR w2.heap.size R an a2 L (iZ L A ne H p)))
  case first=>
   cases fb with
   |false=>
    have f:Hid (eu rm H p=H/\jU rm ne H p=ne/\iZ L A ne H p=L):=jq (by
     have h:=h6.out.symm;unfold eu jU iZ;rw[<-I.out.2.2,h];exact⟨rfl,rfl,rfl⟩)
    clear h6
    go_wp2_with fail
    go_meet
    refine⟨ha,mh,an,D,hc,hl,mc,ne,ln,nc,rfl,jq ?_,G,x5,jq ?_,jq ?_⟩
    ·rw[f.out.1,f.out.2.1,f.out.2.2];exact⟨I.out.2.1,rfl,I.out.1⟩
    ·rw[f.out.1];exact HH.out
    ·rw[f.out.2.2];exact⟨HN.out,.inl ⟨rfl,rfl⟩⟩
   |true=>
    have f:Hid (eu rm H p= []/\jU rm ne H p=ne+dP H/\iZ L A ne H p=eX L A ne H):=jq (by
     have h:=h6.out.symm;unfold eu jU iZ;rw[<-I.out.2.2,h];exact⟨rfl,rfl,rfl⟩)
    clear h6
    go_wp2_with fail
    refine(a6.out w2 ha hc HH.out HN.out).mono ?_;rintro e w3 ⟨E,mc',aG,aN,rfl,x9,a3⟩;have y4:=G.out.later a3.out;obtain⟨⟨b0,b1,b2,b3,b4,b5⟩,g0,g1,g2,g3,g4,g5⟩:=y4.cells;obtain⟨ne',z6⟩:=jl (ne+dP H);obtain⟨i2,y9⟩:=jl ((eX L A ne H).length);rw[<-z6,<-y9];have f7:=jq y4;have a5:=jq (And.intro z6 y9);clear y4 z6 y9 c0 c1 c2 c3 c4 c5 f0 f1 f2 f3 f4 f5 q0 q1 q2
    go_wp2_with fail
    go_meet
    obtain⟨J,d9⟩:=f7.out.xY (.slice none 0 0) (.string sp) (.int .i64 wd) (.int .i64 (rm:Int)) (.slice E 0 mc') (.int .i64 ne');have a0:=G.out.bx.lt;obtain⟨_,_,_,_,_,_,M⟩:=G.out.br;have M:=M.lt;have f6:=a8.out;refine⟨none,E,aG,0,0,0,mc',ne',i2,aN,rfl,jq ?_,jq J,jq ((x5.out.below a3.out x5.out.lt).upon d9 (λe=>by rcases e with e|e <;> omega)),jq ?_,jq ?_⟩
    ·rw[f.out.1,f.out.2.1,f.out.2.2];exact⟨a5.out.2,a5.out.1,rfl⟩
    ·rw[f.out.1];exact .inl rfl
    ·rw[f.out.2.2];exact x9.out.upon a7.out ⟨by omega,a0⟩ ⟨by omega,M⟩ d9
  case rest=>
   obtain⟨a1,m1,a2,k1,g6,Z,y3,h0,x3,x4,rfl,f,x7,x6,HL,x9⟩:=hcut;have h9:=I4 (eu rm H p) p a1 g6 x y C HP.out.1 HP.out.2.1 HP.out.2.2 wc HL.out (by have:=Uj rm H p;have:=I.out;have:=x8.out.2.2;omega) (λq hq=>(x8.out.1 q (Uk hq)).2) x8.out.2.1;rw[<-f.out.2.2]at h9;obtain⟨k',y6⟩:=jl ((bD (eu rm H p) p).length);rw[<-y6]at h9;have HK:=jq y6;have f8:=jq h9;obtain⟨⟨b0,-,-,-,-,-⟩,-⟩:=x7.out.cells;have y0:=x6.out.cell 0;have y1:=x6.out.cell 1;have y2:=x6.out.cell 2
   simp at y0 y1 y2
   clear h9 y6 c0 c1 c2 c3 c4 c5 f0 f1 f2 f3 f4 f5 q0 q1 q2
   go_wp2_with fail
   refine f8.out.mono ?_;rintro e w4 ⟨a',c',rfl,X,h7⟩;have J:=x7.out.later h7;obtain⟨⟨d0,i5,d2,d3,d4,d5⟩,g0,-,-,-,-,-⟩:=J.cells;obtain⟨⟨u0,u1,u2,u3,u4,u5,r0,r1,r2,r3,r4,r5⟩,z0,z1,z2,z3,z4,z5⟩:=J.res;have f6:xb<rb:=J.r;have i8:¬rb=xb:=by omega
   have i9:¬xb=rb:=by omega
   have a4:=jq J;have HO:=jq X;have f9:=jq (x9.out.later h7);have i4:=jq h7;clear b0 y0 y1 y2 J X h7 f6
   go_wp2_with fail
   have b7:=a4.out.held (.slice a' k' c');obtain⟨g7,hu⟩:=b7.ends (.slice a' k' c') (.string sp) (.int .i64 wd) (.int .i64 (rm:Int)) (.slice m1 Z y3) (.int .i64 h0);obtain⟨e0,e1,e2,e3,e4,e5⟩:=gB g7;refine bodyPost_ret (v:=.tuple #[.agg #[.slice a' k' c',.string sp,.int .i64 wd,.int .i64 (rm:Int),.slice m1 Z y3,.int .i64 h0],.slice a2 x3 x4]) (by simp[results,Tryz.f19,go_sem,e0,e1,e2,e3,e4,e5]) rfl ?_;have d8:=(Upon.set (P:=λg=>g=xb\/g=rb) (Upon.refl _ w4) (p:=⟨xb,0,none⟩) (.inl (.inl rfl)) (.slice a' k' c')).trans hu (λk hk=>.inl hk);have hz:=x7.out.below.size;have a0:=G.out.bx.lt;obtain⟨_,_,_,_,_,_,M⟩:=G.out.br;have M:=M.lt;have j0:=a8.out;refine⟨a',c',m1,Z,y3,a2,x4,by rw[HC.out,<-HK.out,<-f.out.1,<-f.out.2.1],?_,?_,b7.done hu⟩
   ·rw[<-HK.out];have X:=HO.out;unfold gK at X⊢;exact bH (a4.out.row d8 X (by decide)) hz
   ·exact(f9.out.upon a7.out ⟨by omega,a0⟩ ⟨by omega,M⟩ d8).mono G.out.below.size
open Runs (runsR sortB jO dJ RowsOut H7 nk)
open Store (Files)
theorem Um{p q:KC}(e:p.1<=av)(h:ai p<=ai q):p.1<=q.1:=by
 apply Nat.le_of_not_lt
 intro hlt;have:=Iy 8 q.1 p.1 hlt (p64 e) (bB 8 q.2) (bB 8 p.2);exact absurd this (iM.2 h)
variable {ls:List (List B)}
theorem Bu{H:List KC}(k:∀l∈ls,∀b∈l,b.length=16): (bC H ls).Pairwise (λp q=>p.1<=q.1):=by
 obtain⟨f,h⟩:=qp (H:=H) k;have e:=jO (H.map ai++ls.flatten);rw[<-f]at e;have j: (bC H ls).Pairwise (λp q=>ai p<=ai q):=kJ.1 e;exact j.imp_of_mem (fun{a b} ha _ hab=>Um (h a ha).1 hab)
theorem Un{H:List KC}(e:∀l∈ls,∀b∈l,b.length=16): (((sortB (H.map ai++ls.flatten)).map jR).foldl bD [])=merged (bC H ls):=by
 have h:=II (bC H ls) (Bu e) (λp f=>((qp e).2 p f).2) (bC H ls).length jn;rw[jW jn]at h;exact h
theorem Ja(A:Fi)(Z:A.ok)(y4:A.wd=16)(H:List KC)(L:List FF)(F:Files)(ls:List (List B))(ha an mh:Option Addr)(hc nc hl mc ne:Nat)(w:World)(hH:Lies w ha (H.flatMap aH))(hN:Lies w an (aU L))(x7:∀q∈H,q.1<=av/\q.2<=av)(hr:H.length<=A.rm)(y0:ne<=90)(hL:L.length<=100000)(y2:aQ L F)(h4:runsR A F ne=some ls)(hF:∀j,j<ne->F (rname A.pf j)≠none)(y3:∀nm b,F nm=some b->b.length<=10000)(z4: (H.map ai++ls.flatten).length<=100000):
  Calls prog 12 #[cV A ha H.length hc mh hl mc ne,.slice an L.length nc] w λe w'=>∃a' c',e=.returned (.tuple #[.slice a' (merged (bC H ls)).length c',.int .i64 0])/\gK w' w.heap.size (.slice a' (merged (bC H ls)).length c') (merged (bC H ls))/\Below w.heap.size w w':=by
 have z5:A.rm<=4096:=Z.2.2.2.2.2;have h6:∀l∈ls,∀b∈l,b.length=16:=λl hl b hb=>by rw[<-y4];exact((nk h4).2 l hl).1 b hb
 obtain⟨sp,h5⟩:∃s:ByteArray,nv A.pf=.string s:=⟨_,rfl⟩;obtain⟨wd,h7⟩:∃z:Int,z=(A.wd:Int):=⟨_,rfl⟩;obtain⟨rm,h0⟩:∃z:Int,z=(A.rm:Int):=⟨_,rfl⟩;have HS:Hid (∀(a:Option Addr) (k c j:Nat),sV A a k c j=.agg #[.string sp,.int .i64 wd,.int .i64 rm,.slice a k c,.int .i64 j]):=jq (λa k c j=>by unfold sV;rw[h5,h7,h0]);have x5:cV A ha H.length hc mh hl mc ne=.agg #[.slice ha H.length hc,.string sp,.int .i64 wd,.int .i64 rm,.slice mh hl mc,.int .i64 ne]:=by unfold cV;rw[h5,h7,h0]
 rw[x5];obtain⟨N,O⟩:=jl ((H.map ai++ls.flatten).length)
 have C:Hid (∀V,Below w.heap.size w V->∀a c,Lies V a ((H.map ai).map strB)->Calls prog 40 #[.agg #[.string sp,.int .i64 wd,.int .i64 rm,.slice a H.length c,.int .i64 ne],.slice an L.length nc] V λe w'=>∃a' c',e=.returned (.tuple #[.slice a' N c',.int .i64 0])/\Hid (Lies w' a' ((sortB (H.map ai++ls.flatten)).map strB))/\Hid (Below V.heap.size V w')):=jq (λV hV a c Y=>by
  have:=H7 A Z (H.map ai) L F a an c nc ne V y2 y0 hF y3 (by rw[jP];omega) Y (hN.later hV) hL;rw[jP,HS.out]at this;refine this.mono ?_;rintro e w' ⟨hB,hm⟩;rw[h4]at hm;obtain⟨a',c',rfl,u⟩:=hm;rw[<-O];exact⟨a',c',rfl,jq u,jq hB⟩)
 have h9:Hid (∀V a c,Lies V a ((sortB (H.map ai++ls.flatten)).map strB)->Calls prog 41 #[.slice a N c] V λe w'=>∃a' c',e=.returned (.slice a' (merged (bC H ls)).length c')/\Hid (gK w' V.heap.size (.slice a' (merged (bC H ls)).length c') (merged (bC H ls)))/\Hid (Below V.heap.size V w')):=jq (λV a c Y=>by
  have x8: (sortB (H.map ai++ls.flatten)).length=N:=by rw[(dJ _).length_eq,O]
  have:=merge_any (sortB (H.map ai++ls.flatten)) (λb hb=>by
   rcases List.mem_append.1 ((dJ _).mem_iff.1 hb)with hb|hb
   ·obtain⟨p,_,rfl⟩:=List.mem_map.1 hb;exact dZ p
   ·obtain⟨l,hl,hb⟩:=List.mem_flatten.1 hb;exact h6 l hl b hb) a c V Y (by rw[x8];omega)
  rw[x8,Un h6]at this;refine this.mono ?_;rintro e w' ⟨a',c',rfl,u,h2⟩;exact⟨a',c',rfl,jq u,jq h2⟩)
 obtain⟨W1,h⟩:=jl ((w.alloc (.cells #[.slice ha H.length hc,.string sp,.int .i64 wd,.int .i64 rm,.slice mh hl mc,.int .i64 ne] 37)).alloc (.cells #[.string sp,.int .i64 wd,.int .i64 rm,.slice mh hl mc,.int .i64 ne] 35));have E:Below w.heap.size w W1:=by rw[h];exact((Below.refl _ w).alloc jn _).alloc (by simp) _
 obtain⟨rb,v⟩:=jl (w.heap.size+1)
 have x4:Blk W1 rb 35 #[.string sp,.int .i64 wd,.int .i64 rm,.slice mh hl mc,.int .i64 ne]:=by
  have h3:=Blk.new (w.alloc (.cells #[.slice ha H.length hc,.string sp,.int .i64 wd,.int .i64 rm,.slice mh hl mc,.int .i64 ne] 37)) 35 #[.string sp,.int .i64 wd,.int .i64 rm,.slice mh hl mc,.int .i64 ne];rw[World.size_alloc]at h3;rw[h,v];exact h3
 have HR:=jq (Bt H ha hc W1 (hH.later E) (by omega) x7);have h8:=jq E;have y:=jq x4;have z3:=jq v;obtain⟨hn,x9⟩:=jl H.length;obtain⟨ln,x6⟩:=jl L.length;rw[<-x9]at HR C h⊢;rw[<-x6]at C⊢;obtain⟨M,J⟩:=jl ((merged (bC H ls)).length);have HM:=jq J;rw[<-J]at h9⊢;clear Z y4 hH hN x7 hr y0 hL y2 h4 hF y3 z4 h6 x5 h5 h7 h0 O E x4 x9 x6 z5 J
 go_enter func12,ntmps12
 go_wp2_with fail
 rw[<-h,<-v];clear h v;refine HR.out.mono ?_;rintro e w2 ⟨a',c',rfl,T,G⟩;obtain⟨_,_,D,_,x1,_,x3⟩:=own_shape T;injection D with D e1 e2;subst D;clear e1 e2;have f:=y.out.below G y.out.lt;have c0:=f.cell 0;have c1:=f.cell 1;have c2:=f.cell 2;have c3:=f.cell 3;have m:=f.cell 4
 simp at c0 c1 c2 c3 m
 have f3:=f.frozen 3;have z6:=jq f;have y9:=jq x1;have y8:=jq (λg X=>(T.lt g (x3.trans X)).1);have y5:=jq (h8.out.trans (G.mono h8.out.size));clear T x1 x3 f G
 go_wp2_with fail
 generalize U:w2.setCell ⟨rb,3,none⟩ (.slice a' hn c')=W3;have y1:w.heap.size<=rb:=by rw[z3.out];omega
 have x0:Below w.heap.size w W3:=by rw[<-U];exact y5.out.setCell (p:=⟨rb,3,none⟩) y1 _
 have x2:Lies W3 a' ((H.map ai).map strB):=by
  rw[<-U];refine y9.out.upon (Upon.set (P:=λk=>k=rb) (Upon.refl _ _) (p:=⟨rb,3,none⟩) (.inl rfl) _) (λg X e=>?_);have u:=y8.out g X;have h2:=y.out.lt
  omega
 have x:=jq x0;have z0:=jq x2;clear c0 c1 c2 c3 m f3 U y1 x0 x2;refine(C.out W3 x.out a' c' z0.out).mono ?_;rintro e w4 ⟨a4,m,rfl,z1,y6⟩
 go_wp2_with fail
 refine(h9.out w4 a4 m z1.out).mono ?_;rintro e w5 ⟨a5,c5,rfl,z2,y7⟩
 go_wp2_with fail
 go_ret2
 have I:=x.out.trans (y6.out.mono x.out.size);refine⟨a5,c5,rfl,?_,I.trans (y7.out.mono I.size)⟩;have R:=z2.out;unfold gK at R⊢;rw[<-HM.out]at R⊢;exact bH R I.size
end Vp
namespace Vp
open Go.RowKit Go.Deep Mem Crc Merge aX
open Runs (aW Fi Mid SL sl sortB dJ jO rname aR runsR bY rA eT wX wU gI cu GQ kZ)
open Store (Sto Files setF fF fG nv)
structure jB(w:World)(vs:List SL)(l:List B):Prop where
 recs:bY w (vs.map sl) l
 blk:∀y∈vs,∀g,Mem.blk y.1=some g->∃cs,Blk w g 5 cs
theorem jB.nil(w:World):jB w [] []:=⟨rA w,λ_ h=>by cases h⟩
theorem jB.later{w w':World}{vs:List SL}{l:List B}(h:jB w vs l)(e:Below w.heap.size w w'):jB w' vs l:=⟨h.recs.later e,λy j g f=>by
 obtain⟨cs,hb⟩:=h.blk y j g f;exact⟨cs,hb.below e hb.lt⟩⟩
variable {w:World}{n:Nat}
theorem jB.step{w':World}{vs:List SL}{l:List B}(h:jB w vs l){base:Nat}{v:Value}{xs:List Value}(m:w.ownsRow base 84 1 v n xs)(j:Upon (λg=>v.ownBlock=some g) w w'):jB w' vs l:=by
 have f:∀g,(∃cs,Blk w g 5 cs)->¬(v.ownBlock=some g):=λg ⟨cs,hb⟩ e=>aV m hb (by decide) e
 exact⟨wX h.recs j h.blk f,λy u g k=>by
  obtain⟨cs,hb⟩:=h.blk y u g k;exact⟨cs,hb.upon j (f g ⟨cs,hb⟩)⟩⟩
theorem jB.snoc{w:World}{vs:List SL}{l:List B}(h:jB w vs l){g c:Nat}{b:B}{cs:Array Value}(hc:b.length<=c)(j:Lies w (some ⟨g,0,none⟩) (b.map bv))(hb:Blk w g 5 cs):jB w (vs++ [(some ⟨g,0,none⟩,b.length,c)]) (l++ [b]):=
 ⟨by rw[aZ];exact h.recs.snoc ⟨_,c,rfl,hc,j⟩,λy e k f=>by
  rcases List.mem_append.1 e with e|e
  ·exact h.blk y e k f
  ·rw[jE.1 e]at f;have:g=k:=by simpa[Mem.blk]using f
   exact⟨cs,this▸hb⟩⟩
theorem Jb{K:List KC}(h:K.Pairwise (λp q=>p.1<q.1))(e:∀p∈K,p.1<=av):aS (K.map ai):=
 kJ.2 (h.imp_of_mem (fun{a b} _ hb hlt=>List.le_of_lt (Iy 8 a.1 b.1 hlt (p64 (e b hb)) (bB 8 a.2) (bB 8 b.2))))
theorem Uo{base:Nat}(w:World)(x:TypeId)(v:Value)(xs:List Value)(h:w.ownsRow base 84 1 v n xs)(y:Value)(E:y.oneCell'=true)(I:n<=100000)(hb:base<=w.heap.size):
  ∃a c w',(Builtin.append_ #[120,120] x #[v,.slice (some ⟨w.heap.size,0,none⟩) 1 1]).run prog (w.alloc (.cells #[y] 84))=.ok (.slice a (n+1) c) w'/\n+1<=c/\w'.ownsRow base 84 1 (.slice a (n+1) c) (n+1) (xs++ [y])/\Upon (λg=>v.ownBlock=some g) w w':=by
 obtain⟨i,C,G,z,A⟩:=info_parts wU;have f:Below w.heap.size w (w.alloc (.cells #[y] 84)):=(Below.refl _ w).alloc jn _
 obtain⟨J,w',D,m,e,_⟩:=run_append_own (P:=prog) (w.alloc (.cells #[y] 84)) base 120 x 84 i (.slice none 0 0) 1 24 underlying120 C G z A rfl (by decide) v n xs (own_later h f) ⟨w.heap.size,0,none⟩ 1 1 [y] rfl (λj u k=>by
  exact dQ (Full.tV w 84 #[y] _) j u k) (λu k=>by rw[jE.1 k];exact E) (by unfold maxLen;omega) (by omega) (ax hb f.size)
 obtain⟨a,c,rfl,hc,_,_,_⟩:=own_shape m;exact⟨a,c,w',D,hc,m,(Upon.of_below f).trans (Upon.of_grown (P:=λg=>v.ownBlock=some g) e (λg e=>.inl e)) (λg e=>.inl e)⟩
attribute [local go_sem] Oper.semAt_some
theorem Uq{s:Nat}{S:Sto s}{A:Fi}{rm:Nat}{D:Nat->Prop}{c x hb ne:Nat}{F:Files}{H:List KC}(h:aL S A rm D w c x hb ne F H n){ls:List (List B)}(hr:runsR A F ne=some ls)(hl:ne<=1000)(hF:∀j,j<ne->F (rname A.pf j)≠none)(y8:∀nm b,F nm=some b->b.length<=1000000)(y3: (H.map ai++ls.flatten).length<=9000)(y5:n+ne+1<100000)(K:List KC)(hK:K=merged (bC H ls)):
  Calls prog 33 #[.pointer (some ⟨c,0,none⟩)] w λe w'=>e=.returned (.int .i64 0)/\∃D',kz S A rm D w w' c x hb (cu (K.map ai)) (gI F A ne (K.map ai)) [] (n+ne+cu (K.map ai)) D':=by
 have Y:∀l∈ls,∀b∈l,b.length=16:=λl hl b hb=>by rw[<-h.jQ];exact((Runs.nk hr).2 l hl).1 b hb
 obtain⟨kn,X⟩:=jl K.length
 have h9:Hid (Calls prog 11 #[.pointer (some ⟨c,0,none⟩)] w λe w'=>∃D' va vc,e=.returned (.tuple #[.slice va kn vc,.int .i64 0])/\Hid (oq S A rm D w w' c x hb ne F H n D')/\Hid (Lies w' va (K.flatMap aH))):=jq (by
  refine(uL h hr hl hF y8 (by omega)).mono ?_;rintro e w' ⟨D',v,rfl,ha⟩;have y6:=ha.row;rw[<-hK,<-X]at y6;obtain⟨va,vc,rfl,_,a1,_,_⟩:=own_shape y6;exact⟨D',va,vc,rfl,jq ⟨ha.ctr,ha.dom,ha.upon⟩,jq a1⟩)
 have z9:K.length<=9000:=by
  rw[hK];refine ax (uR _) ?_;unfold bC;rw[jP,(dJ _).length_eq];exact y3
 obtain⟨⟨m1,m2,m3⟩,-⟩:=Bq (bC H ls) (Bu Y) (λp u=>((qp Y).2 p u).2);rw[<-hK]at m1 m2 m3
 have h6:∀p∈K,p.1<=av/\p.2<=av:=λp u=>⟨by
  obtain⟨q,hq,e⟩:=(m2 p.1).1 ⟨p,u,rfl⟩;rw[<-e];exact((qp Y).2 q hq).1,by rw[m3 p u];exact uN _⟩
 have y4:kZ A.wd (K.map ai):=⟨λb hb=>by
  obtain⟨p,_,rfl⟩:=List.mem_map.1 hb;rw[dZ,h.jQ],Jb m1 (λp u=>(h6 p u).1)⟩
 have N:=jq (And.intro hF (And.intro y5 (And.intro y4 h6)));rw[<-X]at z9;have h0:=jq X;clear h hr hl hF y8 y3 y5 Y m1 m2 m3 h6 y4 hK X
 go_enter func33,ntmps33
 go_wp2_with fail
 refine h9.out.mono ?_;rintro e w1 ⟨D',va,vc,rfl,M,z3⟩;clear h9
 go_wp2_with fail
 go_loopw[5,19] (λo i wr=>∃(k:Nat) (vs:List SL) (Z:Option Addr) (J:Nat),k<=kn/\i=.int .i64 (k:Int)/\o=.slice Z k J/\Hid (k=vs.length/\k<=J)/\Hid (wr.ownsRow w1.heap.size 84 1 (.slice Z k J) k (vs.map sl))/\Hid (jB wr vs ((K.take k).map ai))/\Hid (Below w1.heap.size w1 wr)) (λ_ i _=>kn-(intOf i).toNat)
 case atStart=>exact⟨0,[],none,0,by omega,rfl,rfl,jq ⟨rfl,aj _⟩,jq (World.ownsRow_nil w1 w1.heap.size 84 1),jq (jB.nil w1),jq (Below.refl _ _)⟩
 case round=>
  obtain⟨k,vs,Z,J,hk,rfl,rfl,O,HO,HR,C⟩:=hrel
  by_cases hlt:k<kn
  ·have a2:decide (k<kn)=true:=jd hlt;obtain⟨p,u⟩:∃p,K[k]? =some p:=⟨_,jg (by rw[<-h0.out];exact hlt)⟩;obtain⟨g,off,rfl,q0,q1,q2,-⟩:=nH (z3.out.later C.out) u;obtain⟨G,R⟩:=N.out.2.2.2 p (jM u);obtain⟨sn,y7⟩:=jl (p.1/4294967296);obtain⟨vn,y9⟩:=jl (p.1%4294967296);obtain⟨cn,h4⟩:=jl p.2;rw[<-y7]at q0;rw[<-y9]at q1;rw[<-h4]at q2
   have z6:Hid (∀V,Calls prog 66 #[.agg #[.int .u32 (sn:Int),.int .u32 (vn:Int)],.int .u64 (cn:Int)] V λe w'=>∃z E,e=.returned (.slice (some ⟨z,0,none⟩) 16 E)/\Hid (16<=E/\Lies w' (some ⟨z,0,none⟩) ((ai p).map bv)/\∃cs,Blk w' z 5 cs)/\Hid (Below V.heap.size V w')):=jq (λV=>by
    have:=aX.Il sn vn cn p.1 (by omega) (by unfold av at G;omega) (by omega) (by unfold av at R;omega) V;refine this.mono ?_;rintro e w' ⟨val,rfl,hO,hB⟩;have a5: (p.1,cn)=p:=by rw[h4]
    rw[a5]at hO;obtain⟨a0,c0,rfl,x7,_,_,_⟩:=own_shape hO;obtain⟨z,E,cs,ey,_,hL,hb,_⟩:=Runs.AJ (y:=(a0,(ai p).length,c0)) hO (λe=>by have:=dZ p;rw[e]at this;cases this);injection ey with e1 e2;subst e1;rw[dZ]at x7⊢;exact⟨z,c0,rfl,jq ⟨x7,hL,cs,hb⟩,jq hB⟩)
   have HP:=jq u;clear u G R y7 y9 h4
   go_wp2_with fail
   refine(z6.out _).mono ?_;rintro e w2 ⟨z,E,rfl,HY,z0⟩;have I:Below wr.heap.size wr w2:=((Below.refl _ wr).alloc jn _).trans (z0.out.mono (by simp));have T:=own_later HO.out I;obtain⟨a3,c3,w3,a6,x8,x3,h8⟩:=Uo w2 120 _ _ T (.slice (some ⟨z,0,none⟩) 16 E) rfl (by omega) (ax C.out.size I.size);have x0:Below w1.heap.size w1 w3:=(C.out.trans (I.mono C.out.size)).trans (h8.below (ax C.out.size I.size) (λg m=>(T.lt g m).1));obtain⟨x9,x2,cs,x6⟩:=HY.out
   have x4:jB w2 (vs++ [((some ⟨z,0,none⟩,16,E):SL)]) ((K.take (k+1)).map ai):=by
    have:=(HR.out.later I).snoc (b:=ai p) (by rw[dZ];exact x9) x2 x6
    rw[dZ]at this;rw[bF,HP.out,aZ];exact this
   have y1:=O.out.1;have z5:=jq (x4.step T h8);have z4:Hid (w3.ownsRow w1.heap.size 84 1 (.slice a3 (k+1) c3) (k+1) ((vs++ [((some ⟨z,0,none⟩,16,E):SL)]).map sl)):=jq (by rw[aZ];exact x3);have z1:=jq x0;have z8:Hid (k+1=(vs++ [((some ⟨z,0,none⟩,16,E):SL)]).length/\k+1<=c3):=jq ⟨by rw[jL,<-y1];rfl,x8⟩;clear I T x8 x3 h8 x0 x9 x2 x6 x4 y1 q0 q1 q2
   go_wp2_with (first|(at_builtin;refine Lib.wpList_append_run _ rfl _ _ _ _ rfl _ _ rfl rfl _ _ a6 ?_))
   go_roundw
   case rel=>exact⟨k+1,_,a3,c3,by omega,by go_num,by go_num,z8,z4,z5,z1⟩
   case measure=>simp[intOf];omega
  ·obtain rfl:k=kn:=by omega
   have a2:decide (k<k)=false:=jf (by omega);have x5:=M.out;have U:=x5.ctr.later C.out;obtain⟨_,_,e0,_,x1,_,_⟩:=own_shape HO.out;injection e0 with e0 e1 e2;subst e0;clear e1 e2;have hR:=HR.out.recs;rw[jW (by rw[<-h0.out];exact aj _)]at hR;have c2:=U.blk.cell 2
   simp at c2
   have z7:Hid (Calls prog 67 #[.pointer (some ⟨x,0,none⟩),.slice Z k J] wr λe w'=>e=.returned (.int .i64 0)/\Hid (aW S A (Mid D' wr w') w' x (cu (K.map ai)) (gI F A ne (K.map ai)) [] (n+ne+cu (K.map ai)))/\Hid (Upon D' wr w')):=jq (by
    have:=GQ U.aF N.out.2.1 N.out.1 (c:=J) x1 hR (by rw[<-O.out.1];exact O.out.2) (by rw[jP,<-h0.out];omega);rw[<-O.out.1]at this;refine this.mono ?_;rintro e w' (⟨_,rfl,G,R⟩|⟨a4,_⟩)
    ·exact⟨rfl,jq G,jq R⟩
    ·exact absurd N.out.2.2.1 a4)
   have f:=jq U;clear x5 U x1 hR
   go_wp2_with fail
   refine z7.out.mono ?_;rintro e w5 ⟨rfl,z2,HU⟩;have h3:=f.out.blk.upon HU.out f.out.cD;have h7:=f.out.map.keep (HU.out.block hb f.out.map.lt f.out.hD);have c1:=h3.cell 1
   simp at c1
   obtain⟨w6,a8,y2,y0,a7⟩:=h7.clear 0;have hz:=M.out.upon.size;have a9:=C.out.size;have h5:oq S A rm D w w5 c x hb (cu (K.map ai)) (gI F A ne (K.map ai)) H (n+ne+cu (K.map ai)) (Mid D' wr w5):=⟨⟨h3,z2.out,h7,f.out.held,f.out.room,λm=>m.elim f.out.cD (λG=>by have:=f.out.blk.lt;omega),λm=>m.elim f.out.hD (λG=>by have:=f.out.map.lt;omega),f.out.hc,f.out.lm,f.out.jQ⟩,λg m=>m.elim (M.out.dom g) (λG=>.inr (by omega)),(M.out.upon.trans (Upon.of_below (P:=D) C.out) (λg m=>.inl m)).trans HU.out (λg m=>M.out.dom g m)⟩;have HE:=jq (h5.clear y2 y0);clear h3 h7 y2 y0 a7 h5
   go_wp2_with fail
   go_ret
   exact⟨rfl,_,HE.out⟩
end Vp
namespace Vp
open Merge aX bQ
open Runs (Fi rname xC aR xZ sortB dJ jO tY xB AF nZ readR wP iT gT uj AR uh runsR runsR_next nk dm fw iW xD gI cu rH Hy oh Bd)
open Store (Files setF fF fG)
def bE(L:List FF):Nat:=(L.map λx=>x.2.length/16).sum
def dS(F:Files):Prop:=∀nm b,F nm=some b->∃l:List B,b=aR l/\∀r∈l,r.length=16
variable {l:List B}{L:List FF}{F:Files}{K:List KC}
theorem uS(h:∀r∈l,r.length=16): (aR l).length/16=l.length:=by rw[xZ h];omega
theorem Jc(L:List FF)(f:FF->Bool):bE (L.filter f)+bE (L.filter λx=> !f x)=bE L:=by
 induction L with
 |nil=>rfl
 |cons x t e=>
  unfold bE at e⊢;rw[jF,jF];cases f x <;> simp <;> omega
theorem Ur(L:List FF)(f g:FF->Bool)(h:∀x,f x=true->g x=false):bE (L.filter f)+bE (L.filter g)<=bE L:=by
 induction L with
 |nil=>exact aj _
 |cons x t e=>
  unfold bE at e⊢;have:=h x;rw[jF,jF];cases hf:f x <;> cases hg:g x <;> simp[hf,hg]at this⊢<;> omega
theorem Bv{x:FF}(h:x∈L):x.2.length/16<=bE L:=by
 induction L with
 |nil=>cases h
 |cons y t e=>
  unfold bE at e⊢;rw[List.map_cons,List.sum_cons];rcases List.mem_cons.1 h with rfl|h
  ·omega
  ·have:=e h
   omega
theorem Us(L M:List FF):bE (L++M)=bE L+bE M:=by unfold bE;rw[aZ,List.sum_append]
theorem Bw(h:aQ L F)(nm b:List UInt8):bE (eO L nm b)<=bE L+b.length/16:=by
 rw[EL h.rise,Us,show bE ((nm,b)::L.filter λx=>decide (nm<x.1))=b.length/16+bE (L.filter λx=>decide (nm<x.1))from rfl]
 have:=Ur L (λx=>decide (x.1<nm)) (λx=>decide (nm<x.1)) (λx e=>by
  simp at e⊢
  exact List.le_of_lt e)
 omega
theorem Ut(h:aQ L F)(nm:List UInt8){b:List UInt8}(hb:F nm=some b):bE (eH L nm)+b.length/16<=bE L:=by
 have j:=Jc L (λx=> !(x.1==nm));have e: (nm,b)∈L.filter λx=> !(!(x.1==nm)):=iA.2 ⟨(h.mem nm b).2 hb,by simp⟩
 have f:=Bv e;unfold eH;dsimp only at f
 omega
theorem Uu(L:List FF)(nm:List UInt8):bE (eH L nm)<=bE L:=by
 have e:=Jc L (λx=> !(x.1==nm));unfold eH
 omega
theorem Jd(L:List FF)(pf:List UInt8):∀k,bE (dm L pf k)<=bE L
 |0=>aj _
 |k+1=>ax (Uu _ _) (Jd L pf k)
theorem Je{wd:Nat}:∀{l:List B} {n:Nat},(∀r∈l,r.length=wd)->l.length=n->gT wd n l.flatten=l
 | [],_,_,h=>by rw[<-h];rfl
 |a ::t,_,hw,h=>by
  rw[<-h];have ha:=hw a (by simp);simp only[List.length_cons,gT,List.flatten_cons];rw[List.take_left' ha,List.drop_left' ha,Je (λr e=>hw r (eD _ e)) rfl]
theorem Uv(h:∀r∈l,r.length=16)(j:l.length<=60000):readR 16 (aR l)=some (sortB l):=by
 have e:=nZ h;have ha:=Frame.Uw 82 (sortB l).flatten (by omega)
 have hc:gT 16 ((sortB l).flatten.length/16) (sortB l).flatten=sortB l:=by
  have f:=xB h;rw[e,Nat.mul_div_cancel _ (by decide)];refine Je f (dJ l).length_eq
 refine(wP (k:=82) (body:=(sortB l).flatten) ?_ ?_).trans ?_
 ·unfold aR;rw[ha]
 ·unfold aR;rw[ha]
 ·unfold iT;rw[hc,if_pos ⟨rfl,by rw[e];exact Nat.mul_mod_left _ _,jO l⟩]
theorem dS.short(e:aQ L F){m:Nat}(f:bE L<=m):∀nm b,F nm=some b->b.length<=16*m+15:=λnm b hb=>by
 have:=Bv ((e.mem nm b).2 hb);dsimp only at this
 omega
theorem Jf{A:Fi}(h:A.wd=16){L:List FF}{F:Files}(e:aQ L F)(f:dS F)(x:bE L<=60000):∀ne,(∀j,j<ne->F (rname A.pf j)≠none)->ne<=100000->∃ls,runsR A F ne=some ls/\bE (dm L A.pf ne)+ls.flatten.length<=bE L
 |0,_,_=>⟨[],rfl,by simp[dm]⟩
 |ne+1,hF,hn=>by
  obtain⟨ls,m,y⟩:=Jf h e f x ne (λj C=>hF j (by omega)) (by omega);obtain⟨b,hb⟩:=si.1 (hF ne (by omega));obtain⟨l,rfl,hl⟩:=f _ _ hb;have k:=Bv ((e.mem _ _).2 hb);dsimp only at k;rw[uS hl]at k;have u:=Ut (oh e A.pf ne) (rname A.pf ne) (b:=aR l) (by rw[xD _ _ _ _ jn (by omega)];exact hb);rw[uS hl]at u;refine⟨ls++ [sortB l],runsR_next m hb (by rw[h];exact Uv hl (by omega)),?_⟩;rw[oO,jL];have z: ([sortB l]:List (List B)).flatten.length=l.length:=by simp[(dJ l).length_eq]
  have v:dm L A.pf (ne+1)=eH (dm L A.pf ne) (rname A.pf ne):=rfl;rw[v]
  omega
theorem dS.set(h:dS F)(nm:List UInt8)(hl:∀r∈l,r.length=16):dS (setF F nm (some (aR l))):=by
 intro x b hb
 by_cases e:x=nm
 ·rw[e,fF]at hb;cases hb;exact⟨l,rfl,hl⟩
 ·rw[fG _ e]at hb;exact h x b hb
theorem dS.off(h:dS F)(nm:List UInt8):dS (setF F nm none):=by
 intro x b hb
 by_cases e:x=nm
 ·rw[e,fF]at hb;cases hb
 ·rw[fG _ e]at hb;exact h x b hb
theorem dS.rm{F:Files}(h:dS F)(pf:List UInt8):∀k,dS (iW F pf k)
 |0=>h
 |k+1=>(dS.rm h pf k).off _
theorem yg(H:List KC):∀r∈H.map ai,r.length=16:=λr e=>by
 obtain⟨p,_,rfl⟩:=List.mem_map.1 e;exact dZ p
theorem dS.fl(h:dS F)(A:Fi)(ne:Nat)(H:List KC):dS (iY A F ne H):=by
 unfold iY
 split
 ·exact h
 ·exact h.set _ (yg H)
theorem Jg(h:aQ L F)(A:Fi)(ne:Nat)(H:List KC):aQ (eX L A ne H) (iY A F ne H):=by
 unfold iY eX
 split
 ·exact h
 ·exact rH h _ _
theorem Jh(h:aQ L F)(A:Fi)(ne:Nat)(H:List KC):bE (eX L A ne H)<=bE L+H.length:=by
 unfold eX
 split
 ·omega
 ·refine ax (Bw h _ _) ?_;rw[uS (yg H),jP];exact aj _
theorem Ji(h:K.Pairwise (λp q=>p.1<q.1))(e:∀p∈K,p.1<=av):Frame.bq 82 (K.map ai).flatten=aR (K.map ai):=by
 unfold aR;rw[<-tY (oN _) (Jb h e)]
theorem dS.Ux(h:dS F)(A:Fi)(ne:Nat)(f:K.Pairwise (λp q=>p.1<q.1))(e:∀p∈K,p.1<=av):dS (gI F A ne (K.map ai)):=by
 unfold gI
 split
 ·exact h.rm _ _
 ·rw[Ji f e];exact(h.rm _ _).set _ (yg K)
theorem Uy(h:aQ L F)(A:Fi)(ne:Nat)(f:K.Pairwise (λp q=>p.1<q.1))(e:∀p∈K,p.1<=av):bE (fw L A ne (K.map ai))<=bE (dm L A.pf ne)+K.length:=by
 unfold fw
 split
 ·omega
 ·rw[Ji f e];refine ax (Bw (oh h A.pf ne) _ _) ?_;rw[uS (yg K),jP];exact aj _
theorem Jj{A:Fi}{ne:Nat}{H:List KC}(h:∀j,j<ne->F (rname A.pf j)≠none):∀j,j<ne+dP H->iY A F ne H (rname A.pf j)≠none:=λj k=>by
 unfold dP at k;unfold iY
 split at k
 ·rename_i e
  rw[if_pos e];exact h j (by omega)
 ·rename_i e
  rw[if_neg e]
  by_cases f:rname A.pf j=rname A.pf ne
  ·rw[f,fF];exact λe=>by cases e
  ·rw[fG _ f];refine h j ?_;have:j≠ne:=λe=>f (by rw[e])
   omega
theorem Uz{A:Fi}{ne:Nat}:∀j,j<cu l->gI F A ne l (rname A.pf j)≠none:=λj f=>by
 unfold cu at f;unfold gI
 split at f
 ·omega
 ·rename_i e
  obtain rfl:j=0:=by omega
  rw[if_neg e,fF];exact λe=>by cases e
end Vp
namespace Vp
open Go.RowKit Go.Deep Mem Crc Merge aX Full bQ
open Runs (aW Fi rname oz bR)
open Store (Sto Files nv)
structure VD where
 s:Nat
 d:Nat
 c:Nat
 x:Nat
 hb:Nat
 pf:List UInt8
 rm:Nat
 D:Nat->Prop
 F:Files
 H:Files
 n:Nat
 ne:Nat
 Hd:List KC
 mh:Option Addr
 mc:Nat
 xh:Option Addr
 xl:Nat
 xc:Nat
 L:List FF
 an:Option Addr
 nc:Nat
 LH:List FF
 ah:Option Addr
 hc:Nat
def VD.A(S:VD):Fi:=⟨S.s,S.pf,16,S.rm⟩
def VD.cells(S:VD):Array Value:=#[.pointer (some ⟨S.d,0,none⟩),.pointer (some ⟨S.s,0,none⟩),.pointer (some ⟨S.c,0,none⟩),.slice S.mh S.Hd.length S.mc,nv S.pf,.int .i64 16,.int .i64 S.rm,.slice S.xh S.xl S.xc,.int .i64 S.ne,.slice S.an S.L.length S.nc,.slice S.ah S.LH.length S.hc]
def VD.DD(S:VD)(k:Nat):Prop:=S.D k\/k=S.c\/k=S.hb
structure aO(B p:Nat)(o:Option Obj)(i:Nat)(w:World)(S:VD):Prop where
 live:aL (bL B S.s S.d 400 o S.H) S.A S.rm S.D w S.c S.x S.hb S.ne S.F S.Hd S.n
 runs:∀j,j<S.ne->S.F (rname S.pf j)≠none
 base:∀k,S.DD k->B<=k\/k=0
 blk:Blk w p 43 S.cells
 pD:¬S.DD p
 pB:B<=p
 ml:Runs.RowK B S.DD p w S.mh (S.Hd.flatMap aH)
 nl:Runs.RowK B S.DD p w S.an (aU S.L)
 hl:Runs.RowK B S.DD p w S.ah (aU S.LH)
 dF:aQ S.L S.F
 oC:aQ S.LH S.H
 okF:dS S.F
 qw:dS S.H
 ni:S.n<=20000+100*i
 li:S.L.length<=i
 oD:S.LH.length<=i
 vi:bE S.L+S.Hd.length<=2*i
 qx:bE S.LH<=2*i
def lY(B p:Nat)(o:Option Obj)(i:Nat)(S:VD)(w w':World):Prop:=∃S',aO B p o (i+1) w' S'/\(S'.pf=S.pf/\S'.rm=S.rm)/\(∀k,S'.DD k->S.DD k\/w.heap.size<=k)/\Upon (λk=>S.DD k\/k=p) w w'
def lZ(B p:Nat)(o:Option Obj)(i:Nat)(S:VD)(w:World)(e:Ending)(w':World):Prop:=(e=.returned (.tuple #[.bool true,.bool true])/\lY B p o i S w w')\/(e=.returned (.tuple #[.bool true,.bool false])/\Below B w w')
variable {B p i:Nat}{o:Option Obj}{w w':World}{S:VD}
theorem aL.perm{s:Nat}{T:Sto s}{A:Fi}{rm:Nat}{D:Nat->Prop}{w:World}{c x hb ne n:Nat}{F:Files}{H m:List KC}(h:aL T A rm D w c x hb ne F H n)(j:H.Perm m):aL T A rm D w c x hb ne F m n:=by
 have z:∀k,tot m k=tot H k:=λk=>by
  unfold tot;exact(((j.filter _).map _).sum_nat).symm
 obtain⟨f,v,u⟩:=h.map;exact⟨h.blk,h.aF,⟨f,v,⟨λk y=>by rw[z];exact u.at_ k y,u.keys⟩⟩,⟨λq hq=>h.held.ok q (j.mem_iff.2 hq),h.held.one.perm j (λe=>e.symm)⟩,by rw[<-j.length_eq];exact h.room,h.cD,h.hD,h.hc,h.lm,h.jQ⟩
theorem aO.Bz(h:aO B p o i w S):∀k,S.DD k->k<w.heap.size:=λk e=>by
 rcases e with e|rfl|rfl
 ·exact h.live.lt k e
 ·exact h.live.blk.lt
 ·exact h.live.map.lt
theorem aO.later(h:aO B p o i w S)(f:Below w.heap.size w w'):aO B p o i w' S:=by
 have j:Upon (λk=>S.DD k\/k=p) w w':=Upon.of_below f;exact⟨h.live.later f,h.runs,h.base,h.blk.below f h.blk.lt,h.pD,h.pB,h.ml.step j (λk e=>.inl e),h.nl.step j (λk e=>.inl e),h.hl.step j (λk e=>.inl e),h.dF,h.oC,h.okF,h.qw,h.ni,h.li,h.oD,h.vi,h.qx⟩
theorem aO.mono{j:Nat}(h:aO B p o i w S)(e:i<=j):aO B p o j w S:=
 ⟨h.live,h.runs,h.base,h.blk,h.pD,h.pB,h.ml,h.nl,h.hl,h.dF,h.oC,h.okF,h.qw,ax h.ni (by omega),ax h.li e,ax h.oD e,ax h.vi (by omega),ax h.qx (by omega)⟩
theorem aO.same(h:aO B p o i w S)(e:Below w.heap.size w w'):lY B p o i S w w':=⟨S,(h.later e).mono (Nat.le_succ i),⟨rfl,rfl⟩,λ_ f=>.inl f,Upon.of_below e⟩
theorem qy{s d:Nat}{H:Files}{A:Fi}{rm:Nat}{D:Nat->Prop}{c x hb ne n:Nat}{F:Files}{K:List KC}(h:aL (bL B s d 400 o H) A rm D w c x hb ne F K n):w.heap[0]? =o/\0<B/\B<=w.heap.size:=by
 obtain⟨Q,R,m,vs,k⟩:=h.aF;obtain⟨-,-,e,f,j⟩:=Ud k.aF.fq;exact⟨j,e,f⟩
theorem aO.under(h:aO B p o i w S)(f:Upon (λk=>S.DD k\/k=p) w w')(m:w'.heap[0]? =o):Below B w w':=by
 obtain⟨u,x,y⟩:=qy h.live;refine⟨f.os,f.tape,f.output,f.size,λk v=>?_⟩
 by_cases e:k=0
 ·rw[e,u,m]
 ·refine f.block k (by omega) (λhq=>?_);rcases hq with hq|rfl
  ·rcases h.base k hq with j|j
   ·omega
   ·exact e j
  ·have:=h.pB
   omega
theorem lY.below(h:aO B p o i w S)(f:lY B p o i S w w'):Below B w w':=by
 obtain⟨k,e,-,-,j⟩:=f;exact h.under j (qy e.live).1
variable {w3:World}
theorem aO.fresh(h:aO B p o i w S){j:VD}(C:w.heap.size<=w3.heap.size)(v:Upon (λk=>S.DD k\/k=p) w3 w')(hd:∀k,j.DD k->S.DD k\/w3.heap.size<=k){a:Option Addr}{xs:List Value}(z:Lies w3 a xs)(u:∀g,Mem.blk a=some g->w.heap.size<=g/\g<w3.heap.size):Runs.RowK B j.DD p w' a xs:=by
 have A:=h.blk.lt;obtain⟨-,-,zs⟩:=qy h.live;refine⟨z.upon v (λg f e=>?_),λg f=>?_⟩
 ·have x:=u g f;rcases e with e|rfl
  ·have:=h.Bz g e
   omega
  ·omega
 ·have x:=u g f;have:=v.size;refine⟨⟨λy=>(hd g y).elim (λm=>?_) (λm=>?_),?_⟩,?_,?_⟩
  ·have:=h.Bz g m
   omega
  all_goals omega
theorem aO.next(h:aO B p o i w S)(e:VD)(G:e.pf=S.pf)(I:e.rm=S.rm)(u:Upon (λk=>S.DD k\/k=p) w w')(hd:∀k,e.DD k->S.DD k\/w.heap.size<=k)(live:aL (bL B e.s e.d 400 o e.H) e.A e.rm e.D w' e.c e.x e.hb e.ne e.F e.Hd e.n)(runs:∀j,j<e.ne->e.F (rname e.pf j)≠none)(blk:Blk w' p 43 e.cells)(y: (e.mh=S.mh/\e.Hd=S.Hd)\/Runs.RowK B e.DD p w' e.mh (e.Hd.flatMap aH))(z: (e.an=S.an/\e.L=S.L)\/(e.an=S.ah/\e.L=S.LH)\/Runs.RowK B e.DD p w' e.an (aU e.L))(E: (e.ah=S.ah/\e.LH=S.LH)\/(e.ah=S.an/\e.LH=S.L))(dF:aQ e.L e.F)(oC:aQ e.LH e.H)(okF:dS e.F)(qw:dS e.H)(ni:e.n<=20000+100*(i+1))(li:e.L.length<=i+1)(oD:e.LH.length<=i+1)(vi:bE e.L+e.Hd.length<=2*(i+1))(qx:bE e.LH<=2*(i+1)):lY B p o i S w w':=by
 have J:=h.blk.lt;obtain⟨-,-,zs⟩:=qy h.live;refine⟨e,⟨live,runs,λk v=>(hd k v).elim (h.base k) (λC=>.inl (by omega)),blk,λv=>(hd p v).elim h.pD (λC=>by omega),h.pB,?_,?_,?_,dF,oC,okF,qw,ni,li,oD,vi,qx⟩,⟨G,I⟩,hd,u⟩
 ·rcases y with⟨f,m⟩|y
  ·rw[f,m];exact h.ml.step u hd
  ·exact y
 ·rcases z with⟨f,m⟩|⟨f,m⟩|z
  ·rw[f,m];exact h.nl.step u hd
  ·rw[f,m];exact h.hl.step u hd
  ·exact z
 ·rcases E with⟨f,m⟩|⟨f,m⟩
  ·rw[f,m];exact h.hl.step u hd
  ·rw[f,m];exact h.nl.step u hd
theorem aO.Jk(h:aO B p o i w S){D':Nat->Prop}{F':Files}{ne' n' mc' uT uU aN:Nat}{nI:List KC}{oF uV aG:Option Addr}{L':List FF}(C:Upon (λk=>k=p) w w3)(blk:Blk w3 p 43 (VD.cells {S with D:=D',F:=F',n:=n',ne:=ne',Hd:=nI,mh:=oF,mc:=mc',xh:=uV,xl:=uT,xc:=uU,L:=L',an:=aG,nc:=aN}))(live:aL (bL B S.s S.d 400 o S.H) S.A S.rm D' w' S.c S.x S.hb ne' F' nI n')(hd:∀k,D' k->S.D k\/w3.heap.size<=k)(E:Upon (λk=>S.D k\/k=S.hb) w3 w')(runs:∀j,j<ne'->F' (rname S.pf j)≠none)(G: (oF=S.mh/\nI=S.Hd)\/(Lies w3 oF (nI.flatMap aH)/\∀g,Mem.blk oF=some g->w.heap.size<=g/\g<w3.heap.size))(z:bR w.heap.size w3 S.an aG S.L L')(dF:aQ L' F')(okF:dS F')(ni:n'<=S.n+100)(li:L'.length<=S.L.length+1)(vi:bE L'+nI.length<=bE S.L+S.Hd.length+2):lY B p o i S w w':=by
 have y:=C.size;have v:Upon (λk=>S.DD k\/k=p) w3 w':=E.mono (λk f=>.inl (f.imp id .inr))
 have u:∀k,VD.DD {S with D:=D',F:=F',n:=n',ne:=ne',Hd:=nI,mh:=oF,mc:=mc',xh:=uV,xl:=uT,xc:=uU,L:=L',an:=aG,nc:=aN} k->S.DD k\/w3.heap.size<=k:=λk f=>by
  rcases f with f|f
  ·exact(hd k f).imp .inl id
  ·exact .inl (.inr f)
 refine h.next {S with D:=D',F:=F',n:=n',ne:=ne',Hd:=nI,mh:=oF,mc:=mc',xh:=uV,xl:=uT,xc:=uU,L:=L',an:=aG,nc:=aN} rfl rfl ((C.mono (λk f=>.inr f)).trans v (λk f=>.inl f)) (λk f=>(u k f).imp id (λm=>ax y m)) live runs (blk.upon E (λe=>h.pD (e.imp id .inr))) ?_ ?_ (.inl ⟨rfl,rfl⟩) dF h.oC okF h.qw ?_ ?_ ?_ ?_ ?_
 ·exact G.imp id (λm=>h.fresh y v u m.1 m.2)
 ·exact z.new.imp id (λm=>.inr (h.fresh y v u z.lies m))
 ·have:=h.ni;dsimp only;omega
 ·have:=h.li;dsimp only;omega
 ·have:=h.oD;dsimp only;omega
 ·have:=h.vi;dsimp only;omega
 ·have:=h.qx;dsimp only;omega
theorem aO.few(h:aO B p o i w S):S.ne<=i:=by
 obtain⟨-,-,-,e,-⟩:=h.live.aF.room;exact ax (oz h.dF h.runs (Nat.lt_of_le_of_lt e (by decide))) h.li
structure FR where
 ha:Option Addr
 hc:Nat
 xh:Option Addr
 xl:Nat
 xc:Nat
 an:Option Addr
 nc:Nat
structure eB(b:Nat)(w:World)(S:VD)(r:FR)(Hd:List KC)(L:List FF):Prop where
 hd: (r.ha=S.mh/\Hd=S.Hd)\/(Lies w r.ha (Hd.flatMap aH)/\∀g,Mem.blk r.ha=some g->b<=g/\g<w.heap.size)
 row:bR b w S.an r.an S.L L
def VD.put(S:VD)(r:FR)(Hd:List KC)(L:List FF)(ne:Nat):VD:={S with ne:=ne,Hd:=Hd,mh:=r.ha,mc:=r.hc,xh:=r.xh,xl:=r.xl,xc:=r.xc,L:=L,an:=r.an,nc:=r.nc}
variable {B p i:Nat}{o:Option Obj}{w w2 w3 w':World}{S:VD}{r:FR}{Hd:List KC}{L:List FF}{b:Nat}
theorem eB.upon{P:Nat->Prop}(h:eB b w2 S r Hd L)(y:Lies w3 S.an (aU S.L)){f:Nat}(hb:f<=b)(x:Upon P w2 w3)(A:∀k,P k->k<b):eB f w3 S r Hd L:=by
 have D:=x.size
 have key:∀{a:Option Addr} {xs:List Value},Lies w2 a xs->(∀g,Mem.blk a=some g->b<=g/\g<w2.heap.size)->Lies w3 a xs/\∀g,Mem.blk a=some g->f<=g/\g<w3.heap.size:=λz v=>⟨z.upon x (λg e C=>by
  have:=v g e;have:=A g C
  omega),λg e=>by
  have:=v g e
  omega⟩
 refine⟨h.hd.imp id (λe=>key e.1 e.2),?_⟩;rcases h.row.new with⟨j,m⟩|u
 ·exact⟨by rw[j,m];exact y,.inl ⟨j,m⟩⟩
 ·exact⟨(key h.row.lies u).1,.inr (key h.row.lies u).2⟩
theorem aO.cells(h:aO B p o i w S){sp:ByteArray}(e:nv S.pf=.string sp):Blk w p 43 #[.pointer (some ⟨S.d,0,none⟩),.pointer (some ⟨S.s,0,none⟩),.pointer (some ⟨S.c,0,none⟩),.slice S.mh S.Hd.length S.mc,.string sp,.int .i64 16,.int .i64 S.rm,.slice S.xh S.xl S.xc,.int .i64 S.ne,.slice S.an S.L.length S.nc,.slice S.ah S.LH.length S.hc]:=by
 have h:=h.blk;unfold VD.cells at h
 rwa [e]at h
variable {V W:World}{t:TypeId}{cs:Array Value}{a0 a1 a2 a3 a4 a5 a6 a7 a8 a9 lq u0 u1 u2 u3 u4:Value}
theorem cell_of{p:Nat}(h:Blk V p t cs)(i:Nat)(v:Value)(e:cs.toList[i]? =some v):V.cell? ⟨p,i,none⟩=some v:=by rw[h.cell,<-mo,e]
theorem eleven{p:Nat}(h:Blk V p t #[a0,a1,a2,a3,a4,a5,a6,a7,a8,a9,lq]): (V.cell? ⟨p,0,none⟩=some a0/\V.cell? ⟨p,1,none⟩=some a1/\V.cell? ⟨p,2,none⟩=some a2/\V.cell? ⟨p,3,none⟩=some a3/\V.cell? ⟨p,4,none⟩=some a4/\V.cell? ⟨p,5,none⟩=some a5/\V.cell? ⟨p,6,none⟩=some a6/\V.cell? ⟨p,7,none⟩=some a7/\V.cell? ⟨p,8,none⟩=some a8/\V.cell? ⟨p,9,none⟩=some a9/\V.cell? ⟨p,10,none⟩=some lq)/\∀i,V.frozen? ⟨p,i,none⟩=false:=by
 refine⟨?_,λi=>h.frozen i⟩;simp only[h.cell]
 simp
theorem pX{p:Nat}(h:Blk V p t #[a0,a1,a2,a3,a4,a5,a6,a7,a8,a9,lq])(v3 v4 v5 e f j m:Value):
  Blk (((((((V.setCell ⟨p,3,none⟩ v3).setCell ⟨p,4,none⟩ v4).setCell ⟨p,5,none⟩ v5).setCell ⟨p,6,none⟩ e).setCell ⟨p,7,none⟩ f).setCell ⟨p,8,none⟩ j).setCell ⟨p,9,none⟩ m) p t #[a0,a1,a2,v3,v4,v5,e,f,j,m,lq]/\Upon (λk=>k=p) V (((((((V.setCell ⟨p,3,none⟩ v3).setCell ⟨p,4,none⟩ v4).setCell ⟨p,5,none⟩ v5).setCell ⟨p,6,none⟩ e).setCell ⟨p,7,none⟩ f).setCell ⟨p,8,none⟩ j).setCell ⟨p,9,none⟩ m):=
 ⟨by simpa using((((((h.set 3 v3).set 4 v4).set 5 v5).set 6 e).set 7 f).set 8 j).set 9 m,by
  repeat refine Upon.set (P:=λk=>k=p) ?_ (.inl rfl) _
  exact Upon.refl _ _⟩
theorem yh{b:Nat}{e:Value}(h:Blk V b t #[u0,u1,u2,u3,u4,e])(a0 a1 a2 a3 a4 a5:Value):Blk ((((((V.setCell ⟨b,0,none⟩ a0).setCell ⟨b,1,none⟩ a1).setCell ⟨b,2,none⟩ a2).setCell ⟨b,3,none⟩ a3).setCell ⟨b,4,none⟩ a4).setCell ⟨b,5,none⟩ a5) b t #[a0,a1,a2,a3,a4,a5]/\Upon (λk=>k=b) V ((((((V.setCell ⟨b,0,none⟩ a0).setCell ⟨b,1,none⟩ a1).setCell ⟨b,2,none⟩ a2).setCell ⟨b,3,none⟩ a3).setCell ⟨b,4,none⟩ a4).setCell ⟨b,5,none⟩ a5):=
 ⟨(((((h.set 0 a0).set 1 a1).set 2 a2).set 3 a3).set 4 a4).set 5 a5,by
  repeat refine Upon.set (P:=λk=>k=b) ?_ (.inl rfl) _
  exact Upon.refl _ _⟩
theorem qz(w:World)(t:TypeId)(cs:Array Value):w.heap.size<(w.alloc (.cells cs t)).drew.heap.size:=(Blk.drew (Blk.new w t cs)).lt
theorem BA{b:Nat}(h:Blk V b t #[a0,a1,a2,a3,a4]):V.cell? ⟨b,0,none⟩=some a0/\V.cell? ⟨b,1,none⟩=some a1/\V.cell? ⟨b,2,none⟩=some a2/\V.cell? ⟨b,3,none⟩=some a3/\V.cell? ⟨b,4,none⟩=some a4:=⟨h.cell 0,h.cell 1,h.cell 2,h.cell 3,h.cell 4⟩
theorem UA{b:Nat}(h:Blk V b t #[u0,u1,u2,u3,u4])(a0 a1 a2 a3 a4:Value):Blk (((((V.setCell ⟨b,0,none⟩ a0).setCell ⟨b,1,none⟩ a1).setCell ⟨b,2,none⟩ a2).setCell ⟨b,3,none⟩ a3).setCell ⟨b,4,none⟩ a4) b t #[a0,a1,a2,a3,a4]/\Upon (λk=>k=b) V (((((V.setCell ⟨b,0,none⟩ a0).setCell ⟨b,1,none⟩ a1).setCell ⟨b,2,none⟩ a2).setCell ⟨b,3,none⟩ a3).setCell ⟨b,4,none⟩ a4):=by
 obtain⟨e,f⟩:=I8 h a0 a1 a2 a3 a4;exact⟨e,f.mono (λk j=>j.elim id id)⟩
theorem oG(e:Below W.heap.size W w3)(k:eB W.heap.size w3 S r Hd L)(j:Lies W S.an (aU S.L))(t:TypeId)(cs:Array Value):Hid (Blk (w3.alloc (.cells cs t)) w3.heap.size t cs)/\Hid (Below W.heap.size W (w3.alloc (.cells cs t))/\W.heap.size<=w3.heap.size)/\Hid (eB W.heap.size (w3.alloc (.cells cs t)) S r Hd L):=by
 have f:=e.trans (((Below.refl _ w3).alloc jn (.cells cs t)).mono e.size);exact⟨jq (Blk.new w3 t cs),jq ⟨f,e.size⟩,jq (k.upon (P:=λ_=>False) (j.later f) jn (Upon.of_below ((Below.refl _ w3).alloc jn _)) (λ_ h=>h.elim))⟩
theorem yj{e:World}{bx n:Nat}(hb:bx=W.heap.size)(x:W.heap.size<n)(h:Below W.heap.size W w3)(u:eB n w3 S r Hd L)(m:Lies W S.an (aU S.L))(f:Blk e bx t cs/\Upon (λk=>k=bx) w3 e):Hid (Blk e bx t cs)/\Hid (Below W.heap.size W e/\W.heap.size<=bx)/\Hid (eB W.heap.size e S r Hd L):=by
 have j:=h.trans (f.2.below h.size (λk v=>by omega));exact⟨jq f.1,jq ⟨j,by omega⟩,jq (u.upon (m.later j) (by omega) f.2 (λk v=>by omega))⟩
theorem aO.uW(h:aO B p o i w S){D':Nat->Prop}{F':Files}{ne' n':Nat}(e:eB w.heap.size w3 S r Hd L)(f:Upon (λk=>k=p) w w3)(blk:Blk w3 p 43 (VD.cells (S.put r Hd L ne')))(live:aL (bL B S.s S.d 400 o S.H) S.A S.rm D' w' S.c S.x S.hb ne' F' Hd n')(hd:∀k,D' k->S.D k\/w3.heap.size<=k)(m:Upon (λk=>S.D k\/k=S.hb) w3 w')(runs:∀j,j<ne'->F' (rname S.pf j)≠none)(dF:aQ L F')(okF:dS F')(ni:n'<=S.n+100)(li:L.length<=S.L.length+1)(vi:bE L+Hd.length<=bE S.L+S.Hd.length+2):lY B p o i S w w':=
 h.Jk (D':=D') (F':=F') (ne':=ne') (n':=n') (nI:=Hd) (oF:=r.ha) (aG:=r.an) (L':=L) (mc':=r.hc) (uV:=r.xh) (uT:=r.xl) (uU:=r.xc) (aN:=r.nc) f blk live hd m runs e.hd e.row dF okF ni li vi
attribute [local go_sem] Oper.semAt_some
theorem UB{B p i:Nat}{o:Option Obj}{w:World}{S:VD}(h:aO B p o i w S)(Hd:List KC)(L:List FF)(ne:Nat)(h6:∀V,Below w.heap.size w V->Calls prog 20 #[cV S.A S.mh S.Hd.length S.mc S.xh S.xl S.xc S.ne,.slice S.an S.L.length S.nc] V λe w'=>∃r:FR,e=.returned (.tuple #[cV S.A r.ha Hd.length r.hc r.xh r.xl r.xc ne,.slice r.an L.length r.nc])/\Below V.heap.size V w'/\eB V.heap.size w' S r Hd L){CT:World->World->Prop}(J:∀w3,Upon (λk=>k=p) w w3->Calls prog 21 #[.pointer (some ⟨S.c,0,none⟩)] w3 λe w4=>e=.returned (.int .i64 0)/\CT w3 w4)(v1 v2 v3 v4 v5 v6 v7:Value):
  Calls prog 8 #[.pointer (some ⟨p,0,none⟩),.agg #[.int .i64 1,v1,v2,v3,v4,v5,v6,v7]] w λe w'=>e=.returned (.tuple #[.bool true,.bool true])/\∃r w3,Upon (λk=>k=p) w w3/\Blk w3 p 43 (VD.cells (S.put r Hd L ne))/\eB w.heap.size w3 S r Hd L/\CT w3 w':=by
 obtain⟨sp,E⟩:∃s:ByteArray,nv S.pf=.string s:=⟨_,rfl⟩;obtain⟨rm,D⟩:∃z:Int,z=(S.rm:Int):=⟨_,rfl⟩;have I:Hid (∀(a:Option Addr) (k c:Nat) (b:Option Addr) (m d j:Nat),cV S.A a k c b m d j=.agg #[.slice a k c,.string sp,.int .i64 16,.int .i64 rm,.slice b m d,.int .i64 j]):=jq (λa k c b m d j=>by unfold cV VD.A;dsimp only;rw[E,D];rfl);obtain⟨W1,C⟩:=jl (w.alloc (.cells #[.int .i64 1,v1,v2,v3,v4,v5,v6,v7] 51));have x:Below w.heap.size w W1:=by rw[C];exact(Below.refl _ w).alloc jn _
 have hb:=(h.later x).cells E;rw[<-D]at hb;have M:=jq (h.later x).nl.lies;have x7:=jq h.blk.lt;have x6:=jq h.nl;have h5:Hid (∀r:FR,VD.cells (S.put r Hd L ne)=#[.pointer (some ⟨S.d,0,none⟩),.pointer (some ⟨S.s,0,none⟩),.pointer (some ⟨S.c,0,none⟩),.slice r.ha Hd.length r.hc,.string sp,.int .i64 16,.int .i64 rm,.slice r.xh r.xl r.xc,.int .i64 ne,.slice r.an L.length r.nc,.slice S.ah S.LH.length S.hc]):=jq (λr=>by unfold VD.cells VD.put;dsimp only;rw[E,D])
 have N:Hid (∀V,Below W1.heap.size W1 V->Calls prog 20 #[.agg #[.slice S.mh S.Hd.length S.mc,.string sp,.int .i64 16,.int .i64 rm,.slice S.xh S.xl S.xc,.int .i64 S.ne],.slice S.an S.L.length S.nc] V λe w'=>∃r:FR,e=.returned (.tuple #[.agg #[.slice r.ha Hd.length r.hc,.string sp,.int .i64 16,.int .i64 rm,.slice r.xh r.xl r.xc,.int .i64 ne],.slice r.an L.length r.nc])/\Hid (Below V.heap.size V w')/\Hid (eB V.heap.size w' S r Hd L)):=jq (λV T=>by
  have:=h6 V (x.trans (T.mono x.size));rw[I.out]at this;refine this.mono ?_;rintro e w' ⟨r,rfl,h1,h2⟩;rw[I.out];exact⟨r,rfl,jq h1,jq h2⟩)
 obtain⟨hl,h9⟩:=jl S.Hd.length;obtain⟨pn,x1⟩:=jl S.L.length;obtain⟨kl,x0⟩:=jl Hd.length;obtain⟨ql,x2⟩:=jl L.length;rw[<-h9,<-x1]at hb N;rw[<-x0,<-x2]at N h5;obtain⟨⟨P,c1,c2,c3,c4,c5,c6,c7,c8,c9,R⟩,u⟩:=eleven hb;have h3:=jq hb;have h0:=jq x;have J:=jq J;have y7:=hb.lt;have x9:=jq (World.size_alloc w (.cells #[.int .i64 1,v1,v2,v3,v4,v5,v6,v7] 51));rw[<-C]at x9;clear h6 I h hb x E D h9 x1 x0 x2 P c1 c2 R u
 go_enter func8,ntmps8
 go_wp2_with fail
 rw[<-C];clear C
 go_cut[8,9] (λs8 s9 wx=>∃(bx:Nat) (r:FR),s8=.pointer (some ⟨bx,0,none⟩)/\s9=.slice r.an ql r.nc/\Hid (Blk wx bx 37 #[.slice r.ha kl r.hc,.string sp,.int .i64 16,.int .i64 rm,.slice r.xh r.xl r.xc,.int .i64 ne])/\Hid (Below W1.heap.size W1 wx/\W1.heap.size<=bx)/\Hid (eB W1.heap.size wx S r Hd L))
 case first=>
  have hq:Hid True:=jq trivial
  go_region_law ((first|(have y6:=hq.out;clear y6;go_simp;go_at_call 20;refine(N.out _ (by first|exact Below.refl _ _|exact(Below.refl _ _).alloc jn _|exact(Below.refl _ _).drew|exact((Below.refl _ _).alloc jn _).drew)).mono ?_;rintro e w3 ⟨r,rfl,v,O⟩;first|(have f:=(Blk.new W1 37 #[.slice none 0 0,.string ⟨#[]⟩,.int .i64 0,.int .i64 0,.slice none 0 0,.int .i64 0]).below v.out (Blk.new W1 37 #[.slice none 0 0,.string ⟨#[]⟩,.int .i64 0,.int .i64 0,.slice none 0 0,.int .i64 0]).lt;obtain⟨z0,z1,z2,z3,z4,z5⟩:=gB f;have g0:=f.frozen 0;have g1:=f.frozen 1;have g2:=f.frozen 2;have g3:=f.frozen 3;have g4:=f.frozen 4;have g5:=f.frozen 5;have h7:=jq f;clear f;dsimp only)|(have f:=(Blk.drew (Blk.new W1 37 #[.slice none 0 0,.string ⟨#[]⟩,.int .i64 0,.int .i64 0,.slice none 0 0,.int .i64 0])).below v.out (Blk.drew (Blk.new W1 37 #[.slice none 0 0,.string ⟨#[]⟩,.int .i64 0,.int .i64 0,.slice none 0 0,.int .i64 0])).lt;obtain⟨z0,z1,z2,z3,z4,z5⟩:=gB f;have g0:=f.frozen 0;have g1:=f.frozen 1;have g2:=f.frozen 2;have g3:=f.frozen 3;have g4:=f.frozen 4;have g5:=f.frozen 5;have h7:=jq f;clear f;dsimp only)|dsimp only)))
  all_goals go_wp2_with fail
  all_goals go_meet
  all_goals first
   |exact⟨_,r,rfl,rfl,oG ((Below.refl _ W1).drew.trans v.out) O.out M.out _ _⟩
   |exact⟨_,r,rfl,rfl,oG v.out O.out M.out _ _⟩
   |exact⟨_,r,rfl,rfl,yj rfl (qz _ _ _) ((((Below.refl _ W1).alloc jn _).drew).trans (v.out.mono (kF (qz _ _ _)))) O.out M.out (yh h7.out _ _ _ _ _ _)⟩
 case rest=>
  obtain⟨bx,r,rfl,rfl,x4,h4,HV⟩:=hcut;have X:=h3.out.below h4.out.1 h3.out.lt;obtain⟨⟨P,c1,c2,c3,c4,c5,c6,c7,c8,c9,R⟩,u⟩:=eleven X;have f3:=u 3;have f4:=u 4;have f5:=u 5;have f6:=u 6;have f7:=u 7;have f8:=u 8;have f9:=u 9;obtain⟨y0,y1,y2,y3,y4,y5⟩:=gB x4.out;have x3:=jq X;clear X u P c1 R
  go_wp2_with fail
  obtain⟨U,G⟩:=pX x3.out (.slice r.ha kl r.hc) (.string sp) (.int .i64 16) (.int .i64 rm) (.slice r.xh r.xl r.xc) (.int .i64 ne) (.slice r.an ql r.nc);generalize T: (((((((wc.setCell ⟨p,3,none⟩ (.slice r.ha kl r.hc)).setCell ⟨p,4,none⟩ (.string sp)).setCell ⟨p,5,none⟩ (.int .i64 16)).setCell ⟨p,6,none⟩ (.int .i64 rm)).setCell ⟨p,7,none⟩ (.slice r.xh r.xl r.xc)).setCell ⟨p,8,none⟩ (.int .i64 ne)).setCell ⟨p,9,none⟩ (.slice r.an ql r.nc))=V at U G⊢;have Z:=h0.out.size;have Y:Upon (λk=>k=p) w V:=(Upon.of_below (h0.out.trans (h4.out.1.mono Z))).trans G (λk y=>.inl y);have v:=jq U;have HU:=jq Y;have x8:=jq (HV.out.upon (x6.out.step (Y.mono (λk y=>.inr y)) (λk y=>.inl y)).lies Z G (λk y=>by have:=x7.out;omega));clear T U G Y Z c2 c3 c4 c5 c6 c7 c8 c9 y0 y1 y2 y3 y4 y5 f3 f4 f5 f6 f7 f8 f9;refine(J.out V HU.out).mono ?_;rintro e w4 ⟨rfl,h8⟩;have x5:=jq h8;clear h8
  go_wp2_with fail
  go_ret2
  exact⟨rfl,r,V,HU.out,by rw[h5.out];exact v.out,x8.out,x5.out⟩
open Runs (sV)
theorem UC{B p i:Nat}{o:Option Obj}{w:World}{S:VD}(h:aO B p o i w S)(L:List FF)(ne:Nat)(h6:∀V,Below w.heap.size w V->Calls prog 24 #[sV S.A S.xh S.xl S.xc S.ne,.slice S.an S.L.length S.nc] V λe w'=>∃r:FR,e=.returned (.tuple #[sV S.A r.xh r.xl r.xc ne,.slice r.an L.length r.nc])/\Below V.heap.size V w'/\eB V.heap.size w' S {r with ha:=none,hc:=0} [] L){CT:World->World->Prop}(J:∀w3,Upon (λk=>k=p) w w3->Calls prog 25 #[.pointer (some ⟨S.c,0,none⟩)] w3 λe w4=>e=.returned (.int .i64 0)/\CT w3 w4)(v1 v2 v3 v4 v5 v6 v7:Value):
  Calls prog 8 #[.pointer (some ⟨p,0,none⟩),.agg #[.int .i64 4,v1,v2,v3,v4,v5,v6,v7]] w λe w'=>e=.returned (.tuple #[.bool true,.bool true])/\∃(r:FR) (w3:World),Upon (λk=>k=p) w w3/\Blk w3 p 43 (VD.cells (S.put {r with ha:=none,hc:=0} [] L ne))/\eB w.heap.size w3 S {r with ha:=none,hc:=0} [] L/\CT w3 w':=by
 obtain⟨sp,E⟩:∃s:ByteArray,nv S.pf=.string s:=⟨_,rfl⟩;obtain⟨rm,D⟩:∃z:Int,z=(S.rm:Int):=⟨_,rfl⟩;have I:Hid (∀(b:Option Addr) (m d j:Nat),sV S.A b m d j=.agg #[.string sp,.int .i64 16,.int .i64 rm,.slice b m d,.int .i64 j]):=jq (λb m d j=>by unfold sV VD.A;dsimp only;rw[E,D];rfl);obtain⟨W1,C⟩:=jl (w.alloc (.cells #[.int .i64 4,v1,v2,v3,v4,v5,v6,v7] 51));have x:Below w.heap.size w W1:=by rw[C];exact(Below.refl _ w).alloc jn _
 have hb:=(h.later x).cells E;rw[<-D]at hb;have M:=jq (h.later x).nl.lies;have x6:=jq h.blk.lt;have x5:=jq h.nl;have h5:Hid (∀r:FR,VD.cells (S.put {r with ha:=none,hc:=0} [] L ne)=#[.pointer (some ⟨S.d,0,none⟩),.pointer (some ⟨S.s,0,none⟩),.pointer (some ⟨S.c,0,none⟩),.slice none 0 0,.string sp,.int .i64 16,.int .i64 rm,.slice r.xh r.xl r.xc,.int .i64 ne,.slice r.an L.length r.nc,.slice S.ah S.LH.length S.hc]):=jq (λr=>by unfold VD.cells VD.put;dsimp only;rw[E,D];rfl)
 have N:Hid (∀V,Below W1.heap.size W1 V->Calls prog 24 #[.agg #[.string sp,.int .i64 16,.int .i64 rm,.slice S.xh S.xl S.xc,.int .i64 S.ne],.slice S.an S.L.length S.nc] V λe w'=>∃r:FR,e=.returned (.tuple #[.agg #[.string sp,.int .i64 16,.int .i64 rm,.slice r.xh r.xl r.xc,.int .i64 ne],.slice r.an L.length r.nc])/\Hid (Below V.heap.size V w')/\Hid (eB V.heap.size w' S {r with ha:=none,hc:=0} [] L)):=jq (λV T=>by
  have:=h6 V (x.trans (T.mono x.size));rw[I.out]at this;refine this.mono ?_;rintro e w' ⟨r,rfl,h1,h2⟩;rw[I.out];exact⟨r,rfl,jq h1,jq h2⟩)
 obtain⟨hl,h9⟩:=jl S.Hd.length;obtain⟨pn,x0⟩:=jl S.L.length;obtain⟨ql,x1⟩:=jl L.length;rw[<-h9]at hb;rw[<-x0]at hb N;rw[<-x1]at N h5;obtain⟨⟨P,c1,c2,c3,c4,c5,c6,c7,c8,c9,R⟩,u⟩:=eleven hb;have h3:=jq hb;have h0:=jq x;have J:=jq J;have y5:=hb.lt;have x8:=jq (World.size_alloc w (.cells #[.int .i64 4,v1,v2,v3,v4,v5,v6,v7] 51));rw[<-C]at x8;clear h6 I h hb x E D h9 x0 x1 P c1 c2 R u
 go_enter func8,ntmps8
 go_wp2_with fail
 rw[<-C];clear C
 go_cut[13,14] (λs8 s9 wx=>∃(bx:Nat) (r:FR),s8=.pointer (some ⟨bx,0,none⟩)/\s9=.slice r.an ql r.nc/\Hid (Blk wx bx 35 #[.string sp,.int .i64 16,.int .i64 rm,.slice r.xh r.xl r.xc,.int .i64 ne])/\Hid (Below W1.heap.size W1 wx/\W1.heap.size<=bx)/\Hid (eB W1.heap.size wx S {r with ha:=none,hc:=0} [] L))
 case first=>
  have hq:Hid True:=jq trivial
  go_region_law ((first|(have x9:=hq.out;clear x9;go_simp;go_at_call 24;refine(N.out _ (by first|exact Below.refl _ _|exact(Below.refl _ _).alloc jn _|exact(Below.refl _ _).drew|exact((Below.refl _ _).alloc jn _).drew)).mono ?_;rintro e w3 ⟨r,rfl,v,O⟩;first|(have f:=(Blk.new W1 35 #[.string ⟨#[]⟩,.int .i64 0,.int .i64 0,.slice none 0 0,.int .i64 0]).below v.out (Blk.new W1 35 #[.string ⟨#[]⟩,.int .i64 0,.int .i64 0,.slice none 0 0,.int .i64 0]).lt;obtain⟨z0,z1,z2,z3,z4⟩:=BA f;have g0:=f.frozen 0;have g1:=f.frozen 1;have g2:=f.frozen 2;have g3:=f.frozen 3;have g4:=f.frozen 4;have h7:=jq f;clear f;dsimp only)|(have f:=(Blk.drew (Blk.new W1 35 #[.string ⟨#[]⟩,.int .i64 0,.int .i64 0,.slice none 0 0,.int .i64 0])).below v.out (Blk.drew (Blk.new W1 35 #[.string ⟨#[]⟩,.int .i64 0,.int .i64 0,.slice none 0 0,.int .i64 0])).lt;obtain⟨z0,z1,z2,z3,z4⟩:=BA f;have g0:=f.frozen 0;have g1:=f.frozen 1;have g2:=f.frozen 2;have g3:=f.frozen 3;have g4:=f.frozen 4;have h7:=jq f;clear f;dsimp only)|dsimp only)))
  all_goals go_wp2_with fail
  all_goals go_meet
  all_goals first
   |exact⟨_,r,rfl,rfl,oG ((Below.refl _ W1).drew.trans v.out) O.out M.out _ _⟩
   |exact⟨_,r,rfl,rfl,oG v.out O.out M.out _ _⟩
   |exact⟨_,r,rfl,rfl,yj rfl (qz _ _ _) ((((Below.refl _ W1).alloc jn _).drew).trans (v.out.mono (kF (qz _ _ _)))) O.out M.out (UA h7.out _ _ _ _ _)⟩
 case rest=>
  obtain⟨bx,r,rfl,rfl,x3,h4,HV⟩:=hcut;have X:=h3.out.below h4.out.1 h3.out.lt;obtain⟨⟨P,c1,c2,c3,c4,c5,c6,c7,c8,c9,R⟩,u⟩:=eleven X;have f3:=u 3;have f4:=u 4;have f5:=u 5;have f6:=u 6;have f7:=u 7;have f8:=u 8;have f9:=u 9;obtain⟨y0,y1,y2,y3,y4⟩:=BA x3.out;have x2:=jq X;clear X u P c1 R
  go_wp2_with fail
  obtain⟨U,G⟩:=pX x2.out (.slice none 0 0) (.string sp) (.int .i64 16) (.int .i64 rm) (.slice r.xh r.xl r.xc) (.int .i64 ne) (.slice r.an ql r.nc);generalize T: (((((((wc.setCell ⟨p,3,none⟩ (.slice none 0 0)).setCell ⟨p,4,none⟩ (.string sp)).setCell ⟨p,5,none⟩ (.int .i64 16)).setCell ⟨p,6,none⟩ (.int .i64 rm)).setCell ⟨p,7,none⟩ (.slice r.xh r.xl r.xc)).setCell ⟨p,8,none⟩ (.int .i64 ne)).setCell ⟨p,9,none⟩ (.slice r.an ql r.nc))=V at U G⊢;have Z:=h0.out.size;have Y:Upon (λk=>k=p) w V:=(Upon.of_below (h0.out.trans (h4.out.1.mono Z))).trans G (λk y=>.inl y);have v:=jq U;have HU:=jq Y;have x7:=jq (HV.out.upon (x5.out.step (Y.mono (λk y=>.inr y)) (λk y=>.inl y)).lies Z G (λk y=>by have:=x6.out;omega));clear T U G Y Z c2 c3 c4 c5 c6 c7 c8 c9 y0 y1 y2 y3 y4 f3 f4 f5 f6 f7 f8 f9;refine(J.out V HU.out).mono ?_;rintro e w4 ⟨rfl,h8⟩;have x4:=jq h8;clear h8
  go_wp2_with fail
  go_ret2
  exact⟨rfl,{r with ha:=none,hc:=0},V,HU.out,by rw[h5.out];exact v.out,x7.out,x4.out⟩
end Vp
namespace Vp
open Go.RowKit Go.Deep Mem Crc Merge aX Full bQ
open Runs (aW Fi rname oz bR)
open Store (Sto Files nv)
attribute [local go_sem] Oper.semAt_some
theorem UD{B p i:Nat}{o:Option Obj}{w:World}{S:VD}(h:aO B p o i w S)(Hd:List KC)(L:List FF)(ne:Nat)(h6:∀V,Below w.heap.size w V->Calls prog 32 #[cV S.A S.mh S.Hd.length S.mc S.xh S.xl S.xc S.ne,.slice S.an S.L.length S.nc] V λe w'=>∃r:FR,e=.returned (.tuple #[cV S.A r.ha Hd.length r.hc r.xh r.xl r.xc ne,.slice r.an L.length r.nc,.int .i64 0])/\Below V.heap.size V w'/\eB V.heap.size w' S r Hd L){CT:World->World->Prop}(J:∀w3,Upon (λk=>k=p) w w3->Calls prog 33 #[.pointer (some ⟨S.c,0,none⟩)] w3 λe w4=>e=.returned (.int .i64 0)/\CT w3 w4)(v1 v2 v3 v4 v5 v6 v7:Value):
  Calls prog 8 #[.pointer (some ⟨p,0,none⟩),.agg #[.int .i64 6,v1,v2,v3,v4,v5,v6,v7]] w λe w'=>e=.returned (.tuple #[.bool true,.bool true])/\∃r w3,Upon (λk=>k=p) w w3/\Blk w3 p 43 (VD.cells (S.put r Hd L ne))/\eB w.heap.size w3 S r Hd L/\CT w3 w':=by
 obtain⟨sp,E⟩:∃s:ByteArray,nv S.pf=.string s:=⟨_,rfl⟩;obtain⟨rm,D⟩:∃z:Int,z=(S.rm:Int):=⟨_,rfl⟩;have I:Hid (∀(a:Option Addr) (k c:Nat) (b:Option Addr) (m d j:Nat),cV S.A a k c b m d j=.agg #[.slice a k c,.string sp,.int .i64 16,.int .i64 rm,.slice b m d,.int .i64 j]):=jq (λa k c b m d j=>by unfold cV VD.A;dsimp only;rw[E,D];rfl);obtain⟨W1,C⟩:=jl (w.alloc (.cells #[.int .i64 6,v1,v2,v3,v4,v5,v6,v7] 51));have x:Below w.heap.size w W1:=by rw[C];exact(Below.refl _ w).alloc jn _
 have hb:=(h.later x).cells E;rw[<-D]at hb;have M:=jq (h.later x).nl.lies;have x7:=jq h.blk.lt;have x6:=jq h.nl;have h5:Hid (∀r:FR,VD.cells (S.put r Hd L ne)=#[.pointer (some ⟨S.d,0,none⟩),.pointer (some ⟨S.s,0,none⟩),.pointer (some ⟨S.c,0,none⟩),.slice r.ha Hd.length r.hc,.string sp,.int .i64 16,.int .i64 rm,.slice r.xh r.xl r.xc,.int .i64 ne,.slice r.an L.length r.nc,.slice S.ah S.LH.length S.hc]):=jq (λr=>by unfold VD.cells VD.put;dsimp only;rw[E,D])
 have N:Hid (∀V,Below W1.heap.size W1 V->Calls prog 32 #[.agg #[.slice S.mh S.Hd.length S.mc,.string sp,.int .i64 16,.int .i64 rm,.slice S.xh S.xl S.xc,.int .i64 S.ne],.slice S.an S.L.length S.nc] V λe w'=>∃r:FR,e=.returned (.tuple #[.agg #[.slice r.ha Hd.length r.hc,.string sp,.int .i64 16,.int .i64 rm,.slice r.xh r.xl r.xc,.int .i64 ne],.slice r.an L.length r.nc,.int .i64 0])/\Hid (Below V.heap.size V w')/\Hid (eB V.heap.size w' S r Hd L)):=jq (λV T=>by
  have:=h6 V (x.trans (T.mono x.size));rw[I.out]at this;refine this.mono ?_;rintro e w' ⟨r,rfl,h1,h2⟩;rw[I.out];exact⟨r,rfl,jq h1,jq h2⟩)
 obtain⟨hl,h9⟩:=jl S.Hd.length;obtain⟨pn,x1⟩:=jl S.L.length;obtain⟨kl,x0⟩:=jl Hd.length;obtain⟨ql,x2⟩:=jl L.length;rw[<-h9,<-x1]at hb N;rw[<-x0,<-x2]at N h5;obtain⟨⟨P,c1,c2,c3,c4,c5,c6,c7,c8,c9,R⟩,u⟩:=eleven hb;have h3:=jq hb;have h0:=jq x;have J:=jq J;have y8:=hb.lt;have x9:=jq (World.size_alloc w (.cells #[.int .i64 6,v1,v2,v3,v4,v5,v6,v7] 51));rw[<-C]at x9;clear h6 I h hb x E D h9 x1 x0 x2 P c1 c2 R u
 go_enter func8,ntmps8
 go_wp2_with fail
 rw[<-C];clear C
 go_cut[17,18,19] (λs8 s9 y7 wx=>∃(bx:Nat) (r:FR),s8=.pointer (some ⟨bx,0,none⟩)/\s9=.slice r.an ql r.nc/\y7=.int .i64 0/\Hid (Blk wx bx 37 #[.slice r.ha kl r.hc,.string sp,.int .i64 16,.int .i64 rm,.slice r.xh r.xl r.xc,.int .i64 ne])/\Hid (Below W1.heap.size W1 wx/\W1.heap.size<=bx)/\Hid (eB W1.heap.size wx S r Hd L))
 case first=>
  have hq:Hid True:=jq trivial
  go_region_law ((first|(have y6:=hq.out;clear y6;go_simp;go_at_call 32;refine(N.out _ (by first|exact Below.refl _ _|exact(Below.refl _ _).alloc jn _|exact(Below.refl _ _).drew|exact((Below.refl _ _).alloc jn _).drew)).mono ?_;rintro e w3 ⟨r,rfl,v,O⟩;first|(have f:=(Blk.new W1 37 #[.slice none 0 0,.string ⟨#[]⟩,.int .i64 0,.int .i64 0,.slice none 0 0,.int .i64 0]).below v.out (Blk.new W1 37 #[.slice none 0 0,.string ⟨#[]⟩,.int .i64 0,.int .i64 0,.slice none 0 0,.int .i64 0]).lt;obtain⟨z0,z1,z2,z3,z4,z5⟩:=gB f;have g0:=f.frozen 0;have g1:=f.frozen 1;have g2:=f.frozen 2;have g3:=f.frozen 3;have g4:=f.frozen 4;have g5:=f.frozen 5;have h7:=jq f;clear f;dsimp only)|(have f:=(Blk.drew (Blk.new W1 37 #[.slice none 0 0,.string ⟨#[]⟩,.int .i64 0,.int .i64 0,.slice none 0 0,.int .i64 0])).below v.out (Blk.drew (Blk.new W1 37 #[.slice none 0 0,.string ⟨#[]⟩,.int .i64 0,.int .i64 0,.slice none 0 0,.int .i64 0])).lt;obtain⟨z0,z1,z2,z3,z4,z5⟩:=gB f;have g0:=f.frozen 0;have g1:=f.frozen 1;have g2:=f.frozen 2;have g3:=f.frozen 3;have g4:=f.frozen 4;have g5:=f.frozen 5;have h7:=jq f;clear f;dsimp only)|dsimp only)))
  all_goals go_wp2_with fail
  all_goals go_meet
  all_goals first
   |exact⟨_,r,rfl,rfl,rfl,oG ((Below.refl _ W1).drew.trans v.out) O.out M.out _ _⟩
   |exact⟨_,r,rfl,rfl,rfl,oG v.out O.out M.out _ _⟩
   |exact⟨_,r,rfl,rfl,rfl,yj rfl (qz _ _ _) ((((Below.refl _ W1).alloc jn _).drew).trans (v.out.mono (kF (qz _ _ _)))) O.out M.out (yh h7.out _ _ _ _ _ _)⟩
 case rest=>
  obtain⟨bx,r,rfl,rfl,rfl,x4,h4,HV⟩:=hcut;have X:=h3.out.below h4.out.1 h3.out.lt;obtain⟨⟨P,c1,c2,c3,c4,c5,c6,c7,c8,c9,R⟩,u⟩:=eleven X;have f3:=u 3;have f4:=u 4;have f5:=u 5;have f6:=u 6;have f7:=u 7;have f8:=u 8;have f9:=u 9;obtain⟨y0,y1,y2,y3,y4,y5⟩:=gB x4.out;have x3:=jq X;clear X u P c1 R
  go_wp2_with fail
  obtain⟨U,G⟩:=pX x3.out (.slice r.ha kl r.hc) (.string sp) (.int .i64 16) (.int .i64 rm) (.slice r.xh r.xl r.xc) (.int .i64 ne) (.slice r.an ql r.nc);generalize T: (((((((wc.setCell ⟨p,3,none⟩ (.slice r.ha kl r.hc)).setCell ⟨p,4,none⟩ (.string sp)).setCell ⟨p,5,none⟩ (.int .i64 16)).setCell ⟨p,6,none⟩ (.int .i64 rm)).setCell ⟨p,7,none⟩ (.slice r.xh r.xl r.xc)).setCell ⟨p,8,none⟩ (.int .i64 ne)).setCell ⟨p,9,none⟩ (.slice r.an ql r.nc))=V at U G⊢;have Z:=h0.out.size;have Y:Upon (λk=>k=p) w V:=(Upon.of_below (h0.out.trans (h4.out.1.mono Z))).trans G (λk y=>.inl y);have v:=jq U;have HU:=jq Y;have x8:=jq (HV.out.upon (x6.out.step (Y.mono (λk y=>.inr y)) (λk y=>.inl y)).lies Z G (λk y=>by have:=x7.out;omega));clear T U G Y Z c2 c3 c4 c5 c6 c7 c8 c9 y0 y1 y2 y3 y4 y5 f3 f4 f5 f6 f7 f8 f9;refine(J.out V HU.out).mono ?_;rintro e w4 ⟨rfl,h8⟩;have x5:=jq h8;clear h8
  go_wp2_with fail
  go_ret2
  exact⟨rfl,r,V,HU.out,by rw[h5.out];exact v.out,x8.out,x5.out⟩
end Vp
namespace Vp
open Go.RowKit Go.Deep Mem Crc Merge aX bQ
open Runs (eP strB Fi sV bR dm rname aR fw cu runsR nk Hw)
open Store (nv Files)
theorem UE(K:List KC): (K.map ai).flatten.length=16*K.length:=by
 induction K with
 |nil=>rfl
 |cons p t e=>simp only[List.map_cons,List.flatten_cons,jL,dZ,List.length_cons,e];omega
theorem Jl{w w1 w3:World}{xb rb zb b:Nat}{v0 v1 v2 v3 v4 v5 u0 u1 u2 u3 u4:Value}{an aG:Option Addr}{L L':List FF}(e:dB w w1 xb rb v0 v1 v2 v3 v4 v5)(u:Below w1.heap.size w1 w3)(z:Blk w3 zb 35 #[u0,u1,u2,u3,u4])(D:w1.heap.size<=zb)(v:Lies w an (aU L))(y:bR b w3 an aG L L')(hb:zb<b)(a0 a1 a2 a3 a4:Value):
  dB w (((((w3.setCell ⟨zb,0,none⟩ a0).setCell ⟨zb,1,none⟩ a1).setCell ⟨zb,2,none⟩ a2).setCell ⟨zb,3,none⟩ a3).setCell ⟨zb,4,none⟩ a4) xb rb v0 v1 v2 v3 v4 v5/\Blk (((((w3.setCell ⟨zb,0,none⟩ a0).setCell ⟨zb,1,none⟩ a1).setCell ⟨zb,2,none⟩ a2).setCell ⟨zb,3,none⟩ a3).setCell ⟨zb,4,none⟩ a4) zb 35 #[a0,a1,a2,a3,a4]/\bR w1.heap.size (((((w3.setCell ⟨zb,0,none⟩ a0).setCell ⟨zb,1,none⟩ a1).setCell ⟨zb,2,none⟩ a2).setCell ⟨zb,3,none⟩ a3).setCell ⟨zb,4,none⟩ a4) an aG L L':=by
 obtain⟨m,f⟩:=I8 z a0 a1 a2 a3 a4;have A:=e.below.size;have C:=e.bx.lt;obtain⟨_,_,_,_,_,_,j⟩:=e.br;have j:=j.lt;have h:=e.later u;refine⟨h.over f (by omega) (by omega) (h.below.trans (f.below h.below.size (λk x=>by rcases x with rfl|rfl <;> omega))),m,(y.upon v ⟨by omega,hb⟩ ⟨by omega,hb⟩ f).mono (by omega)⟩
attribute [local go_sem] Oper.semAt_some
theorem UF(A:Fi)(h5:A.ok)(b6:A.wd=16)(H:List KC)(L:List FF)(F:Files)(ls:List (List B))(K:List KC)(hK:K=merged (bC H ls))(ha an mh:Option Addr)(hc nc hl mc ne:Nat)(w:World)(hH:Lies w ha (H.flatMap aH))(X:Lies w an (aU L))(b1:∀q∈H,q.1<=av/\q.2<=av)(hr:H.length<=A.rm)(b2:ne<=90)(hL:L.length<=100000)(b3:aQ L F)(b4:runsR A F ne=some ls)(hF:∀j,j<ne->F (rname A.pf j)≠none)(b5:∀nm b,F nm=some b->b.length<=10000)(d3: (H.map ai++ls.flatten).length<=9000)(d0:K.length<=9000)(a9:∀q∈K,q.1<=av/\q.2<=av):
  Calls prog 32 #[cV A ha H.length hc mh hl mc ne,.slice an L.length nc] w λe w'=>∃h aG aN,e=.returned (.tuple #[cV A none 0 0 h 0 0 (cu (K.map ai)),.slice aG (fw L A ne (K.map ai)).length aN,.int .i64 0])/\bR w.heap.size w' an aG L (fw L A ne (K.map ai))/\Below w.heap.size w w':=by
 have d4:A.rm<=4096:=h5.2.2.2.2.2;obtain⟨sp,a0⟩:∃s:ByteArray,nv A.pf=.string s:=⟨_,rfl⟩;obtain⟨wd,a4⟩:∃z:Int,z=(A.wd:Int):=⟨_,rfl⟩;obtain⟨rm,z9⟩:∃z:Int,z=(A.rm:Int):=⟨_,rfl⟩;have HS:Hid (∀(a:Option Addr) (k c j:Nat),sV A a k c j=.agg #[.string sp,.int .i64 wd,.int .i64 rm,.slice a k c,.int .i64 j]):=jq (λa k c j=>by unfold sV;rw[a0,a4,z9]);have HC:Hid (∀(a:Option Addr) (k c:Nat) (b:Option Addr) (m d j:Nat),cV A a k c b m d j=.agg #[.slice a k c,.string sp,.int .i64 wd,.int .i64 rm,.slice b m d,.int .i64 j]):=jq (λa k c b m d j=>by unfold cV;rw[a0,a4,z9])
 have a7:Hid (∀V,Below w.heap.size w V->Calls prog 12 #[.agg #[.slice ha H.length hc,.string sp,.int .i64 wd,.int .i64 rm,.slice mh hl mc,.int .i64 ne],.slice an L.length nc] V λe w'=>∃a' c',e=.returned (.tuple #[.slice a' K.length c',.int .i64 0])/\Hid (Lies w' a' (K.flatMap aH))/\Hid (Below V.heap.size V w')):=jq (λV E=>by
  have:=Ja A h5 b6 H L F ls ha an mh hc nc hl mc ne V (hH.later E) (X.later E) b1 hr b2 hL b3 b4 hF b5 (by omega);rw[HC.out,<-hK]at this;refine this.mono ?_;rintro e w' ⟨a',c',rfl,C,D⟩;obtain⟨_,_,x,_,x9,_,_⟩:=own_shape C;injection x with x _ _;subst x;exact⟨_,c',rfl,jq x9,jq D⟩)
 have a8:Hid (∀(J:World) a c,Below w.heap.size w J->Lies J a (K.flatMap aH)->∀V,Below J.heap.size J V->Calls prog 39 #[.slice a K.length c] V λe w2=>∃a2 c2,e=.returned (.slice a2 K.length c2)/\Hid (Below V.heap.size V w2)/\Hid (∀y,Below w2.heap.size w2 y->Calls prog 65 #[.agg #[.string sp,.int .i64 wd,.int .i64 rm,.slice mh hl mc,.int .i64 ne],.slice an L.length nc,.slice a2 K.length c2] y λe w3=>∃h aG aN,e=.returned (.tuple #[.agg #[.string sp,.int .i64 wd,.int .i64 rm,.slice h 0 0,.int .i64 ((cu (K.map ai):Nat):Int)],.slice aG (fw L A ne (K.map ai)).length aN])/\Hid (bR y.heap.size w3 an aG L (fw L A ne (K.map ai)))/\Hid (Below y.heap.size y w3))):=jq (λJ a c y6 d2 V E=>by
  refine(Bt K a c V (d2.later E) (by omega) a9).mono ?_;rintro e w2 ⟨a2,c2,rfl,hO,hB⟩;refine⟨a2,c2,rfl,jq hB,jq (λy b0=>?_)⟩;obtain⟨_,_,x,_,x9,_,_⟩:=own_shape hO;injection x with x _ _;subst x;have c9:=(y6.trans (E.mono y6.size)).trans ((hB.trans (b0.mono hB.size)).mono (ax y6.size E.size));have:=Hw A h5 L (K.map ai) mh an a2 hl mc nc c2 ne y (by omega) (X.later c9) hL (x9.later b0) (by rw[jP];omega) (by rw[UE];omega);rw[jP,HS.out]at this;refine this.mono ?_;rintro e w3 ⟨h,aG,aN,rfl,-,C,D⟩;rw[HS.out];exact⟨h,aG,aN,rfl,jq C,jq D⟩)
 rw[HC.out];obtain⟨W1,Y⟩:=jl ((w.alloc (.cells #[.slice ha H.length hc,.string sp,.int .i64 wd,.int .i64 rm,.slice mh hl mc,.int .i64 ne] 37)).alloc (.cells #[.slice none 0 0,.string ⟨#[]⟩,.int .i64 0,.int .i64 0,.slice none 0 0,.int .i64 0] 37));obtain⟨xb,h6⟩:=jl w.heap.size;obtain⟨rb,z7⟩:=jl (w.heap.size+1);have Z:=I7 w (.slice ha H.length hc) (.string sp) (.int .i64 wd) (.int .i64 rm) (.slice mh hl mc) (.int .i64 ne);rw[<-Y,<-z7,<-h6]at Z;have h7:=jq Z;have h9:=jq X;have a6:=jq (a7.out W1 Z.below);obtain⟨hn,y9⟩:=jl H.length;obtain⟨ln,h4⟩:=jl L.length;obtain⟨kn,y8⟩:=jl K.length;obtain⟨ne',z6⟩:=jl (cu (K.map ai));obtain⟨b7,z5⟩:=jl ((fw L A ne (K.map ai)).length);rw[<-y9,<-h4,<-y8]at a6;rw[<-h4,<-y8,<-z6,<-z5]at a8;rw[<-y9]at Y h7⊢;rw[<-h4];have HE:=jq (And.intro z6 z5);have c8:=jq (And.intro h6 z7);obtain⟨⟨c0,c1,c2,c3,c4,c5⟩,f0,f1,f2,f3,f4,f5⟩:=h7.out.cells;clear a7 h5 b6 hH X b1 hr b2 hL a0 a4 z9 Z y9 h4 y8 z6 z5 d4 b3 b4 hF b5 d3 d0 a9 hK
 go_enter func32,ntmps32
 go_wp2_with fail
 rw[<-Y,<-h6,show xb+1=rb by omega];clear Y h6 z7 c0 c1 c2 c3 c4 c5 f0 f1 f2 f3 f4 f5;refine a6.out.mono ?_;rintro e w1 ⟨a1,c1,rfl,b9,b8⟩;have h0:=h7.out.later b8.out;have c6:=jq (a8.out w1 a1 c1 h0.below b9.out);obtain⟨⟨x0,x1,x2,x3,x4,x5⟩,-⟩:=h0.cells;have u:=jq h0;clear h0
 go_wp2_with fail
 go_cut[9,10] (λs9 d8 wx=>∃(zb aN:Nat) (h aG:Option Addr),s9=.pointer (some ⟨zb,0,none⟩)/\d8=.slice aG b7 aN/\Hid (dB w wx xb rb (.slice ha hn hc) (.string sp) (.int .i64 wd) (.int .i64 rm) (.slice mh hl mc) (.int .i64 ne))/\Hid (Blk wx zb 35 #[.string sp,.int .i64 wd,.int .i64 rm,.slice h 0 0,.int .i64 ne'])/\Hid (bR w1.heap.size wx an aG L (fw L A ne (K.map ai))))
 case first=>
  obtain⟨⟨p0,p1,p2,p3,p4,p5⟩,-⟩:=(u.out.later ((Below.refl w1.heap.size w1).alloc jn (.cells #[.string ⟨#[]⟩,.int .i64 0,.int .i64 0,.slice none 0 0,.int .i64 0] 35))).cells
  go_region_law ((first|(have hq:=T.out;clear hq;go_simp;go_at_call 65;refine(c7.out _ (by first|exact Below.refl _ _|exact(Below.refl _ _).alloc jn _)).mono ?_;rintro e w3 ⟨h,aG,aN,rfl,G,U⟩;first|(have f:=x8.out.below U.out x8.out.lt;have M:=f.cell 0;have g0:=f.frozen 0;have N:=f.cell 1;have g1:=f.frozen 1;have O:=f.cell 2;have g2:=f.frozen 2;have P:=f.cell 3;have g3:=f.frozen 3;have R:=f.cell 4;have g4:=f.frozen 4;have x7:=jq f;clear f;simp at M N O P R)|(have f:=(Blk.new w2 35 #[.string ⟨#[]⟩,.int .i64 0,.int .i64 0,.slice none 0 0,.int .i64 0]).below U.out (Blk.new w2 35 #[.string ⟨#[]⟩,.int .i64 0,.int .i64 0,.slice none 0 0,.int .i64 0]).lt;have M:=f.cell 0;have g0:=f.frozen 0;have N:=f.cell 1;have g1:=f.frozen 1;have O:=f.cell 2;have g2:=f.frozen 2;have P:=f.cell 3;have g3:=f.frozen 3;have R:=f.cell 4;have g4:=f.frozen 4;have x7:=jq f;clear f;simp at M N O P R)|skip)|(go_simp;go_at_call 39;refine(c6.out _ (by first|exact(Below.refl _ _).drew|exact((Below.refl _ _).alloc jn _).drew)).mono ?_;rintro e w2 ⟨a2,c2,rfl,T,c7⟩;have a5:Below w1.heap.size w1 w2:=(by first|exact((Below.refl _ w1).drew).trans T.out|exact(((Below.refl _ w1).alloc jn _).drew).trans (T.out.mono (by simp[World.drew])));have y7:=u.out.later a5;obtain⟨⟨y0,y1,y2,y3,y4,y5⟩,-⟩:=y7.cells;obtain⟨⟨q0,q1,q2,q3,q4,q5⟩,-⟩:=(y7.later ((Below.refl w2.heap.size w2).alloc jn (.cells #[.string ⟨#[]⟩,.int .i64 0,.int .i64 0,.slice none 0 0,.int .i64 0] 35))).cells;have x6:=jq a5;clear a5 y7;first|(have x8:=jq ((Blk.drew (Blk.new w1 35 #[.string ⟨#[]⟩,.int .i64 0,.int .i64 0,.slice none 0 0,.int .i64 0])).below T.out (Blk.drew (Blk.new w1 35 #[.string ⟨#[]⟩,.int .i64 0,.int .i64 0,.slice none 0 0,.int .i64 0])).lt))|skip)))
  all_goals clear p0 p1 p2 p3 p4 p5 q0 q1 q2 q3 q4 q5 y0 y1 y2 y3 y4 y5 x0 x1 x2 x3 x4 x5
  all_goals have d5:Below w2.heap.size w2 w3:=by first|exact U.out|exact((Below.refl _ w2).alloc jn _).trans (U.out.mono (by simp))
  all_goals have a3:=x6.out.trans (d5.mono x6.out.size)
  all_goals have e6:=u.out.below.size
  all_goals have d7:=x6.out.size
  all_goals go_wp2_with fail
  all_goals go_meet
  all_goals first
   |(refine⟨w1.heap.size,aN,h,aG,rfl,rfl,?_⟩;obtain⟨C,D,h3⟩:=Jl u.out a3 x7.out jn h9.out G.out (by have:=x8.out.lt;omega) (.string sp) (.int .i64 wd) (.int .i64 rm) (.slice h 0 0) (.int .i64 (ne':Int));exact⟨jq C,jq D,jq h3⟩)
   |(refine⟨w2.heap.size,aN,h,aG,rfl,rfl,?_⟩;obtain⟨C,D,h3⟩:=Jl u.out a3 x7.out d7 h9.out G.out (by simp) (.string sp) (.int .i64 wd) (.int .i64 rm) (.slice h 0 0) (.int .i64 (ne':Int));exact⟨jq C,jq D,jq h3⟩)
   |(refine⟨w3.heap.size,aN,h,aG,rfl,rfl,jq (((u.out.later a3).later ((Below.refl _ w3).alloc jn _))),jq (Blk.new w3 _ _),jq ((G.out.later ((Below.refl _ w3).alloc jn _)).mono (by omega))⟩)
 case rest=>
  obtain⟨zb,aN,h,aG,rfl,rfl,h8,I,G⟩:=hcut;have M:=I.out.cell 0;have N:=I.out.cell 1;have O:=I.out.cell 2;have P:=I.out.cell 3;have R:=I.out.cell 4
  simp at M N O P R
  obtain⟨⟨u0,u1,u2,u3,u4,u5,r0,r1,r2,r3,r4,r5⟩,y0,y1,y2,y3,y4,y5⟩:=h8.out.res;clear x0 x1 x2 x3 x4 x5
  go_wp2_with fail
  obtain⟨d1,hu⟩:=h8.out.ends (.slice none 0 0) (.string sp) (.int .i64 wd) (.int .i64 rm) (.slice h 0 0) (.int .i64 ne');obtain⟨x,e1,e2,e3,e4,e5⟩:=gB d1;refine bodyPost_ret (v:=.tuple #[.agg #[.slice none 0 0,.string sp,.int .i64 wd,.int .i64 rm,.slice h 0 0,.int .i64 ne'],.slice aG b7 aN,.int .i64 0]) (by simp[results,Tryz.f32,go_sem,x,e1,e2,e3,e4,e5]) rfl ?_;refine⟨h,aG,aN,by rw[HC.out,<-HE.out.1,<-HE.out.2],?_,h8.out.done hu⟩;have d6:=u.out.bx.lt;obtain⟨_,_,_,_,_,_,z8⟩:=u.out.br;have z8:=z8.lt;have d9:=c8.out;exact(G.out.upon h9.out ⟨by omega,d6⟩ ⟨by omega,z8⟩ hu).mono u.out.below.size
end Vp
namespace Vp
open Go.RowKit Go.Deep Mem Crc Merge aX Full bQ
open Runs (aW Fi rname oz bR sV dm qh fw Hz cu oh Bd rG Bc nk runsR)
open Store (Sto Files nv)
variable {B p i:Nat}{o:Option Obj}{w w':World}{S:VD}
theorem aO.ok(h:aO B p o i w S):S.A.ok:=h.live.aF.room.2.1
theorem aO.le(h:aO B p o i w S):∀q∈S.Hd,q.1<=av/\q.2<=av:=λq hq=>⟨(h.live.held.ok q hq).1,(h.live.held.ok q hq).2.2⟩
theorem aO.ctr(h:aO B p o i w S){w3:World}(j:Upon (λk=>k=p) w w3):aL (bL B S.s S.d 400 o S.H) S.A S.rm S.D w3 S.c S.x S.hb S.ne S.F S.Hd S.n:=h.live.keep j (λg f e=>h.pD (by rw[<-e];exact f))
theorem UG(H:List KC):dP H<=1:=by unfold dP;split <;> omega
theorem Jm(L:List FF)(A:Fi)(ne:Nat)(H:List KC): (eX L A ne H).length<=L.length+1:=by
 unfold eX
 split
 ·omega
 ·exact rG _ _ _
theorem UH(h:aO B p o i w S)(M:i<=60)(v1 v2 v3 v4 v5 m u:Value):Calls prog 8 #[.pointer (some ⟨p,0,none⟩),.agg #[.int .i64 1,v1,v2,v3,v4,v5,m,u]] w (lZ B p o i S w):=by
 have N:=h.few;have P:=h.ni;have O:=h.li;have J:=UG S.Hd;refine(UB h [] (eX S.L S.A S.ne S.Hd) (S.ne+dP S.Hd) (λV z=>?_) (CT:=λw3 I=>∃D',kz (bL B S.s S.d 400 o S.H) S.A S.rm S.D w3 I S.c S.x S.hb (S.ne+dP S.Hd) (iY S.A S.F S.ne S.Hd) [] (S.n+dP S.Hd) D') (λw3 j=>xA (h.ctr j) (by omega) (by omega)) v1 v2 v3 v4 v5 m u).mono ?_
 ·have k:=h.later z;refine(I9 S.A h.ok rfl S.Hd S.L S.mh S.an S.xh S.mc S.nc S.xl S.xc S.ne V k.ml.lies k.nl.lies h.le h.live.room (by omega) (by omega)).mono ?_;rintro e w' ⟨G,mc',aG,aN,rfl,v,y⟩;exact⟨⟨none,0,G,0,mc',aG,aN⟩,rfl,y,.inr ⟨.inl rfl,λg C=>by cases C⟩,v⟩
 ·rintro e w' ⟨rfl,r,w3,j,hb,E,D',f⟩;exact .inl ⟨rfl,h.uW E j hb f.ctr f.dom f.upon (Jj h.runs) (Jg h.dF _ _ _) (h.okF.fl _ _ _) (by omega) (Jm _ _ _ _) (by have:=Jh h.dF S.A S.ne S.Hd;simp only[List.length_nil];omega)⟩
theorem UI(h:aO B p o i w S)(N:i<=60)(v1 v2 v3 v4 v5 m u:Value):Calls prog 8 #[.pointer (some ⟨p,0,none⟩),.agg #[.int .i64 4,v1,v2,v3,v4,v5,m,u]] w (lZ B p o i S w):=by
 have O:=h.few;have R:=h.ni;have P:=h.li;refine(UC h (dm S.L S.A.pf S.ne) 0 (λV C=>?_) (CT:=λw3 M=>∃D',kz (bL B S.s S.d 400 o S.H) S.A S.rm S.D w3 M S.c S.x S.hb 0 (Runs.iW S.F S.A.pf S.ne) [] (S.n+S.ne) D') (λw3 k=>Ta (h.ctr k) (by omega) h.runs) v1 v2 v3 v4 v5 m u).mono ?_
 ·have v:=h.later C;refine(Bc S.A h.ok S.L S.xh S.an S.xl S.xc S.nc S.ne V (by omega) v.nl.lies (by omega)).mono ?_;rintro e w' ⟨J,aG,aN,rfl,-,y,z⟩;exact⟨⟨none,0,J,0,0,aG,aN⟩,rfl,z,.inr ⟨.inl rfl,λg E=>by cases E⟩,y⟩
 ·rintro e w' ⟨rfl,r,w3,k,hb,I,D',f⟩;exact .inl ⟨rfl,h.uW I k hb f.ctr f.dom f.upon (λj G=>absurd G (je j)) (oh h.dF _ _) (h.okF.rm _ _) (by omega) (Nat.le_succ_of_le (qh _ _ _)) (by have:=Jd S.L S.A.pf S.ne;simp only[List.length_nil];omega)⟩
theorem aO.read(h:aO B p o i w S)(j:i<=60):∃ls,runsR S.A S.F S.ne=some ls/\bE (dm S.L S.A.pf S.ne)+ls.flatten.length<=bE S.L/\(∀l∈ls,∀b∈l,b.length=16)/\(∀nm b,S.F nm=some b->b.length<=10000)/\S.Hd.length<=120/\ls.flatten.length<=120/\(S.Hd.map ai++ls.flatten).length=S.Hd.length+ls.flatten.length:=by
 have u:=h.vi;have k:=h.few;obtain⟨ls,e,f⟩:=Jf (A:=S.A) rfl h.dF h.okF (by omega) S.ne h.runs (by omega);exact⟨ls,e,f,λl hl=>((nk e).2 l hl).1,λnm b hb=>by have:=dS.short h.dF (m:=120) (by omega) nm b hb;omega,by omega,by omega,by rw[jL,jP]⟩
theorem Jo(H:List KC)(ls:List (List (List UInt8))): (bC H ls).length=(H.map ai++ls.flatten).length:=by
 unfold bC;rw[jP,(Runs.dJ _).length_eq]
theorem UJ(h:aO B p o i w S)(N:i<=60)(v1 v2 v3 v4 v5 G I:Value):Calls prog 8 #[.pointer (some ⟨p,0,none⟩),.agg #[.int .i64 6,v1,v2,v3,v4,v5,G,I]] w (lZ B p o i S w):=by
 have h0:=h.few;have h5:=h.ni;have h1:=h.li;obtain⟨ls,z,r2,C,E,r5,r6,Y⟩:=h.read N;have R:=Bu (H:=S.Hd) C;obtain⟨-,v⟩:=qp (H:=S.Hd) C;have y:=uR (bC S.Hd ls);rw[Jo,Y]at y;obtain⟨⟨m,m2,U⟩,-⟩:=Bq _ R (λq hq=>(v q hq).2);obtain⟨K,hK⟩:=jl (merged (bC S.Hd ls))
 have f:∀q∈K,q.1<=av/\q.2<=av:=by
  rw[hK]
  exact λq hq=>⟨by
   obtain⟨a,ha,e⟩:=(m2 q.1).1 ⟨q,hq,rfl⟩;rw[<-e];exact(v a ha).1,by rw[U q hq];exact uN _⟩
 have h7:cu (K.map ai)<=1:=by unfold cu;split <;> omega
 rw[<-hK]at y m;refine(UD h [] (fw S.L S.A S.ne (K.map ai)) (cu (K.map ai)) (λV O=>?_) (CT:=λw3 Z=>∃D',kz (bL B S.s S.d 400 o S.H) S.A S.rm S.D w3 Z S.c S.x S.hb (cu (K.map ai)) (Runs.gI S.F S.A S.ne (K.map ai)) [] (S.n+S.ne+cu (K.map ai)) D') (λw3 k=>Uq (h.ctr k) z (by omega) h.runs (λnm b hb=>by have:=E nm b hb;omega) (by omega) (by omega) K hK) v1 v2 v3 v4 v5 G I).mono ?_
 ·have u:=h.later O;refine(UF S.A h.ok rfl S.Hd S.L S.F ls K hK S.mh S.an S.xh S.mc S.nc S.xl S.xc S.ne V u.ml.lies u.nl.lies h.le h.live.room (by omega) (by omega) h.dF z h.runs E (by omega) (by omega) f).mono ?_;rintro e w' ⟨X,aG,aN,rfl,J,M⟩;exact⟨⟨none,0,X,0,0,aG,aN⟩,rfl,M,.inr ⟨.inl rfl,λg P=>by cases P⟩,J⟩
 ·rintro e w' ⟨rfl,r,w3,k,hb,T,D',j⟩;have h8:=Uy h.dF S.A S.ne m (λq hq=>(f q hq).1);exact .inl ⟨rfl,h.uW T k hb j.ctr j.dom j.upon Uz (Bd h.dF _ _ _) (h.okF.Ux _ _ m (λq hq=>(f q hq).1)) (by omega) (Hz _ _ _ _) (by simp only[List.length_nil];omega)⟩
end Vp
namespace Vp
open Go.RowKit Go.Deep Mem Crc Merge aX bQ
open Runs (Fi sV bR rname kC Hr Hu)
open Store (nv Files)
attribute [local go_sem] Oper.semAt_some
variable {sp:ByteArray}{a:Option Addr}{c:Nat}
theorem Jp{an:Option Addr}{M nc:Nat}{x:ByteArray}{rm wd u:Int}{m:Nat}{ne A:Int}{w:World}(h:Calls prog 18 #[.slice an M nc,.string sp,.int .i64 16,.int .i64 rm] (w.alloc (.cells #[.slice none 0 0,.string ⟨#[]⟩,.int .i64 0,.int .i64 0,.slice none 0 0,.int .i64 0] 37)) λe w'=>e=.returned (.tuple #[.agg #[.string x,.int .i64 wd,.int .i64 u,.slice a m c,.int .i64 ne],.int .i64 A])/\Below (w.heap.size+1) (w.alloc (.cells #[.slice none 0 0,.string ⟨#[]⟩,.int .i64 0,.int .i64 0,.slice none 0 0,.int .i64 0] 37)) w'):
  Calls prog 7 #[.slice an M nc,.string sp,.int .i64 rm] w λe w'=>e=.returned (.tuple #[.agg #[.slice none 0 0,.string x,.int .i64 wd,.int .i64 u,.slice a m c,.int .i64 ne],.int .i64 A])/\Below w.heap.size w w':=by
 have H:=jq h;obtain⟨W1,k⟩:=jl (w.alloc (.cells #[.slice none 0 0,.string ⟨#[]⟩,.int .i64 0,.int .i64 0,.slice none 0 0,.int .i64 0] 37));obtain⟨rb,z⟩:=jl w.heap.size;have G:Below w.heap.size w W1:=by rw[k];exact(Below.refl _ w).alloc jn _
 have I:Blk W1 rb 37 #[.slice none 0 0,.string ⟨#[]⟩,.int .i64 0,.int .i64 0,.slice none 0 0,.int .i64 0]:=by rw[k,z];exact Blk.new w _ _
 have C:=jq G;have P:=jq I;have D:=jq z;have h1:=jq (show W1.heap.size=w.heap.size+1 by rw[k];simp);clear h G I
 go_enter func7,ntmps7
 go_wp2_with fail
 refine H.out.mono ?_;rintro e w2 ⟨rfl,y⟩;rw[<-k]at y;rw[<-z];have J:Blk w2 rb 37 #[.slice none 0 0,.string ⟨#[]⟩,.int .i64 0,.int .i64 0,.slice none 0 0,.int .i64 0]:=P.out.below y (by have:=D.out;omega);have f:=J.alloc (.cells #[.string x,.int .i64 wd,.int .i64 u,.slice a m c,.int .i64 ne] 35);obtain⟨r0,r1,r2,r3,r4,r5⟩:=gB f;have y0:=f.frozen 0;have y1:=f.frozen 1;have y2:=f.frozen 2;have y3:=f.frozen 3;have y4:=f.frozen 4;have y5:=f.frozen 5;have N:=jq y;have O:=jq f;clear k z y J f
 go_wp2_with fail
 have h0:=(((((O.out.set 0 (.slice none 0 0)).set 1 (.string x)).set 2 (.int .i64 wd)).set 3 (.int .i64 u)).set 4 (.slice a m c)).set 5 (.int .i64 ne);obtain⟨R,T,U,X,Y,Z⟩:=gB h0;refine bodyPost_ret (v:=.tuple #[.agg #[.slice none 0 0,.string x,.int .i64 wd,.int .i64 u,.slice a m c,.int .i64 ne],.int .i64 A]) (by simp[results,Tryz.f7,go_sem,R,T,U,X,Y,Z]) rfl ⟨rfl,?_⟩;have j:w.heap.size<=rb:=by rw[D.out];exact aj _
 have hz:=C.out.size;have E:Below w.heap.size w w2:=C.out.trans (N.out.mono (by omega));exact((((((E.alloc E.size _).setCell (p:=⟨rb,0,none⟩) j _).setCell (p:=⟨rb,1,none⟩) j _).setCell (p:=⟨rb,2,none⟩) j _).setCell (p:=⟨rb,3,none⟩) j _).setCell (p:=⟨rb,4,none⟩) j _).setCell (p:=⟨rb,5,none⟩) j _
theorem Jq(A:Fi)(v:A.ok)(z:A.wd=16)(L:List FF)(F:Files)(an:Option Addr)(nc ne:Nat)(w:World)(y:aQ L F)(x:∀j,j<ne->F (rname A.pf j)≠none)(hl:F (rname A.pf ne)=none)(u:ne<=L.length)(m:Lies w an (aU L))(k:L.length<=100000):
  Calls prog 7 #[.slice an L.length nc,nv A.pf,.int .i64 A.rm] w λe w'=>e=.returned (.tuple #[cV A none 0 0 none 0 0 ne,.int .i64 0])/\Below w.heap.size w w':=by
 have h:=Hu A v L F an nc ne (w.alloc (.cells #[.slice none 0 0,.string ⟨#[]⟩,.int .i64 0,.int .i64 0,.slice none 0 0,.int .i64 0] 37)) y x hl u (m.later ((Below.refl _ w).alloc jn _)) k;unfold sV at h;unfold cV;rw[z]at h⊢;unfold nv at h⊢;refine Jp (h.mono ?_);rintro e w' ⟨rfl,f⟩;rw[World.size_alloc]at f;exact⟨rfl,f⟩
theorem UK(a:Option Addr)(n c:Nat)(sp:ByteArray)(rm:Int)(w:World)(h:¬kC sp.size 16 rm):
  Calls prog 7 #[.slice a n c,.string sp,.int .i64 rm] w λe w'=>e=.returned (.tuple #[.agg #[.slice none 0 0,.string ⟨#[]⟩,.int .i64 0,.int .i64 0,.slice none 0 0,.int .i64 0],.int .i64 1])/\Below w.heap.size w w':=by
 refine Jp ((Hr a n c sp 16 rm _ h).mono ?_);rintro e w' ⟨rfl,f⟩;rw[World.size_alloc]at f;exact⟨rfl,f⟩
theorem Jr(K:List KC)(a b:Option Addr)(c d:Nat)(w:World)(m:Lies w a (K.flatMap aH))(u:Lies w b (K.flatMap aH))(P:K.length<=1000000):
  Calls prog 13 #[.slice a K.length c,.slice b K.length d] w λe w'=>e=.returned (.bool true)/\Below w.heap.size w w':=by
 obtain⟨n,h⟩:=jl K.length;rw[<-h]at P⊢;have N:=jq h;have I:=jq m;have J:=jq u;have X: ((n:Int)==(n:Int))=true:=by simp
 clear h m u
 go_enter func13,ntmps13
 go_wp2_with fail
 go_loopw[13] (λi wr=>∃k:Nat,k<=n/\i=.int .i64 (k:Int)/\Hid (Below w.heap.size w wr)) (λi _=>n-(intOf i).toNat)
 case atStart=>exact⟨0,by omega,rfl,jq (Below.refl _ _)⟩
 case round=>
  obtain⟨k,U,rfl,f⟩:=hrel
  by_cases hlt:k<n
  ·have O:decide (k<n)=true:=jd hlt;obtain⟨p,j⟩:∃p,K[k]? =some p:=⟨_,jg (by rw[<-N.out];exact hlt)⟩;obtain⟨g,off,rfl,A,C,D,-⟩:=nH (I.out.later f.out) j;obtain⟨T,Y,rfl,r0,E,G,-⟩:=nH (J.out.later f.out) j;obtain⟨Z,y⟩:=jl (p.1/4294967296);obtain⟨vn,z⟩:=jl (p.1%4294967296);obtain⟨R,x⟩:=jl p.2;rw[<-y]at A r0;rw[<-z]at C E;rw[<-x]at D G;clear j y z x
   go_wp2_with fail
   go_quiet (fail)
   have v:Below w.heap.size w (wr.drewN nq):=f.out.trans ⟨rfl,rfl,rfl,aj _,λ_ _=>rfl⟩;have M:=jq v;clear v A C D r0 E G
   go_wp2_with fail
   go_roundw
   case rel=>exact⟨k+1,by omega,by go_num,M⟩
   case measure=>simp[intOf];omega
  ·obtain rfl:k=n:=by omega
   have O:decide (k<k)=false:=jf (by omega)
   go_wp2_with fail
   go_ret
   exact⟨rfl,f.out⟩
theorem UL(v0:Value){n:Nat}{wd rm ne:Int}{m:Option Addr}{k d:Nat}(j u:Nat)(w:World)(h:v0=.agg #[.slice a n c,.string sp,.int .i64 wd,.int .i64 rm,.slice m k d,.int .i64 ne])(an:Option Addr)(f nc:Nat):
  Calls prog 19 #[v0,.slice an f nc,.agg #[.int .u32 (j:Int),.int .u32 (u:Int),.int .u64 0]] w λe w'=>e=.returned (.tuple #[v0,.slice an f nc])/\Below w.heap.size w w':=by
 subst h
 go_enter func19,ntmps19
 go_wp2_with fail
 refine bodyPost_ret (v:=.tuple #[.agg #[.slice a n c,.string sp,.int .i64 wd,.int .i64 rm,.slice m k d,.int .i64 ne],.slice an f nc]) (by simp[results,Tryz.f19,go_sem]) rfl ⟨rfl,?_⟩;exact(((Below.refl _ w).alloc jn _).alloc (by simp) _).alloc (by simp;omega) _
end Vp
namespace Vp
open Go.RowKit Go.Deep Mem Crc Merge aX Full bQ
open Runs (aW Fi rname oz bR)
open Store (Sto Files nv)
structure yo(B p:Nat)(o:Option Obj)(s d rm n:Nat)(H F:Files)(A:Fi)(Q:Nat->Prop)(L:List FF)(fa:Option Addr)(fc:Nat)(lq:Value)(w w':World)(c x hb ne:Nat)(D:Nat->Prop):Prop where
 ctr:aL (bL B s d 400 o H) A rm D w' c x hb ne F [] n
 dom:∀k,D k->Q k\/w.heap.size<=k
 lc:w.heap.size<=c
 lh:w.heap.size<=hb
 runs:∀j,j<ne->F (rname A.pf j)≠none
 blk:Blk w' p 43 #[.pointer (some ⟨d,0,none⟩),.pointer (some ⟨s,0,none⟩),.pointer (some ⟨c,0,none⟩),.slice none 0 0,nv A.pf,.int .i64 16,.int .i64 rm,.slice none 0 0,.int .i64 ne,.slice fa L.length fc,lq]
 upon:Upon (λk=>k=p) w w'
variable {p:Nat}{t:TypeId}{a2 a3 a7 a9 lq:Value}{W w3:World}
theorem UM{V:World}{a0 a1 a4 a5 a6 a8:Value}(h:Blk V p t #[a0,a1,a2,a3,a4,a5,a6,a7,a8,a9,lq])(v2 v3 v4 v5 e f j m:Value):
  Blk ((((((((V.setCell ⟨p,2,none⟩ v2).setCell ⟨p,3,none⟩ v3).setCell ⟨p,4,none⟩ v4).setCell ⟨p,5,none⟩ v5).setCell ⟨p,6,none⟩ e).setCell ⟨p,7,none⟩ f).setCell ⟨p,8,none⟩ j).setCell ⟨p,9,none⟩ m) p t #[a0,a1,v2,v3,v4,v5,e,f,j,m,lq]/\Upon (λk=>k=p) V ((((((((V.setCell ⟨p,2,none⟩ v2).setCell ⟨p,3,none⟩ v3).setCell ⟨p,4,none⟩ v4).setCell ⟨p,5,none⟩ v5).setCell ⟨p,6,none⟩ e).setCell ⟨p,7,none⟩ f).setCell ⟨p,8,none⟩ j).setCell ⟨p,9,none⟩ m):=by
 obtain⟨u,v⟩:=pX (by simpa using h.set 2 v2) v3 v4 v5 e f j m;exact⟨u,(Upon.set (P:=λk=>k=p) (Upon.refl _ _) (p:=⟨p,2,none⟩) (.inl rfl) _).trans v (λk x=>.inl x)⟩
theorem Js(e:Below W.heap.size W w3)(t:TypeId)(cs:Array Value):Hid (Blk (w3.alloc (.cells cs t)) w3.heap.size t cs)/\Hid (Below W.heap.size W (w3.alloc (.cells cs t))/\W.heap.size<=w3.heap.size):=⟨jq (Blk.new w3 t cs),jq ⟨e.trans (((Below.refl _ w3).alloc jn _).mono e.size),e.size⟩⟩
theorem UN{e:World}{bx:Nat}{cs:Array Value}(hb:bx=W.heap.size)(f:Below W.heap.size W w3)(h:Blk e bx t cs/\Upon (λk=>k=bx) w3 e):Hid (Blk e bx t cs)/\Hid (Below W.heap.size W e/\W.heap.size<=bx):=⟨jq h.1,jq ⟨f.trans (h.2.below f.size (λk j=>by omega)),by omega⟩⟩
attribute [local go_sem] Oper.semAt_some
theorem Jt{B:Nat}{o:Option Obj}{s d rm n G:Nat}{C:Option Addr}{H F:Files}{w:World}{Q:Nat->Prop}{L:List FF}{m8:Int}(A:Fi)(hs:A.s=s)(h6:A.ok)(T:A.wd=16)(h9:A.rm=rm)(y6: (bL B s d 400 o H).At w Q false F n)(b3:¬Q p)(hb:Blk w p 43 #[.pointer (some ⟨d,0,none⟩),.pointer (some ⟨s,0,none⟩),a2,a3,nv A.pf,.int .i64 16,.int .i64 rm,a7,.int .i64 m8,a9,lq])(hL:Lies w C (aU L))(y0:aQ L F)(hl:L.length<=100000):
  Calls prog 23 #[.pointer (some ⟨p,0,none⟩),.slice C L.length G] w λe w'=>e=.returned (.bool true)/\∃c x hb ne D,yo B p o s d rm n H F A Q L C G lq w w' c x hb ne D:=by
 have h7:=hb.lt;have y1:=jq (kg (bL B s d 400 o H) A hs h6 T rm h9 ((bL B s d 400 o H).later y6 ((Below.refl _ w).drew)));obtain⟨sp,R⟩:∃sp:ByteArray,nv A.pf=.string sp:=⟨_,rfl⟩;obtain⟨u,P⟩:∃z:Int,z=(rm:Int):=⟨_,rfl⟩;rw[R,<-P]at y1 hb
 have Y:Hid (∀V,Below w.heap.size w V->V.cell? ⟨p,1,none⟩=some (.pointer (some ⟨s,0,none⟩))/\V.cell? ⟨p,4,none⟩=some (.string sp)/\V.cell? ⟨p,6,none⟩=some (.int .i64 u)):=jq (λV J=>by
  obtain⟨⟨x0,x1,x2,x3,x4,x5,x6,x7,x8,x9,c0⟩,-⟩:=eleven (hb.below J h7);exact⟨x1,x4,x6⟩)
 have y3:=Y.out w.drew ((Below.refl _ w).drew);obtain⟨U,O⟩:=jl L.length
 have z6:Hid (∀(ne:Nat) (V:World),Below w.heap.size w V->(∀j,j<ne->F (rname A.pf j)≠none)->F (rname A.pf ne)=none->ne<=1000000->Calls prog 7 #[.slice C U G,.string sp,.int .i64 u] V λe w'=>e=.returned (.tuple #[.agg #[.slice none 0 0,.string sp,.int .i64 16,.int .i64 u,.slice none 0 0,.int .i64 ne],.int .i64 0])/\Below V.heap.size V w'):=jq (λne V J h1 h2 h3=>by
  have:=Jq A h6 T L F C G ne V y0 h1 h2 (oz y0 h1 (Nat.lt_of_le_of_lt h3 (by decide))) (hL.later J) hl;unfold cV at this;rw[R,h9,T,<-P,<-O]at this;exact this)
 have y8:=jq hb;rw[<-O];have HE:=jq (And.intro O (And.intro P R));clear y6 hb hL y0 O hl P R hs h6 T h9
 go_enter func23,ntmps23
 go_wp2_with fail
 go_cut[5,6] (λs5 s6 w1=>∃(c x hb ne:Nat) (D:Nat->Prop),s5=.pointer (some ⟨c,0,none⟩)/\s6=.int .i64 0/\Hid (aL (bL B s d 400 o H) A rm D w1 c x hb ne F [] n)/\Hid ((∀k,D k->Q k\/w.heap.size<=k)/\w.heap.size<=c/\w.heap.size<=hb/\(∀j,j<ne->F (rname A.pf j)≠none)/\F (rname A.pf ne)=none)/\Hid (Below w.heap.size w w1))
 case first=>
  go_region_held3 (λw'=>w'.cell? ⟨p,1,none⟩=some (.pointer (some ⟨s,0,none⟩))/\w'.cell? ⟨p,4,none⟩=some (.string sp)/\w'.cell? ⟨p,6,none⟩=some (.int .i64 u)) (first|exact y3|exact z9) (first|(go_at_call 6;refine y1.out.mono ?_;rintro e w1 ⟨c,x,hb,ne,D,rfl,b0,b2,a6,a8,b4,b5,z8⟩;have y2:Below w.heap.size w w1:=((Below.refl _ w).drew).trans z8;have z9:=Y.out w1 y2;dsimp only))
  all_goals go_wp2_with fail
  all_goals go_meet
  all_goals exact⟨c,x,hb,ne,D,rfl,rfl,jq b0,jq ⟨b2,a6,a8,b4,b5⟩,jq y2⟩
 case rest=>
  obtain⟨c,x,hb,ne,D,rfl,rfl,Z,HX,E⟩:=hcut;obtain⟨m,y4⟩:=jl wc;rw[<-y4]at Z E⊢;clear y4 y3
  go_wp2_with fail
  have z7:Hid (∀V,Below m.heap.size m V->Calls prog 7 #[.slice C U G,.string sp,.int .i64 u] V λe w'=>e=.returned (.tuple #[.agg #[.slice none 0 0,.string sp,.int .i64 16,.int .i64 u,.slice none 0 0,.int .i64 ne],.int .i64 0])/\Hid (Below V.heap.size V w')):=jq (λV J=>by
   refine(z6.out ne V (E.out.trans (J.mono E.out.size)) HX.out.2.2.2.1 HX.out.2.2.2.2 Z.out.aF.room.2.2.2.1).mono ?_;rintro e w' ⟨rfl,h⟩;exact⟨rfl,jq h⟩)
  obtain⟨-,q4,q6⟩:=Y.out m E.out;have b9:p<m.heap.size:=aD h7 E.out.size
  go_cut[7,8] (λs7 s8 wx=>∃bx:Nat,s7=.pointer (some ⟨bx,0,none⟩)/\s8=.int .i64 0/\Hid (Blk wx bx 37 #[.slice none 0 0,.string sp,.int .i64 16,.int .i64 u,.slice none 0 0,.int .i64 ne])/\Hid (Below m.heap.size m wx/\m.heap.size<=bx))
  case first=>
   have hq:Hid True:=jq trivial
   go_region_law ((first|(have h8:=hq.out;clear h8;go_simp;go_at_call 7;refine(z7.out _ (by first|exact Below.refl _ _|exact(Below.refl _ _).alloc jn _|exact(Below.refl _ _).drew|exact((Below.refl _ _).alloc jn _).drew)).mono ?_;rintro e w3 ⟨rfl,I⟩;first|(have f:=(Blk.new m 37 #[.slice none 0 0,.string ⟨#[]⟩,.int .i64 0,.int .i64 0,.slice none 0 0,.int .i64 0]).below I.out (Blk.new m 37 #[.slice none 0 0,.string ⟨#[]⟩,.int .i64 0,.int .i64 0,.slice none 0 0,.int .i64 0]).lt;obtain⟨z0,z1,z2,z3,z4,z5⟩:=gB f;have g0:=f.frozen 0;have g1:=f.frozen 1;have N:=f.frozen 2;have g3:=f.frozen 3;have g4:=f.frozen 4;have g5:=f.frozen 5;have h0:=jq f;clear f;dsimp only)|(have f:=(Blk.drew (Blk.new m 37 #[.slice none 0 0,.string ⟨#[]⟩,.int .i64 0,.int .i64 0,.slice none 0 0,.int .i64 0])).below I.out (Blk.drew (Blk.new m 37 #[.slice none 0 0,.string ⟨#[]⟩,.int .i64 0,.int .i64 0,.slice none 0 0,.int .i64 0])).lt;obtain⟨z0,z1,z2,z3,z4,z5⟩:=gB f;have g0:=f.frozen 0;have g1:=f.frozen 1;have N:=f.frozen 2;have g3:=f.frozen 3;have g4:=f.frozen 4;have g5:=f.frozen 5;have h0:=jq f;clear f;dsimp only)|dsimp only)))
   all_goals go_wp2_with fail
   all_goals go_meet
   all_goals first
    |(have h8:=h0.out;clear h8;exact⟨_,rfl,rfl,UN rfl ((((Below.refl _ m).alloc jn _).drew).trans (I.out.mono (kF (qz _ _ _)))) (yh h0.out _ _ _ _ _ _)⟩)
    |exact⟨_,rfl,rfl,Js ((Below.refl _ m).drew.trans I.out) _ _⟩
    |exact⟨_,rfl,rfl,Js I.out _ _⟩
  case rest=>
   obtain⟨bx,rfl,rfl,X,M⟩:=hcut;obtain⟨W2,y5⟩:=jl wc;rw[<-y5]at X M⊢;clear y5 q4 q6;have h4:=E.out.trans (M.out.1.mono E.out.size);have h5:=y8.out.below h4 h7;have y:bx≠p:=by have:=M.out.2;omega
   obtain⟨⟨k0,k1,k2,k3,k4,k5,k6,k7,k8,k9,b6⟩,v⟩:=eleven h5;have f2:=v 2;have f3:=v 3;have f4:=v 4;have f5:=v 5;have f6:=v 6;have f7:=v 7;have f8:=v 8;have f9:=v 9;have a0:=gB X.out.drew;have b1:=X.out.far (p:=⟨p,2,none⟩) y (.pointer (some ⟨c,0,none⟩));have a1:=gB b1.drew;have b7:=((((((b1.far (p:=⟨p,3,none⟩) y (.slice none 0 0)).far (p:=⟨p,4,none⟩) y (.string sp)).far (p:=⟨p,5,none⟩) y (.int .i64 16)).far (p:=⟨p,6,none⟩) y (.int .i64 u)).far (p:=⟨p,7,none⟩) y (.slice none 0 0)).far (p:=⟨p,8,none⟩) y (.int .i64 ne));have a4:=gB b7.drew;have a5:=gB (b7.far (p:=⟨p,9,none⟩) y (.slice C U G)).drew;have y9:=jq h5;have y7:=jq h4;have b8:=jq y;clear b1 b7 h5 h4 v k0 k1 b6
   go_wp2_with fail
   go_region_held3 (λw'=>w'.cell? ⟨bx,0,none⟩=some (.slice none 0 0)/\w'.cell? ⟨bx,1,none⟩=some (.string sp)/\w'.cell? ⟨bx,2,none⟩=some (.int .i64 16)/\w'.cell? ⟨bx,3,none⟩=some (.int .i64 u)/\w'.cell? ⟨bx,4,none⟩=some (.slice none 0 0)/\w'.cell? ⟨bx,5,none⟩=some (.int .i64 ne)) (first|with_reducible exact a0|with_reducible exact a1|with_reducible exact a4|with_reducible exact a5) (skip)
   go_wp2_with fail
   go_ret
   obtain⟨e1,e2,e3⟩:=HE.out;obtain⟨g1,N⟩:=UM y9.out (.pointer (some ⟨c,0,none⟩)) (.slice none 0 0) (.string sp) (.int .i64 16) (.int .i64 u) (.slice none 0 0) (.int .i64 ne) (.slice C U G);obtain⟨x1,x2,x3,x4,-⟩:=HX.out;refine⟨rfl,c,x,hb,ne,D,(((Z.out.later M.out.1).keep N (λg hg e=>?_)).later (Below.refl _ _).drew),x1,x2,x3,x4,by rw[e3,<-e2,<-e1];exact g1.drew,((Upon.of_below y7.out).trans N (λk hk=>.inl hk)).drew⟩;subst e;rcases hg with hg|rfl|rfl
   ·exact(x1 g hg).elim b3 (λh1=>by omega)
   ·omega
   ·omega
variable {B p i:Nat}{o:Option Obj}{w w':World}{S:VD}
theorem aO.Ju(h:aO B p o i w S){s' n' v c x hb ne:Nat}{F':Files}{Q D:Nat->Prop}{L:List FF}{m:Option Addr}{w3 w4:World}(j:yo B p o s' S.d S.rm n' S.H F' ⟨s',S.pf,16,S.rm⟩ Q L m v (.slice S.ah S.LH.length S.hc) w3 w4 c x hb ne D)(E:∀k,Q k->S.D k\/w.heap.size<=k)(A:Upon (λk=>S.D k\/k=p) w w3)(G: (m=S.ah/\L=S.LH)\/(Lies w3 m (aU L)/\∀g,Mem.blk m=some g->(w.heap.size<=g/\g<w3.heap.size)/\¬Q g))(dF:aQ L F')(okF:dS F')(ni:n'<=20000+100*(i+1))(li:L.length<=i+1)(vi:bE L<=2*(i+1)):lY B p o i S w w4:=by
 have P:=A.size;have R:=j.upon.size;have O:=h.blk.lt;obtain⟨-,-,zs⟩:=qy h.live;have hl:=j.lc;have N:=j.lh
 have hd:∀k,VD.DD {S with s:=s',c:=c,x:=x,hb:=hb,D:=D,F:=F',n:=n',ne:=ne,Hd:=[],mh:=none,mc:=0,xh:=none,xl:=0,xc:=0,L:=L,an:=m,nc:=v} k->S.DD k\/w.heap.size<=k:=λk f=>by
  rcases f with f|f|f
  ·rcases j.dom k f with u|u
   ·exact(E k u).imp .inl id
   ·exact .inr (by omega)
  ·have f:k=c:=f;exact .inr (by omega)
  ·have f:k=hb:=f;exact .inr (by omega)
 refine h.next {S with s:=s',c:=c,x:=x,hb:=hb,D:=D,F:=F',n:=n',ne:=ne,Hd:=[],mh:=none,mc:=0,xh:=none,xl:=0,xc:=0,L:=L,an:=m,nc:=v} rfl rfl ((A.mono (λk f=>f.imp .inl id)).trans (j.upon.mono (λk f=>.inr f)) (λk f=>.inl f)) hd j.ctr j.runs j.blk (.inr .none) ?_ (.inl ⟨rfl,rfl⟩) dF h.oC okF h.qw ni li ?_ vi ?_
 ·rcases G with u|⟨u,z⟩
  ·exact .inr (.inl u)
  ·refine .inr (.inr ⟨u.upon j.upon (λg y e=>by have:=z g y;omega),λg y=>?_⟩);obtain⟨⟨I,J⟩,C⟩:=z g y;refine⟨⟨λf=>?_,by omega⟩,by omega,by omega⟩;rcases f with f|f|f
   ·exact(j.dom g f).elim C (λM=>by omega)
   ·have f:g=c:=f
    omega
   ·have f:g=hb:=f
    omega
 ·have:=h.oD;dsimp only;omega
 ·have:=h.qx;dsimp only;omega
theorem UO(h:aO B p o i w S)(h6:i<=60)(v1 v2 v3 v4 v5 v6 v7:Value):Calls prog 8 #[.pointer (some ⟨p,0,none⟩),.agg #[.int .i64 3,v1,v2,v3,v4,v5,v6,v7]] w (lZ B p o i S w):=by
 obtain⟨W1,Y⟩:=jl (w.alloc (.cells #[.int .i64 3,v1,v2,v3,v4,v5,v6,v7] 51));have C:Below w.heap.size w W1:=by rw[Y];exact(Below.refl _ w).alloc jn _
 have u:=h.later C;obtain⟨Q,R,hv,vs,y⟩:=u.live.aF;have m:¬Q p:=λhq=>h.pD (.inl (y.q p hq))
 have y0:Hid (Calls prog 16 #[.pointer (some ⟨S.d,0,none⟩)] W1 λe w'=>∃s' Q',e=.returned (.tuple #[.pointer (some ⟨s',0,none⟩),.int .i64 0])/\Hid ((bL B s' S.d 400 o S.H).At w' Q' false S.H 20000)/\Hid (∀k,Q' k->Q k\/W1.heap.size<=k)/\Hid (Upon Q W1 w')):=jq (by
  refine(Uc y.aF.fq).mono ?_;rintro e w' ⟨s',Q',rfl,a,b,c⟩;exact⟨s',Q',rfl,jq a,jq b,jq c⟩)
 have E:=u.blk;obtain⟨hn,G⟩:=jl S.LH.length
 have N:Hid (∀V s',Blk V p 43 (VD.cells {S with s:=s'})->V.cell? ⟨p,0,none⟩=some (.pointer (some ⟨S.d,0,none⟩))/\V.cell? ⟨p,1,none⟩=some (.pointer (some ⟨s',0,none⟩))/\V.cell? ⟨p,10,none⟩=some (.slice S.ah hn S.hc)):=jq (λV s' hV=>by
  obtain⟨⟨x0,x1,x2,x3,x4,x5,x6,x7,x8,x9,y6⟩,-⟩:=eleven hV;rw[G];exact⟨x0,x1,y6⟩)
 obtain⟨c0,-,-⟩:=N.out _ _ E;have U:=jq y.q;have O:=jq m;have h8:=jq E;have M:=jq C;have y1:=jq u;have j:=jq h;have h9:=jq G;clear u h C E G y m;subst Y
 go_enter func8,ntmps8
 go_wp2_with fail
 refine y0.out.mono ?_;rintro e w2 ⟨s',Q',rfl,HA,T,X⟩;have v:=h8.out.upon X.out O.out;obtain⟨e0,e1,y3⟩:=N.out _ S.s v;have g1:=v.frozen 1;have h7:=jq v;clear v c0
 go_wp2_with fail
 obtain⟨w5,z⟩:=jl (w2.setCell ⟨p,1,none⟩ (.pointer (some ⟨s',0,none⟩)));rw[<-z]
 have h0:Blk w5 p 43 (VD.cells {S with s:=s'}):=by
  have:=h7.out.set 1 (.pointer (some ⟨s',0,none⟩));rw[<-z]at this;unfold VD.cells at this⊢
  simpa using this
 have J:Upon (λq=>q=p) w2 w5:=by rw[z];exact Upon.set (P:=λq=>q=p) (Upon.refl _ w2) (p:=⟨p,1,none⟩) (.inl rfl) _
 have y4:=j.out.blk.lt;have y5:=M.out.size;have m:¬Q' p:=λf=>(T.out p f).elim O.out (λh=>by omega)
 have Z: (bL B s' S.d 400 o S.H).At w5 Q' false S.H 20000:=(bL B s' S.d 400 o S.H).upon HA.out J (λk f hq=>m (by have f:k=p:=f;rw[<-f];exact hq));have I:=(X.out.mono (λk f=>(.inl (U.out k f):S.D k\/k=p))).trans J (λq hq=>.inl (.inr hq));have h2:=(y1.out.hl.step (I.mono (λk f=>f.imp .inl id)) (λk f=>.inl f)).lies;have h3: (⟨s',S.pf,16,S.rm⟩:Fi).ok:=j.out.ok
 have h5:Hid (Calls prog 23 #[.pointer (some ⟨p,0,none⟩),.slice S.ah hn S.hc] w5 λe w'=>e=.returned (.bool true)/\∃c x hb ne D,yo B p o s' S.d S.rm 20000 S.H S.H ⟨s',S.pf,16,S.rm⟩ Q' S.LH S.ah S.hc (.slice S.ah S.LH.length S.hc) w5 w' c x hb ne D):=jq (by
  rw[h9.out];exact Jt ⟨s',S.pf,16,S.rm⟩ rfl h3 rfl rfl Z m h0 h2 j.out.oC (by have:=j.out.oD;omega))
 have y2:=jq ((Upon.of_below M.out).trans I (λk f=>.inl f));clear z h0 J m Z I h2 h3 e0 e1 y3 g1 y4;refine h5.out.mono ?_;rintro e w6 ⟨rfl,c,x,hb,ne,D,ha⟩;have h4:=jq ha;clear ha
 go_wp2_with fail
 go_ret2
 have y7:=j.out.oD;have y8:=j.out.qx;exact .inl ⟨rfl,j.out.Ju h4.out (λk f=>(T.out k f).elim (λA=>.inl (U.out k A)) (λA=>.inr (ax y5 A))) y2.out (.inl ⟨rfl,rfl⟩) j.out.oC j.out.qw (by omega) (by omega) (by omega)⟩
open Runs (strB aR sortB dJ qb xF wL nZ H6 xZ rH rG)
open Store (setF fF fG)
theorem UQ(h:aO B p o i w S)(h6:i<=60)(s1 u1 c1 s2 u2 c2 nn:Nat)(k0:s1<4294967296)(k9:u1<4294967296)(j4:c1<=av)(k7:s2<4294967296)(l0:u2<4294967296)(j5:c2<=av)(m5:nn<256):Calls prog 8 #[.pointer (some ⟨p,0,none⟩),.agg #[.int .i64 5,.int .u32 (s1:Int),.int .u32 (u1:Int),.int .u64 (c1:Int),.int .u32 (s2:Int),.int .u32 (u2:Int),.int .u64 (c2:Int),.int .u8 (nn:Int)]] w (lZ B p o i S w):=by
 obtain⟨sp,a9⟩:∃s:ByteArray,nv S.pf=.string s:=⟨_,rfl⟩;obtain⟨sn,h4⟩:∃s:ByteArray,nv (rname S.pf (nn%3))=.string s:=⟨_,rfl⟩;obtain⟨rm,d2⟩:∃z:Int,z=(S.rm:Int):=⟨_,rfl⟩;obtain⟨m,b8⟩:=jl w.heap.size;obtain⟨W1,a4⟩:=jl (w.alloc (.cells #[.int .i64 5,.int .u32 (s1:Int),.int .u32 (u1:Int),.int .u64 (c1:Int),.int .u32 (s2:Int),.int .u32 (u2:Int),.int .u64 (c2:Int),.int .u8 (nn:Int)] 51));have b3:Below w.heap.size w W1:=by rw[a4];exact(Below.refl _ w).alloc jn _
 have P:Blk W1 m 51 #[.int .i64 5,.int .u32 (s1:Int),.int .u32 (u1:Int),.int .u64 (c1:Int),.int .u32 (s2:Int),.int .u32 (u2:Int),.int .u64 (c2:Int),.int .u8 (nn:Int)]:=by rw[a4,b8];exact Blk.new w _ _
 have h9:=h.later b3;have g6:=h.ok;obtain⟨k1,k2,k3,k4,k5,k6⟩:=id g6;have T:=h9.cells a9;rw[<-d2]at T
 have i4:Hid (∀V,Calls prog 26 #[.agg #[.string sp,.int .i64 16,.int .i64 rm,.slice S.xh S.xl S.xc,.int .i64 S.ne],.int .i64 (IntKind.i64.wrap ((nn:Int).tmod 3))] V λe w'=>e=.returned (.string sn)/\Below V.heap.size V w'):=jq (λV=>by
  rw[show IntKind.i64.wrap ((nn:Int).tmod 3)=((nn%3:Nat):Int)by rw[qD (by omega),IntWalk.i64_in _ (by omega)];omega];have:=qb S.pf k2 16 rm S.ne S.xh S.xl S.xc (nn%3) (by omega) V;rw[a9,h4]at this;exact this)
 have HC:Hid (∀V,Below W1.heap.size W1 V->V.cell? ⟨p,4,none⟩=some (.string sp)/\V.cell? ⟨p,5,none⟩=some (.int .i64 16)/\V.cell? ⟨p,6,none⟩=some (.int .i64 rm)/\V.cell? ⟨p,7,none⟩=some (.slice S.xh S.xl S.xc)/\V.cell? ⟨p,8,none⟩=some (.int .i64 S.ne)/\V.cell? ⟨m,7,none⟩=some (.int .u8 (nn:Int))):=jq (λV hV=>by
  obtain⟨⟨x0,x1,x2,x3,x4,x5,x6,x7,x8,x9,n0⟩,-⟩:=eleven (T.below hV T.lt);exact⟨x4,x5,x6,x7,x8,cell_of (P.below hV P.lt) 7 _ rfl⟩)
 have m6:IntKind.u8.wrap ((nn:Int).tmod 3)=((nn%3:Nat):Int):=by
  rw[qD (by omega),IntWalk.u8_in _ (by omega)]
  omega
 have m7:IntKind.i64.wrap ((nn%3:Nat):Int)=((nn%3:Nat):Int):=IntWalk.i64_in _ (by omega);obtain⟨f,y⟩:∃l:List (List UInt8),l= [ai (s1*4294967296+u1,c1),ai (s2*4294967296+u2,c2)]:=⟨_,rfl⟩
 have a5:∀r∈f,r.length=16:=λr hr=>by
  rw[y]at hr;rcases List.mem_cons.1 hr with rfl|hr
  ·exact dZ _
  ·rw[jE.1 hr];exact dZ _
 obtain⟨U,h3⟩:∃s:ByteArray,nv (aR f)=.string s:=⟨_,rfl⟩;obtain⟨r1,d0⟩:∃s:ByteArray,s=⟨(ai (s1*4294967296+u1,c1)).toArray⟩:=⟨_,rfl⟩;obtain⟨r2,d1⟩:∃s:ByteArray,s=⟨(ai (s2*4294967296+u2,c2)).toArray⟩:=⟨_,rfl⟩
 have i7:Hid (∀V,Calls prog 29 #[.agg #[.int .u32 (s1:Int),.int .u32 (u1:Int),.int .u64 (c1:Int)]] V λe w'=>e=.returned (.string r1)/\Hid (Below V.heap.size V w')):=jq (λV=>by
  rw[d0];exact(Bo s1 u1 c1 _ rfl k0 k9 j4 V).mono (λe w' G=>⟨G.1,jq G.2⟩))
 have i8:Hid (∀V,Calls prog 29 #[.agg #[.int .u32 (s2:Int),.int .u32 (u2:Int),.int .u64 (c2:Int)]] V λe w'=>e=.returned (.string r2)/\Hid (Below V.heap.size V w')):=jq (λV=>by
  rw[d1];exact(Bo s2 u2 c2 _ rfl k7 l0 j5 V).mono (λe w' G=>⟨G.1,jq G.2⟩))
 have j0:Hid (∀V a c,Lies V a [.string r1,.string r2]->Calls prog 28 #[.slice a 2 c] V λe w'=>∃a' c',e=.returned (.slice a' 2 c')/\Hid (Lies w' a' ((sortB f).map strB))/\Hid (Below V.heap.size V w')):=jq (λV a c E=>by
  have:=wL V a c f (by rw[y];rw[d0,d1]at E;exact E) (by rw[y];simp);rw[show f.length=2 by rw[y];rfl]at this;refine this.mono ?_;rintro e w' ⟨v,rfl,C,h2⟩;obtain⟨a',c',rfl,_,h8,_,_⟩:=own_shape C;exact⟨a',c',rfl,jq h8,jq h2⟩)
 have i9:Hid (∀V a c,Lies V a ((sortB f).map strB)->Calls prog 27 #[.slice a 2 c] V λe w'=>e=.returned (.string U)/\Hid (Below V.heap.size V w')):=jq (λV a c E=>by
  have:=xF a c (sortB f) V E (by rw[nZ a5,y];simp) (by rw[(dJ f).length_eq,y];simp);rw[show(sortB f).length=2 by rw[(dJ f).length_eq,y];rfl,show nv (Frame.bq 82 (sortB f).flatten)=.string U from h3]at this;exact this.mono (λe w' G=>⟨G.1,jq G.2⟩))
 have I:Hid (∀V,Below W1.heap.size W1 V->V.cell? ⟨m,1,none⟩=some (.int .u32 (s1:Int))/\V.cell? ⟨m,2,none⟩=some (.int .u32 (u1:Int))/\V.cell? ⟨m,3,none⟩=some (.int .u64 (c1:Int))/\V.cell? ⟨m,4,none⟩=some (.int .u32 (s2:Int))/\V.cell? ⟨m,5,none⟩=some (.int .u32 (u2:Int))/\V.cell? ⟨m,6,none⟩=some (.int .u64 (c2:Int))):=jq (λV hV=>by
  have hb:=P.below hV P.lt;exact⟨cell_of hb 1 _ rfl,cell_of hb 2 _ rfl,cell_of hb 3 _ rfl,cell_of hb 4 _ rfl,cell_of hb 5 _ rfl,cell_of hb 6 _ rfl⟩)
 obtain⟨nm,b7⟩:=jl (rname S.pf (nn%3));obtain⟨m1,m2⟩:=H6 (pf:=S.pf) k1 k2 (show nn%3<10 by omega);rw[<-b7]at m1 m2 h4;have j9: (aR f).length=45:=by rw[xZ a5,y];rfl
 have g7:U.size=(aR f).length:=by
  have:=h3;unfold nv at this;injection this with this;rw[<-this]
  rfl
 have g5:=h.ni;have b6:=h.li
 have j1:Hid (∀V a cp,Below w.heap.size w V->Lies V a ((aR f).map bv)->Calls prog 30 #[.pointer (some ⟨S.s,0,none⟩),.string sn,.slice a U.size cp] V λe w'=>e=.returned (.int .i64 0)/\∃Q',Hid ((bL B S.s S.d 400 o S.H).At w' Q' false (setF S.F nm (some (aR f))) (S.n+1))/\Hid (∀k,Q' k->S.D k\/V.heap.size<=k)/\Hid (Upon S.D V w')):=jq (λV a cp hV E=>by
  obtain⟨Q,R,hv,vs,hs⟩:=(h.later hV).live.aF;have:=(bL B S.s S.d 400 o S.H).write hs.aF.fq (by omega) nm m1 m2 a cp (aR f) E (by omega);rw[h4,<-g7]at this;refine this.mono ?_;rintro e w' ⟨rfl,Q',a1,a2,a3⟩;exact⟨rfl,Q',jq a1,jq (λk j=>(a2 k j).imp (hs.q k) id),jq (a3.mono hs.q)⟩)
 obtain⟨pn,a8⟩:=jl S.L.length;obtain⟨L',h8⟩:=jl (eO S.L nm (aR f));obtain⟨ql,b9⟩:=jl L'.length
 have i5:Hid (∀V,Lies V S.an (aU S.L)->Calls prog 31 #[.slice S.an pn S.nc,.string sn,.string U] V λe w'=>∃a c,e=.returned (.slice a ql c)/\Hid (Lies w' a (aU L')/\∀g,Mem.blk a=some g->V.heap.size<=g/\g<w'.heap.size)/\Hid (Below V.heap.size V w')):=jq (λV E=>by
  have:=bQ.iN S.an S.nc S.L nm (aR f) V E (by omega);rw[h4,h3,<-a8,<-h8,<-b9]at this;refine this.mono ?_;rintro e w' ⟨v,rfl,C,h2⟩;obtain⟨a',c',rfl,_,j3,hg,_⟩:=own_shape C;exact⟨a',c',rfl,jq ⟨j3,hg⟩,jq h2⟩)
 rw[<-a8]at T;have i3:=jq h9.nl;have e0:=jq h9.pD;have i1:=jq (λW=>bQ.zW (aR f) U h3 W);have d9:=jq (And.intro b7 (And.intro a8 (And.intro h8 b9)));have HE:=jq (And.intro y (And.intro a5 (And.intro h3 (And.intro h4 (And.intro a9 d2)))));have d6:=jq T;have l7:=jq P;have a0:=jq b3;have l8:=jq h9;have u:=jq h;obtain⟨⟨c0,m0,m4,c3,c4,c5,c6,c7,c8,c9,m3⟩,-⟩:=eleven T;have a7:=cell_of P 7 _ rfl;clear h9 h b3 T P b7 a8 h8 b9 j9 g7 g5 b6 m1 m2 h4 a9 d2 y a5 h3 d0 d1 g6 k1 k2 k3 k4 k5 k6
 go_enter func8,ntmps8
 go_wp2_with fail
 rw[<-a4,<-b8];clear a4 b8
 go_cut[15] (λl3 wx=>l3=.string sn/\Hid (Below W1.heap.size W1 wx))
 case first=>
  have Z:=HC.out W1.drew (Below.refl _ W1).drew;have h0:=HC.out W1 (Below.refl _ W1)
  go_region_held3 (λw'=>w'.cell? ⟨p,4,none⟩=some (.string sp)/\w'.cell? ⟨p,5,none⟩=some (.int .i64 16)/\w'.cell? ⟨p,6,none⟩=some (.int .i64 rm)/\w'.cell? ⟨p,7,none⟩=some (.slice S.xh S.xl S.xc)/\w'.cell? ⟨p,8,none⟩=some (.int .i64 S.ne)/\w'.cell? ⟨m,7,none⟩=some (.int .u8 (nn:Int))) (first|with_reducible exact Z|with_reducible exact h0|with_reducible exact f0) ((go_at_call 26;refine(i4.out _).mono ?_;rintro e w3 ⟨rfl,e5⟩;have d4:=jq ((Below.refl _ W1).drew.trans e5);have f0:=HC.out w3 d4.out;clear e5;dsimp only))
  all_goals clear Z h0 f0
  all_goals go_wp2_with fail
  all_goals go_meet
  all_goals exact⟨rfl,jq d4.out⟩
 case rest=>
  obtain⟨rfl,O⟩:=hcut;obtain⟨W2,g1⟩:=jl wc;rw[<-g1]at O⊢;clear g1;have Z:=I.out W2.drew O.out.drew;have h0:=I.out W2 O.out
  go_wp2_with fail
  go_cut[16] (λl4 wx=>l4=.string U/\Hid (Below W1.heap.size W1 wx))
  case first=>
   go_region_held3 (λw'=>w'.cell? ⟨m,1,none⟩=some (.int .u32 (s1:Int))/\w'.cell? ⟨m,2,none⟩=some (.int .u32 (u1:Int))/\w'.cell? ⟨m,3,none⟩=some (.int .u64 (c1:Int))/\w'.cell? ⟨m,4,none⟩=some (.int .u32 (s2:Int))/\w'.cell? ⟨m,5,none⟩=some (.int .u32 (u2:Int))/\w'.cell? ⟨m,6,none⟩=some (.int .u64 (c2:Int))) (first|with_reducible exact Z|with_reducible exact h0|with_reducible exact f7|with_reducible exact f8|with_reducible exact f9|with_reducible exact g0|(with_reducible refine I.out _ ?_;(repeat(first|with_reducible refine Below.drew ?_|with_reducible refine Below.alloc ?_ (by first|exact M.out.size|exact O.out.size) _));(first|with_reducible exact M.out|with_reducible exact O.out))) (first|(go_at_call 29;with_reducible refine(i7.out _).mono ?_;rintro e w4 ⟨rfl,h7⟩;have J:Hid (Below W1.heap.size W1 w4):=jq (O.out.drew.trans (h7.out.mono O.out.drew.size));clear h7;have f7:=I.out w4 J.out;dsimp only)|(go_at_call 29;with_reducible refine(i8.out _).mono ?_;rintro e w5 ⟨rfl,e6⟩;have M:Hid (Below W1.heap.size W1 w5):=jq (J.out.trans (e6.out.mono J.out.size));clear e6;have f8:=I.out w5 M.out;dsimp only)|(go_at_call 28;refine(j0.out _ _ _ ?_).mono ?_;exact Full.tV w5 9 #[.string r1,.string r2] _;rintro e w6 ⟨a6,b1,rfl,h5,e7⟩;have N:Hid (Below W1.heap.size W1 w6):=jq ((M.out.alloc M.out.size _).trans (e7.out.mono (M.out.alloc M.out.size _).size));clear e7;have f9:=I.out w6 N.out;dsimp only)|(go_at_call 27;refine(i9.out _ _ _ ?_).mono ?_;exact h5.out;rintro e w7 ⟨rfl,e8⟩;have d5:Hid (Below W1.heap.size W1 w7):=jq (N.out.trans (e8.out.mono N.out.size));clear e8;have g0:=I.out w7 d5.out;dsimp only))
   all_goals clear Z h0 f7 f8 f9 g0
   all_goals go_wp2_with fail
   all_goals go_meet
   all_goals exact⟨rfl,jq d5.out⟩
  case rest=>
   obtain⟨rfl,X⟩:=hcut;obtain⟨W3,g2⟩:=jl wc;rw[<-g2]at X⊢;clear g2 Z h0;have b4:=d6.out.below X.out d6.out.lt;obtain⟨⟨y0,y1,y2,y3,y4,y5,y6,y7,y8,y9,l5⟩,-⟩:=eleven b4;obtain⟨V4,j2,j6,e9,h7,-⟩:=i1.out W3;have i2:=jq e9;have J:=jq h7;have d7:=jq b4;clear e9 h7 b4
   go_wp2_with fail
   have b2:=(a0.out.trans (X.out.mono a0.out.size)).trans (J.out.mono (a0.out.trans (X.out.mono a0.out.size)).size);refine(j1.out V4 _ j2 b2 i2.out).mono ?_;rintro e w5 ⟨rfl,Q',HA,HQ,HU⟩;have b5:=(d7.out.below J.out d7.out.lt).upon HU.out (λj=>e0.out (.inl j));obtain⟨⟨z0,z1,z2,z3,z4,z5,z6,z7,z8,z9,l6⟩,-⟩:=eleven b5;have d8:=jq b5;have b0:=jq b2;have d3:Upon (λk=>S.DD k\/k=p) W1 w5:=(Upon.of_below (X.out.trans (J.out.mono X.out.size))).trans (HU.out.mono (λk j=>.inl (.inl j))) (λk j=>.inl j);have g4:=(i3.out.step d3 (λk j=>.inl j)).lies;have i6:=jq (i5.out w5 g4);have l9:=jq d3;clear b5 b2 d3 g4 y0 y1 y2 y3 y4 y5 y6 y7 y8 y9 l5 j6
   go_wp2_with fail
   refine i6.out.mono ?_;rintro e w6 ⟨a6,b1,rfl,h5,N⟩
   have i0:Hid (Calls prog 23 #[.pointer (some ⟨p,0,none⟩),.slice a6 ql b1] w6 λe w'=>e=.returned (.bool true)/\∃c x hb ne D,yo B p o S.s S.d S.rm (S.n+1) S.H (setF S.F nm (some (aR f))) S.A Q' L' a6 b1 (.slice S.ah S.LH.length S.hc) w6 w' c x hb ne D):=jq (by
    obtain⟨e1,e2,Y,e4⟩:=d9.out;obtain⟨f1,f2,f3,f4,f5,f6⟩:=HE.out;have g8:=d8.out.lt;have k8:=(bL B S.s S.d 400 o S.H).later HA.out N.out;have j7:¬Q' p:=λj=>(HQ.out p j).elim (λC=>e0.out (.inl C)) (λC=>by have:=u.out.blk.lt;have:=b0.out.size;omega)
    have g3:=d8.out.below N.out g8;rw[<-f5,f6,e2]at g3;rw[e4];have b6:=u.out.li;have j8:=rG S.L nm (aR f);refine Jt S.A rfl u.out.ok rfl rfl k8 j7 g3 h5.out.1 ?_ (by rw[Y];omega);rw[Y];exact rH u.out.dF nm (aR f))
   clear z0 z1 z2 z3 z4 z5 z6 z7 z8 z9 l6
   go_wp2_with fail
   refine i0.out.mono ?_;rintro e w7 ⟨rfl,c,x,hb,ne,D,ha⟩;have g9:=jq ha;clear ha
   go_wp2_with fail
   go_ret2
   obtain⟨e1,e2,Y,e4⟩:=d9.out;obtain⟨f1,f2,f3,f4,f5,f6⟩:=HE.out;have m9:=b0.out.size;have g8:=HU.out.size;have g5:=u.out.ni;have b6:=u.out.li;have m8:=u.out.vi;have j8:=rG S.L nm (aR f);have l1:=Bw u.out.dF nm (aR f);rw[uS f2,show f.length=2 by rw[f1];rfl]at l1;have hq:∀k,Q' k->k<w5.heap.size:=(bL B S.s S.d 400 o S.H).lt HA.out;refine .inl ⟨rfl,u.out.Ju g9.out (λk j=>(HQ.out k j).imp id (λC=>by omega)) (((Upon.of_below b0.out).trans (HU.out.mono (λk j=>(.inl j:S.D k\/k=p))) (λk j=>.inl j)).trans (Upon.of_below N.out) (λk j=>.inl j)) (.inr ⟨h5.out.1,λg hg=>?_⟩) ?_ (u.out.okF.set nm f2) (by omega) (by rw[Y];omega) (by rw[Y];omega)⟩
   ·obtain⟨C,h2⟩:=h5.out.2 g hg;exact⟨⟨by omega,h2⟩,λj=>by have:=hq g j;omega⟩
   ·rw[Y];exact rH u.out.dF nm (aR f)
end Vp
namespace Vp
open Go.RowKit Go.Deep Mem Crc Merge aX Full bQ
open Runs (aW Fi rname oz bR)
open Store (Sto Files nv)
attribute [local go_sem] Oper.semAt_some
theorem Jv{B p i:Nat}{o:Option Obj}{w:World}{S:VD}(h:aO B p o i w S)(Hd:List KC)(L:List FF)(ne:Nat)(a1 a2 a3:Nat)(v1 v2 v3 v4 v5 v6 v7:Value)(d7:v1=.int .u32 (a1:Int))(d8:v2=.int .u32 (a2:Int))(d9:v3=.int .u64 (a3:Int))(z8:∀V,Below w.heap.size w V->Calls prog 19 #[cV S.A S.mh S.Hd.length S.mc S.xh S.xl S.xc S.ne,.slice S.an S.L.length S.nc,.agg #[v1,v2,v3]] V λe w'=>∃r:FR,e=.returned (.tuple #[cV S.A r.ha Hd.length r.hc r.xh r.xl r.xc ne,.slice r.an L.length r.nc])/\Below V.heap.size V w'/\eB V.heap.size w' S r Hd L){CT:World->World->Prop}(h4:∀w3,Upon (λk=>k=p) w w3->Calls prog 14 #[.pointer (some ⟨S.c,0,none⟩),v1,v2,v3] w3 λe C=>e=.returned (.int .i64 0)/\Upon S.DD w3 C/\CT w3 C):
  Calls prog 8 #[.pointer (some ⟨p,0,none⟩),.agg #[.int .i64 0,v1,v2,v3,v4,v5,v6,v7]] w λe w'=>e=.returned (.tuple #[.bool true,.bool true])/\∃r w3,Upon (λk=>k=p) w w3/\Blk w3 p 43 (VD.cells (S.put r Hd L ne))/\eB w.heap.size w3 S r Hd L/\CT w3 w':=by
 subst d7 d8 d9;obtain⟨rb,x4⟩:=jl w.heap.size;obtain⟨sp,h0⟩:∃s:ByteArray,nv S.pf=.string s:=⟨_,rfl⟩;obtain⟨rm,Z⟩:∃z:Int,z=(S.rm:Int):=⟨_,rfl⟩;have HC:Hid (∀(a:Option Addr) (k c:Nat) (b:Option Addr) (m d j:Nat),cV S.A a k c b m d j=.agg #[.slice a k c,.string sp,.int .i64 16,.int .i64 rm,.slice b m d,.int .i64 j]):=jq (λa k c b m d j=>by unfold cV VD.A;dsimp only;rw[h0,Z];rfl);obtain⟨W1,P⟩:=jl (w.alloc (.cells #[.int .i64 0,.int .u32 (a1:Int),.int .u32 (a2:Int),.int .u64 (a3:Int),v4,v5,v6,v7] 51));have J:Below w.heap.size w W1:=by rw[P];exact(Below.refl _ w).alloc jn _
 have hb:=(h.later J).cells h0;rw[<-Z]at hb;have h5:=jq (h.later J).nl.lies;have d1:=jq h.blk.lt;have d0:=jq h.nl;have x9:Hid (∀r:FR,VD.cells (S.put r Hd L ne)=#[.pointer (some ⟨S.d,0,none⟩),.pointer (some ⟨S.s,0,none⟩),.pointer (some ⟨S.c,0,none⟩),.slice r.ha Hd.length r.hc,.string sp,.int .i64 16,.int .i64 rm,.slice r.xh r.xl r.xc,.int .i64 ne,.slice r.an L.length r.nc,.slice S.ah S.LH.length S.hc]):=jq (λr=>by unfold VD.cells VD.put;dsimp only;rw[h0,Z])
 have X:Hid (∀V,Below W1.heap.size W1 V->Calls prog 19 #[.agg #[.slice S.mh S.Hd.length S.mc,.string sp,.int .i64 16,.int .i64 rm,.slice S.xh S.xl S.xc,.int .i64 S.ne],.slice S.an S.L.length S.nc,.agg #[.int .u32 (a1:Int),.int .u32 (a2:Int),.int .u64 (a3:Int)]] V λe w'=>∃r:FR,e=.returned (.tuple #[.agg #[.slice r.ha Hd.length r.hc,.string sp,.int .i64 16,.int .i64 rm,.slice r.xh r.xl r.xc,.int .i64 ne],.slice r.an L.length r.nc])/\Hid (Below V.heap.size V w')/\Hid (eB V.heap.size w' S r Hd L)):=jq (λV N=>by
  have:=z8 V (J.trans (N.mono J.size));rw[HC.out]at this;refine this.mono ?_;rintro e w' ⟨r,rfl,O,E⟩;rw[HC.out];exact⟨r,rfl,jq O,jq E⟩)
 obtain⟨hl,a9⟩:=jl S.Hd.length;obtain⟨pn,b1⟩:=jl S.L.length;obtain⟨kl,b0⟩:=jl Hd.length;obtain⟨ql,b2⟩:=jl L.length;rw[<-a9,<-b1]at hb X;rw[<-b0,<-b2]at X x9;obtain⟨⟨c0,c1,c2,c3,c4,c5,c6,c7,c8,c9,h7⟩,v⟩:=eleven hb;have x8:=jq hb;have x7:=jq J;have h4:=jq h4;have e0:=hb.lt;have f:Blk W1 rb 51 #[.int .i64 0,.int .u32 (a1:Int),.int .u32 (a2:Int),.int .u64 (a3:Int),v4,v5,v6,v7]:=by rw[P,x4];exact Blk.new w _ _
 have x1:=cell_of f 1 _ rfl;have x2:=cell_of f 2 _ rfl;have x3:=cell_of f 3 _ rfl;have e2:=f.lt;have b3:¬rb=p:=by have:=h.blk.lt;omega
 have e1:¬p=rb:=λe=>b3 e.symm
 have z6:=jq (And.intro h.pD (show¬S.DD rb from λy=>by have:=h.Bz rb y;omega));have T:=jq f;have d5:=jq (World.size_alloc w (.cells #[.int .i64 0,.int .u32 (a1:Int),.int .u32 (a2:Int),.int .u64 (a3:Int),v4,v5,v6,v7] 51));rw[<-P]at d5
 have I:Hid (∀V,Below W1.heap.size W1 V->V.cell? ⟨p,3,none⟩=some (.slice S.mh hl S.mc)/\V.cell? ⟨p,4,none⟩=some (.string sp)/\V.cell? ⟨p,5,none⟩=some (.int .i64 16)/\V.cell? ⟨p,6,none⟩=some (.int .i64 rm)/\V.cell? ⟨p,7,none⟩=some (.slice S.xh S.xl S.xc)/\V.cell? ⟨p,8,none⟩=some (.int .i64 S.ne)/\V.cell? ⟨p,9,none⟩=some (.slice S.an pn S.nc)/\V.cell? ⟨rb,1,none⟩=some (.int .u32 (a1:Int))/\V.cell? ⟨rb,2,none⟩=some (.int .u32 (a2:Int))/\V.cell? ⟨rb,3,none⟩=some (.int .u64 (a3:Int))):=jq (λV N=>by
  obtain⟨⟨y0,y1,y2,y3,y4,y5,y6,y7,y8,y9,e3⟩,-⟩:=eleven (hb.below N hb.lt);have hr:=f.below N f.lt;exact⟨y3,y4,y5,y6,y7,y8,y9,cell_of hr 1 _ rfl,cell_of hr 2 _ rfl,cell_of hr 3 _ rfl⟩)
 have a0:=I.out W1.drew (Below.refl _ W1).drew;have a4:=I.out W1 (Below.refl _ W1);clear z8 HC h hb J f h0 Z a9 b1 b0 b2 c0 c1 c2 c3 c4 c5 c6 c7 c8 c9 h7 v x1 x2 x3
 go_enter func8,ntmps8
 go_wp2_with fail
 rw[<-P,<-x4];clear P x4
 go_cut[6,7] (λs8 s9 wx=>∃(bx:Nat) (r:FR),s8=.pointer (some ⟨bx,0,none⟩)/\s9=.slice r.an ql r.nc/\Hid (Blk wx bx 37 #[.slice r.ha kl r.hc,.string sp,.int .i64 16,.int .i64 rm,.slice r.xh r.xl r.xc,.int .i64 ne])/\Hid (Below W1.heap.size W1 wx/\W1.heap.size<=bx)/\Hid (eB W1.heap.size wx S r Hd L))
 case first=>
  have h6:Hid (Blk (W1.alloc (.cells #[.slice none 0 0,.string ⟨#[]⟩,.int .i64 0,.int .i64 0,.slice none 0 0,.int .i64 0] 37)).drew W1.heap.size 37 #[.slice none 0 0,.string ⟨#[]⟩,.int .i64 0,.int .i64 0,.slice none 0 0,.int .i64 0]):=jq (Blk.new W1 37 #[.slice none 0 0,.string ⟨#[]⟩,.int .i64 0,.int .i64 0,.slice none 0 0,.int .i64 0]).drew;have x6:Hid (Below W1.heap.size W1 (W1.alloc (.cells #[.slice none 0 0,.string ⟨#[]⟩,.int .i64 0,.int .i64 0,.slice none 0 0,.int .i64 0] 37)).drew):=jq ((Below.refl _ W1).alloc jn _).drew;have a5:=I.out _ x6.out;have b8:Hid (Below W1.heap.size W1 W1.drew):=jq (Below.refl _ W1).drew
  go_region_held3 (λw'=>w'.cell? ⟨p,3,none⟩=some (.slice S.mh hl S.mc)/\w'.cell? ⟨p,4,none⟩=some (.string sp)/\w'.cell? ⟨p,5,none⟩=some (.int .i64 16)/\w'.cell? ⟨p,6,none⟩=some (.int .i64 rm)/\w'.cell? ⟨p,7,none⟩=some (.slice S.xh S.xl S.xc)/\w'.cell? ⟨p,8,none⟩=some (.int .i64 S.ne)/\w'.cell? ⟨p,9,none⟩=some (.slice S.an pn S.nc)/\w'.cell? ⟨rb,1,none⟩=some (.int .u32 (a1:Int))/\w'.cell? ⟨rb,2,none⟩=some (.int .u32 (a2:Int))/\w'.cell? ⟨rb,3,none⟩=some (.int .u64 (a3:Int))) (first|with_reducible exact a0|with_reducible exact a4|with_reducible exact a5|with_reducible exact h8|(with_reducible refine I.out _ ?_;(repeat(first|with_reducible refine Below.drew ?_|with_reducible refine Below.alloc ?_ (by first|exact M.size|exact aj _) _|(with_reducible refine Below.setCell ?_ ?_ _;rotate_left;exact aj _)));(first|with_reducible exact M|with_reducible exact Below.refl _ _))) (first|(go_at_call 19;refine(X.out _ (by first|exact(Below.refl _ _).drew|exact((Below.refl _ _).alloc jn _).drew)).mono ?_;rintro e w3 ⟨r,rfl,u,Y⟩;have x:=h6.out.below u.out h6.out.lt;have M:Below W1.heap.size W1 w3:=x6.out.trans (u.out.mono (kF h6.out.lt));have h8:=I.out w3 M;obtain⟨z0,z1,z2,z3,z4,z5⟩:=gB x;have g0:=x.frozen 0;have g1:=x.frozen 1;have g2:=x.frozen 2;have g3:=x.frozen 3;have g4:=x.frozen 4;have g5:=x.frozen 5;have z9:=jq x;clear x;dsimp only)|(go_at_call 19;refine(X.out _ (by first|exact(Below.refl _ _).drew|exact((Below.refl _ _).alloc jn _).drew)).mono ?_;rintro e w3 ⟨r,rfl,u,Y⟩;have M:Below W1.heap.size W1 w3:=b8.out.trans u.out;have h8:=I.out w3 M;dsimp only))
  all_goals clear h8 a0 a4 a5
  all_goals go_wp2_with fail
  all_goals go_meet
  all_goals first
   |(have d6:=z9.out;clear d6;exact⟨_,r,rfl,rfl,yj rfl (aD (by simp) jn) M Y.out h5.out (yh z9.out _ _ _ _ _ _)⟩)
   |exact⟨_,r,rfl,rfl,oG ((Below.refl _ W1).drew.trans u.out) Y.out h5.out _ _⟩
   |exact⟨_,r,rfl,rfl,oG u.out Y.out h5.out _ _⟩
 case rest=>
  obtain⟨bx,r,rfl,rfl,b5,U,HV⟩:=hcut;have x0:=x8.out.below U.out.1 x8.out.lt;obtain⟨⟨c0,c1,c2,c3,c4,c5,c6,c7,c8,c9,h7⟩,v⟩:=eleven x0;have f3:=v 3;have f4:=v 4;have f5:=v 5;have f6:=v 6;have f7:=v 7;have f8:=v 8;have f9:=v 9;have f:=T.out.below U.out.1 T.out.lt;have x1:=cell_of f 1 _ rfl;have x2:=cell_of f 2 _ rfl;have x3:=cell_of f 3 _ rfl;clear f;obtain⟨y0,y1,y2,y3,y4,y5⟩:=gB b5.out;have b4:=jq x0;clear x0 v c0 c1 h7
  go_wp2_with fail
  obtain⟨h9,R⟩:=pX b4.out (.slice r.ha kl r.hc) (.string sp) (.int .i64 16) (.int .i64 rm) (.slice r.xh r.xl r.xc) (.int .i64 ne) (.slice r.an ql r.nc);generalize N: (((((((wc.setCell ⟨p,3,none⟩ (.slice r.ha kl r.hc)).setCell ⟨p,4,none⟩ (.string sp)).setCell ⟨p,5,none⟩ (.int .i64 16)).setCell ⟨p,6,none⟩ (.int .i64 rm)).setCell ⟨p,7,none⟩ (.slice r.xh r.xl r.xc)).setCell ⟨p,8,none⟩ (.int .i64 ne)).setCell ⟨p,9,none⟩ (.slice r.an ql r.nc))=V at h9 R⊢;have x5:=x7.out.size;have hu:Upon (λk=>k=p) w V:=(Upon.of_below (x7.out.trans (U.out.1.mono x5))).trans R (λk y=>.inl y);have u:=jq h9;have d3:=jq R;have HU:=jq hu;have d4:=jq (HV.out.upon (d0.out.step (hu.drew.mono (λk y=>.inr y)) (λk y=>.inl y)).lies x5 R.drew (λk y=>by have:=d1.out;omega));clear N h9 R hu x5 x1 x2 x3 c2 c3 c4 c5 c6 c7 c8 c9 y0 y1 y2 y3 y4 y5 f3 f4 f5 f6 f7 f8 f9;have f:=T.out.below U.out.1 T.out.lt;have D:=jq (f.upon d3.out b3);have z7:Hid (∀W,Below V.heap.size V W->W.cell? ⟨p,2,none⟩=some (.pointer (some ⟨S.c,0,none⟩))/\W.cell? ⟨rb,1,none⟩=some (.int .u32 (a1:Int))/\W.cell? ⟨rb,2,none⟩=some (.int .u32 (a2:Int))/\W.cell? ⟨rb,3,none⟩=some (.int .u64 (a3:Int))):=jq (λW G=>⟨(eleven (u.out.below G u.out.lt)).1.2.2.1,cell_of (D.out.below G D.out.lt) 1 _ rfl,cell_of (D.out.below G D.out.lt) 2 _ rfl,cell_of (D.out.below G D.out.lt) 3 _ rfl⟩);have b7:Hid (Calls prog 14 #[.pointer (some ⟨S.c,0,none⟩),.int .u32 (a1:Int),.int .u32 (a2:Int),.int .u64 (a3:Int)] V.drew λe C=>e=.returned (.int .i64 0)/\Hid (Upon S.DD V.drew C)/\Hid (CT V.drew C)):=jq ((h4.out V.drew HU.out.drew).mono (by rintro e C ⟨O,E,h3⟩;exact⟨O,jq E,jq h3⟩));have a6:=z7.out V.drew (Below.refl _ V).drew;clear f
  have b9:Hid (∀W,Upon S.DD V.drew W->W.cell? ⟨p,2,none⟩=some (.pointer (some ⟨S.c,0,none⟩))/\W.cell? ⟨rb,1,none⟩=some (.int .u32 (a1:Int))/\W.cell? ⟨rb,2,none⟩=some (.int .u32 (a2:Int))/\W.cell? ⟨rb,3,none⟩=some (.int .u64 (a3:Int))):=jq (λW G=>by
   have O:=u.out.drew.upon G z6.out.1;have E:=D.out.drew.upon G z6.out.2;exact⟨(eleven O).1.2.2.1,cell_of E 1 _ rfl,cell_of E 2 _ rfl,cell_of E 3 _ rfl⟩)
  have a7:=z7.out V (Below.refl _ V)
  go_region_held3 (λw'=>w'.cell? ⟨p,2,none⟩=some (.pointer (some ⟨S.c,0,none⟩))/\w'.cell? ⟨rb,1,none⟩=some (.int .u32 (a1:Int))/\w'.cell? ⟨rb,2,none⟩=some (.int .u32 (a2:Int))/\w'.cell? ⟨rb,3,none⟩=some (.int .u64 (a3:Int))) (first|with_reducible exact a6|with_reducible exact a7|with_reducible exact a8) ((go_at_call 14;refine b7.out.mono ?_;rintro e C ⟨rfl,d2,b6⟩;have a8:=b9.out C d2.out;dsimp only))
  all_goals clear a6 a7 a8
  all_goals go_wp2_with fail
  all_goals go_ret2
  all_goals exact⟨rfl,r,V.drew,HU.out.drew,by rw[x9.out];exact u.out.drew,d4.out,b6.out⟩
end Vp
namespace Vp
open Go.RowKit Go.Deep Mem Crc Merge aX Full bQ
open Runs (aW Fi rname oz bR)
open Store (Sto Files nv)
variable {B p i:Nat}{o:Option Obj}{w w':World}{S:VD}
theorem UR{H:List KC}(h:∀q∈H,0<q.2){k:Nat}(f:tot H k=0):∀q∈H,q.1≠k:=by
 induction H with
 |nil=>intro q hq;cases hq
 |cons a t j=>
  rw[ic]at f;intro q hq e;rcases List.mem_cons.1 hq with rfl|hq
  ·rw[if_pos e]at f;have:=h q qG
   omega
  ·exact j (λq hq=>h q (eD _ hq)) (by omega) q hq e
def Added(B:Nat)(o:Option Obj)(S:VD)(k:KC)(w3 w4:World):Prop:=∃D' F' n',aL (bL B S.s S.d 400 o S.H) S.A S.rm D' w4 S.c S.x S.hb (jU S.rm S.ne S.Hd k) F' (bD (eu S.rm S.Hd k) k) n'/\(∀g,D' g->S.D g\/w3.heap.size<=g)/\Upon (λg=>S.D g\/g=S.hb) w3 w4/\(F'=if gD S.rm S.Hd k then iY S.A S.F S.ne S.Hd else S.F)/\n'<=S.n+1
theorem aO.added(h:aO B p o i w S)(U:i<=60){k:KC}(u:iI k){v y:Nat}(I:v=k.1/4294967296)(M:y=k.1%4294967296){w3:World}(T:Upon (λg=>g=p) w w3):Calls prog 14 #[.pointer (some ⟨S.c,0,none⟩),.int .u32 (v:Int),.int .u32 (y:Int),.int .u64 (k.2:Int)] w3 λe w4=>e=.returned (.int .i64 0)/\Added B o S k w3 w4:=by
 have hc:=h.ctr T;have X:=h.few;have Y:=h.ni;have Z:=hc.qj;have R:∀q∈S.Hd,0<q.2:=λq hq=>(h.live.held.ok q hq).2.1
 by_cases f:gD S.rm S.Hd k=true
 ·have z:=f;unfold gD at z;rw[Bool.and_eq_true,List.all_eq_true]at z;have E:∀q∈S.Hd,q.1≠k.1:=λq hq=>by simpa using z.1 q hq
  have hl:S.Hd.length=S.rm:=by simpa using z.2
  have N:S.Hd≠[]:=λe=>by rw[e]at hl;simp at hl;omega
  refine(Td hc k u v y I M (xH E) hl (by omega) (by omega)).mono ?_;rintro e w4 ⟨rfl,D',j,m,O⟩;have ha:eu S.rm S.Hd k= []:=if_pos f;have G:jU S.rm S.ne S.Hd k=S.ne+1:=by unfold jU dP;rw[if_pos f,if_neg N]
  refine⟨rfl,D',_,_,?_,m,O,(if_pos f).symm,aj _⟩;rw[ha,G];exact j.perm (IE uM k u).symm
 ·have ha:eu S.rm S.Hd k=S.Hd:=if_neg f;have G:jU S.rm S.ne S.Hd k=S.ne:=if_neg f;unfold Added;rw[ha,G];have P:=(IE h.live.held k u).symm;have key:∀{w4:World},aL (bL B S.s S.d 400 o S.H) S.A S.rm S.D w4 S.c S.x S.hb S.ne S.F (fH S.Hd k) S.n->Upon (λg=>g=S.hb) w3 w4->∃D' F' n',aL (bL B S.s S.d 400 o S.H) S.A S.rm D' w4 S.c S.x S.hb S.ne F' (bD S.Hd k) n'/\(∀g,D' g->S.D g\/w3.heap.size<=g)/\Upon (λg=>S.D g\/g=S.hb) w3 w4/\(F'=if gD S.rm S.Hd k then iY S.A S.F S.ne S.Hd else S.F)/\n'<=S.n+1:=λj m=>⟨_,_,_,j.perm P,λg C=>.inl C,m.mono (λg C=>.inr C),(if_neg f).symm,Nat.le_succ _⟩
  by_cases J:tot S.Hd k.1=0
  ·have E:=UR R J
   have hlt:S.Hd.length<S.rm:=by
    have:=h.live.room;refine Nat.lt_of_le_of_ne this (λe=>f ?_);unfold gD;rw[Bool.and_eq_true,List.all_eq_true];exact⟨λq hq=>by simpa using E q hq,by simpa using e⟩
   refine(Io hc k u v y I M J hlt).mono ?_;rintro e w4 ⟨rfl,j,m⟩;exact⟨rfl,key j m⟩
  ·refine(Im hc k u v y I M J).mono ?_;rintro e w4 ⟨rfl,j,m⟩;exact⟨rfl,key j m⟩
theorem UU(h:aO B p o i w S)(Y:i<=60)(j vn m:Nat)(hs:j<4294967296)(C:vn<4294967296)(hc:m<=av)(v4 v5 J M:Value):Calls prog 8 #[.pointer (some ⟨p,0,none⟩),.agg #[.int .i64 0,.int .u32 (j:Int),.int .u32 (vn:Int),.int .u64 (m:Int),v4,v5,J,M]] w (lZ B p o i S w):=by
 have x1:=h.few;have x4:=h.ni;have x3:=h.li
 by_cases U:m=0
 ·subst U;refine(Jv h S.Hd S.L S.ne j vn 0 (.int .u32 (j:Int)) (.int .u32 (vn:Int)) (.int .u64 ((0:Nat):Int)) v4 v5 J M rfl rfl rfl (λV G=>?_) (CT:=λw3 N=>Below w3.heap.size w3 N) (λw3 v=>?_)).mono ?_
  ·refine(UL (cV S.A S.mh S.Hd.length S.mc S.xh S.xl S.xc S.ne) j vn V rfl S.an S.L.length S.nc).mono ?_;rintro e w' ⟨rfl,u⟩;exact⟨⟨S.mh,S.mc,S.xh,S.xl,S.xc,S.an,S.nc⟩,rfl,u,.inl ⟨rfl,rfl⟩,(h.nl.lies.later G).later u,.inl ⟨rfl,rfl⟩⟩
  ·refine(add_zero S.c j vn w3).mono ?_;rintro e w' ⟨rfl,u⟩;exact⟨rfl,Upon.of_below u,u⟩
  ·rintro e w' ⟨rfl,r,w3,v,hb,C,u⟩;exact .inl ⟨rfl,h.uW C v hb ((h.ctr v).later u) (λk z=>.inl z) (Upon.of_below u) h.runs h.dF h.okF (by omega) (by omega) (by omega)⟩
 ·obtain⟨k,z⟩:∃k:KC,k=(j*4294967296+vn,m):=⟨_,rfl⟩;have x2:k.1=j*4294967296+vn:=by rw[z]
  have O:m=k.2:=by rw[z]
  have R:j=k.1/4294967296:=by omega
  have T:vn=k.1%4294967296:=by omega
  have P:iI k:=⟨by unfold av;omega,by omega,by omega⟩;have I:=IC (eu S.rm S.Hd k) k;refine(Jv h (bD (eu S.rm S.Hd k) k) (iZ S.L S.A S.ne S.Hd k) (jU S.rm S.ne S.Hd k) j vn m (.int .u32 (j:Int)) (.int .u32 (vn:Int)) (.int .u64 (m:Int)) v4 v5 J M rfl rfl rfl (λV G=>?_) (CT:=λw3 N=>Added B o S k w3 N) (λw3 v=>?_)).mono ?_
  ·have y:=h.later G;refine(Ul S.A h.ok rfl S.Hd k S.L S.mh S.an S.xh S.mc S.nc S.xl S.xc S.ne j vn m R T O (by omega) V y.ml.lies y.nl.lies h.le P.2.2 h.live.room (by omega) (by omega)).mono ?_;rintro e w' ⟨x0,h8,ma,h9,mc',aG,aN,rfl,x,E,X⟩;obtain⟨_,_,D,_,Z,h7,_⟩:=own_shape x;injection D with D _ _;subst D;exact⟨⟨_,h8,ma,h9,mc',aG,aN⟩,rfl,X,.inr ⟨Z,h7⟩,E⟩
  ·have:=h.added Y P R T v;rw[<-O]at this;refine this.mono ?_;rintro e w' ⟨rfl,x⟩;refine⟨rfl,?_,x⟩;obtain⟨D',F',n',-,-,y,-⟩:=x;exact y.mono (λg hg=>hg.imp id .inr)
  ·rintro e w' ⟨rfl,r,w3,v,hb,C,D',F',n',x,y,E,rfl,h5⟩;refine .inl ⟨rfl,h.uW C v hb x y E ?_ ?_ ?_ (by omega) ?_ ?_⟩
   all_goals by_cases f:gD S.rm S.Hd k=true
   ·rw[if_pos f,show jU S.rm S.ne S.Hd k=S.ne+dP S.Hd from if_pos f];exact Jj h.runs
   ·rw[if_neg f,show jU S.rm S.ne S.Hd k=S.ne from if_neg f];exact h.runs
   ·rw[if_pos f,show iZ S.L S.A S.ne S.Hd k=eX S.L S.A S.ne S.Hd from if_pos f];exact Jg h.dF _ _ _
   ·rw[if_neg f,show iZ S.L S.A S.ne S.Hd k=S.L from if_neg f];exact h.dF
   ·rw[if_pos f];exact h.okF.fl _ _ _
   ·rw[if_neg f];exact h.okF
   ·rw[show iZ S.L S.A S.ne S.Hd k=eX S.L S.A S.ne S.Hd from if_pos f];exact Jm _ _ _ _
   ·rw[show iZ S.L S.A S.ne S.Hd k=S.L from if_neg f]
    omega
   ·have:=Jh h.dF S.A S.ne S.Hd;rw[show eu S.rm S.Hd k= []from if_pos f]at I;rw[show iZ S.L S.A S.ne S.Hd k=eX S.L S.A S.ne S.Hd from if_pos f,show eu S.rm S.Hd k= []from if_pos f];simp only[List.length_nil]at I
    omega
   ·rw[show eu S.rm S.Hd k=S.Hd from if_neg f]at I;rw[show iZ S.L S.A S.ne S.Hd k=S.L from if_neg f,show eu S.rm S.Hd k=S.Hd from if_neg f]
    omega
structure Jw(B:Nat)(o:Option Obj)(S:VD)(W w1:World)(D':Nat->Prop):Prop where
 ctr:aL (bL B S.s S.d 400 o S.H) S.A S.rm D' w1 S.c S.x S.hb S.ne S.F S.Hd S.n
 dom:∀g,D' g->S.D g\/W.heap.size<=g
 upon:Upon S.D W w1
theorem aO.xY(h:aO B p o i w S)(x:i<=60):∃K:List KC,K.length<=1000000/\(∀W,Below w.heap.size w W->Calls prog 11 #[.pointer (some ⟨S.c,0,none⟩)] W λe w1=>∃a c D',e=.returned (.tuple #[.slice a K.length c,.int .i64 0])/\Lies w1 a (K.flatMap aH)/\Jw B o S W w1 D')/\∀W,Lies W S.mh (S.Hd.flatMap aH)->Lies W S.an (aU S.L)->Calls prog 12 #[cV S.A S.mh S.Hd.length S.mc S.xh S.xl S.xc S.ne,.slice S.an S.L.length S.nc] W λe w1=>∃a c,e=.returned (.tuple #[.slice a K.length c,.int .i64 0])/\Lies w1 a (K.flatMap aH)/\Below W.heap.size W w1:=by
 obtain⟨ls,j,N,O,k,P,R,I⟩:=h.read x;have J:=h.few;have M:=h.li;have G:=uR (bC S.Hd ls);rw[Jo,I]at G;refine⟨merged (bC S.Hd ls),by omega,λW E=>?_,λW y D=>?_⟩
 ·refine(uL (h.later E).live j (by omega) h.runs (λnm b hb=>by have:=k nm b hb;omega) (by omega)).mono ?_;rintro e w1 ⟨D',v,rfl,ha⟩;obtain⟨va,vc,rfl,_,C,_,_⟩:=own_shape ha.row;exact⟨va,vc,D',rfl,C,ha.ctr,ha.dom,ha.upon⟩
 ·refine(Ja S.A h.ok rfl S.Hd S.L S.F ls S.mh S.an S.xh S.mc S.nc S.xl S.xc S.ne W y D h.le h.live.room (by omega) (by omega) h.dF j h.runs k (by omega)).mono ?_;rintro e w1 ⟨a',c',rfl,m,u⟩;obtain⟨_,_,f,_,z,_,_⟩:=own_shape m;injection f with f _ _;subst f;exact⟨_,c',rfl,z,u⟩
theorem aO.asked(h:aO B p o i w S){W w1 w2:World}{D':Nat->Prop}(e:Below w.heap.size w W)(ha:Jw B o S W w1 D')(j:Below w1.heap.size w1 w2):lY B p o i S w w2:=by
 have u:=e.size;have m:Upon (λk=>k=p) w W:=Upon.of_below e;have hb:Blk W p 43 S.cells:=h.blk.below e h.blk.lt;exact h.Jk (D':=D') (F':=S.F) (ne':=S.ne) (n':=S.n) (nI:=S.Hd) (oF:=S.mh) (mc':=S.mc) (uV:=S.xh) (uT:=S.xl) (uU:=S.xc) (aG:=S.an) (L':=S.L) (aN:=S.nc) m hb (ha.ctr.later j) ha.dom ((ha.upon.mono (λk f=>.inl f)).trans (Upon.of_below j) (λk f=>.inl f)) h.runs (.inl ⟨rfl,rfl⟩) ⟨h.nl.lies.later e,.inl ⟨rfl,rfl⟩⟩ h.dF h.okF (by omega) (by omega) (by omega)
attribute [local go_sem] Oper.semAt_some
theorem UW(h:aO B p o i w S)(h6:i<=60){kd:Int}(f:kd<0\/6<kd)(v1 v2 v3 v4 v5 v6 v7:Value):Calls prog 8 #[.pointer (some ⟨p,0,none⟩),.agg #[.int .i64 kd,v1,v2,v3,v4,v5,v6,v7]] w (lZ B p o i S w):=by
 obtain⟨sp,O⟩:∃s:ByteArray,nv S.pf=.string s:=⟨_,rfl⟩;obtain⟨rm,N⟩:∃z:Int,z=(S.rm:Int):=⟨_,rfl⟩;obtain⟨W1,h0⟩:=jl (w.alloc (.cells #[.int .i64 kd,v1,v2,v3,v4,v5,v6,v7] 51));have u:Below w.heap.size w W1:=by rw[h0];exact(Below.refl _ w).alloc jn _
 have G:=h.later u;obtain⟨K,hK,m,hr⟩:=h.xY h6;have m:=m W1 u;obtain⟨P,x⟩:=jl K.length;obtain⟨hl,J⟩:=jl S.Hd.length;obtain⟨R,M⟩:=jl S.L.length;have v:=G.cells O;rw[<-N,<-J,<-M]at v
 have HR:Hid (∀W,Lies W S.mh (S.Hd.flatMap aH)->Lies W S.an (aU S.L)->Calls prog 12 #[.agg #[.slice S.mh hl S.mc,.string sp,.int .i64 16,.int .i64 rm,.slice S.xh S.xl S.xc,.int .i64 S.ne],.slice S.an R S.nc] W λe w1=>∃a c,e=.returned (.tuple #[.slice a P c,.int .i64 0])/\Hid (Lies w1 a (K.flatMap aH))/\Hid (Below W.heap.size W w1)):=jq (λW a b=>by
  have:=hr W a b;rw[show cV S.A S.mh S.Hd.length S.mc S.xh S.xl S.xc S.ne=.agg #[.slice S.mh S.Hd.length S.mc,.string sp,.int .i64 16,.int .i64 rm,.slice S.xh S.xl S.xc,.int .i64 S.ne]by unfold cV VD.A;dsimp only;rw[O,N];rfl,<-J,<-M,<-x]at this;refine this.mono ?_;rintro e w1 ⟨a,c,rfl,C,D⟩;exact⟨a,c,rfl,jq C,jq D⟩)
 have HS:Hid (∀(a b:Option Addr) (c d:Nat) (w:World),Lies w a (K.flatMap aH)->Lies w b (K.flatMap aH)->Calls prog 13 #[.slice a P c,.slice b P d] w λe w'=>e=.returned (.bool true)/\Below w.heap.size w w'):=jq (λa b c d w C D=>by rw[x];exact Jr K a b c d w C D hK);rw[<-x]at m;have t0: (kd==0)=false:=beq_eq_false_iff_ne.2 (by omega);have t1: (kd==1)=false:=beq_eq_false_iff_ne.2 (by omega);have t2: (kd==2)=false:=beq_eq_false_iff_ne.2 (by omega);have t3: (kd==3)=false:=beq_eq_false_iff_ne.2 (by omega);have t4: (kd==4)=false:=beq_eq_false_iff_ne.2 (by omega);have t5: (kd==5)=false:=beq_eq_false_iff_ne.2 (by omega);have t6: (kd==6)=false:=beq_eq_false_iff_ne.2 (by omega);obtain⟨⟨c0,c1,c2,c3,c4,c5,c6,c7,c8,c9,y2⟩,-⟩:=eleven v;have HG:=jq m;have h7:=jq v;have h4:=jq u;have y:=jq G;have H0:=jq h;clear G h u v O N m hr J M x f hK c0 c1 c3 c4 c5 c6 c7 c8 c9 y2;subst h0
 go_enter func8,ntmps8
 go_wp2_with fail
 clear c2;refine HG.out.mono ?_;rintro e w2 ⟨a2,d2,D',rfl,Z,j⟩;have I:=h7.out.upon j.upon (λhd=>y.out.pD (.inl hd));obtain⟨⟨q0,q1,q2,q3,q4,q5,q6,q7,q8,q9,y3⟩,-⟩:=eleven I;have h8:=jq Z;have HA:=jq j;have X:=jq I;have y0:=jq (HR.out w2.drew (y.out.ml.step (j.upon.mono (λk f=>.inl (.inl f))) (λk f=>.inl f)).lies (y.out.nl.step (j.upon.mono (λk f=>.inl (.inl f))) (λk f=>.inl f)).lies);clear I Z j q0 q1 q2 y3
 go_wp2_with fail
 go_region_held3 (λw'=>w'.cell? ⟨p,3,none⟩=some (.slice S.mh hl S.mc)/\w'.cell? ⟨p,4,none⟩=some (.string sp)/\w'.cell? ⟨p,5,none⟩=some (.int .i64 16)/\w'.cell? ⟨p,6,none⟩=some (.int .i64 rm)/\w'.cell? ⟨p,7,none⟩=some (.slice S.xh S.xl S.xc)/\w'.cell? ⟨p,8,none⟩=some (.int .i64 S.ne)/\w'.cell? ⟨p,9,none⟩=some (.slice S.an R S.nc)) (first|exact⟨q3,q4,q5,q6,q7,q8,q9⟩|exact h3) ((go_at_call 12;refine y0.out.mono ?_;rintro e w3 ⟨a3,d3,rfl,h9,U⟩;have h3:w3.cell? ⟨p,3,none⟩=some (.slice S.mh hl S.mc)/\w3.cell? ⟨p,4,none⟩=some (.string sp)/\w3.cell? ⟨p,5,none⟩=some (.int .i64 16)/\w3.cell? ⟨p,6,none⟩=some (.int .i64 rm)/\w3.cell? ⟨p,7,none⟩=some (.slice S.xh S.xl S.xc)/\w3.cell? ⟨p,8,none⟩=some (.int .i64 S.ne)/\w3.cell? ⟨p,9,none⟩=some (.slice S.an R S.nc):=(by obtain⟨⟨x0,x1,x2,x3,x4,x5,x6,x7,x8,x9,y4⟩,-⟩:=eleven (X.out.drew.below U.out X.out.drew.lt);exact⟨x3,x4,x5,x6,x7,x8,x9⟩);dsimp only))
 all_goals clear h3 q3 q4 q5 q6 q7 q8 q9
 all_goals
  have E:Below w2.heap.size w2 w3:=(Below.refl _ w2).drew.trans U.out;have y1:=jq (HS.out a2 a3 d2 d3 w3 (h8.out.later E) h9.out);have T:=jq E;clear E
  go_wp2_with fail
  refine y1.out.mono ?_;rintro e w4 ⟨rfl,Y⟩;have h5:=jq Y;clear Y
  go_wp2_with fail
 all_goals go_ret2
 all_goals exact .inl ⟨rfl,H0.out.asked h4.out HA.out (T.out.trans (h5.out.mono T.out.size))⟩
open Runs (Mid I6)
theorem Jy{z:Int}{j w2:World}(h:aO B p o i w S)(u:Below w.heap.size w j)(X: (z=0/\aW (bL B S.s S.d 400 o S.F) S.A (Mid S.D j w2) w2 S.x S.ne S.F [] 20000/\Upon S.D j w2)\/(z=7/\Below j.heap.size j w2))(M:Blk w2 p 43 S.cells):
  lZ B p o i S w (.returned (.tuple #[.bool (z==0||z==7),.bool (z==0)])) (w2.setCell ⟨p,10,none⟩ (.slice S.an S.L.length S.nc)):=by
 have Z:=h.blk.lt;obtain⟨zo,zb,zs⟩:=qy h.live;have C:=u.size;have N:=M.set 10 (.slice S.an S.L.length S.nc);have v:Upon (λk=>k=p) w2 (w2.setCell ⟨p,10,none⟩ (.slice S.an S.L.length S.nc)):=Upon.set (P:=λk=>k=p) (Upon.refl _ _) (p:=⟨p,10,none⟩) (.inl rfl) _;rcases X with⟨rfl,hl,U⟩|⟨rfl,I⟩
 ·have y:Upon (λk=>S.D k\/k=p) w (w2.setCell ⟨p,10,none⟩ (.slice S.an S.L.length S.nc)):=((Upon.of_below u).trans (U.mono (λk f=>Or.inl f)) (λk f=>.inl f)).trans (v.mono (λk f=>(Or.inr f:S.D k\/k=p))) (λk f=>.inl f);have hc:=h.live;have Y:=hc.blk.lt;have T:=hc.map.lt
  have O:aL (bL B S.s S.d 400 o S.F) S.A S.rm (Mid S.D j w2) (w2.setCell ⟨p,10,none⟩ (.slice S.an S.L.length S.nc)) S.c S.x S.hb S.ne S.F S.Hd 20000:=by
   refine⟨hc.blk.upon y ?_,hl.keep v (λg R e=>?_),hc.map.keep (y.block S.hb T ?_),hc.held,hc.room,?_,?_,hc.hc,hc.lm,hc.jQ⟩
   ·exact λf=>f.elim hc.cD (λe=>h.pD (.inr (.inl e.symm)))
   ·subst e;exact R.elim (λm=>h.pD (.inl m)) (λm=>by omega)
   ·exact λf=>f.elim hc.hD (λe=>h.pD (.inr (.inr e.symm)))
   ·exact λf=>f.elim hc.cD (λm=>by omega)
   ·exact λf=>f.elim hc.hD (λm=>by omega)
  have J:∀k,VD.DD {S with D:=Mid S.D j w2,H:=S.F,n:=20000,LH:=S.L,ah:=S.an,hc:=S.nc} k->S.DD k\/w.heap.size<=k:=λk f=>by
   rcases f with f|f
   ·exact f.imp .inl (λm=>by omega)
   ·exact .inl (.inr f)
  exact .inl ⟨rfl,h.next {S with D:=Mid S.D j w2,H:=S.F,n:=20000,LH:=S.L,ah:=S.an,hc:=S.nc} rfl rfl (y.mono (λk f=>f.imp .inl id)) J O h.runs N (.inl ⟨rfl,rfl⟩) (.inl ⟨rfl,rfl⟩) (.inr ⟨rfl,rfl⟩) h.dF h.dF h.okF h.okF (by dsimp only;omega) (by have:=h.li;dsimp only;omega) (by have:=h.li;dsimp only;omega) (by have:=h.vi;dsimp only;omega) (by have:=h.vi;dsimp only;omega)⟩
 ·refine .inr ⟨rfl,?_⟩;have E:Below w.heap.size w w2:=u.trans (I.mono C);have G:Upon (λk=>k=p) w (w2.setCell ⟨p,10,none⟩ (.slice S.an S.L.length S.nc)):=(Upon.of_below E).trans v (λk f=>.inl f);exact G.below zs (λg e=>by rw[e];exact h.pB)
theorem UX(h:aO B p o i w S)(h6:i<=60)(v1 v2 v3 v4 v5 M N:Value):Calls prog 8 #[.pointer (some ⟨p,0,none⟩),.agg #[.int .i64 2,v1,v2,v3,v4,v5,M,N]] w (lZ B p o i S w):=by
 obtain⟨sp,h0⟩:∃s:ByteArray,nv S.pf=.string s:=⟨_,rfl⟩;obtain⟨W1,I⟩:=jl (w.alloc (.cells #[.int .i64 2,v1,v2,v3,v4,v5,M,N] 51));have u:Below w.heap.size w W1:=by rw[I];exact(Below.refl _ w).alloc jn _
 have j:=h.later u;have Z:=h.ni;have v:=j.blk;obtain⟨pn,x⟩:=jl S.L.length;obtain⟨Y,J⟩:=jl S.LH.length
 have E:Hid (∀V,Blk V p 43 S.cells->V.cell? ⟨p,1,none⟩=some (.pointer (some ⟨S.s,0,none⟩))/\V.cell? ⟨p,9,none⟩=some (.slice S.an pn S.nc)/\V.cell? ⟨p,10,none⟩=some (.slice S.ah Y S.hc)):=jq (λV X=>by
  obtain⟨⟨x0,x1,x2,x3,x4,x5,x6,x7,x8,x9,h2⟩,-⟩:=eleven X;rw[x,J];exact⟨x1,x9,h2⟩)
 obtain⟨c1,U,T⟩:=E.out _ v;have O:=jq (I6 j.live.aF (by omega));have k:=jq v;have P:=jq (λhd=>j.pD (.inl hd));have C:=jq u;have A:=jq h;have R:=jq x;clear j h u v h0 Z x J;subst I
 go_enter func8,ntmps8
 go_wp2_with fail
 refine O.out.mono ?_;rintro e w2 ⟨z,rfl,y⟩;have f:Blk w2 p 43 S.cells:=y.elim (λm=>k.out.upon m.2.2 P.out) (λm=>k.out.below m.2 k.out.lt);obtain⟨q1,q9,h5⟩:=E.out _ f;have h3:=f.frozen 10;have h4:=f.lt;have G:=jq y;have D:=jq f;clear y f c1 U T
 go_wp2_with fail
 all_goals go_ret2
 all_goals(have e:=R.out;subst e)
 ·obtain rfl:z=0:=by first|assumption|simp_all
  exact Jy A.out C.out G.out D.out
 ·exact Jy A.out C.out G.out D.out
end Vp
namespace Vp
open Go.RowKit Go.Deep Mem Crc Merge aX Full bQ
structure AV where
 kd:Int
 s1:Nat
 u1:Nat
 c1:Nat
 s2:Nat
 u2:Nat
 c2:Nat
 nn:Nat
def AV.vs(x:AV):List Value:=[.int .i64 x.kd,.int .u32 (x.s1:Int),.int .u32 (x.u1:Int),.int .u64 (x.c1:Int),.int .u32 (x.s2:Int),.int .u32 (x.u2:Int),.int .u64 (x.c2:Int),.int .u8 (x.nn:Int)]
def AV.ok(x:AV):Prop:=x.s1<4294967296/\x.u1<4294967296/\x.c1<=av/\x.s2<4294967296/\x.u2<4294967296/\x.c2<=av/\x.nn<256
variable {B p i:Nat}{o:Option Obj}{w:World}{S:VD}
theorem UY(h:aO B p o i w S)(e:i<=60){x:AV}(z:x.ok):Calls prog 8 #[.pointer (some ⟨p,0,none⟩),.agg #[.int .i64 x.kd,.int .u32 (x.s1:Int),.int .u32 (x.u1:Int),.int .u64 (x.c1:Int),.int .u32 (x.s2:Int),.int .u32 (x.u2:Int),.int .u64 (x.c2:Int),.int .u8 (x.nn:Int)]] w (lZ B p o i S w):=by
 obtain⟨kd,s1,u1,c1,s2,u2,c2,nn⟩:=x;obtain⟨f1,f,j,k,m,u,v⟩:=z;dsimp only at *
 by_cases y:kd<0\/6<kd
 ·exact UW h e y _ _ _ _ _ _ _
 ·have:kd=0\/kd=1\/kd=2\/kd=3\/kd=4\/kd=5\/kd=6:=by omega
  rcases this with rfl|rfl|rfl|rfl|rfl|rfl|rfl
  ·exact UU h e s1 u1 c1 f1 f j _ _ _ _
  ·exact UH h e _ _ _ _ _ _ _
  ·exact UX h e _ _ _ _ _ _ _
  ·exact UO h e _ _ _ _ _ _ _
  ·exact UI h e _ _ _ _ _ _ _
  ·exact UQ h e s1 u1 c1 s2 u2 c2 nn f1 f j k m u v
  ·exact UJ h e _ _ _ _ _ _ _
end Vp
namespace Vp
open Go.RowKit Go.Deep Mem Crc Merge aX
open Runs (Fi rname runsR xE GU sortB dJ kC Ht)
open Store (Sto bare St none' nv)
open jZ (Blank)
attribute [local go_sem] Oper.semAt_some
theorem Jz(w:World):
  Calls prog 5 #[] w λe w'=>∃d s g cm Q,e=.returned (.tuple #[.pointer (some ⟨d,0,none⟩),.pointer (some ⟨s,0,none⟩),.bool true])/\St w' Q s d g 400 cm false none'/\(∀k,Q k->w.heap.size<=k)/\Below w.heap.size w w':=by
 have x:Hid (Calls prog 15 #[.int .i64 400] w λe w'=>∃d g,e=.returned (.tuple #[.pointer (some ⟨d,0,none⟩),.int .i64 0])/\Blank w' d g 400 false/\w.heap.size<=d/\w.heap.size<=g/\Below w.heap.size w w'):=jq (Go.Proofs.YtndkohocgfmamaaGreatDoor.jZ.kg 400 w (by decide) (by decide))
 go_enter func5,ntmps5
 go_wp2_with fail
 refine x.out.mono ?_;rintro e w1 ⟨d,g,rfl,hD,hd,D,h⟩;have y:=jq (Go.Proofs.YtndkohocgfmamaaGreatDoor.Store.UZ (N:=400) (by decide) hD);have f:=jq h;clear hD h
 go_wp2_with fail
 refine y.out.mono ?_;rintro e w2 ⟨s,cm,rfl,m,E,C,j⟩;have z:=jq m;have u:=jq j;clear m j
 go_wp2_with fail
 have:=f.out.size;refine bodyPost_ret (v:=.tuple #[.pointer (some ⟨d,0,none⟩),.pointer (some ⟨s,0,none⟩),.bool true]) (by simp[results,results5,go_sem]) rfl ⟨d,s,g,cm,_,rfl,z.out,λk A=>?_,f.out.trans (u.out.mono this)⟩;rcases A with rfl|rfl|rfl|rfl <;> omega
def Aw(B0 s d g cm:Nat)(w:World)(c:Nat)(H:List KC):Prop:=∃D x hb,aL (bare s d g 400 cm) ⟨s,[118],16,5⟩ 5 D w c x hb 0 xE H 0/\(∀k,D k\/k=c\/k=hb->B0<=k)/\B0<=w.heap.size
variable {B0 s d g cm c:Nat}{w:World}{Q:Nat->Prop}
theorem U0(h:St w Q s d g 400 cm false none')(C:∀k,Q k->B0<=k)(f:B0<=w.heap.size):
  Calls prog 6 #[.pointer (some ⟨s,0,none⟩),.string ⟨#[118]⟩,.int .i64 5] w λe w'=>∃c,e=.returned (.tuple #[.pointer (some ⟨c,0,none⟩),.int .i64 0])/\Aw B0 s d g cm w' c []/\Below w.heap.size w w':=by
 refine(kg (bare s d g 400 cm) ⟨s,[118],16,5⟩ rfl ⟨by simp,by simp,by simp,by simp,by simp,by simp⟩ rfl 5 rfl (GU h)).mono ?_;rintro e w' ⟨c,x,hb,ne,D,rfl,u,v,y,z,A,G,m⟩;obtain rfl:ne=0:=Nat.eq_zero_of_not_pos (λE=>A 0 E rfl);refine⟨c,rfl,⟨D,x,hb,u,λk j=>?_,ax f m.size⟩,m⟩;rcases j with j|rfl|rfl
 ·exact(v k j).elim (C k) (λh=>ax f h)
 ·exact ax f y
 ·exact ax f z
theorem Aw.step{w':World}{D:Nat->Prop}{x hb:Nat}{H:List KC}(hD:∀k,D k\/k=c\/k=hb->B0<=k)(e:B0<=w.heap.size)(h:aL (bare s d g 400 cm) ⟨s,[118],16,5⟩ 5 D w' c x hb 0 xE H 0)(f:Upon (λk=>k=hb) w w'):Aw B0 s d g cm w' c H/\Below B0 w w':=
 ⟨⟨D,x,hb,h,hD,ax e f.size⟩,f.below e (λk j=>hD k (.inr (.inr j)))⟩
theorem U1(h:Aw B0 s d g cm w c []):Calls prog 14 #[.pointer (some ⟨c,0,none⟩),.int .u32 0,.int .u32 5,.int .u64 1] w λe w'=>e=.returned (.int .i64 0)/\Aw B0 s d g cm w' c [(5,1)]/\Below B0 w w':=by
 obtain⟨D,x,hb,f,j,k⟩:=h;refine(Io f (5,1) (by unfold iI;decide) 0 5 rfl rfl rfl (by decide)).mono ?_;rintro e w' ⟨rfl,m,u⟩;exact⟨rfl,Aw.step j k m u⟩
theorem U2(h:Aw B0 s d g cm w c [(5,1)]):Calls prog 14 #[.pointer (some ⟨c,0,none⟩),.int .u32 0,.int .u32 5,.int .u64 2] w λe w'=>e=.returned (.int .i64 0)/\Aw B0 s d g cm w' c [(5,3)]/\Below B0 w w':=by
 obtain⟨D,x,hb,f,j,k⟩:=h;refine(Im f (5,2) (by unfold iI;decide) 0 5 rfl rfl (by decide)).mono ?_;rintro e w' ⟨rfl,m,u⟩;exact⟨rfl,Aw.step j k m u⟩
theorem U3:merged (bC [(5,3)] [])= [(5,3)]:=by
 obtain⟨e,f⟩:=qp (H:=[(5,3)]) (ls:=[]) (by simp);have m:sortB ([(5,3)].map ai++([]:List (List B)).flatten)= [ai (5,3)]:=List.perm_singleton.1 (dJ _);rw[m]at e;rcases hK:bC [(5,3)] []with _|⟨q,_|⟨r,t⟩⟩
 ·exact absurd (congrArg List.length e) (by rw[hK];simp)
 ·rw[hK]at e f;obtain⟨u,v⟩:=f q (by simp);have h:ai q=ai (5,3):=by simpa using e
  unfold ai at h;obtain⟨j,k⟩:=List.append_inj h (by rw[gJ,gJ]);have:q=(5,3):=Prod.ext (Bf (p64 u) (p64 (by decide)) j) (Bf (p64 v) (p64 (by decide)) k);rw[this]
  rfl
 ·exact absurd (congrArg List.length e) (by rw[hK];simp)
theorem U4(h:Aw B0 s d g cm w c [(5,3)]):Calls prog 11 #[.pointer (some ⟨c,0,none⟩)] w λe w'=>∃v,e=.returned (.tuple #[v,.int .i64 0])/\w'.ownsRow w.heap.size 49 3 v 1 (aH (5,3))/\Below B0 w w':=by
 obtain⟨D,x,hb,m,u,y⟩:=h;refine(uL m (ls:=[]) rfl (by decide) (λj z=>absurd z (je j)) (λnm b e=>by cases e) (by decide)).mono ?_;rintro e w' ⟨D',v,rfl,ha⟩;have f:=ha.row;rw[U3]at f;exact⟨v,rfl,f,ha.upon.below y (λk A=>u k (.inl A))⟩
theorem U5(w:World):Calls prog 4 #[] w λe w'=>e=.returned (.bool true)/\Below w.heap.size w w':=by
 have m:=jq (Jz w)
 go_enter func4,ntmps4
 go_wp2_with fail
 refine m.out.mono ?_;rintro e w1 ⟨d,s,g,cm,Q,rfl,N,E,f⟩;have x:=jq (U0 N E f.size);have u:=jq f;clear N E f m
 go_wp2_with fail
 refine x.out.mono ?_;rintro e w2 ⟨c,rfl,G,y⟩;have h:=jq (U1 G);have O:=jq (u.out.trans (y.mono u.out.size));clear G y x
 go_wp2_with fail
 refine h.out.mono ?_;rintro e w3 ⟨rfl,I,z⟩;have P:=jq (O.out.trans z);have j:=jq (U2 I);clear I z h
 go_wp2_with fail
 refine j.out.mono ?_;rintro e w4 ⟨rfl,J,A⟩;have R:=jq (P.out.trans A);have k:=jq (U4 J);clear J A j
 go_wp2_with fail
 refine k.out.mono ?_;rintro e w5 ⟨v,rfl,M,C⟩;have T:=jq (R.out.trans C);obtain⟨va,vc,rfl,_,D,_,_⟩:=own_shape M;obtain⟨Z,off,rfl,U,X,Y,_⟩:=nH (l:=[(5,3)]) D (show([(5,3)]:List KC)[0]? =some (5,3)from rfl)
 simp at U X Y
 clear M D C k
 go_wp2_with fail
 go_ret
 exact⟨rfl,T.out⟩
theorem U6(sv:Value)(sp:ByteArray)(rm:Int)(w:World)(h:¬kC sp.size 16 rm):
  Calls prog 6 #[sv,.string sp,.int .i64 rm] w λe w'=>e=.returned (.tuple #[.pointer none,.int .i64 1])/\Below w.heap.size w w':=by
 have f:=jq (Ht sv sp 16 rm w h);clear h
 go_enter func6,ntmps6
 go_wp2_with fail
 refine f.out.mono ?_;rintro e w1 ⟨rfl,rfl⟩
 go_wp2_with fail
 go_ret2
 exact⟨rfl,Below.refl _ _⟩
end Vp
namespace Vp
open Go.RowKit Go.Deep Mem Crc Merge aX Full bQ
open Runs (aW Fi rname kC Bb)
open Store (Sto Files nv St none')
open Ext (Tab)
structure yt(w:World)(a:Option Addr)(l:List AV):Prop where
 row:Lies w a (l.flatMap AV.vs)
 acts:∀x∈l,x.ok
theorem yt.cells{w w':World}{a:Option Addr}{l:List AV}(h:yt w a l)(z:Below w.heap.size w w'){k:Nat}{x:AV}(C:l[k]? =some x):∃g o,a=some ⟨g,o,none⟩/\w'.cell? ⟨g,o+k*8,none⟩=some (.int .i64 x.kd)/\w'.cell? ⟨g,o+k*8+1,none⟩=some (.int .u32 (x.s1:Int))/\w'.cell? ⟨g,o+k*8+2,none⟩=some (.int .u32 (x.u1:Int))/\w'.cell? ⟨g,o+k*8+3,none⟩=some (.int .u64 (x.c1:Int))/\w'.cell? ⟨g,o+k*8+4,none⟩=some (.int .u32 (x.s2:Int))/\w'.cell? ⟨g,o+k*8+5,none⟩=some (.int .u32 (x.u2:Int))/\w'.cell? ⟨g,o+k*8+6,none⟩=some (.int .u64 (x.c2:Int))/\w'.cell? ⟨g,o+k*8+7,none⟩=some (.int .u8 (x.nn:Int)):=by
 have m:∀{j:Nat} {u:Value},x.vs[j]? =some u->(l.flatMap AV.vs)[k*8+j]? =some u:=Dk.oU (f:=AV.vs) (s:=8) (λy _=>rfl) C;have v:=m (j:=0) rfl;have A:=h.row.later z;obtain⟨g,o,rfl,_,hc⟩:=A.resolve_left (λe=>by rw[e]at v;simp at v);exact⟨g,o,rfl,hc _ _ v,hc _ _ (m (j:=1) rfl),hc _ _ (m (j:=2) rfl),hc _ _ (m (j:=3) rfl),hc _ _ (m (j:=4) rfl),hc _ _ (m (j:=5) rfl),hc _ _ (m (j:=6) rfl),hc _ _ (m (j:=7) rfl)⟩
variable {p:Nat}{w:World}
theorem U7{B s d x c hb ne rm:Nat}{o:Option Obj}{pf:List UInt8}{D:Nat->Prop}(h:aL (bL B s d 400 o (λ_=>none)) ⟨s,pf,16,rm⟩ rm D w c x hb ne (λ_=>none) [] 20000)(y:∀j,j<ne->(λ_=>none:Files) (rname pf j)≠none)(f:∀k,(D k\/k=c\/k=hb)->B<=k\/k=0)(m:Blk w p 43 #[.pointer (some ⟨d,0,none⟩),.pointer (some ⟨s,0,none⟩),.pointer (some ⟨c,0,none⟩),.slice none 0 0,nv pf,.int .i64 16,.int .i64 rm,.slice none 0 0,.int .i64 ne,.slice none 0 0,.slice none 0 0])(v:¬(D p\/p=c\/p=hb))(u:B<=p):
  aO B p o 0 w ⟨s,d,c,x,hb,pf,rm,D,λ_=>none,λ_=>none,20000,ne,[],none,0,none,0,0,[],none,0,[],none,0⟩:=
 ⟨h,y,f,m,v,u,.none,.none,.none,⟨.nil,λnm b=>by simp⟩,⟨.nil,λnm b=>by simp⟩,(λnm b e=>by cases e),(λnm b e=>by cases e),aj _,aj _,aj _,aj _,aj _⟩
attribute [local go_sem] Oper.semAt_some
theorem U8(pf:List UInt8)(rm:Int)(a:Option Addr)(c:Nat)(l:List AV)(w:World)(h:yt w a l)(hT:Tab w):
  Calls prog 3 #[nv pf,.int .i64 rm,.slice a l.length c] w λe w'=>e=.returned (.bool true)/\Below w.heap.size w w':=by
 have h0:Hid (∀V,Calls prog 4 #[] V λe w'=>e=.returned (.bool true)/\Below V.heap.size V w'):=jq U5;obtain⟨n,hn⟩:=jl l.length;obtain⟨sp,a1⟩:∃s:ByteArray,nv pf=.string s:=⟨_,rfl⟩;have d7:sp.size=pf.length:=Bb a1;have H:=jq h;have HT:=jq hT;have z6:=jq (And.intro d7 (And.intro a1 trivial));rw[<-hn,a1];have HN:=jq hn;clear h hT hn d7 a1
 by_cases z9:100<sp.size\/60<n
 ·by_cases e8:100<sp.size
  ·have hd:decide (100<(sp.size:Int))=true:=jd (by omega);clear z9
   go_enter func3,ntmps3
   go_wp2_with fail
   refine(h0.out _).mono ?_;rintro e w2 ⟨rfl,f⟩;have HB:=jq f;clear f
   go_wp2_with fail
   go_ret
   exact⟨rfl,HB.out⟩
  ·have z8:60<n:=z9.resolve_left e8;have hd:decide (100<(sp.size:Int))=false:=jf (by omega);have e9:decide (60<(n:Int))=true:=jd (by omega);clear z9
   go_enter func3,ntmps3
   go_wp2_with fail
   refine(h0.out _).mono ?_;rintro e w2 ⟨rfl,f⟩;have HB:=jq f;clear f
   go_wp2_with fail
   go_ret
   exact⟨rfl,HB.out⟩
 ·have hd:decide (100<(sp.size:Int))=false:=jf (by omega);have e9:decide (60<(n:Int))=false:=jf (by omega);have f4:n<=60:=by omega
  clear z9
  go_enter func3,ntmps3
  have a6:=jq (Jz w)
  go_wp2_with fail
  refine a6.out.mono ?_;rintro e w1 ⟨d,s,g,cm,Q,rfl,Z,hQ,P⟩
  by_cases Y:kC sp.size 16 rm
  ·obtain⟨v,rfl⟩:∃q:Nat,rm=q:=⟨rm.toNat,by unfold kC at Y;omega⟩;obtain⟨o,ho⟩:=jl (w1.heap[0]?);have b4:0<w.heap.size:=HT.out.lt;have b3:=Ue Z (by decide) (by decide) (HT.out.below P b4) b4 P.size hQ;rw[<-ho]at b3
   have M: (⟨s,pf,16,v⟩:Fi).ok:=by
    have:=z6.out.1;unfold kC at Y;unfold Fi.ok;dsimp only
    omega
   have c8:Hid (∀V,Below w1.heap.size w1 V->Calls prog 6 #[.pointer (some ⟨s,0,none⟩),.string sp,.int .i64 v] V λe w'=>∃c,e=.returned (.tuple #[.pointer (some ⟨c,0,none⟩),.int .i64 0])/\Hid (∃x hb D,aL (bL w.heap.size s d 400 o (λ_=>none)) ⟨s,pf,16,v⟩ v D w' c x hb 0 (λ_=>none) [] 20000/\∀k,(D k\/k=c\/k=hb)->(w.heap.size<=k\/k=0)/\k<w'.heap.size)/\Below V.heap.size V w'):=jq (λV hV=>by
    have:=kg (bL w.heap.size s d 400 o (λ_=>none)) ⟨s,pf,16,v⟩ rfl M rfl v rfl ((bL w.heap.size s d 400 o (λ_=>none)).later b3 hV);dsimp only at this;rw[z6.out.2.1]at this;refine this.mono ?_;rintro e w' ⟨c,x,hb,ne,D,rfl,C,E,h3,h4,h5,-,h7⟩;obtain rfl:ne=0:=Nat.eq_zero_of_not_pos (λhp=>h5 0 hp rfl);have f5:=P.size;have f6:=hV.size;refine⟨c,rfl,jq ⟨x,hb,D,C,λk G=>?_⟩,h7⟩;rcases G with G|rfl|rfl
    ·refine⟨?_,C.lt k G⟩;rcases E k G with h8|h8
     ·exact h8.imp (hQ k) id
     ·exact .inl (by omega)
    ·exact⟨.inl (by omega),C.blk.lt⟩
    ·exact⟨.inl (by omega),C.map.lt⟩)
   have d0:Hid (∀(an:Option Addr) (nc:Nat) (V:World),Calls prog 7 #[.slice an 0 nc,.string sp,.int .i64 v] V λe w'=>e=.returned (.tuple #[.agg #[.slice none 0 0,.string sp,.int .i64 16,.int .i64 v,.slice none 0 0,.int .i64 0],.int .i64 0])/\Below V.heap.size V w'):=jq (λan nc V=>by
    have:=Jq ⟨s,pf,16,v⟩ M rfl [] (λ_=>none) an nc 0 V ⟨.nil,λnm b=>by simp⟩ (λj hj=>absurd hj (je j)) rfl jn (.inl rfl) (aC _);unfold cV at this;dsimp only at this;rw[z6.out.2.1]at this;exact this)
   have T:=jq P;clear Z hQ P b3 M ho b4 Y a6
   go_wp2_with fail
   refine(c8.out _ (by first|exact Below.refl _ _|exact(Below.refl _ _).drew)).mono ?_;rintro e w2 ⟨ct,rfl,z5,h9⟩;have U:=jq (T.out.trans (h9.mono T.out.size));clear h9 c8
   go_wp2_with fail
   refine(d0.out _ _ _).mono ?_;rintro e w3 ⟨rfl,y8⟩;have X:Below w2.heap.size w2 w3:=((Below.refl _ w2).alloc jn _).trans (y8.mono (by simp));have I:=jq X;clear y8 X
   go_wp2_with fail
   obtain⟨W5,z7⟩:=jl ((w3.alloc (.cells #[.slice none 0 0,.string sp,.int .i64 16,.int .i64 v,.slice none 0 0,.int .i64 0] 37)).alloc (.cells #[.pointer (some ⟨d,0,none⟩),.pointer (some ⟨s,0,none⟩),.pointer (some ⟨ct,0,none⟩),.slice none 0 0,.string sp,.int .i64 16,.int .i64 v,.slice none 0 0,.int .i64 0,.slice none 0 0,.slice none 0 0] 43));obtain⟨p,hp⟩:=jl (w3.heap.size+1);have a7:Below w3.heap.size w3 W5:=by rw[z7];exact((Below.refl _ w3).alloc jn _).alloc (by simp) _
   have a9:Blk W5 p 43 #[.pointer (some ⟨d,0,none⟩),.pointer (some ⟨s,0,none⟩),.pointer (some ⟨ct,0,none⟩),.slice none 0 0,.string sp,.int .i64 16,.int .i64 v,.slice none 0 0,.int .i64 0,.slice none 0 0,.slice none 0 0]:=by
    rw[z7,hp];have:=Blk.new (w3.alloc (.cells #[.slice none 0 0,.string sp,.int .i64 16,.int .i64 v,.slice none 0 0,.int .i64 0] 37)) 43 #[.pointer (some ⟨d,0,none⟩),.pointer (some ⟨s,0,none⟩),.pointer (some ⟨ct,0,none⟩),.slice none 0 0,.string sp,.int .i64 16,.int .i64 v,.slice none 0 0,.int .i64 0,.slice none 0 0,.slice none 0 0];rw[World.size_alloc]at this;exact this
   rw[<-z7,<-hp];have z2:=U.out.size;have z3:=I.out.size;rw[<-z6.out.2.1]at a9
   have c9:Hid (∃S,aO w.heap.size p o 0 W5 S):=jq (by
    obtain⟨x,hb,D,C,E⟩:=z5.out;refine⟨_,U7 ((C.later I.out).later a7) (λj hj=>absurd hj (je j)) (λq hq=>(E q hq).1) a9 (λhq=>by have:=(E p hq).2;omega) (by omega)⟩)
   have d1:Hid (Below w.heap.size w W5):=jq ((U.out.trans (I.out.mono z2)).trans (a7.mono (ax z2 z3)));clear z7 hp a7 a9 z2 z3 z5 U I d0 T
   go_loopw[15] (λu wr=>∃(j:Nat) (S:VD),j<=n/\u=.int .i64 (j:Int)/\Hid (aO w.heap.size p o j wr S)/\Hid (Below w.heap.size w wr)) (λu _=>n-(intOf u).toNat)
   case atStart=>
    obtain⟨S,hS⟩:=c9.out;exact⟨0,S,aC _,rfl,jq hS,d1⟩
   case round=>
    clear c9 d1;obtain⟨j,S,hj,rfl,O,z4⟩:=hrel
    by_cases f1:j<n
    ·have f0:decide ((j:Int) <(n:Int))=true:=jd (by omega);obtain⟨y,hy⟩:∃y,l[j]? =some y:=⟨l[j]'(by rw[<-HN.out];exact f1),jg _⟩;obtain⟨gl,ol,rfl,c0,c1,c2,c3,c4,c5,c6,c7⟩:=H.out.cells z4.out hy;have hD:=UY O.out (by omega) (H.out.acts y (jM hy));obtain⟨⟨y0,y1,y2,y3,y4,y5,y6,y7⟩,d8⟩:∃q,q=y:=⟨_,rfl⟩;rw[<-d8]at hD c0 c1 c2 c3 c4 c5 c6 c7;dsimp only at hD c0 c1 c2 c3 c4 c5 c6 c7;have HD:=jq hD;clear hy hD d8
     go_wp2_with fail
     refine HD.out.mono ?_;rintro e w5 (⟨rfl,Z⟩|⟨rfl,y9⟩)
     ·have y9:Below w.heap.size w w5:=z4.out.trans (lY.below O.out Z);obtain⟨S5,z0,-⟩:=Z;obtain⟨hl,R⟩:=jl S5.Hd.length;obtain⟨sx,N⟩:=jl S5.c;obtain⟨sn,b2⟩:=jl S5.ne;have J:=z0.blk;unfold VD.cells at J;rw[<-R,<-N,<-b2]at J;obtain⟨⟨-,-,q2,q3,-,-,-,-,q8,-,-⟩,-⟩:=eleven J
      have e0:Hid (∀m,Calls prog 9 #[.pointer (some ⟨sx,0,none⟩)] (w5.drewN m) λe w'=>e=.returned (.int .i64 hl)/\w'=w5.drewN m):=jq (λm=>by
       have a8:Below w5.heap.size w5 (w5.drewN m):=⟨rfl,rfl,rfl,aj _,λ_ _=>rfl⟩;have:=SV (z0.later a8).live;rw[<-R,<-N]at this;exact this.mono (λe w' h=>⟨h.1,h.2.symm⟩))
      have e6:Hid (∀m,Calls prog 10 #[.pointer (some ⟨sx,0,none⟩)] (w5.drewN m) λe w'=>e=.returned (.int .i64 sn)/\∃q,w'=(w5.drewN m).drewN q):=jq (λm=>by
       have a8:Below w5.heap.size w5 (w5.drewN m):=⟨rfl,rfl,rfl,aj _,λ_ _=>rfl⟩;have:=AB (z0.later a8).live;rw[<-b2,<-N]at this;exact this)
      have e3:=jq z0;have z1:=jq y9;clear J R N b2 z0 y9 c0 c1 c2 c3 c4 c5 c6 c7 HD
      go_wp2_with fail
      go_quiet ((first|(go_at_call 9;refine Calls.quiet_of_same (e0.out _))|(go_at_call 10;refine Calls.quiet_of (e6.out _))))
      go_wp2_with fail
      go_roundw
      case rel=>exact⟨j+1,S5,by omega,by simp,jq (e3.out.later ⟨rfl,rfl,rfl,aj _,λ_ _=>rfl⟩),jq (z1.out.trans ⟨rfl,rfl,rfl,aj _,λ_ _=>rfl⟩)⟩
      case measure=>simp[intOf];omega
     ·have z1:=jq (z4.out.trans y9);clear y9 HD
      go_wp2_with fail
      refine(h0.out _).mono ?_;rintro e w6 ⟨rfl,f⟩;have h6:=jq f;clear f
      go_wp2_with fail
      go_ret
      exact⟨rfl,z1.out.trans (h6.out.mono z1.out.size)⟩
    ·obtain rfl:j=n:=by omega
     have f0:decide ((j:Int) <(j:Int))=false:=jf (by omega);have hP:=O.out;obtain⟨K,hK,hg,hr⟩:=hP.xY (by omega);have hg:=hg wr (Below.refl _ _);obtain⟨tp,b5⟩:∃s:ByteArray,nv S.pf=.string s:=⟨_,rfl⟩;obtain⟨rm,b1⟩:∃z:Int,z=(S.rm:Int):=⟨_,rfl⟩;obtain⟨kl,a0⟩:=jl K.length;obtain⟨hl,R⟩:=jl S.Hd.length;obtain⟨pn,b0⟩:=jl S.L.length;obtain⟨sx,N⟩:=jl S.c;have J:=hP.cells b5;rw[<-b1,<-R,<-b0,<-N]at J
     have HR:Hid (∀W,Lies W S.mh (S.Hd.flatMap aH)->Lies W S.an (aU S.L)->Calls prog 12 #[.agg #[.slice S.mh hl S.mc,.string tp,.int .i64 16,.int .i64 rm,.slice S.xh S.xl S.xc,.int .i64 S.ne],.slice S.an pn S.nc] W λe w1=>∃a c,e=.returned (.tuple #[.slice a kl c,.int .i64 0])/\Hid (Lies w1 a (K.flatMap aH))/\Hid (Below W.heap.size W w1)):=jq (λW a b=>by
      have:=hr W a b;rw[show cV S.A S.mh S.Hd.length S.mc S.xh S.xl S.xc S.ne=.agg #[.slice S.mh S.Hd.length S.mc,.string tp,.int .i64 16,.int .i64 rm,.slice S.xh S.xl S.xc,.int .i64 S.ne]by unfold cV VD.A;dsimp only;rw[b5,b1];rfl,<-R,<-b0,<-a0]at this;refine this.mono ?_;rintro e w1 ⟨a,c,rfl,C,E⟩;exact⟨a,c,rfl,jq C,jq E⟩)
     have HS:Hid (∀(a b:Option Addr) (c d:Nat) (w:World),Lies w a (K.flatMap aH)->Lies w b (K.flatMap aH)->Calls prog 13 #[.slice a kl c,.slice b kl d] w λe w'=>e=.returned (.bool true)/\Below w.heap.size w w'):=jq (λa b c d w C E=>by rw[a0];exact Jr K a b c d w C E hK);rw[<-a0,<-N]at hg;obtain⟨⟨-,-,q2,-⟩,-⟩:=eleven J;have HG:=jq hg;have d9:=jq J;clear hP hg hr J b5 b1 a0 R b0 N hK
     go_wp2_with fail
     refine HG.out.mono ?_;rintro e a5 ⟨a2,d2,D',rfl,d5,M⟩;have z8:=d9.out.upon M.upon (λhd=>O.out.pD (.inl hd));obtain⟨⟨q0,q1,f3,q3,q4,q5,q6,q7,q8,q9,f2⟩,-⟩:=eleven z8;have z5:=jq d5;have a4:=M.upon.mono (λk (G:S.D k)=>(.inl (.inl G):S.DD k\/k=p));have b8:=jq (z4.out.trans (O.out.under a4 (qy M.ctr).1));have b9:=jq z8;have e4:=jq (HR.out a5.drew (O.out.ml.step a4 (λk G=>.inl G)).lies (O.out.nl.step a4 (λk G=>.inl G)).lies);clear z8 d5 M a4 q0 q1 q2 f3 f2
     go_wp2_with fail
     go_region_held3 (λw'=>w'.cell? ⟨p,3,none⟩=some (.slice S.mh hl S.mc)/\w'.cell? ⟨p,4,none⟩=some (.string tp)/\w'.cell? ⟨p,5,none⟩=some (.int .i64 16)/\w'.cell? ⟨p,6,none⟩=some (.int .i64 rm)/\w'.cell? ⟨p,7,none⟩=some (.slice S.xh S.xl S.xc)/\w'.cell? ⟨p,8,none⟩=some (.int .i64 S.ne)/\w'.cell? ⟨p,9,none⟩=some (.slice S.an pn S.nc)) (first|exact⟨q3,q4,q5,q6,q7,q8,q9⟩|exact d6) ((go_at_call 12;refine e4.out.mono ?_;rintro e w3' ⟨a3,d3,rfl,e1,I⟩;have d6:w3'.cell? ⟨p,3,none⟩=some (.slice S.mh hl S.mc)/\w3'.cell? ⟨p,4,none⟩=some (.string tp)/\w3'.cell? ⟨p,5,none⟩=some (.int .i64 16)/\w3'.cell? ⟨p,6,none⟩=some (.int .i64 rm)/\w3'.cell? ⟨p,7,none⟩=some (.slice S.xh S.xl S.xc)/\w3'.cell? ⟨p,8,none⟩=some (.int .i64 S.ne)/\w3'.cell? ⟨p,9,none⟩=some (.slice S.an pn S.nc):=(by obtain⟨⟨x0,x1,x2,x3,x4,x5,x6,x7,x8,x9,f7⟩,-⟩:=eleven (b9.out.drew.below I.out b9.out.drew.lt);exact⟨x3,x4,x5,x6,x7,x8,x9⟩);dsimp only))
     all_goals clear d6 q3 q4 q5 q6 q7 q8 q9
     all_goals
      have X:Below a5.heap.size a5 w3':=(Below.refl _ a5).drew.trans I.out;have e7:=jq (HS.out a2 a3 d2 d3 w3' (z5.out.later X) e1.out);have b6:=jq (b8.out.trans (X.mono b8.out.size));clear X
      go_wp2_with fail
      refine e7.out.mono ?_;rintro e w4 ⟨rfl,d4⟩;have b7:=jq (b6.out.trans (d4.mono b6.out.size));clear d4
      go_wp2_with fail
      refine(h0.out _).mono ?_;rintro e w6 ⟨rfl,f⟩;have h6:=jq f;clear f
      go_wp2_with fail
     all_goals go_ret
     all_goals exact⟨rfl,b7.out.trans (h6.out.mono b7.out.size)⟩
  ·have e2:Hid (∀V,Calls prog 6 #[.pointer (some ⟨s,0,none⟩),.string sp,.int .i64 rm] V λe w'=>e=.returned (.tuple #[.pointer none,.int .i64 1])/\Below V.heap.size V w'):=jq (λV=>U6 _ sp rm V Y);have e5:Hid (∀(an:Option Addr) (n nc:Nat) (V:World),Calls prog 7 #[.slice an n nc,.string sp,.int .i64 rm] V λe w'=>e=.returned (.tuple #[.agg #[.slice none 0 0,.string ⟨#[]⟩,.int .i64 0,.int .i64 0,.slice none 0 0,.int .i64 0],.int .i64 1])/\Below V.heap.size V w'):=jq (λan n nc V=>UK an n nc sp rm V Y);have T:=jq P;clear Z hQ P Y a6
   go_wp2_with fail
   refine(e2.out _).mono ?_;rintro e w2 ⟨rfl,h9⟩;have U:=jq (T.out.trans (h9.mono T.out.size));clear h9
   go_wp2_with fail
   refine(e5.out _ _ _ _).mono ?_;rintro e w3 ⟨rfl,y8⟩;have I:=jq y8;clear y8
   go_wp2_with fail
   refine(h0.out _).mono ?_;rintro e w6 ⟨rfl,f⟩;have h6:=jq f;clear f
   go_wp2_with fail
   go_ret
   have C:Below w.heap.size w w3:=U.out.trans ((((Below.refl _ _).alloc jn _).trans (I.out.mono (by simp))).mono U.out.size);have E:=C.alloc C.size (.cells #[.slice none 0 0,.string ⟨#[]⟩,.int .i64 0,.int .i64 0,.slice none 0 0,.int .i64 0] 37);exact⟨rfl,E.trans (h6.out.mono E.size)⟩
end Vp
end Go.Proofs.YtndkohocgfmamaaGreatDoor
