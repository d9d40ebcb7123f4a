/- Part. -/
import Derived.Test.YtndkohocgfmamaaGreatDoorF8
import Derived.Test.YtndkohocgfmamaaGreatDoorF29
import Derived.Test.YtndkohocgfmamaaGreatDoorF31
set_option maxHeartbeats 4000000
set_option maxRecDepth 100000
namespace Go.Proofs.YtndkohocgfmamaaGreatDoor
open Go.Proofs.Tryz
namespace Runs
open Go.RowKit Go.Deep Go.Shelf Mem Crc Merge
open Store (Sto Files setF nv)
open Go.Proofs.YtndkohocgfmamaaGreatDoor.Text (dec)
attribute [local go_sem] Oper.semAt_some
def sorterC(A:Fi)(fi ne:Nat)(hv:Value):Array Value:=#[.pointer (some ⟨A.s,0,none⟩),nv A.pf,.int .i64 A.wd,.int .i64 A.rm,.int .i64 fi,.int .i64 ne,hv]
structure bM(w:World)(R:Nat->Prop)(wd:Nat)(hv:Value)(vs:List SL)(held:List B):Prop where
 own:gY w 0 hv vs
 recs:bY w (vs.map sl) held
 wide:∀b∈held,b.length=wd
 rb:∀y∈vs,∀g,Mem.blk y.1=some g->R g
 rlt:∀g,R g->g<w.heap.size
 apart:∀g,R g->hv.ownBlock≠some g
structure Srt{s:Nat}(S:Store.Sto s)(A:Fi)(w:World)(Q R:Nat->Prop)(off:Bool)(F:Files)(n:Nat)(x ne:Nat)(hv:Value)(vs:List SL)(held:List B):Prop where
 nY:A.s=s
 blk:Blk w x 122 (sorterC A 0 ne hv)
 fq:S.At w Q off F n
 mem:bM w R A.wd hv vs held
 rq:∀g,R g->¬Q g/\g≠x
 hq:∀g,hv.ownBlock=some g->¬Q g/\g≠x
 xq:¬Q x
 ok:A.ok
 room:List.length held<=A.rm
 few:ne<=1000000
variable {w w':World}{R Q:Nat->Prop}{hv:Value}{s n x:Nat}{F:Files}
theorem bM.keep{wd:Nat}{vs:List SL}{held:List B}(h:bM w R wd hv vs held){P:Nat->Prop}(j:Upon P w w')(r:∀g,R g->¬P g)(u:∀g,hv.ownBlock=some g->¬P g):bM w' R wd hv vs held:=
 ⟨fC h.own j u,⟨h.recs.len,λi v b m hb=>by
  obtain⟨a,c,e,p,q⟩:=h.recs.at_ i v b m hb;refine⟨a,c,e,p,q.upon j (λg f=>?_)⟩;rw[List.getElem?_map,Option.map_eq_some_iff]at m;obtain⟨y,z,d⟩:=m
  have o:y.1=a:=by
   rw[e]at d;unfold sl at d;injection d
  exact r g (h.rb y (jM z) g (by rw[o];exact f))⟩,h.wide,h.rb,λg f=>aD (h.rlt g f) j.size,h.apart⟩
theorem Srt.keep{s:Nat}{S:Sto s}{A:Fi}{w w':World}{Q R:Nat->Prop}{off:Bool}{F:Files}{n x ne:Nat}{hv:Value}{vs:List SL}{held:List B}(h:Srt S A w Q R off F n x ne hv vs held){P:Nat->Prop}(d:Upon P w w')(f:∀g,Q g->¬P g)(i:∀g,R g->¬P g)(j:∀g,hv.ownBlock=some g->¬P g)(o:¬P x):Srt S A w' Q R off F n x ne hv vs held:=
 ⟨h.nY,h.blk.upon d o,S.upon h.fq d (λk m hq=>f k hq m),h.mem.keep d i j,h.rq,h.hq,h.xq,h.ok,h.room,h.few⟩
theorem Srt.later{S:Sto s}{A:Fi}{off:Bool}{ne:Nat}{vs:List SL}{held:List B}(h:Srt S A w Q R off F n x ne hv vs held)(d:Below w.heap.size w w'):Srt S A w' Q R off F n x ne hv vs held:=
 h.keep (P:=λ_=>False) (Upon.of_below d) (λ_ _ h=>h) (λ_ _ h=>h) (λ_ _ h=>h) (λh=>h)
theorem Srt.cell{s:Nat}{S:Sto s}{A:Fi}{w:World}{Q R:Nat->Prop}{off:Bool}{F:Files}{n x ne:Nat}{hv:Value}{vs:List SL}{held:List B}(h:Srt S A w Q R off F n x ne hv vs held)(i:Nat):w.cell? ⟨x,i,none⟩=(sorterC A 0 ne hv)[i]?:=h.blk.cell i
theorem RU(k:Nat){va:Option Addr}{vc:Nat}(d:Lies w va ((dec k).map bv)): (convert 84 9 (.slice va (dec k).length vc)).run prog w=.ok (.string ⟨(dec k).toArray⟩) w:=by
 obtain⟨g,off,rfl,_,hc⟩:=d.resolve_left (λe=>by
  rw[dM]at e;exact RV k e)
 exact run_convert_bytes_back w 84 9 5 _ vc _ underlying84 underlying5 underlying9 (λj f=>dQ (.inr ⟨g,off,rfl,by assumption,hc⟩) j _ (by simp[f,bv]))
theorem uG(pf:List UInt8)(G:pf.length<=16)(k:Nat)(B:k<=1000000)(x:Nat)(w:World)(h:w.cell? ⟨x,1,none⟩=some (nv pf))(r:x<w.heap.size):
  Calls prog 50 #[.pointer (some ⟨x,0,none⟩),.int .i64 k] w λe w'=>e=.returned (nv (rname pf k))/\Below w.heap.size w w':=by
 have H:IntKind.u64.wrap (k:Int)=k:=IntWalk.u64_in _ (by omega);have j:=jq (Go.Proofs.YtndkohocgfmamaaGreatDoor.Text.sF k w.drew (by omega));have y:=jq r;have i:=jq (fun(va:Option Addr) (vc:Nat) (w2:World) (d:Lies w2 va ((dec k).map bv))=>RU k (vc:=vc) d);obtain⟨m,f⟩:=jl (dec k);have E:pf.length+m.length<=9223372036854775807:=by rw[f];have:=Gv k;omega
 have u:=jq (show nv (rname pf k)=.string ((⟨pf.toArray⟩:ByteArray)++(⟨m.toArray⟩:ByteArray))by rw[Gw,f];rfl);rw[<-f]at j i;unfold nv at h;clear r f
 go_enter func50,ntmps50
 go_wp2_with fail
 go_region_with ((go_at_call 89;refine j.out.mono ?_;rintro e w2 ⟨v,rfl,q,o⟩;obtain⟨va,vc,rfl,_,d,_,_⟩:=own_shape q;have C:=(o.cell (p:=⟨x,1,none⟩) y.out).trans h;have z:=i.out va vc w2 d;clear q d))
 all_goals
  go_wp2_with fail
  go_ret
  exact⟨by rw[u.out];rfl,((Below.refl w.heap.size w).drew).trans o⟩
structure Az(w w':World)(vs:List SL)(held:List B)(v:Value)(vs':List SL)(l':List B):Prop where
 len:vs'.length=vs.length
 own:gY w' w.heap.size v vs'
 recs:bY w' (vs'.map sl) l'
 perm:l'.Perm held
 rises:aS l'
 sub:∀y∈vs',y∈vs
 below:Below w.heap.size w w'
theorem sorted_any(x:Nat){wd:Nat}{vs:List SL}{held:List B}(h:bM w R wd hv vs held)(M:w.cell? ⟨x,6,none⟩=some hv)(L:1<=wd)(J:vs.length<=1000000):
  Calls prog 70 #[.pointer (some ⟨x,0,none⟩)] w λe w'=>∃v i l',e=.returned v/\Az w w' vs held v i l':=by
 obtain⟨a,c,rfl,hc,C,_,_⟩:=own_shape h.own;have m:=jq (callsIn_wide.1 (values_in Fence.wide 0 trivial rfl a vs.length c w));obtain⟨W,d⟩:=jl (w.alloc (.cells #[.slice a vs.length c] 120));have f:Below w.heap.size w W:=by rw[d];exact(Below.refl _ w).alloc jn _
 have E:W.cell? ⟨w.heap.size,0,none⟩=some (.slice a vs.length c):=by rw[d,(Blk.new w _ _).cell];rfl
 have G:w.heap.size<W.heap.size:=by rw[d];simp
 have I:=jq (RG (w0:=w) (l:=held) W w.heap.size G C hc J f E (h.recs.later f) (λb hb e=>by
  have:=h.wide b hb;rw[e]at this
  simp at this
  omega))
 have j:=jq f;rw[<-d]at m;clear h C f E G d
 go_enter func70,ntmps70
 go_wp2_with fail
 refine m.out.mono ?_;rintro e w1 ⟨rfl,rfl⟩
 go_wp2_with fail
 refine I.out.mono ?_;rintro e w2 ⟨v,i,l',rfl,o,p,q,r,u,y,z⟩;have H:=jq (show Az w w2 vs held v i l' from⟨o,bH p j.out.size,q,r,u,y,j.out.trans (z.mono j.out.size)⟩);clear o p q r u y z
 go_wp2_with fail
 go_ret
 exact⟨_,i,l',rfl,H.out⟩
structure kz{s:Nat}(S:Store.Sto s)(A:Fi)(w w':World)(Q:Nat->Prop)(F:Files)(n x ne:Nat)(held:List B)(Q':Nat->Prop):Prop where
 aF:Srt S A w' Q' (λ_=>False) false (setF F (rname A.pf ne) (some (aR held))) (n+1) x (ne+1) (.slice none 0 0) [] []
 q:∀k,Q' k->Q k\/w.heap.size<=k
 upon:Upon (λk=>Q k\/k=x) w w'
theorem rE(w:World)(wd:Nat):bM w (λ_=>False) wd (.slice none 0 0) [] []:=
 ⟨World.ownsRow_nil _ _ _ _,rA w,λ_ h=>by simp at h,λ_ h=>by simp at h,λ_ h=>h.elim,λ_ h=>h.elim⟩
theorem xA{S:Store.Sto s}{A:Fi}{ne:Nat}{vs:List SL}{held:List B}(h:Srt S A w Q R false F n x ne hv vs held)(h0:held≠[])(hn:n<100000)(y5:ne<100000):
  Calls prog 55 #[.pointer (some ⟨x,0,none⟩)] w λe w'=>e=.returned (.int .i64 0)/\∃Q',kz S A w w' Q F n x ne held Q':=by
 obtain rfl:=h.nY;have V:=h.ok;obtain⟨k1,k2,k3,k4,k5,k6⟩:=id V;have x2:vs.length=held.length:=by simpa using h.mem.recs.len
 have x4:=h.room;have y6:0<held.length:=lD.2 h0;have L:=h.cell 6
 simp[sorterC]at L
 have HS:=jq (sorted_any x h.mem L k3 (by omega));obtain⟨a,c,rfl,hc,_,_,_⟩:=own_shape h.mem.own
 have y4: ((vs.length:Int)==0)=false:=by
  have:¬(vs.length:Int)=0:=by omega
  simpa using this
 have x7:=jq h.blk.lt;have H:=jq h;have y3:=jq x2;clear h x2
 go_enter func55,ntmps55
 go_wp2_with fail
 refine HS.out.mono ?_;rintro e w1 ⟨v,y8,l',rfl,m⟩;have x9:l'=sortB held:=tY m.perm m.rises;subst x9;obtain⟨va,vc,rfl,y0,hL,_,_⟩:=own_shape m.own
 have h7:=jq (Gu w1 hL y0 m.recs (λb hb e=>by
  have:=xB H.out.mem.wide b hb;rw[e]at this
  simp at this
  omega) (by
  rw[nZ H.out.mem.wide];have j:=Nat.mul_le_mul (ax x4 k6) k4
  omega) (by rw[(dJ held).length_eq];omega))
 have o:=jq m.below;clear m hL HS L
 go_wp2_with fail
 refine h7.out.mono ?_;rintro e w2 ⟨v2,rfl,x0,M⟩;have j:=H.out.later (o.out.trans (M.mono o.out.size));have h8:Below w.heap.size w w2:=o.out.trans (M.mono o.out.size);obtain⟨y1,y2,rfl,y7,h9,_,_⟩:=own_shape x0;have f:=jq j;have h5:=jq h8;have h6:=jq h9;clear h8 h9 x0 M j h7 o;obtain⟨bs,z⟩:=jl (Go.Proofs.YtndkohocgfmamaaGreatDoor.Frame.bq 82 (sortB held).flatten);rw[<-z]at h6⊢
 have x1:bs.length<=1048576:=by
  rw[z,Go.Proofs.YtndkohocgfmamaaGreatDoor.Frame.jY,nZ H.out.mem.wide];have j:=Nat.mul_le_mul (ax x4 k6) k4
  omega
 have T:=Gx V ne (by omega);have E:=f.out.cell 0;have q1:=f.out.cell 1;have G:=f.out.cell 5
 simp[sorterC]at E q1 G
 have h4:x<w2.heap.size:=f.out.blk.lt;have I:=jq (uG A.pf k2 ne (by omega) x w2.drew q1 h4);have J:=jq (fun(w3:World) (d:Below w2.heap.size w2 w3)=>S.write (S.later f.out.fq d) hn (rname A.pf ne) T.1 T.2 y1 y2 bs (h6.out.later d) x1);obtain⟨nm,x3⟩:=jl (nv (rname A.pf ne));rw[<-x3]at I J;have y:=jq H.out.xq;have x5:=jq z;have i:=jq h4;have x6:=jq ((Below.refl w2.heap.size w2).drew);clear z x3 h4 q1 x1 T x7
 go_wp2_with fail
 go_region_held3 (λw'=>w'.cell? ⟨x,0,none⟩=some (.pointer (some ⟨A.s,0,none⟩))/\w'.cell? ⟨x,5,none⟩=some (.int .i64 (ne:Int))) (first|exact⟨E,G⟩|exact C|exact O) ((first|(go_at_call 50;refine I.out.mono ?_;rintro e w3 ⟨rfl,d⟩;have d:=x6.out.trans d;have C:=And.intro ((d.cell (p:=⟨x,0,none⟩) i.out).trans E) ((d.cell (p:=⟨x,5,none⟩) i.out).trans G);dsimp only)|(go_at_call 30;refine(J.out w3 d).mono ?_;rintro e w4 ⟨rfl,Q4,Z,X,u⟩;have O:=And.intro ((World.cell?_of_block (a:=⟨x,0,none⟩) (u.block x (aD i.out d.size) y.out)).trans C.1) ((World.cell?_of_block (a:=⟨x,5,none⟩) (u.block x (aD i.out d.size) y.out)).trans C.2);dsimp only)))
 have q:Blk w4 x 122 (sorterC A 0 ne (.slice a vs.length c)):=(f.out.blk.below d i.out).upon u y.out;have Y:¬Q4 x:=λh=>(X x h).elim y.out (λh=>by have:=aD i.out d.size;omega)
 have f5:=q.frozen 5;have f6:=q.frozen 6;have g5:=O.2;have g6:=q.cell 6
 simp[sorterC]at g6
 have HE:Hid (∃Q',kz S A w ((w4.setCell ⟨x,5,none⟩ (.int .i64 ((ne:Int)+1))).setCell ⟨x,6,none⟩ (.slice none 0 0)) Q F n x ne held Q'):=jq (by
  obtain⟨W,N⟩:=jl ((w4.setCell ⟨x,5,none⟩ (.int .i64 ((ne:Int)+1))).setCell ⟨x,6,none⟩ (.slice none 0 0));have U:Only [x] w4 W:=by rw[N];exact((Only.refl [x] w4).set (p:=⟨x,5,none⟩) (.inl (by simp)) _).set (p:=⟨x,6,none⟩) (.inl (by simp)) _
  have x8:Blk W x 122 (sorterC A 0 (ne+1) (.slice none 0 0)):=by
   have:=(q.set 5 (.int .i64 ((ne:Int)+1))).set 6 (.slice none 0 0);rw[<-N]at this
   simpa[sorterC]using this
  rw[<-N];refine⟨Q4,⟨⟨rfl,x8,?_,rE W A.wd,λ_ h=>h.elim,(λ_ h=>by cases h),Y,V,by simp,by omega⟩,λk r=>?_,?_⟩⟩
  ·have:=S.keep Z U.size (λk r=>U.block k (S.lt Z k r) (by rintro h;rw[jE.1 h]at r;exact Y r));rw[x5.out]at this;exact this
  ·rcases X k r with h|h
   ·exact .inl h
   ·right
    have:=h5.out.size;have:=d.size
    omega
  ·have h1:Upon (λk=>Q k\/k=x) w w2:=Upon.of_below h5.out;have j:Upon (λk=>Q k\/k=x) w2 w4:=((Upon.of_below (P:=λk=>Q k\/k=x) d).trans (u.mono (λk h=>.inl h)) (λg h=>.inl h));have h3:Upon (λk=>Q k\/k=x) w4 W:=Upon.fB U (λg hg=>.inl (.inr (jE.1 hg)));exact(h1.trans j (λg h=>.inl h)).trans h3 (λg h=>.inl h))
 clear Z X u q Y d C O E G J I
 go_wp2_with fail
 go_ret
 exact⟨rfl,HE.out⟩
end Runs
namespace Runs
open Go.RowKit Go.Deep Go.Shelf Mem Crc Merge
open Store (Sto Files setF nv)
attribute [local go_sem] Oper.semAt_some
structure uH{s:Nat}(S:Store.Sto s)(A:Fi)(w w':World)(Q R:Nat->Prop)(off:Bool)(F:Files)(n x ne:Nat)(hv:Value)(held:List B)(R':Nat->Prop)(hv':Value)(vs':List SL):Prop where
 aF:Srt S A w' Q R' off F n x ne hv' vs' held
 r:∀k,R' k->R k\/w.heap.size<=k
 r0:∀k,R k->R' k
 h:∀k,hv'.ownBlock=some k->hv.ownBlock=some k\/w.heap.size<=k
 upon:Upon (λk=>k=x\/hv.ownBlock=some k) w w'
variable {w:World}{b:B}{s n x:Nat}{Q R:Nat->Prop}{F:Files}{hv:Value}
theorem RX{base bl:Nat}{v:Value}(h:bl=b.length)(d:ak w base v b):∃a c,v=.slice a bl c:=by
 obtain⟨a,c,e,_⟩:=own_shape d;exact⟨a,c,by rw[e,h]⟩
theorem pX{S:Store.Sto s}{A:Fi}{w1 w2:World}{off:Bool}{ne:Nat}{vs:List SL}{held:List B}(h:Srt S A w Q R off F n x ne hv vs held)(hb:b.length=A.wd)(Z:held.length<A.rm){va:Option Addr}{vc:Nat}(G:Below w.heap.size w w1)(r:ak w1 w.heap.size (.slice va b.length vc) b){g3 eZ:Nat}(P:w2.ownsRow 0 84 1 (.slice (some ⟨g3,0,none⟩) (vs.length+1) eZ) (vs.length+1) (vs.map sl++ [.slice va b.length vc]))(d: (w1.alloc (.cells #[.slice va b.length vc] 84)).grownBy w2 hv.ownBlock)(o:hv.ownBlock=some g3\/g3=(w1.alloc (.cells #[.slice va b.length vc] 84)).heap.size):
  ∃R' T vs',uH S A w (w2.setCell ⟨x,6,none⟩ (.slice (some ⟨g3,0,none⟩) (vs.length+1) eZ)) Q R off F n x ne hv (held++ [b]) R' T vs':=by
 obtain⟨W,C⟩:=jl (w2.setCell ⟨x,6,none⟩ (.slice (some ⟨g3,0,none⟩) (vs.length+1) eZ));rw[<-C];obtain⟨_,_,_,_,X,Y,_⟩:=own_shape r;have U:=G.size;have V:=d.size
 simp at V
 have H:Below w.heap.size w (w1.alloc (.cells #[.slice va b.length vc] 84)):=G.alloc U _;have m:=h.later H;have I:Upon (λk=>hv.ownBlock=some k) (w1.alloc (.cells #[.slice va b.length vc] 84)) w2:=Upon.of_grown d (λk f=>.inl f);have E:Upon (λk=>k=x) w2 W:=by rw[C];exact(Upon.refl (λk=>k=x) w2).set (p:=⟨x,6,none⟩) (.inl rfl) _
 have u:Upon (λk=>k=x\/hv.ownBlock=some k) (w1.alloc (.cells #[.slice va b.length vc] 84)) W:=(I.mono (λk h=>.inr h)).trans (E.mono (λk h=>.inl h)) (λk h=>.inl h);have J:hv.ownBlock≠some x:=λe=>(h.hq x e).2 rfl
 have O:g3≠x:=λe=>by
  rcases o with i|i
  ·exact J (by rw[i,e])
  ·have:=m.blk.lt
   omega
 have N:∀k,R k->k≠g3:=λk f e=>by
  rcases o with i|i
  ·exact h.mem.apart k f (by rw[i,e])
  ·have:=m.mem.rlt k f
   omega
 refine⟨λk=>R k\/(w.heap.size<=k/\k<w1.heap.size),.slice (some ⟨g3,0,none⟩) (vs.length+1) eZ,vs++ [(va,b.length,vc)],⟨⟨h.nY,?_,?_,⟨?_,?_,?_,?_,?_,?_⟩,?_,?_,h.xq,h.ok,?_,h.few⟩,?_,?_,?_,?_⟩⟩
 ·have hb:=(m.blk.upon I J).set 6 (.slice (some ⟨g3,0,none⟩) (vs.length+1) eZ);rw[<-C]at hb
  simpa[sorterC]using hb
 ·exact S.upon m.fq u (λk f hq=>by
   rcases f with rfl|f
   ·exact h.xq hq
   ·exact(h.hq k f).1 hq)
 ·have:=fC P E (λg d e=>by
   have:g3=g:=by simpa[Value.ownBlock]using d
   omega)
  simpa[gY,sl]using this
 ·rw[aZ];refine bY.snoc (wX m.mem.recs u m.mem.rb (λg d e=>?_)) ⟨va,vc,rfl,?_,?_⟩
  ·rcases e with rfl|e
   ·exact(h.rq _ d).2 rfl
   ·exact h.mem.apart g d e
  ·obtain⟨_,_,e,L,_⟩:=own_shape r;cases e;exact L
  ·obtain⟨_,_,e,_,M,z,_⟩:=own_shape r;cases e;refine Lies.upon (M.later ((Below.refl _ w1).alloc jn _)) u (λg d e=>?_);have:=z g d;have hx:=h.blk.lt;rcases e with rfl|e
   ·omega
   ·have:=(h.mem.own.lt g e).2
    omega
 ·intro c hc;rcases List.mem_append.1 hc with hc|hc
  ·exact h.mem.wide c hc
  ·rw[jE.1 hc];exact hb
 ·intro y q g d;rcases List.mem_append.1 q with q|q
  ·exact .inl (h.mem.rb y q g d)
  ·rw[jE.1 q]at d;obtain⟨_,_,e,_,_,z,_⟩:=own_shape r;cases e;exact .inr (z g d)
 ·intro g d;have hs:=E.size;rcases d with d|d
  ·have:=h.mem.rlt g d
   omega
  ·omega
 ·intro g d e;have i:g3=g:=by simpa[Value.ownBlock]using e
  rcases d with d|d
  ·exact N g d i.symm
  ·rcases o with j|j
   ·have:=(h.mem.own.lt g3 j).2
    omega
   ·simp at j
    omega
 ·intro g d;rcases d with d|d
  ·exact h.rq g d
  ·refine⟨λhq=>?_,?_⟩
   ·have:=S.lt h.fq g hq
    omega
   ·have:=h.blk.lt
    omega
 ·intro g d;have i:g3=g:=by simpa[Value.ownBlock]using d
  rw[<-i];refine⟨λhq=>?_,O⟩;rcases o with j|j
  ·exact(h.hq g3 j).1 hq
  ·have:=S.lt h.fq g3 hq
   simp at j
   omega
 ·rw[jL];simp;omega
 ·intro k f;rcases f with f|f
  ·exact .inl f
  ·exact .inr f.1
 ·exact λk f=>.inl f
 ·intro k f;have i:g3=k:=by simpa[Value.ownBlock]using f
  rw[<-i];rcases o with j|j
  ·exact .inl j
  ·right
   simp at j
   omega
 ·exact(Upon.of_below H).trans u (λg h=>.inl h)
theorem Gy{S:Store.Sto s}{A:Fi}{off:Bool}{ne:Nat}{vs:List SL}{held:List B}(h:Srt S A w Q R off F n x ne hv vs held)(x1:held.length<A.rm)(hb:b.length=A.wd)(a:Option Addr)(cp:Nat)(T:Lies w a (b.map bv)):
  Calls prog 69 #[.pointer (some ⟨x,0,none⟩),.slice a b.length cp] w λe w'=>e=.returned (.int .i64 0)/\∃R' x2 vs',uH S A w w' Q R off F n x ne hv (held++ [b]) R' x2 vs':=by
 obtain⟨k1,k2,k3,k4,k5,k6⟩:=id h.ok;have h8:vs.length=held.length:=by simpa using h.mem.recs.len
 have c2:=h.cell 2;have P:=h.cell 3;have o:=h.cell 6
 simp[sorterC]at c2 P o
 obtain⟨I,J,C,h5,_,_,x4⟩:=own_shape h.mem.own;obtain⟨i0,h6,x5,x6,x7⟩:=info_parts wU
 have W: ((vs.length:Int)==(A.rm:Int))=false:=by
  have:¬(vs.length:Int)=(A.rm:Int):=by omega
  simpa using this
 have x3:vs.length<=4096:=by omega
 have M:=jq (λw0 (h3:Below w.heap.size w w0)=>lS a cp b w0 (T.later h3) (by omega));have d:=jq h.blk.lt;have Z:=jq (h.blk.frozen 6);have z:=jq (fun(w1 w2:World) (va:Option Addr) (vc g3 eZ:Nat) (f:Below w.heap.size w w1) j hown hg hat=>pX (w1:=w1) (w2:=w2) (va:=va) (vc:=vc) (g3:=g3) (eZ:=eZ) h hb x1 f j hown hg hat);have HO:=jq (fun(w1:World) (f:Below w.heap.size w w1)=>own_later h.mem.own f);have O:=jq (show∀k,hv.ownBlock=some k->k<w.heap.size/\k≠x from λk U=>⟨(h.mem.own.lt k U).2,(h.hq k U).2⟩);have x0:=Below.refl w.heap.size w;obtain⟨bl,u⟩:=jl b.length;rw[<-hb,<-u]at c2;rw[<-u]at M z⊢;obtain⟨m,H⟩:=jl vs.length;rw[<-H]at W C z x3;have h1:=jq (show∀w1:World,w1.ownsRow 0 84 1 hv vs.length (vs.map sl)->w1.ownsRow 0 84 1 (.slice I m J) m (vs.map sl)from λw1 h=>by rw[<-C,H];exact h);subst C;have x8:bl<=64:=by omega
 have Y:=jq u;clear h hb T u H h8 h5 x4
 go_enter func69,ntmps69
 go_wp2_with fail
 go_quiet (fail)
 obtain⟨V,E⟩:=jl (w.drewN nq);have r:Below w.heap.size w V:=by rw[E];exact⟨rfl,rfl,rfl,aj _,λ_ _=>rfl⟩
 have q6:V.cell? ⟨x,6,none⟩=some (.slice I m J):=(r.cell (p:=⟨x,6,none⟩) d.out).trans o;rw[<-E];have L:=jq r;have N:=jq (r.drew);clear E r c2 P W
 go_wp2_with fail
 go_region_law ((first|(go_simp;go_at_call 64;refine(M.out V.drew N.out).mono ?_;rintro e w1 ⟨v1,rfl,j,f⟩;obtain⟨va,vc,rfl⟩:=RX Y.out j;have i:Below w.heap.size w w1:=N.out.trans (f.mono L.out.size);have x9:=(i.cell (p:=⟨x,6,none⟩) d.out).trans ((x0.cell (p:=⟨x,6,none⟩) d.out).trans o);have q:=i.alloc i.size (.cells #[.slice va bl vc] 84);have h7:=(q.cell (p:=⟨x,6,none⟩) d.out).trans o;have h2:=jq (h1.out _ (HO.out _ q));have X:=jq i;have y:=jq q;have h0:=jq (bH j L.out.size);clear j f i q;dsimp only)|(refine step_append_lies _ rfl (.tmp 37) (.tmp 40) 120 rfl 0 84 i0 (.slice none 0 0) 1 24 underlying120 h6 x5 x6 x7 rfl (by decide) (.slice I m J) m (vs.map sl) (by simp[Act.eval]) h2.out ⟨w1.heap.size,0,none⟩ 1 1 [.slice va bl vc] (by simp[Act.eval]) rfl (one_at rfl) (by simp[Value.oneCell']) (by decide) (by unfold maxLen;omega) (by omega) (aC _) _ rfl ?_;intro g3 eZ w3 h9 G h4 y1;have y0:=(G.cell_far ⟨x,6,none⟩ (aD d.out y.out.size) (λe=>(O.out x e.symm).2 rfl)).trans h7;have f3:=(G.frozen_far ⟨x,6,none⟩ (aD d.out y.out.size) (λe=>(O.out x e.symm).2 rfl)).trans ((y.out.frozen (p:=⟨x,6,none⟩) d.out).trans Z.out))))
 all_goals
  go_wp2_with fail
  go_ret
  exact⟨rfl,z.out w1 w3 va vc g3 eZ X.out h0.out h9 G h4⟩
open Go.Maps
open Store (qU Gz)
open Go.Proofs.YtndkohocgfmamaaGreatDoor.Text (dec dK dA)
theorem tq(v:Value)(m:Nat)(d:List (List UInt8))(nm:List UInt8)(w:World)(h:w.ownsRow m 9 1 v d.length (d.map encStr))(p:d.length<=1000000):
  Calls prog 49 #[v,nv nm] w λe w'=>∃b:Bool,e=.returned (.bool b)/\(b=true↔nm∈d)/\w=w':=by
 obtain⟨a,cap,rfl,hc,o,_,_⟩:=own_shape h
 by_cases i:d= []
 ·subst i;refine(Tryz.slices_Contains_string_empty a cap ⟨nm.toArray⟩ w).mono ?_;rintro e w' ⟨rfl,rfl⟩;exact⟨false,rfl,by simp,rfl⟩
 ·obtain⟨g,off,rfl,_,hcs⟩:=o.resolve_left (λe=>by
   rw[dM]at e;exact i e)
  refine(Tryz.slices_Contains_string g off d.length cap (d.map λl=>(⟨l.toArray⟩:ByteArray)) ⟨nm.toArray⟩ w (by simp) (by omega) (λj f=>by
   rw[jP]at f;have:=hcs j (encStr d[j]) (by simp[f]);rw[this]
   simp[f])).mono ?_
  rintro e w' ⟨rfl,rfl⟩;refine⟨_,rfl,?_,rfl⟩;rw[Lib.containsS_iff,jW (by simp),List.mem_map]
  constructor
  ·rintro⟨l,hl,e⟩
   have:l=nm:=by
    have:=congrArg (λb:ByteArray=>b.data.toList) e
    simpa using this
   rw[<-this];exact hl
  ·exact λh=>⟨nm,h,rfl⟩
structure GA{s:Nat}(S:Store.Sto s)(A:Fi)(w w':World)(Q:Nat->Prop)(off:Bool)(F:Files)(n x ne:Nat):Prop where
 aF:Srt S A w' Q (λ_=>False) off F n x ne (.slice none 0 0) [] []
 fresh:w.heap.size<=x
 below:Below w.heap.size w w'
 runs:∀j,j<ne->F (rname A.pf j)≠none
 last:F (rname A.pf ne)=none
structure Counts{s:Nat}(S:Store.Sto s)(A:Fi)(w wr:World)(Q:Nat->Prop)(off:Bool)(F:Files)(n x k:Nat)(v:Value)(ss:List (List UInt8)):Prop where
 aF:Srt S A wr Q (λ_=>False) off F n x k (.slice none 0 0) [] []
 below:Below w.heap.size w wr
 runs:∀j,j<k->F (rname A.pf j)≠none
 names:wr.ownsRow w.heap.size 9 1 v ss.length (ss.map encStr)
 few:k<=ss.length
def uI(x:Nat)(w:World):Nat:=match w.cell? ⟨x,5,none⟩with
 |some (.int _ i)=>i.toNat
 |_=>0
theorem Counts.next{s:Nat}{S:Store.Sto s}{A:Fi}{w wr:World}{Q:Nat->Prop}{off:Bool}{F:Files}{n x k:Nat}{v:Value}{d:List (List UInt8)}(h:Counts S A w wr Q off F n x k v d):uI x wr=k:=by
 have c:=h.aF.cell 5
 simp[sorterC]at c
 unfold uI;rw[c]
 simp
theorem kg{s:Nat}(S:Store.Sto s)(A:Fi)(hs:A.s=s)(L:A.ok){w:World}{Q:Nat->Prop}{off:Bool}{F:Files}{n:Nat}(h:S.At w Q off F n):
  Calls prog 17 #[.pointer (some ⟨A.s,0,none⟩),nv A.pf,.int .i64 A.wd,.int .i64 A.rm] w λe w'=>∃x ne,e=.returned (.tuple #[.pointer (some ⟨x,0,none⟩),.int .i64 0])/\GA S A w w' Q off F n x ne:=by
 subst hs;obtain⟨k1,k2,k3,k4,k5,k6⟩:=id L;obtain⟨pf,B⟩:∃pf:ByteArray,.string pf=nv A.pf:=⟨_,rfl⟩;obtain⟨N,h2⟩:=jl A.pf.length;have h1:=qU A.pf;rw[<-B,<-h2]at h1
 have t1: ((N:Int)==0)=false:=by
  have:¬(N:Int)=0:=by omega
  simpa using this
 have t2:decide (16<(N:Int))=false:=by simp;omega
 have t3:decide ((A.wd:Int) <1)=false:=by simp;omega
 have t4:decide (64<(A.wd:Int))=false:=by simp;omega
 have t5:decide ((A.rm:Int) <1)=false:=by simp;omega
 have t6:decide (4096<(A.rm:Int))=false:=by simp;omega
 rw[<-B];have h8:=jq B;have H:=jq h;have h7:=jq L;clear h B h2 L
 go_enter func17,ntmps17
 go_wp2_with fail
 obtain⟨W,y⟩:=jl (w.alloc (.cells #[.pointer (some ⟨A.s,0,none⟩),.string pf,.int .i64 A.wd,.int .i64 A.rm,.int .i64 0,.int .i64 0,.slice none 0 0] 122));have J:Below w.heap.size w W:=by rw[y];exact(Below.refl _ w).alloc jn _
 have u:Blk W w.heap.size 122 (sorterC A 0 0 (.slice none 0 0)):=by rw[y];unfold sorterC;rw[<-h8.out];exact Blk.new w _ _
 rw[<-y];obtain⟨x,hx⟩:=jl w.heap.size;rw[<-hx]at u⊢;have M:Srt S A W Q (λ_=>False) off F n x 0 (.slice none 0 0) [] []:=⟨rfl,u,S.later H.out J,rE W A.wd,(λ_ h=>h.elim),(λ_ h=>by cases h),(λhq=>by have:=S.lt H.out x hq;omega),h7.out,by simp,by omega⟩;have T:=jq (S.names M.fq);have U:=jq M;have E:=jq J;have V:=jq (show w.heap.size<=x by omega);clear y J u hx M t1 t2 t3 t4 t5 t6 h1;refine T.out.mono ?_;rintro e w1 ⟨v,ss,rfl,Y,h3,x1,I⟩;have HC:=jq (show Counts S A w w1 Q off F n x 0 v ss from⟨U.out.later I,E.out.trans (I.mono E.out.size),λj z=>by omega,bH Y E.out.size,aC _⟩);have G:=jq h3;clear Y h3 I T U
 go_wp2_with fail
 go_loopw[] (λwr=>∃k,Counts S A w wr Q off F n x k v ss) (λwr=>ss.length-uI x wr)
 case atStart=>exact⟨0,HC.out⟩
 case round=>
  obtain⟨k,m⟩:=hrel;have h5:=m.next;have x0:=m.few;have c1:=m.aF.cell 1;have c5:=m.aF.cell 5
  simp[sorterC]at c1 c5
  have P:=jq (uG A.pf k2 k (by omega) x wr c1 m.aF.blk.lt);have f:=jq m;have h6:=jq h5;clear m h5 c1
  go_wp2_with fail
  refine P.out.mono ?_;rintro e w2 ⟨rfl,o⟩;have C:=jq o;have O:=jq (tq v _ ss (rname A.pf k) w2 (own_later f.out.names o) (by omega));obtain⟨nm,h4⟩:=jl (nv (rname A.pf k));rw[<-h4]at O⊢;clear o P h4
  go_wp2_with fail
  refine O.out.mono ?_;rintro e w3 ⟨b,rfl,hb,rfl⟩;have d:=f.out.aF.later C.out;have X:=d.cell 5;have f5:=d.blk.frozen 5
  simp[sorterC]at X
  cases b
  ·have r:=jq (show GA S A w w2 Q off F n x k from⟨d,V.out,f.out.below.trans (C.out.mono f.out.below.size),f.out.runs,by
    have:¬rname A.pf k∈ss:=λh=>by have:=hb.2 h;simp at this
    rw[G.out]at this
    simpa using this⟩)
   clear d hb f5 X
   go_wp2_with fail
   go_ret2
   exact⟨x,k,rfl,r.out⟩
  ·have h0:=hb.1 rfl
   have r:=jq (show Counts S A w (w2.setCell ⟨x,5,none⟩ (.int .i64 ((k:Int)+1))) Q off F n x (k+1) v ss from by
    have o:=C.out
    have Z:∀j,j<k+1->F (rname A.pf j)≠none:=λj z=>by
     by_cases e:j=k
     ·rw[e];exact(G.out _).1 h0
     ·exact f.out.runs j (by omega)
    have h9:k+1<=ss.length:=AA (rname A.pf) (k+1) ss (λi j hi z e=>xC (by omega) (by omega) e) (λj z=>(G.out _).2 (Z j z));have ho:Only [x] w2 (w2.setCell ⟨x,5,none⟩ (.int .i64 ((k:Int)+1))):=(Only.refl [x] w2).set (p:=⟨x,5,none⟩) (.inl (by simp)) _
    have u:Blk (w2.setCell ⟨x,5,none⟩ (.int .i64 ((k:Int)+1))) x 122 (sorterC A 0 (k+1) (.slice none 0 0)):=by
     have:=d.blk.set 5 (.int .i64 ((k:Int)+1))
     simpa[sorterC]using this
    refine⟨⟨rfl,u,S.keep d.fq ho.size (λq hq=>ho.block q (S.lt d.fq q hq) (by rintro h;rw[jE.1 h]at hq;exact d.xq hq)),rE _ A.wd,(λ_ h=>h.elim),(λ_ h=>by cases h),d.xq,d.ok,by simp,by omega⟩,?_,Z,?_,h9⟩
    ·exact(f.out.below.trans (o.mono f.out.below.size)).setCell (by exact V.out) _
    ·exact MN (own_later f.out.names o) d.blk (by decide) 5 _)
   have HM:=jq (show ss.length-uI x (w2.setCell ⟨x,5,none⟩ (.int .i64 ((k:Int)+1))) <ss.length-uI x wr from by
    rw[r.out.next,h6.out];have:=r.out.few
    omega)
   clear d hb h0
   go_wp2_with fail
   go_roundw
   case rel=>exact⟨k+1,r.out⟩
   case measure=>exact HM.out
end Runs
namespace Runs
open Go.RowKit Go.Deep Go.Shelf Mem Crc Merge
open Store (Sto Files setF nv)
attribute [local go_sem] Oper.semAt_some
theorem GD{w:World}{g off wd:Nat}:∀(l:List B) (k:Nat),(∀b∈l,b.length=wd)->(∀i u,(l.flatten.map bv)[i]? =some u->w.cell? ⟨g,off+k*wd+i,none⟩=some u)->g<w.heap.size->bY w (((List.range l.length).map λj=>((some ⟨g,off+(k+j)*wd,none⟩,wd,wd):SL)).map sl) l
 | [],_,_,_,_=>rA w
 |b ::t,k,hw,hc,hg=>by
  have hb:=hw b (by simp)
  have o:=GD t (k+1) (λc hc=>hw c (eD _ hc)) (λi u d=>by
   have:=hc (wd+i) u (by
    rw[List.flatten_cons,aZ,iL (by rw[jP];omega),jP,hb,show wd+i-wd=i by omega];exact d)
   rw[show off+(k+1)*wd+i=off+k*wd+(wd+i)by rw[eY];omega];exact this) hg
  refine⟨by simp,λi v c hv f=>?_⟩
  cases i with
  |zero=>
   have m:v=sl (some ⟨g,off+k*wd,none⟩,wd,wd):=by simpa using hv.symm
   have h:c=b:=by simpa using f.symm
   subst m h;refine⟨_,wd,by rw[<-hb];rfl,by omega,.inr ⟨g,off+k*wd,rfl,hg,λi u d=>hc i u ?_⟩⟩;rw[List.flatten_cons,aZ,iK (jS.1 d).1];exact d
  |succ i=>
   refine o.at_ i v c ?_ (by simpa using f);rw[<-hv];simp only[List.length_cons,List.range_succ_eq_map,List.map_cons,List.map_map,jb]
   congr 1
   apply qI
   intro j _;simp only[Function.comp_apply];rw[show k+1+j=k+(j+1)by omega]
structure XM(w w':World)(l:List B)(v:Value)(vs:List SL):Prop where
 own:gY w' w.heap.size v vs
 recs:bY w' (vs.map sl) (sortB l)
 fresh:∀y∈vs,∀g,Mem.blk y.1=some g->w.heap.size<=g
 below:Below w.heap.size w w'
theorem RY(a:Option Addr)(len c wd:Nat)(d:0<wd)(w:World):
  Calls prog 83 #[.slice a len c,.int .i64 wd] w λe w'=>e=.returned (.func (.func 128) #[] #[.pointer (some ⟨w.heap.size,0,none⟩),.pointer (some ⟨w.heap.size+1,0,none⟩)])/\Below w.heap.size w w'/\w'.cell? ⟨w.heap.size,0,none⟩=some (.slice a len c)/\w'.cell? ⟨w.heap.size+1,0,none⟩=some (.int .i64 wd)/\w.heap.size+1<w'.heap.size:=by
 refine(qQ a len c wd d w).mono ?_;rintro e w' ⟨rfl,rfl⟩;refine⟨rfl,((Below.refl _ w).alloc jn _).alloc (by simp) _,?_,?_,by simp⟩
 ·rw[((Blk.new w 84 #[.slice a len c]).alloc _).cell];rfl
 ·have:=(Blk.new (w.alloc (.cells #[.slice a len c] 84)) 3 #[.int .i64 wd]).cell 0;rw[World.size_alloc]at this;rw[this];rfl
def Mid(R:Nat->Prop)(w w':World)(g:Nat):Prop:=R g\/(w.heap.size<=g/\g<w'.heap.size)
theorem RowB.of_sorted{w w':World}{R:Nat->Prop}{vs:List SL}{held:List B}{v:Value}{f:List SL}{l':List B}(h:Az w w' vs held v f l')(j:∀y∈vs,∀g,Mem.blk y.1=some g->R g):∃a c,v=.slice a l'.length c/\RowB w' (Mid R w w') ((a,l'.length,c),l'):=by
 obtain⟨a,c,rfl,hc,i,hb,_⟩:=own_shape h.own;have hl:f.length=l'.length:=by simpa using h.recs.len
 exact⟨a,c,by rw[<-hl],a,c,f,rfl,by rw[<-hl];exact hc,hl,i,λg d=>.inr (hb g d),h.recs,λy m g d=>.inl (j y (h.sub y m) g d)⟩
structure RZ(A:Fi)(F:Files)(ls:List (List B)):Prop where
 at_:∀(j:Nat) (l:List B),ls[j]? =some l->F (rname A.pf j)=some (aR l)
 wide:∀l∈ls,∀b∈l,b.length=A.wd
 some_:∀l∈ls,l≠[]
 few:∀l∈ls,l.length<=4096
structure AllRows(w0 w:World)(R:Nat->Prop)(rs:List (SL×List B))(v:Value):Prop where
 own:OwnR w w0.heap.size v (rs.map Prod.fst)
 rows:∀r∈rs,RowB w (λg=>Mid R w0 w g/\some g≠v.ownBlock) r/\aS r.2
structure Merging(w:World)(U:Nat->Prop)(Bs:Nat)(rs:List (SL×List B))(ad:Addr)(c:Nat):Prop where
 box:Blk w Bs 148 #[.slice (some ad) rs.length c]
 GH:U Bs
 row:Lies w (some ad) (rs.map (λr=>sl r.1))
 GI:U ad.block
 cap:rs.length<=c
 pos:0<rs.length
 rows:∀r∈rs,RowB w U r/\aS r.2
theorem Merging.upon{w w':World}{U P:Nat->Prop}{j:Nat}{rs:List (SL×List B)}{d:Addr}{c:Nat}(h:Merging w U j rs d c)(i:Upon P w w')(f:∀g,U g->¬P g):Merging w' U j rs d c:=
 ⟨h.box.upon i (f _ h.GH),h.GH,h.row.upon i (λg o=>by
  have e:d.block=g:=by simpa[Mem.blk]using o
  rw[<-e];exact f _ h.GI),h.GI,h.cap,h.pos,λr m=>⟨(h.rows r m).1.upon i f,(h.rows r m).2⟩⟩
open Store (qU)
theorem AB{s:Nat}{S:Store.Sto s}{A:Fi}{w:World}{Q R:Nat->Prop}{off:Bool}{F:Files}{n x ne:Nat}{hv:Value}{vs:List SL}{held:List B}(h:Srt S A w Q R off F n x ne hv vs held):
  Calls prog 34 #[.pointer (some ⟨x,0,none⟩)] w λe w'=>e=.returned (.int .i64 ne)/\∃m,w'=w.drewN m:=by
 have d:=h.cell 4;have f:=h.cell 5
 simp[sorterC]at d f
 have i:=h.few;clear h
 go_enter func34,ntmps34
 go_wp2_with fail
 go_quiet (fail)
 go_wp2_with fail
 go_ret
 exact⟨by simp,_,rfl⟩
end Runs
namespace Runs
open Go.RowKit Go.Deep Go.Shelf Mem Crc Merge
open Store (Sto Files nv)
def kZ(wd:Nat)(l:List B):Prop:=(∀b∈l,b.length=wd)/\aS l
instance (wd:Nat) (l:List B):Decidable (kZ wd l):=inferInstanceAs (Decidable (_/\_))
def rF(wd:Nat)(l:List B)(k:Nat):Prop:=∀j b,j<k->l[j]? =some b->b.length=wd/\∀p,0<j->l[j-1]? =some p->p<=b
variable {l:List B}
theorem R3{wd:Nat}(h:rF wd l l.length):kZ wd l:=by
 refine⟨λb hb=>?_,wR.2 (λi a b ha hb=>?_)⟩
 ·obtain⟨j,d⟩:=qF hb;exact(h j b (jS.1 d).1 d).1
 ·exact(h (i+1) b (jS.1 hb).1 hb).2 a (Nat.succ_pos i) (by simpa using ha)
theorem GJ{wd:Nat}{k:Nat}{b:B}(h:rF wd l k)(hb:l[k]? =some b)(f:b.length=wd)(d:∀p,0<k->l[k-1]? =some p->p<=b):rF wd l (k+1):=λj c i hc=>by
 by_cases e:j=k
 ·subst e;rw[hb]at hc;cases hc;exact⟨f,d⟩
 ·exact h j c (by omega) hc
attribute [local go_sem] Oper.semAt_some
theorem mH(x wd:Nat){a:Option Addr}{c:Nat}{vs:List SL}(w:World)(hx:w.cell? ⟨x,2,none⟩=some (.int .i64 (wd:Int)))(hL:Lies w a (vs.map sl))(T:bY w (vs.map sl) l)(hn:l.length<=1000000):
  Calls prog 104 #[.pointer (some ⟨x,0,none⟩),.slice a vs.length c] w λe w'=>e=.returned (.bool (decide (kZ wd l)))/\Below w.heap.size w w':=by
 have h3:vs.length=l.length:=by simpa using T.len
 obtain⟨n,X⟩:=jl vs.length;obtain⟨mr,Y⟩:=jl (decide (kZ wd l));rw[<-X,<-Y];have u:=jq (X.trans h3);have HL:=jq hL;have B:=jq T;have N:=jq Y;have x5:n<=1000000:=by omega
 clear hL T X h3 Y hn
 go_enter func104,ntmps104
 go_wp2_with fail
 go_loopw[9] (λi wr=>∃k:Nat,k<=n/\i=.int .i64 (k:Int)/\(∃m,wr=w.drewN m)/\rF wd l k) (λi _=>n-(intOf i).toNat)
 case atStart=>exact⟨0,aC _,rfl,⟨0,rfl⟩,λj b hj=>by omega⟩
 case round=>
  obtain⟨k,hk,rfl,⟨m,C⟩,h4⟩:=hrel;have d:Below w.heap.size w wr:=by rw[C];exact⟨rfl,rfl,rfl,aj _,λ_ _=>rfl⟩
  have x6:wr.cell? ⟨x,2,none⟩=some (.int .i64 (wd:Int)):=by rw[C];exact hx
  have HM:=jq C;have M:=jq h4;clear C h4
  by_cases hlt:k<n
  ·have x2:decide ((k:Int) <(n:Int))=true:=jd (by omega);obtain⟨b,hb⟩:∃b,l[k]? =some b:=⟨l[k]'(by rw[<-u.out];exact hlt),jg _⟩;obtain⟨y,hy⟩:∃y,(vs.map sl)[k]? =some y:=⟨(vs.map sl)[k]'(by rw[B.out.len,<-u.out];exact hlt),jg _⟩;have G:=B.out.at_ k y b hy hb;obtain⟨g,o,rfl,cy⟩:=iB (HL.out.later d) hy;obtain⟨ba,bc,rfl,_,_⟩:=id G;obtain⟨bl,U⟩:=jl b.length;rw[<-U]at cy G;have h9:=jq G;have z:=jq hb;have I:=jq U;clear G hy hb U
   by_cases r:bl=wd
   ·have t1: ((bl:Int)==wd)=true:=by simp;omega
    have t2: ((bl:Int) !=wd)=false:=by simp;omega
    by_cases h0:k=0
    ·have d0:decide (0<k)=false:=jf (by omega);have L:=jq (show rF wd l (k+1)from GJ M.out z.out (by rw[<-I.out];exact r) (λp E=>by omega));clear r h0
     go_wp2_with fail
     go_roundw
     case rel=>exact⟨k+1,by omega,by simp,⟨m,HM.out⟩,L.out⟩
     case measure=>simp[intOf];omega
    ·have d0:decide (0<k)=true:=jd (by omega);obtain⟨p,E⟩:∃p,l[k-1]? =some p:=⟨l[k-1]'(by rw[<-u.out];omega),jg _⟩;obtain⟨yp,hyp⟩:∃y,(vs.map sl)[k-1]? =some y:=⟨(vs.map sl)[k-1]'(by rw[B.out.len,<-u.out];omega),jg _⟩;have H:=B.out.at_ (k-1) yp p hyp E;obtain⟨g',o',P,cp⟩:=iB (HL.out.later d) hyp;injection P with P;injection P with e1 e2;subst e1 e2;obtain⟨pa,pc,rfl,_,_⟩:=id H;obtain⟨pl,h5⟩:=jl p.length;rw[<-h5]at cp H;have J:=jq (fun(V:World) (hV:Below w.heap.size w V)=>Ae (.slice ba bl bc) (.slice pa pl pc) b p V (h9.out.later hV) (H.later hV));obtain⟨O,W⟩:=jl (iV b p);rw[<-W]at J;have x1:0<k:=by omega
     have x4:k-1<n:=by omega
     have h8:=jq x1;have h7:=jq (show b.length=wd by rw[<-I.out];exact r);have h1:=jq (Ag b p);have h2:=jq W;have HP:=jq E;clear W H hyp E h5 r h0
     by_cases f:O<0
     ·have d1:decide (O<0)=true:=jd f
      have Z:mr=false:=by
       rw[N.out];refine jf (λh=>?_);have x0:=h1.out.1 (by rw[<-h2.out];exact f);have:=wR.1 h.2 (k-1) p b HP.out (by rw[show k-1+1=k from by have:=h8.out;omega];exact z.out);exact absurd x0 (iM.2 this)
      subst Z;clear f
      go_wp2_with fail
      refine(J.out _ d).mono ?_;rintro e w2 ⟨rfl,rfl⟩
      go_wp2_with fail
      go_ret
      exact⟨rfl,d⟩
     ·have d1:decide (O<0)=false:=jf f
      have L:=jq (show rF wd l (k+1)from GJ M.out z.out h7.out (λq hq h6=>by
       rw[HP.out]at h6;cases h6;refine iM.1 (λh=>f ?_);rw[h2.out];exact h1.out.2 h))
      clear f
      go_wp2_with fail
      refine(J.out _ d).mono ?_;rintro e w2 ⟨rfl,rfl⟩
      go_wp2_with fail
      go_roundw
      case rel=>exact⟨k+1,by omega,by simp,⟨m,HM.out⟩,L.out⟩
      case measure=>simp[intOf];omega
   ·have t1: ((bl:Int)==wd)=false:=by simp;omega
    have t2: ((bl:Int) !=wd)=true:=by simp;omega
    have Z:mr=false:=by
     rw[N.out];exact jf (λh=>r (by rw[I.out];exact h.1 b (jM z.out)))
    subst Z;clear r
    go_wp2_with fail
    go_ret
    exact⟨rfl,d⟩
  ·obtain rfl:k=n:=by omega
   have x2:decide ((k:Int) <(k:Int))=false:=jf (by omega)
   have x3:mr=true:=by
    rw[N.out];exact jd (R3 (by rw[<-u.out];exact M.out))
   subst x3
   go_wp2_with fail
   go_ret
   exact⟨rfl,d⟩
open Store (setF fF fG)
noncomputable def iW(F:Files)(pf:List UInt8):Nat->Files
 |0=>F
 |k+1=>setF (iW F pf k) (rname pf k) none
theorem xD(F:Files)(pf:List UInt8):∀(k j:Nat),k<=j->j<10^20->iW F pf k (rname pf j)=F (rname pf j)
 |0,_,_,_=>rfl
 |k+1,j,h,hj=>by
  unfold iW;rw[fG _ (λe=>by have:=xC hj (by omega) e;omega),xD F pf k j (by omega) hj]
def uJ(x:Nat)(w:World):Nat:=match w.cell? ⟨x,4,none⟩with
 |some (.int _ i)=>i.toNat
 |_=>0
variable {x:Nat}{w:World}
theorem GK{k:Nat}(h:w.cell? ⟨x,4,none⟩=some (.int .i64 (k:Int))):uJ x w=k:=by
 unfold uJ;rw[h]
 simp
theorem GL{s:Nat}{S:Store.Sto s}{A:Fi}{Q R:Nat->Prop}{F:Files}{n ne:Nat}{hv:Value}{vs:List SL}{held:List B}(h:Srt S A w Q R false F n x ne hv vs held)(hn:n+ne<100000)(hF:∀j,j<ne->F (rname A.pf j)≠none):
  Calls prog 60 #[.pointer (some ⟨x,0,none⟩)] w λe w'=>e=.returned (.int .i64 0)/\∃Q',Srt S A w' Q' (λ_=>False) false (iW F A.pf ne) (n+ne) x 0 (.slice none 0 0) [] []/\(∀k,Q' k->Q k\/w.heap.size<=k)/\Upon (λk=>Q k\/k=x) w w':=by
 obtain rfl:=h.nY;have y5:=h.few;have q6:=h.cell 6
 simp[sorterC]at q6
 have f6:=h.blk.frozen 6;have H:=jq h;have HF:=jq hF;clear h hF
 go_enter func60,ntmps60
 go_wp2_with fail
 obtain⟨V,m⟩:=jl (w.setCell ⟨x,6,none⟩ (.slice none 0 0))
 have x1:Blk V x 122 (sorterC A 0 ne (.slice none 0 0)):=by
  have:=H.out.blk.set 6 (.slice none 0 0);rw[<-m]at this
  simpa[sorterC]using this
 have z:Upon (λk=>k=x) w V:=by rw[m];exact(Upon.refl (λk=>k=x) w).set (p:=⟨x,6,none⟩) (.inl rfl) _
 have I:=S.upon H.out.fq z (λk M hq=>H.out.xq (by rw[<-M];exact hq));rw[<-m];have x9:=jq x1;have HU:=jq (z.mono (λk M=>Or.inr M:∀k,k=x->Q k\/k=x));have y1:=jq I;clear m x1 z I q6 f6
 go_loopw[] (λwr=>∃(k:Nat) (o:Nat->Prop),k<=ne/\Blk wr x 122 (sorterC A k ne (.slice none 0 0))/\S.At wr o false (iW F A.pf k) (n+k)/\(∀g,o g->Q g\/w.heap.size<=g)/\Upon (λg=>Q g\/g=x) w wr) (λwr=>ne-uJ x wr)
 case atStart=>exact⟨0,Q,aC _,x9.out,y1.out,λg d=>.inl d,HU.out⟩
 case round=>
  obtain⟨k,o,M,hb,I,hq,z⟩:=hrel;have x7:¬o x:=λh=>(hq x h).elim H.out.xq (λh=>by have:=H.out.blk.lt;omega)
  have O:=hb.cell 4;have q5:=hb.cell 5
  simp[sorterC]at O q5
  have HM:=jq (GK O);have y:=jq x7;have L:=jq hb;have x0:=jq I;have Z:=jq hq;have h4:=jq z;clear x7 hb I hq z
  by_cases hlt:k<ne
  ·have y2:decide ((k:Int) <(ne:Int))=true:=jd (by omega)
   go_wp2_with fail
   go_quiet (fail)
   obtain⟨V,m⟩:=jl (wr.drewN nq);have q:Below wr.heap.size wr V:=by rw[m];exact⟨rfl,rfl,rfl,aj _,λ_ _=>rfl⟩
   rw[<-m];have i:=L.out.below q L.out.lt;have T:=i.cell 0;have v1:=i.cell 1;have C:=i.cell 4
   simp[sorterC]at T v1 C
   obtain⟨k1,k2,k3,k4,k5,k6⟩:=id H.out.ok;have Y:=jq (uG A.pf k2 k (by omega) x V.drew v1 i.lt);have h0:=jq (fun(w3:World) (f:Below V.heap.size V w3)=>S.remove (S.later (S.later x0.out q) f) (by omega) (rname A.pf k) (by rw[xD F A.pf k k jn (by omega)];exact HF.out k hlt));obtain⟨nm,x2⟩:=jl (nv (rname A.pf k));rw[<-x2]at Y h0;have y0:=jq ((Below.refl V.heap.size V).drew);have u:=jq i.lt;have X:=jq i;have E:=jq q;clear m q i x2 v1 k1 k2 k3 k4 k5 k6 O q5
   go_wp2_with fail
   go_region_held3 (λw'=>w'.cell? ⟨x,0,none⟩=some (.pointer (some ⟨A.s,0,none⟩))/\w'.cell? ⟨x,4,none⟩=some (.int .i64 (k:Int))) (first|exact⟨T,C⟩|exact N|exact h6) ((first|(go_at_call 50;refine Y.out.mono ?_;rintro e w3 ⟨rfl,f⟩;have f:=y0.out.trans f;have N:=And.intro ((f.cell (p:=⟨x,0,none⟩) u.out).trans T) ((f.cell (p:=⟨x,4,none⟩) u.out).trans C);dsimp only)|(go_at_call 101;refine(h0.out w3 f).mono ?_;rintro e U ⟨rfl,Q4,x4,h7,J⟩;have h6:=And.intro ((World.cell?_of_block (a:=⟨x,0,none⟩) (J.block x (aD u.out f.size) y.out)).trans N.1) ((World.cell?_of_block (a:=⟨x,4,none⟩) (J.block x (aD u.out f.size) y.out)).trans N.2);dsimp only)))
   have h5:Blk U x 122 (sorterC A k ne (.slice none 0 0)):=(X.out.below f u.out).upon J y.out;have g4:=h6.2;have f4:=h5.frozen 4;have y6:RowKit.wrap64 ((k:Int)+1)=(k:Int)+1:=IntWalk.wrap64_in _ (by omega);obtain⟨W,r⟩:=jl (U.setCell ⟨x,4,none⟩ (.int .i64 ((k:Int)+1)))
   have G:Blk W x 122 (sorterC A (k+1) ne (.slice none 0 0)):=by
    have:=h5.set 4 (.int .i64 ((k:Int)+1));rw[<-r]at this
    simpa[sorterC]using this
   have x3:¬Q4 x:=λh=>(h7 x h).elim y.out (λh=>by have:=aD u.out f.size;omega)
   have h8:Upon (λg=>g=x) U W:=by rw[r];exact(Upon.refl (λg=>g=x) U).set (p:=⟨x,4,none⟩) (.inl rfl) _
   have x5:=S.upon x4 h8 (λg d hq=>x3 (by rw[<-d];exact hq));have y3:=h4.out.size;have x8:=E.out.size;have y4:=f.size
   have HE:=jq (show∃(j:Nat) (o:Nat->Prop),j<=ne/\Blk W x 122 (sorterC A j ne (.slice none 0 0))/\S.At W o false (iW F A.pf j) (n+j)/\(∀g,o g->Q g\/w.heap.size<=g)/\Upon (λg=>Q g\/g=x) w W from⟨k+1,Q4,hlt,G,x5,λg d=>by
    rcases h7 g d with h|h
    ·exact Z.out g h
    ·exact .inr (by omega),by
    have h1:Upon (λg=>Q g\/g=x) wr w3:=Upon.of_below (E.out.trans (f.mono x8));have h2:=h4.out.trans h1 (λg d=>.inl d);have h3:=h2.trans J (λg d=>(Z.out g d).imp (λh=>.inl h) id);exact h3.trans (h8.mono (λg d=>Or.inr d)) (λg d=>.inl d)⟩)
   have h9:=jq (show ne-uJ x W<ne-uJ x wr from by
    have h1:W.cell? ⟨x,4,none⟩=some (.int .i64 ((k+1:Nat):Int)):=by
     have:=G.cell 4
     simpa[sorterC]using this
    rw[GK h1,HM.out]
    omega)
   rw[r]at HE h9;clear x4 h7 J h5 G x3 h8 x5 y3 x8 y4 f N h6 T C Y h0 r
   go_wp2_with fail
   go_roundw
   case rel=>exact HE.out
   case measure=>exact h9.out
  ·obtain rfl:k=ne:=by omega
   have y2:decide ((k:Int) <(k:Int))=false:=jf (by omega)
   go_wp2_with fail
   go_quiet (fail)
   obtain⟨V,m⟩:=jl (wr.drewN nq);have q:Below wr.heap.size wr V:=by rw[m];exact⟨rfl,rfl,rfl,aj _,λ_ _=>rfl⟩
   rw[<-m];have i:=L.out.below q L.out.lt;have C:=i.cell 4;have v5:=i.cell 5;have f4:=i.frozen 4;have f5:=i.frozen 5
   simp[sorterC]at C v5
   have X:=jq i;have E:=jq q;clear m q i O q5
   go_wp2_with fail
   go_ret
   obtain⟨W,r⟩:=jl ((V.setCell ⟨x,4,none⟩ (.int .i64 0)).setCell ⟨x,5,none⟩ (.int .i64 0));rw[<-r];have x6:Upon (λg=>g=x) V W:=by rw[r];exact((Upon.refl (λg=>g=x) V).set (p:=⟨x,4,none⟩) (.inl rfl) _).set (p:=⟨x,5,none⟩) (.inl rfl) _
   have G:Blk W x 122 (sorterC A 0 0 (.slice none 0 0)):=by
    have:=(X.out.set 4 (.int .i64 0)).set 5 (.int .i64 0);rw[<-r]at this
    simpa[sorterC]using this
   refine⟨rfl,o,⟨rfl,G,S.upon (S.later x0.out E.out) x6 (λg d hq=>y.out (by rw[<-d];exact hq)),rE W A.wd,(λ_ h=>h.elim),(λ_ h=>by cases h),y.out,H.out.ok,by simp,by omega⟩,Z.out,?_⟩;exact(h4.out.trans (Upon.of_below (P:=λg=>Q g\/g=x) E.out) (λg d=>.inl d)).trans (x6.mono (λg d=>Or.inr d)) (λg d=>.inl d)
end Runs
namespace Runs
open Go.RowKit Go.Deep Go.Shelf Mem Crc Merge
open Store (Sto Files setF fF fG nv)
structure pY{s:Nat}(S:Sto s)(A:Fi)(D:Nat->Prop)(w:World)(x ne:Nat)(F:Files)(held:List B)(n:Nat)(Q R:Nat->Prop)(hv:Value)(vs:List SL):Prop where
 aF:Srt S A w Q R false F n x ne hv vs held
 q:∀k,Q k->D k
 r:∀k,R k->D k
 x:D x
 h:∀k,hv.ownBlock=some k->D k
 lt:∀k,D k->k<w.heap.size
def aW{s:Nat}(S:Sto s)(A:Fi)(D:Nat->Prop)(w:World)(x ne:Nat)(F:Files)(held:List B)(n:Nat):Prop:=∃Q R hv vs,pY S A D w x ne F held n Q R hv vs
variable {s:Nat}{S:Sto s}{A:Fi}{D:Nat->Prop}{w w':World}{x ne n:Nat}{F:Files}{held:List B}
theorem aW.keep{P:Nat->Prop}(h:aW S A D w x ne F held n)(i:Upon P w w')(f:∀g,D g->¬P g):aW S A D w' x ne F held n:=by
 obtain⟨Q,R,hv,vs,h⟩:=h;exact⟨Q,R,hv,vs,h.aF.keep i (λg d=>f g (h.q g d)) (λg d=>f g (h.r g d)) (λg d=>f g (h.h g d)) (f x h.x),h.q,h.r,h.x,h.h,λk j=>aD (h.lt k j) i.size⟩
theorem aW.later(h:aW S A D w x ne F held n)(d:Below w.heap.size w w'):aW S A D w' x ne F held n:=h.keep (P:=λ_=>False) (Upon.of_below d) (λ_ _ h=>h)
theorem aW.room(h:aW S A D w x ne F held n):held.length<=A.rm/\A.ok/\(∀b∈held,b.length=A.wd)/\ne<=1000000/\∀nm b,F nm=some b->nm.length<=32/\b.length<=1048576:=by
 obtain⟨Q,R,hv,vs,h⟩:=h;exact⟨h.aF.room,h.aF.ok,h.aF.mem.wide,h.aF.few,S.short h.aF.fq⟩
variable {Q R:Nat->Prop}{hv:Value}{vh:List SL}{a:Option Addr}{c:Nat}{l:List B}
theorem pY.flushed{Q':Nat->Prop}{vs:List SL}(h:pY S A D w x ne F held n Q R hv vs)(d:kz S A w w' Q F n x ne held Q'):pY S A (Mid D w w') w' x (ne+1) (setF F (rname A.pf ne) (some (aR held))) [] (n+1) Q' (λ_=>False) (.slice none 0 0) []/\Upon D w w':=
 ⟨⟨d.aF,λk f=>(d.q k f).imp (h.q k) (λj=>⟨j,S.lt d.aF.fq k f⟩),λ_ h=>h.elim,.inl h.x,(λ_ h=>by cases h),λk f=>f.elim (λi=>aD (h.lt k i) d.upon.size) (λi=>i.2)⟩,d.upon.mono (λg j=>j.elim (h.q g) (λe=>by rw[e];exact h.x))⟩
theorem pY.R4{R':Nat->Prop}{o:Value}{vs p:List SL}{m:List B}(h:pY S A D w x ne F held n Q R hv vs)(f:uH S A w w' Q R false F n x ne hv m R' o p):pY S A (Mid D w w') w' x ne F m n Q R' o p/\Upon D w w':=
 ⟨⟨f.aF,λk d=>.inl (h.q k d),λk d=>(f.r k d).imp (h.r k) (λi=>⟨i,f.aF.mem.rlt k d⟩),.inl h.x,λk d=>(f.h k d).imp (h.h k) (λi=>⟨i,(f.aF.mem.own.lt k d).2⟩),λk d=>d.elim (λj=>aD (h.lt k j) f.upon.size) (λj=>j.2)⟩,f.upon.mono (λg i=>i.elim (λe=>by rw[e];exact h.x) (h.h g))⟩
theorem R5(h:aW S A D w x ne F held n)(d:held≠[])(i:n<100000)(hl:ne<100000):
  Calls prog 55 #[.pointer (some ⟨x,0,none⟩)] w λe w'=>e=.returned (.int .i64 0)/\aW S A (Mid D w w') w' x (ne+1) (setF F (rname A.pf ne) (some (aR held))) [] (n+1)/\Upon D w w':=by
 obtain⟨Q,R,hv,vs,h⟩:=h;refine(xA h.aF d i hl).mono ?_;rintro e w' ⟨rfl,Q',f⟩;have:=h.flushed f;exact⟨rfl,⟨_,_,_,_,this.1⟩,this.2⟩
theorem GN(h:aW S A D w x ne F held n)(i:held.length<A.rm){b:B}(hb:b.length=A.wd)(a:Option Addr)(cp:Nat)(d:Lies w a (b.map bv)):
  Calls prog 69 #[.pointer (some ⟨x,0,none⟩),.slice a b.length cp] w λe w'=>e=.returned (.int .i64 0)/\aW S A (Mid D w w') w' x ne F (held++ [b]) n/\Upon D w w':=by
 obtain⟨Q,R,hv,vs,h⟩:=h;refine(Gy h.aF i hb a cp d).mono ?_;rintro e w' ⟨rfl,R',j,m,f⟩;have:=h.R4 f;exact⟨rfl,⟨_,_,_,_,this.1⟩,this.2⟩
theorem R6(h:aW S A D w x ne F held n):Calls prog 34 #[.pointer (some ⟨x,0,none⟩)] w λe w'=>e=.returned (.int .i64 ne)/\∃m,w'=w.drewN m:=by
 obtain⟨Q,R,hv,vs,h⟩:=h;exact AB h.aF
theorem R7(h:aW S A D w x ne F held n)(p:n+ne<100000)(hF:∀j,j<ne->F (rname A.pf j)≠none):Calls prog 60 #[.pointer (some ⟨x,0,none⟩)] w λe w'=>e=.returned (.int .i64 0)/\aW S A (Mid D w w') w' x 0 (iW F A.pf ne) [] (n+ne)/\Upon D w w':=by
 obtain⟨Q,R,hv,vs,h⟩:=h;refine(GL h.aF p hF).mono ?_;rintro e w' ⟨rfl,Q',m,hq,o⟩;exact⟨rfl,⟨_,_,_,_,m,λk d=>(hq k d).imp (h.q k) (λi=>⟨i,S.lt m.fq k d⟩),λ_ h=>h.elim,.inl h.x,(λ_ h=>by cases h),λk d=>d.elim (λf=>aD (h.lt k f) o.size) (λf=>f.2)⟩,o.mono (λg i=>i.elim (h.q g) (λe=>by rw[e];exact h.x))⟩
theorem R8(S:Sto s)(A:Fi)(p:A.s=s)(o:A.ok)(h:S.At w Q false F n)(D:Nat->Prop)(m:∀k,Q k->D k)(hD:∀k,D k->k<w.heap.size):
  Calls prog 17 #[.pointer (some ⟨A.s,0,none⟩),nv A.pf,.int .i64 A.wd,.int .i64 A.rm] w λe w'=>∃x ne,e=.returned (.tuple #[.pointer (some ⟨x,0,none⟩),.int .i64 0])/\aW S A (Mid D w w') w' x ne F [] n/\(∀j,j<ne->F (rname A.pf j)≠none)/\F (rname A.pf ne)=none/\Below w.heap.size w w':=by
 refine(kg S A p o h).mono ?_;rintro e w' ⟨x,ne,rfl,d⟩;exact⟨x,ne,rfl,⟨_,_,_,_,d.aF,λk i=>.inl (m k i),λ_ h=>h.elim,.inr ⟨d.fresh,d.aF.blk.lt⟩,(λ_ h=>by cases h),λk i=>i.elim (λf=>aD (hD k f) d.below.size) (λf=>f.2)⟩,d.runs,d.last,d.below⟩
attribute [local go_sem] Oper.semAt_some
theorem R9{s:Nat}{S:Store.Sto s}{A:Fi}{w:World}{F:Files}{n x ne:Nat}{held:List B}(h:Srt S A w Q R false F n x ne hv vh held){vs:List SL}(j:Lies w a (vs.map sl))(m:bY w (vs.map sl) l)(o:l.length<=1000000)(hb:¬kZ A.wd l):
  Calls prog 67 #[.pointer (some ⟨x,0,none⟩),.slice a vs.length c] w λe w'=>e=.returned (.int .i64 3)/\Below w.heap.size w w':=by
 have f:=h.cell 2
 simp[sorterC]at f
 have d:=mH x A.wd w f j m o (c:=c);rw[jf hb]at d;have q:=jq d;clear h j m o hb f d
 go_enter func67,ntmps67
 go_wp2_with fail
 refine q.out.mono ?_;rintro e w1 ⟨rfl,i⟩;have p:=jq i;clear i
 go_wp2_with fail
 go_ret
 exact⟨rfl,p.out⟩
noncomputable def gI(F:Files)(A:Fi)(ne:Nat)(l:List B):Files:=open Classical in if l= []then iW F A.pf ne else setF (iW F A.pf ne) (rname A.pf 0) (some (Frame.bq 82 l.flatten))
def cu(l:List B):Nat:=if l= []then 0 else 1
theorem Sb{s:Nat}{S:Store.Sto s}{A:Fi}{w:World}{F:Files}{n x ne:Nat}{held:List B}(h:Srt S A w Q R false F n x ne hv vh held)(a5:n+ne+1<100000)(hF:∀j,j<ne->F (rname A.pf j)≠none){vs:List SL}(hL:Lies w a (vs.map sl))(G:bY w (vs.map sl) l)(hc:vs.length<=c)(hn:l.length<=10000)(hb:kZ A.wd l):
  Calls prog 67 #[.pointer (some ⟨x,0,none⟩),.slice a vs.length c] w λe w'=>e=.returned (.int .i64 0)/\∃Q',Srt S A w' Q' (λ_=>False) false (gI F A ne l) (n+ne+cu l) x (cu l) (.slice none 0 0) [] []/\(∀k,Q' k->Q k\/w.heap.size<=k)/\Upon (λk=>Q k\/k=x) w w':=by
 obtain rfl:=h.nY;have h9:=h.ok;obtain⟨k1,k2,k3,k4,k5,k6⟩:=id h9;have y7:vs.length=l.length:=by simpa using G.len
 have q2:=h.cell 2
 simp[sorterC]at q2
 have E:=mH x A.wd w q2 hL G (by omega) (c:=c);rw[jd hb]at E
 have a2:l.flatten.length<=640000:=by
  rw[AF hb.1];exact Nat.mul_le_mul hn k4
 have y8:∀b∈l,b≠[]:=λb a1 e=>by
  have:=hb.1 b a1;rw[e]at this
  simp at this
  omega
 have I:∀W,Below w.heap.size w W->Calls prog 91 #[.slice a vs.length c] W λe w'=>∃v,e=.returned (.tuple #[v,.int .i64 0])/\ak w' W.heap.size v (Frame.bq 82 l.flatten)/\Below W.heap.size W w':=λW o=>Gu W (hL.later o) hc (G.later o) y8 (by omega) (by omega)
 obtain⟨z,L⟩:=jl (Frame.bq 82 l.flatten);have y5:z.length<=1048576:=by rw[L,Frame.jY];omega
 rw[<-L]at I;obtain⟨nl,h7⟩:=jl vs.length;rw[<-h7]at E I⊢;have x7:=jq (h7.trans y7);have HM:=jq E;have a0:=jq I;have H:=jq h;have HF:=jq hF;have z5:=jq L;clear h hF hL G E I h7 y7 L hb a2 y8 q2 hc hn
 go_enter func67,ntmps67
 go_wp2_with fail
 refine HM.out.mono ?_;rintro e w1 ⟨rfl,h4⟩;have T:=jq h4;have z9:=jq (a0.out w1 h4);clear h4
 go_wp2_with fail
 refine z9.out.mono ?_;rintro e w2 ⟨v2,rfl,y1,x8⟩;obtain⟨va,vc,rfl,a6,x9,y4,_⟩:=own_shape y1;have Z:Below w.heap.size w w2:=T.out.trans (x8.mono T.out.size);have HC:=jq (GL (H.out.later Z) (by omega) HF.out);have z7:=jq x9;have z3:=jq (λg d=>(y4 g d));have x5:=jq Z;obtain⟨fn,h5⟩:=jl z.length;rw[<-h5];have z6:=jq h5;clear y1 x9 y4 x8 Z h5
 go_wp2_with fail
 refine HC.out.mono ?_;rintro e i ⟨rfl,Q3,y2,z0,x2⟩;have m:=jq y2;have V:=jq (show∀k,Q3 k->Q k\/w.heap.size<=k from λk hk=>(z0 k hk).imp id (λh=>ax x5.out.size h));have X:=jq (show Upon (λk=>Q k\/k=x) w i from(Upon.of_below (P:=λk=>Q k\/k=x) x5.out).trans x2 (λg d=>.inl d))
 have y0:Lies i va (z.map bv):=z7.out.upon x2 (λg d hq=>by
  have h1:=(z3.out g d).1;have h2:=T.out.size;rcases hq with hq|rfl
  ·have:=S.lt H.out.fq g hq
   omega
  ·have:=H.out.blk.lt
   omega)
 have z8:=jq y0;clear y2 z0 x2 y0 HC
 by_cases C:nl=0
 ·have q:l= []:=iw (by rw[<-x7.out];exact C);have hz: ((nl:Int)==0)=true:=by simp;omega
  have r:=jq (show∃Q',Srt S A i Q' (λ_=>False) false (gI F A ne l) (n+ne+cu l) x (cu l) (.slice none 0 0) [] []/\(∀k,Q' k->Q k\/w.heap.size<=k)/\Upon (λk=>Q k\/k=x) w i from⟨Q3,by
   unfold gI cu;rw[if_pos q,if_pos q];exact m.out,V.out,X.out⟩)
  clear C q
  go_wp2_with fail
  go_ret
  exact⟨rfl,r.out⟩
 ·have q:¬l= []:=λe=>C (by rw[x7.out,e];rfl)
  have hz: ((nl:Int)==0)=false:=by simp;omega
  have N:=m.out.cell 0;have q1:=m.out.cell 1
  simp[sorterC]at N q1
  have x4:=m.out.blk.lt;have h8:=Gx h9 0 (by omega);have U:=jq (uG A.pf k2 0 (by omega) x i.drew q1 x4);have u:=jq (fun(w4:World) (f:Below i.heap.size i w4)=>S.write (S.later m.out.fq f) (by omega) (rname A.pf 0) h8.1 h8.2 va vc z (z8.out.later f) y5);obtain⟨nm,y9⟩:=jl (nv (rname A.pf 0));rw[<-y9]at U u;rw[<-z6.out]at u;have Y:=jq m.out.xq;have y:=jq x4;have z4:=jq ((Below.refl i.heap.size i).drew);have x6:=jq q;clear y9 x4 q1 h8 C q y5
  go_wp2_with fail
  go_region_held3 (λw'=>w'.cell? ⟨x,0,none⟩=some (.pointer (some ⟨A.s,0,none⟩))) (first|exact N|exact h6|exact y6) ((first|(go_at_call 50;refine U.out.mono ?_;rintro e w4 ⟨rfl,f⟩;have f:=z4.out.trans f;have h6:=(f.cell (p:=⟨x,0,none⟩) y.out).trans N;dsimp only)|(go_at_call 30;refine(u.out w4 f).mono ?_;rintro e O ⟨rfl,Q5,z1,x0,M⟩;have y6:=(World.cell?_of_block (a:=⟨x,0,none⟩) (M.block x (aD y.out f.size) Y.out)).trans h6;dsimp only)))
  have J:Blk O x 122 (sorterC A 0 0 (.slice none 0 0)):=(m.out.blk.below f y.out).upon M Y.out;have f5:=J.frozen 5;have g5:=J.cell 5
  simp[sorterC]at g5
  have x1:¬Q5 x:=λh=>(x0 x h).elim Y.out (λh=>by have:=aD y.out f.size;omega)
  obtain⟨W,o⟩:=jl (O.setCell ⟨x,5,none⟩ (.int .i64 1));have x3:Upon (λg=>g=x) O W:=by rw[o];exact(Upon.refl (λg=>g=x) O).set (p:=⟨x,5,none⟩) (.inl rfl) _
  have y3:Blk W x 122 (sorterC A 0 1 (.slice none 0 0)):=by
   have:=J.set 5 (.int .i64 1);rw[<-o]at this
   simpa[sorterC]using this
  have z2:=S.upon z1 x3 (λg d hq=>x1 (by rw[<-d];exact hq));have a3:=X.out.size;have a4:=f.size
  have r:=jq (show∃Q',Srt S A W Q' (λ_=>False) false (gI F A ne l) (n+ne+cu l) x (cu l) (.slice none 0 0) [] []/\(∀k,Q' k->Q k\/w.heap.size<=k)/\Upon (λk=>Q k\/k=x) w W from⟨Q5,by
   unfold gI cu;rw[if_neg x6.out,if_neg x6.out,<-z5.out];exact⟨rfl,y3,z2,rE W A.wd,(λ_ h=>h.elim),(λ_ h=>by cases h),x1,h9,by simp,by omega⟩,λg d=>by
   rcases x0 g d with h|h
   ·exact V.out g h
   ·exact .inr (by omega),by
   have h1:Upon (λg=>Q g\/g=x) i w4:=Upon.of_below f;have h2:=X.out.trans h1 (λg d=>.inl d);have h3:=h2.trans M (λg d=>(V.out g d).imp (λh=>.inl h) id);exact h3.trans (x3.mono (λg d=>Or.inr d)) (λg d=>.inl d)⟩)
  rw[o]at r;clear z1 x0 M J x1 x3 y3 z2 a3 a4 f h6 y6 U u o N
  go_wp2_with fail
  go_ret
  exact⟨rfl,r.out⟩
theorem GQ{s:Nat}{S:Sto s}{A:Fi}{D:Nat->Prop}{w:World}{x ne n:Nat}{F:Files}{held:List B}(h:aW S A D w x ne F held n)(C:n+ne+1<100000)(hF:∀j,j<ne->F (rname A.pf j)≠none){vs:List SL}(o:Lies w a (vs.map sl))(p:bY w (vs.map sl) l)(hc:vs.length<=c)(z:l.length<=10000):
  Calls prog 67 #[.pointer (some ⟨x,0,none⟩),.slice a vs.length c] w λe w'=>(kZ A.wd l/\e=.returned (.int .i64 0)/\aW S A (Mid D w w') w' x (cu l) (gI F A ne l) [] (n+ne+cu l)/\Upon D w w')\/(¬kZ A.wd l/\e=.returned (.int .i64 3)/\Below w.heap.size w w'):=by
 obtain⟨Q,R,hv,vh,h⟩:=h
 by_cases f:kZ A.wd l
 ·refine(Sb h.aF C hF o p hc z f).mono ?_;rintro e w' ⟨rfl,Q',r,hq,u⟩;exact .inl ⟨f,rfl,⟨_,_,_,_,r,λk d=>(hq k d).imp (h.q k) (λm=>⟨m,S.lt r.fq k d⟩),λ_ h=>h.elim,.inl h.x,(λ_ h=>by cases h),λk d=>d.elim (λi=>aD (h.lt k i) u.size) (λi=>i.2)⟩,u.mono (λg m=>m.elim (h.q g) (λe=>by rw[e];exact h.x))⟩
 ·refine(R9 h.aF o p (by omega) f).mono ?_;rintro e w' ⟨rfl,y⟩;exact .inr ⟨f,rfl,y⟩
open Go.Maps oW
open Store (bare GR St au none' gZ)
open jZ (Blank)
def xE:Files:=λ_=>none
variable {g:Nat}{b:B}{t e:TypeId}{cs:Array Value}{ts:List TypeId}{v:Value}{xs:List Value}{ls:List (List B)}
theorem GU{w:World}{Q:Nat->Prop}{s d N f:Nat}(h:St w Q s d g N f false none'): (bare s d g N f).At w Q false xE 0:=⟨⟨none',[],h,rfl,λ_ h=>absurd rfl h,aj _,λ_ h=>by simp at h⟩,by omega,λ_ _ h=>by cases h⟩
theorem AJ{w:World}{base:Nat}{y:SL}(h:ak w base (sl y) b)(o:b≠[]):∃g cap cs,y=(some ⟨g,0,none⟩,b.length,cap)/\base<=g/\Lies w (some ⟨g,0,none⟩) (b.map bv)/\Blk w g 5 cs/\b.length<=cs.size:=by
 obtain⟨a,c,e,_,q,_,_⟩:=own_shape h;obtain⟨G,I,H⟩:=y;rcases h.2 with⟨_,d⟩|⟨g,cap,cur,d,hb,r,B,C,p,E⟩
 ·exact absurd (iw d) o
 ·unfold sl at e d;injection e with i u z;injection d with f j m;dsimp only at *;refine⟨g,cap,cur,by rw[f,j,m],hb,by rw[<-f,i];exact q,r,?_⟩;rw[p]
  omega
theorem AL{w:World}(h:Blk w g t cs)(f:t∉ts):¬typed ts w g:=fun⟨cs',t',fr,d,h2⟩=>by
 unfold Blk at h;rw[h]at d;injection d with d;injection d with _ d;exact f (d▸h2)
theorem AO{w:World}{base:Nat}{size n:Nat}(h:w.ownsRow base e size v n xs)(i:e∉ts)(g:Nat)(d:v.ownBlock=some g):¬typed ts w g:=by
 rcases h.2 with⟨rfl,_⟩|⟨f,cap,cur,rfl,_,hb,_⟩
 ·cases d
 ·have e:f=g:=by simpa[Value.ownBlock]using d
  subst e;exact AL (t:=e) hb i
theorem Sc{i:Nat}{X Y:World}{f:Nat}(h:Only [f] X Y)(hb:Blk X f t cs):KeepsFrom i X Y:=
 ⟨h.size,λk o _ d hc=>(h.block k (dG.1 d).1 (λj=>by
  rw[jE.1 j]at d;unfold Blk at hb;rw[hb]at d;cases d;cases hc)).trans d⟩
theorem Sd(d:Nat)(w:World): (binOp .eql 90 (.func (.func 112) #[] #[.pointer (some ⟨d,0,none⟩)]) .nilFunc).run prog w=.ok (.bool false) w:=by kernel_rfl
structure AP{s:Nat}(S:Store.Sto s)(A:Fi)(D:Nat->Prop)(w:World)(x:Nat)(off:Bool)(ls:List (List B))(held:List B)(n:Nat)(Q R:Nat->Prop)(F:Files)(hv:Value)(vs:List SL):Prop where
 aF:Srt S A w Q R off F n x ls.length hv vs held
 files:RZ A F ls
 q:∀k,Q k->D k
 r:∀k,R k->D k
 x:D x
 h:∀k,hv.ownBlock=some k->D k
def ng{s:Nat}(S:Store.Sto s)(A:Fi)(D:Nat->Prop)(w:World)(x:Nat)(off:Bool)(ls:List (List B))(held:List B)(n:Nat):Prop:=∃m Q R F hv vs,m<=n/\AP S A D w x off ls held m Q R F hv vs
theorem ng.keep{s:Nat}{S:Store.Sto s}{A:Fi}{D P:Nat->Prop}{w w':World}{x:Nat}{off:Bool}{ls:List (List B)}{held:List B}{n:Nat}(h:ng S A D w x off ls held n)(j:Upon P w w')(f:∀g,D g->¬P g):ng S A D w' x off ls held n:=by
 obtain⟨m,Q,R,F,hv,vs,i,h⟩:=h;exact⟨m,Q,R,F,hv,vs,i,h.aF.keep j (λg d=>f g (h.q g d)) (λg d=>f g (h.r g d)) (λg d=>f g (h.h g d)) (f x h.x),h.files,h.q,h.r,h.x,h.h⟩
theorem Sg{w:World}{base:Nat}{size n:Nat}(h:w.ownsRow base e size v n xs)(g:Nat)(d:v.ownBlock=some g):g<w.heap.size:=(h.lt g d).2
theorem uH.Si{s:Nat}{S:Store.Sto s}{A:Fi}{D:Nat->Prop}{w w':World}{x:Nat}{off:Bool}{held j:List B}{n:Nat}{Q R R':Nat->Prop}{F:Files}{hv m:Value}{vs o:List SL}(h:AP S A D w x off ls held n Q R F hv vs)(f:uH S A w w' Q R off F n x ls.length hv j R' m o):AP S A (Mid D w w') w' x off ls j n Q R' F m o/\Upon D w w':=
 ⟨⟨f.aF,h.files,λk d=>.inl (h.q k d),λk d=>(f.r k d).imp (h.r k) (λi=>⟨i,f.aF.mem.rlt k d⟩),.inl h.x,λk d=>(f.h k d).imp (h.h k) (λi=>⟨i,Sg f.aF.mem.own k d⟩)⟩,f.upon.mono (λg i=>i.elim (λe=>by rw[e];exact h.x) (h.h g))⟩
theorem ng.room{s:Nat}{S:Store.Sto s}{A:Fi}{D:Nat->Prop}{w:World}{x:Nat}{off:Bool}{ls:List (List B)}{held:List B}{n:Nat}(h:ng S A D w x off ls held n):held.length<=A.rm:=by
 obtain⟨m,Q,R,F,hv,vs,d,h⟩:=h;exact h.aF.room
theorem Sj{s:Nat}{S:Store.Sto s}{A:Fi}{D:Nat->Prop}{w:World}{x:Nat}{off:Bool}{held:List B}{n:Nat}(h:ng S A D w x off ls held n)(p:held.length<A.rm)(hb:b.length=A.wd)(a:Option Addr)(cp:Nat)(i:Lies w a (b.map bv)):
  Calls prog 69 #[.pointer (some ⟨x,0,none⟩),.slice a b.length cp] w λe w'=>e=.returned (.int .i64 0)/\ng S A (Mid D w w') w' x off ls (held++ [b]) n/\Upon D w w':=by
 obtain⟨m,Q,R,F,hv,vs,j,d⟩:=h;refine(Gy d.aF p hb a cp i).mono ?_;rintro e w' ⟨rfl,R',q,r,o⟩;have f:=o.Si d;exact⟨rfl,⟨_,_,_,_,_,_,j,f.1⟩,f.2⟩
def Sk:List UInt8:=[118]
def GV(s rm:Nat):Fi:=⟨s,Sk,16,rm⟩
end Runs
namespace aX
open Merge
open Runs (sortB dJ jO)
end aX
namespace Runs
open Go.RowKit Go.Deep Go.Shelf Mem Crc Merge
open Store (Sto Files nv)
attribute [local go_sem] Oper.semAt_some
variable {s:Nat}{S:Sto s}{A:Fi}{D:Nat->Prop}{w w':World}{x ne n:Nat}{F:Files}{held:List B}
theorem Sl(h:aW S A D w x ne F [] n):
  Calls prog 55 #[.pointer (some ⟨x,0,none⟩)] w λe w'=>e=.returned (.int .i64 0)/\w'=w:=by
 obtain⟨Q,R,hv,vs,h⟩:=h;have f:=h.aF.cell 6
 simp[sorterC]at f
 have d:vs.length=0:=by simpa using h.aF.mem.recs.len
 obtain⟨a,c,rfl,_,_,_,_⟩:=own_shape h.aF.mem.own;rw[d]at f;clear h d
 go_enter func55,ntmps55
 go_wp2_with fail
 go_ret
 exact⟨rfl,rfl⟩
open Store (setF)
def runsR(A:Fi)(F:Files):Nat->Option (List (List B))
 |0=>some []
 |k+1=>match runsR A F k with
  |none=>none
  |some ls=>match F (rname A.pf k)with
   |none=>none
   |some b=>match readR A.wd b with
    |none=>none
    |some l=>some (ls++ [l])
variable {k c:Nat}{ls:List (List B)}{b:List UInt8}{l:List B}{a:Option Addr}{Q R:Nat->Prop}{hv:Value}
theorem runsR_next{A:Fi}{F:Files}(h:runsR A F k=some ls)(hb:F (rname A.pf k)=some b)(hl:readR A.wd b=some l):runsR A F (k+1)=some (ls++ [l]):=by
 simp only[runsR,h,hb,hl]
theorem runsR_stop{A:Fi}{F:Files}(h:runsR A F k=some ls)(hb:F (rname A.pf k)=some b)(hl:readR A.wd b=none):runsR A F (k+1)=none:=by
 simp only[runsR,h,hb,hl]
theorem runsR_none{A:Fi}{F:Files}{n:Nat}(f:k<=n)(h:runsR A F k=none):runsR A F n=none:=by
 obtain⟨d,rfl⟩:=Nat.le.dest f
 induction d with
 |zero=>exact h
 |succ d i=>rw[<-Nat.add_assoc];simp only[runsR,i (by omega)]
theorem nk{A:Fi}{F:Files}:∀{k:Nat} {ls:List (List B)},runsR A F k=some ls->ls.length=k/\∀l∈ls,(∀b∈l,b.length=A.wd)/\aS l
 |0,ls,h=>by
  cases h;exact⟨rfl,λl hl=>by cases hl⟩
 |k+1,ls,h=>by
  unfold runsR at h
  split at h
  ·cases h
  ·rename_i o i
   split at h
   ·cases h
   ·split at h
    ·cases h
    ·rename_i l f
     injection h with h;subst h;obtain⟨j,m⟩:=nk i;refine⟨by simp[j],λx d=>?_⟩;rcases List.mem_append.1 d with d|d
     ·exact m x d
     ·rw[jE.1 d];exact⟨readR_wide f,readR_rises f⟩
theorem Sm(n:Nat)(_:1<=n)(l f d:Nat){w0:World}{wd:Nat}(B:f<w0.heap.size)(z:d<w0.heap.size)(J o:List SL->World->Prop)(W:World)(r:Below w0.heap.size w0 W)(hcs:w0.cell? ⟨f,0,none⟩=some (.slice a 0 c))(y:w0.cell? ⟨d,0,none⟩=some (.int .i64 wd))(q:J [] W):
  CallsIn Fence.wide n prog 128 #[.func (.yield l) #[] #[],.pointer (some ⟨f,0,none⟩),.pointer (some ⟨d,0,none⟩)] W λe h=>(∃v,e=.returned v)/\
   ((∃m,m= []/\J m h)\/(∃pre,(∃k,k<=0/\pre=([]:List SL))/\o pre h)):=by
 refine callsIn_of_wp func128 rfl trivial ?_ rfl;simp only[ntmps128,List.size_toArray,List.length_cons,List.length_nil,Nat.reduceAdd,Nat.reduceSub,Array.replicate_succ,Array.replicate_zero,List.push_toArray,List.append_toArray,List.nil_append,List.cons_append]
 gi_wp2
 gi_loopw [4] (λi wr=>i=.int .i64 0/\J [] wr/\Below w0.heap.size w0 wr) (λ_ _=>0)
 case atStart=>exact⟨rfl,q,r⟩
 case round=>
  obtain⟨rfl,u,j⟩:=hrel;have E:=(j.cell (p:=⟨f,0,none⟩) B).trans hcs;have C:=(j.cell (p:=⟨d,0,none⟩) z).trans y
  gi_wp2
  go_end0
  exact⟨⟨_,rfl⟩,.inl ⟨_,rfl,u⟩⟩
theorem Sn{wd:Nat}(w:World)(f d:Nat)(p:f<w.heap.size)(o:d<w.heap.size)(hcs:w.cell? ⟨f,0,none⟩=some (.slice a 0 c))(r:w.cell? ⟨d,0,none⟩=some (.int .i64 wd)):
  Calls prog 110 #[.func (.func 128) #[] #[.pointer (some ⟨f,0,none⟩),.pointer (some ⟨d,0,none⟩)]] w λe w'=>∃v,e=.returned v/\gY w' w.heap.size v []/\Below w.heap.size w w':=by
 have u:SeqStopsK Fence.wide 4 prog 128 #[.pointer (some ⟨f,0,none⟩),.pointer (some ⟨d,0,none⟩)] (λx:SL=>#[sl x]) (Below w.heap.size) (λy=>y= [])
   (λpre=>∃k,k<=0/\pre= []) 0 w:=λl J h W q z B C i=>by
  exact Sm 4 (by omega) l f d (w0:=w) p o J h W q hcs r i
 refine(Af _ _ (enters_of func128 (by kernel_rfl) rfl) (by omega) w jn u).mono ?_;rintro e w' ⟨v,xs,rfl,rfl,_,j,m⟩;exact⟨v,rfl,j,m⟩
structure RunIn(w w':World)(l:List B)(v:Value)(vs:List SL):Prop where
 own:gY w' w.heap.size v vs
 recs:bY w' (vs.map sl) l
 fresh:∀y∈vs,∀g,Mem.blk y.1=some g->w.heap.size<=g
 below:Below w.heap.size w w'
def uK(o:Option (List B))(w:World)(e:Ending)(w':World):Prop:=
 Below w.heap.size w w'/\match o with
 |some l=>∃v vs,e=.returned (.tuple #[v,.int .i64 0])/\RunIn w w' l v vs
 |none=>e=.returned (.tuple #[.slice none 0 0,.int .i64 5])
theorem run_gen{s:Nat}{S:Store.Sto s}{A:Fi}{w:World}{F:Files}{n x ne:Nat}{vs:List SL}{held:List B}(h:Srt S A w Q R false F n x ne hv vs held)(k:Nat)(hk:k<=1000000)(bs:List UInt8)(hF:F (rname A.pf k)=some bs)(c0:bs.length<=1000000):
  Calls prog 71 #[.pointer (some ⟨x,0,none⟩),.int .i64 k] w (uK (readR A.wd bs) w):=by
 obtain rfl:=h.nY;obtain⟨k1,k2,k3,k4,k5,k6⟩:=id h.ok;have q0:=h.cell 0;have q1:=h.cell 1;have q2:=h.cell 2
 simp[sorterC]at q0 q1 q2
 have c5:=c0;have a2:=jq (uG A.pf k2 k hk x w.drew q1 h.blk.lt);have a5:=jq (fun(W:World) (hW:Below w.heap.size w W)=>S.AQ (S.later h.fq hW) (rname A.pf k) _ hF);have z8:=jq c5;have x0:=jq h.blk.lt;obtain⟨nm,d2⟩:=jl (nv (rname A.pf k));rw[<-d2]at a2 a5;have e0:=jq ((Below.refl w.heap.size w).drew);obtain⟨E,y9⟩:=jl (readR A.wd bs);rw[<-y9];have y3:=jq y9;clear h hF c5 d2 q1 y9 c0
 go_enter func71,ntmps71
 go_wp2_with fail
 go_region_held3 (λw'=>w'.cell? ⟨x,0,none⟩=some (.pointer (some ⟨A.s,0,none⟩))) (first|exact q0|exact c9|exact c8) ((first|(go_at_call 50;refine a2.out.mono ?_;rintro e w1 ⟨rfl,b4⟩;have x3:=e0.out.trans b4;have c8:=(x3.cell (p:=⟨x,0,none⟩) x0.out).trans q0;dsimp only)|(go_at_call 108;refine(a5.out _ x3).mono ?_;rintro e w2 ⟨v2,rfl,b9,b5⟩;have y7:=x3.trans (b5.mono x3.size);have c9:=(y7.cell (p:=⟨x,0,none⟩) x0.out).trans q0;dsimp only)))
 obtain⟨va,vc,rfl,f1,hL,_,_⟩:=own_shape b9;have y5:=Go.Proofs.YtndkohocgfmamaaGreatDoor.Frame.uL va vc _ w2 hL f1 (by have:=z8.out;omega);have y1:=jq y7;obtain⟨nb,z3⟩:=jl bs.length;rw[<-z3]at y5⊢;have f5:=jq z3;have d5:=jq y5;clear y5 hL b9 b5 y7 b4 x3 c8 c9 z3
 go_wp2_with fail
 refine d5.out.mono ?_;rintro e w3 ⟨⟨v3,z6,rfl,h7,J,h8⟩,h0⟩;obtain⟨f7,f9,rfl,f6,h6,e6,_⟩:=own_shape h7;have T:=y1.out.trans (h0.mono y1.out.size);have d4:=(T.cell (p:=⟨x,2,none⟩) x0.out).trans q2;obtain⟨er,I⟩:=jl ((Frame.bA (bs.length+1) bs).2);obtain⟨ns,L⟩:=jl z6.length;rw[<-I,<-L];have o:=jq T;have x4:E=none->uK E w (.returned (.tuple #[.slice none 0 0,.int .i64 5])) w3:=λh=>⟨o.out,by rw[h]⟩
 have G:E=none->∀m,uK E w (.returned (.tuple #[.slice none 0 0,.int .i64 5])) (w3.drewN m):=λh m=>⟨⟨o.out.os,o.out.tape,o.out.output,o.out.size,o.out.block⟩,by rw[h]⟩
 by_cases he:er=0
 case neg=>
  have q:=jq (G (by rw[y3.out];exact Fa (by rw[<-I];exact he)));have t1: (er==0)=false:=by simpa using he
  have t2: (er !=0)=true:=by simpa using he
  clear J h8 h7 h6 h0 T I L x4 G
  go_wp2_with fail
  go_quiet (fail)
  go_wp2_with fail
  go_ret2
  exact q.out _
 subst he
 by_cases d3:ns=1
 case neg=>
  have q:=jq (G (by rw[y3.out];exact Fb (by rw[<-J,jP,<-L];exact d3)));have t1: ((ns:Int)==1)=false:=by simp;omega
  have t2: ((ns:Int) !=1)=true:=by simp;omega
  clear J h8 h7 h6 h0 T I L x4 G
  go_wp2_with fail
  go_quiet (fail)
  go_wp2_with fail
  go_ret2
  exact q.out _
 subst d3
 obtain⟨d,rfl⟩:∃z,z6= [z]:=by
  match z6,L with
  | [z],_=>exact⟨z,rfl⟩
 have x9:=h8 d (by simp);obtain⟨g3,y0,rfl,c6,x5⟩:=h6.resolve_left (λe=>by simp[Frame.gu,Frame.bJ.vs]at e);obtain⟨kd,h9⟩:=jl d.kind.toNat;have p0:=x5 0 (.int .u8 (kd:Int)) (by simp[Frame.gu,Frame.bJ.vs,h9,bv]);obtain⟨M,C⟩:=jl d.body.length;have p1:=x5 1 (.slice d.a M d.cp) (by simp[Frame.gu,Frame.bJ.vs,C]);rw[Nat.add_zero]at p0;have y4:=jq (show E=iT A.wd d.kind d.body by rw[y3.out];exact wP I.symm J.symm)
 by_cases b0:kd=82
 case neg=>
  have q:=jq (G (by
   rw[y4.out];unfold iT;rw[if_neg (λe=>b0 (by rw[h9,e.1];rfl))]))
  have t1: ((kd:Int)==82)=false:=by simp;omega
  have t2: ((kd:Int) !=82)=true:=by simp;omega
  clear J h8 h7 h6 h0 T I L x4 G x9 x5 h9 C
  go_wp2_with fail
  go_quiet (fail)
  go_wp2_with fail
  go_ret2
  exact q.out _
 subst b0;have z2:d.kind=82:=UInt8.toNat_inj.1 (by rw[<-h9];rfl)
 have f3: ((A.wd:Int)==0)=false:=by
  have:¬(A.wd:Int)=0:=by omega
  simpa using this
 obtain⟨r,hr⟩:=jl (M%A.wd);have e9: (M:Int).tmod (A.wd:Int)=(r:Int):=by rw[hr];exact(Int.ofNat_tmod M A.wd).symm
 by_cases a9:r=0
 case neg=>
  have q:=jq (G (by
   rw[y4.out];unfold iT;rw[if_neg (λe=>a9 (by rw[hr,C];exact e.2.1))]))
  have t1: ((r:Int)==0)=false:=by simp;omega
  have t2: ((r:Int) !=0)=true:=by simp;omega
  clear J h8 h7 h6 h0 T I L x4 G x9 x5 h9 C hr z2
  go_wp2_with fail
  go_quiet (fail)
  go_wp2_with fail
  go_ret2
  exact q.out _
 subst a9
 have b8:M<=1000000:=by
  have:=wQ (bs.length+1) bs d.kb (by rw[<-J];simp);have Z:=z8.out;have P:d.kb.2.length=M:=C.symm
  omega
 have U:M=M/A.wd*A.wd:=by have:=Nat.div_add_mod' M A.wd;omega
 obtain⟨m,hm⟩:=jl (M/A.wd);rw[<-hm]at U;obtain⟨l,hl⟩:=jl (gT A.wd m d.body)
 have a3:=jq (show E=if aS l then some l else none by
  rw[y4.out];unfold iT;rw[<-C,<-hm,<-hl]
  by_cases h:aS l
  ·rw[if_pos h,if_pos ⟨z2,hr.symm,h⟩]
  ·rw[if_neg h,if_neg (λe=>h e.2.2)])
 obtain⟨f8,g0,e5,z5,y8,z1,_⟩:=own_shape x9;injection e5 with a7 _ a8;rw[<-a7]at y8 z1;rw[<-a8,<-C]at z5;have f2:=y1.out.size
 obtain⟨vs,c1,c2,c3,c4⟩:∃vs:List SL,(∀W,Below w3.heap.size w3 W->bY W (vs.map sl) l)/\(∀y∈vs,∀g,Mem.blk y.1=some g->w.heap.size<=g/\g<w3.heap.size)/\vs.length<=1000000/\∀(f:World) (O N:Nat),O<f.heap.size->N<f.heap.size->f.cell? ⟨O,0,none⟩=some (.slice d.a M d.cp)->f.cell? ⟨N,0,none⟩=some (.int .i64 A.wd)->Calls prog 110 #[.func (.func 128) #[] #[.pointer (some ⟨O,0,none⟩),.pointer (some ⟨N,0,none⟩)]] f λe w'=>∃v,e=.returned v/\gY w' f.heap.size v vs/\Below f.heap.size f w':=by
  by_cases b7:M=0
  ·have e8:m=0:=by rw[hm,b7,Nat.zero_div]
   refine⟨[],λW _=>?_,(λy X=>by cases X),by simp,λf O N h1 Z P h4=>?_⟩
   ·rw[hl,e8];exact rA W
   ·rw[b7]at P;exact Sn f O N h1 Z P h4
  ·obtain⟨Y,ob,eb,c7,e7⟩:=y8.resolve_left (λe=>by
    have:=congrArg List.length e;rw[jP,<-C]at this
    simp at this
    omega)
   refine⟨pieces Y ob A.wd m,λW hW=>?_,λy X g hg=>?_,?_,λf O N h1 Z P h4=>?_⟩
   ·have f0:pieces Y ob A.wd m=(List.range l.length).map λj=>((some ⟨Y,ob+(0+j)*A.wd,none⟩,A.wd,A.wd):SL):=by
     rw[hl,uh];unfold pieces
     apply qI
     intro j _;rw[Nat.zero_add]
    rw[f0];refine GD l 0 (by rw[hl];exact uj (by rw[<-C];exact U)) (λi u hu=>?_) (aD c7 hW.size);rw[hl,AR (by rw[<-C];exact U)]at hu;rw[Nat.zero_mul,Nat.add_zero];exact(hW.cell (p:=⟨Y,ob+i,none⟩) c7).trans (e7 i u hu)
   ·obtain⟨j,_,rfl⟩:=List.mem_map.1 X;have e1:Y=g:=by simpa[Mem.blk]using hg
    have:=z1 Y (by rw[eb];rfl)
    omega
   ·rw[nO];have:=Nat.le_mul_of_pos_right m (show 0<A.wd by omega)
    omega
   ·rw[eb,U]at P;exact RQ (by omega) (by rw[<-U];exact z5) (by rw[<-U];exact b8) f O N h1 Z P h4
 have d6:=jq c1;have z9:=jq c2;have d7:=jq c3;have d8:=jq c4;have a0:=jq c6;clear J h8 h7 h6 x5 y8 h0 a7 a8 x9 h9 C hr z2 b8 U hm hl I L z5 z1 e6 f2 c1 c2 c3 c4 x4 G T q2 q0 c6
 go_wp2_with fail
 go_quiet (fail)
 obtain⟨V,hV⟩:=jl (w3.drewN nq);have h5:Below w3.heap.size w3 V:=by rw[hV];exact⟨rfl,rfl,rfl,aj _,λ_ _=>rfl⟩
 rw[<-hV];have v1:=(h5.cell (p:=⟨g3,y0+1,none⟩) a0.out).trans p1;have v2:=(h5.cell (p:=⟨x,2,none⟩) (aD x0.out o.out.size)).trans d4;have y2:=jq h5;have a1:=jq (aD a0.out h5.size);have a6:=jq (aD (aD x0.out o.out.size) h5.size);have e2:=jq ((Below.refl V.heap.size V).drew);have d9:=jq (RY d.a M d.cp A.wd k3 V.drew);clear hV h5 p0 p1 d4 e9 f3
 go_wp2_with fail
 go_region_held3 (λw'=>w'.cell? ⟨g3,y0+1,none⟩=some (.slice d.a M d.cp)/\w'.cell? ⟨x,2,none⟩=some (.int .i64 (A.wd:Int))) (first|exact⟨v1,v2⟩|exact d0|exact d1) ((first|(go_at_call 83;refine d9.out.mono ?_;rintro e f ⟨rfl,H,b1,b2,b3⟩;have H:=e2.out.trans H;have d0:=And.intro ((H.cell (p:=⟨g3,y0+1,none⟩) a1.out).trans v1) ((H.cell (p:=⟨x,2,none⟩) a6.out).trans v2);dsimp only)|(go_at_call 110;refine(d8.out f _ _ (by omega) b3 b1 b2).mono ?_;rintro e w5 ⟨v5,rfl,x8,b6⟩;have x7:=H.trans (b6.mono H.size);have d1:=And.intro ((x7.cell (p:=⟨g3,y0+1,none⟩) a1.out).trans v1) ((x7.cell (p:=⟨x,2,none⟩) a6.out).trans v2);dsimp only)))
 have y6:Below w3.heap.size w3 w5:=y2.out.trans (x7.mono y2.out.size)
 have f4:w3.heap.size<=f.heap.size:=by
  have Z:=y2.out.size;have P:=H.size
  omega
 have z0:=d6.out w5 y6
 have x6:=jq (RI x8 z0 (λy X g hg e=>by
  have h1:=z9.out y X g hg;have Z:=(x8.lt g e.symm).1
  omega) d7.out)
 have z7:=jq (o.out.trans (y6.mono o.out.size));have e3:=jq (bH x8 (show w.heap.size<=f.heap.size from by have h1:=o.out.size;omega));have e4:=jq z0;obtain⟨rb,z4⟩:=jl (decide (aS l));rw[<-z4]at x6;have a4:=jq z4;clear y6 z0 f4 x8 b6 x7 H d0 d1 b1 b2 b3 v1 v2 z4
 go_wp2_with fail
 refine x6.out.mono ?_;rintro e w6 ⟨rfl,x2⟩;have x1:=z7.out.trans (x2.mono z7.out.size);cases rb
 ·have hn:E=none:=by
   rw[a3.out,if_neg (of_decide_eq_false a4.out.symm)]
  have q:=jq (show uK E w (.returned (.tuple #[.slice none 0 0,.int .i64 5])) w6 from⟨x1,by rw[hn]⟩);clear x2 x6 x1 hn
  go_wp2_with fail
  go_ret2
  exact q.out
 ·have hn:E=some l:=by
   rw[a3.out,if_pos (of_decide_eq_true a4.out.symm)]
  have q:=jq (show uK E w (.returned (.tuple #[v5,.int .i64 0])) w6 from⟨x1,by
   rw[hn];exact⟨v5,vs,rfl,own_later e3.out x2,e4.out.later x2,λy X g hg=>(z9.out y X g hg).1,x1⟩⟩)
  clear x2 x6 x1 hn
  go_wp2_with fail
  go_ret2
  exact q.out
theorem RowB.of_in{w w':World}(R:Nat->Prop){v:Value}{vs:List SL}(h:RunIn w w' l v vs)(p:∀b∈l,b≠[]):∃a c,v=.slice a l.length c/\RowB w' (Mid R w w') ((a,l.length,c),l):=by
 obtain⟨a,c,rfl,hc,o,hb,_⟩:=own_shape h.own;have hl:vs.length=l.length:=by simpa using h.recs.len
 refine⟨a,c,by rw[<-hl],a,c,vs,rfl,by rw[<-hl];exact hc,hl,o,λg d=>.inr (hb g d),h.recs,λy m g d=>.inr ⟨h.fresh y m g d,?_⟩⟩;obtain⟨i,f⟩:=qF m;have j:i<l.length:=by rw[<-hl];exact(jS.1 f).1
 exact rec_block (h.recs.at_ i (sl y) l[i] (by simp[f]) (jg j)) (p _ (qE j)) g d
def RowsAns(A:Fi)(F:Files)(ne:Nat)(held:List B)(R:Nat->Prop)(w:World)(e:Ending)(w':World):Prop:=
 Below w.heap.size w w'/\match runsR A F ne with
 |some ls=>∃Bs rs ad c,e=.returned (.tuple #[.func (.func 112) #[] #[.pointer (some ⟨Bs,0,none⟩)],.int .i64 0])/\Merging w' (Mid R w w') Bs rs ad c/\rs.length=ne+1/\((rs.map Prod.snd).flatten).Perm (held++ls.flatten)
 |none=>e=.returned (.tuple #[.nilFunc,.int .i64 5])
theorem rows_gen{s:Nat}{S:Store.Sto s}{A:Fi}{w:World}{F:Files}{n x ne:Nat}{vs:List SL}{held:List B}(h:Srt S A w Q R false F n x ne hv vs held)(z4:ne<=1000)(hF:∀j,j<ne->F (rname A.pf j)≠none)(C:∀nm b,F nm=some b->b.length<=1000000):
  Calls prog 37 #[.pointer (some ⟨x,0,none⟩)] w (RowsAns A F ne held R w):=by
 obtain⟨k1,k2,k3,k4,k5,k6⟩:=id h.ok;have c7:vs.length=held.length:=by simpa using h.mem.recs.len
 have d4:=h.room;have q4:=h.cell 4;have q5:=h.cell 5;have q6:=h.cell 6
 simp[sorterC]at q4 q5 q6
 have HS:=jq (sorted_any x h.mem q6 k3 (by omega));have H:=jq h;have y5:=jq h.blk.lt;obtain⟨i0,c6,c9,d0,d1⟩:=info_parts infoRow;clear h c7 q6
 go_enter func37,ntmps37
 go_wp2_with fail
 refine HS.out.mono ?_;rintro e w1 ⟨v,d8,l',rfl,O⟩;obtain⟨V,c1,rfl,a0⟩:=RowB.of_sorted O H.out.mem.rb;have M:=O.below;have z1:=O.perm;have z9:=O.rises;obtain⟨U,h4⟩:∃U:SL×List B,U=((V,l'.length,c1),l'):=⟨_,rfl⟩;obtain⟨N1,h9⟩:=jl l'.length;have I:Below w.heap.size w (w1.alloc (.cells #[.slice V N1 c1] 120)):=M.alloc M.size _;have d6:=(I.cell (p:=⟨x,4,none⟩) y5.out).trans q4
 have a4:AllRows w (w1.alloc (.cells #[.slice V N1 c1] 120)) R [U] (.slice (some ⟨w1.heap.size,0,none⟩) 1 1):=by
  refine⟨?_,λr q=>?_⟩
  ·have:=World.ownsRow_lit (base:=w.heap.size) (e:=120) (size:=1) w1 #[.slice V N1 c1] 1 M.size (by decide) rfl;rw[h4]
   simpa[OwnR,sl,h9]using this
  ·rw[jE.1 q,h4];refine⟨(a0.later ((Below.refl _ w1).alloc jn _)).mono (λg d=>⟨d.imp id (λh=>⟨h.1,by simp;omega⟩),λe=>?_⟩),z9⟩;have e:g=w1.heap.size:=by simpa[Value.ownBlock]using e
   rcases d with d|d
   ·have:=H.out.mem.rlt g d;have:=M.size
    omega
   ·omega
 have c0:=jq a4;have a9:=jq I;have b7:=jq (show(([U].map Prod.snd).flatten).Perm (held++([]:List (List B)).flatten)from by rw[h4];simpa using z1);rw[<-h9];clear a4 I a0 z1 z9 h4 h9 M O HS
 go_wp2_with fail
 go_loopw[4,5] (λo i wr=>∃(k:Nat) (rs:List (SL×List B)) (ls:List (List B)),runsR A F k=some ls/\k<=ne/\i=.int .i64 k/\rs.length=k+1/\AllRows w wr R rs o/\((rs.map Prod.snd).flatten).Perm (held++ls.flatten)/\Below w.heap.size w wr) (λ_ i _=>ne-(intOf i).toNat)
 case atStart=>exact⟨0,[U],[],rfl,aC _,rfl,rfl,c0.out,b7.out,a9.out⟩
 case round=>
  obtain⟨k,rs,ls,z2,hk,rfl,h0,X,hP,h7⟩:=hrel
  rename_i o _
  have d7:=(h7.cell (p:=⟨x,5,none⟩) y5.out).trans q5;obtain⟨y,f,rfl,x2,z6,z7,x1⟩:=own_shape X.own;rw[jP,h0]at X x1;rw[jP]at x2⊢;have h5:=jq z2;have HA:=jq X;have HP:=jq hP;have m:=jq h7;have u:=jq h0;have x8:=jq z6;have x7:=jq z7;have b6:=jq x1;clear X hP h7 z6 z7 x1 z2;rw[h0]at x2⊢;clear h0
  by_cases hlt:k<ne
  ·obtain⟨b,hb⟩:=si.1 (hF k hlt);have E:=jq (run_gen (H.out.later m.out) k (by omega) b hb (C _ b hb));have x4:=jq hb;clear hb
   cases hrd:readR A.wd b with
   |none=>
    rw[hrd]at E;have HN:=jq (show runsR A F ne=none from runsR_none (by omega) (runsR_stop h5.out x4.out hrd));clear hrd
    go_wp2_with fail
    refine E.out.mono ?_;rintro e w2 ⟨I,rfl⟩;have HE:=jq (show RowsAns A F ne held R w (.returned (.tuple #[.nilFunc,.int .i64 5])) w2 from⟨m.out.trans (I.mono m.out.size),by rw[HN.out]⟩);clear I E
    go_wp2_with fail
    go_ret2
    exact HE.out
   |some T=>
   rw[hrd]at E;have b3:=jq (show runsR A F (k+1)=some (ls++ [T])from runsR_next h5.out x4.out hrd);have y3:=jq hrd;clear hrd
   go_wp2_with fail
   refine E.out.mono ?_;rintro e w2 ⟨c4,v2,d9,rfl,N⟩;clear c4
   obtain⟨z,c2,rfl,a3⟩:=RowB.of_in R N (λb hb e=>by
    have:=readR_wide y3.out b hb;rw[e]at this
    simp at this
    omega)
   obtain⟨J,a6⟩:∃J:SL×List B,J=((z,T.length,c2),T):=⟨_,rfl⟩;obtain⟨G,x0⟩:=jl T.length;have h8:Below w.heap.size w w2:=m.out.trans (N.below.mono m.out.size)
   have z8:w2.ownsRow w.heap.size 120 1 (.slice y (k+1) f) (k+1) ((rs.map Prod.fst).map sl):=by
    have:w2.ownsRow w.heap.size 120 1 (.slice y (k+1) f) (rs.map Prod.fst).length ((rs.map Prod.fst).map sl):=own_later HA.out.own N.below;rw[jP,u.out]at this;exact this
   have x9:=jq (z8.alloc (.cells #[.slice z G c2] 120));have y4:=jq (show w.heap.size<=(w2.alloc (.cells #[.slice z G c2] 120)).heap.size from by have:=h8.size;simp;omega);have x3:=jq h8;have y0:=jq N;have b9:=jq a3;have h6:=jq a6;have b4:=jq x0;rw[<-x0];clear z8 h8 N a3 a6 x0 E
   go_wp2_with (at_builtin;refine wpList_append_lies _ rfl _ _ 148 rfl w.heap.size 120 i0 (.slice none 0 0) 1 24 underlying148 c6 c9 d0 d1 rfl (by decide) _ _ _ rfl x9.out ⟨w2.heap.size,0,none⟩ 1 1 [.slice z G c2] rfl rfl (one_at rfl) (by simp[Value.oneCell']) (by decide) (by unfold maxLen;omega) (by omega) y4.out _ rfl ?_;intro g3 c3 w3 Z y9 y8 z3;have b5:=jq Z;have b2:=jq y9;have a8:=jq y8;have d2:=jq z3;clear Z y9 y8 z3)
   have y6:Below w2.heap.size w2 (w2.alloc (.cells #[.slice z G c2] 120)):=(Below.refl _ w2).alloc jn _;have h2:Upon (λg=>(Value.slice y (k+1) f).ownBlock=some g) (w2.alloc (.cells #[.slice z G c2] 120)) w3:=Upon.of_grown b2.out (λg d=>.inl d);have b0:=jq (show Below w.heap.size w w3 from(x3.out.alloc x3.out.size _).trans (h2.below y4.out (λg d=>(x9.out.lt g d).1)))
   have a7:=jq (show AllRows w w3 R (rs++ [J]) (.slice (some ⟨g3,0,none⟩) (k+1+1) c3)from by
    have Z:=b5.out;have C:=h2.size
    simp at C
    refine⟨?_,λr q=>?_⟩
    ·show w3.ownsRow w.heap.size 120 1 _ ((rs++ [J]).map Prod.fst).length (((rs++ [J]).map Prod.fst).map sl);rw[jP,jL,u.out,aZ,aZ,h6.out]
     simpa[sl,b4.out]using Z
    ·have y7: (Value.slice y (k+1) f).ownBlock=some g3\/g3=(w2.alloc (.cells #[.slice z G c2] 120)).heap.size:=a8.out;have d5:=m.out.size;have d3:=y0.out.below.size;have c8:∀g,(Value.slice y (k+1) f).ownBlock=some g->w.heap.size<=g/\g<wr.heap.size:=λg d=>x7.out g (by rw[<-b6.out];exact d)
     rw[World.size_alloc]at y7
     have z0:∀g,Mid R wr w2 g\/Mid R w wr g->some g≠(Value.slice y (k+1) f).ownBlock->Mid R w w3 g/\some g≠(Value.slice (some ⟨g3,0,none⟩) (k+1+1) c3).ownBlock:=λg d z4=>by
      refine⟨?_,λe=>?_⟩
      ·rcases d with(d|d)|(d|d)
       ·exact .inl d
       ·exact .inr ⟨by omega,by omega⟩
       ·exact .inl d
       ·exact .inr ⟨by omega,by omega⟩
      ·have e:g=g3:=by simpa[Value.ownBlock]using e
       rcases y7 with h3|h3
       ·exact z4 (by rw[e,h3])
       ·rcases d with(d|d)|(d|d)
        ·have:=H.out.mem.rlt g d;have:=m.out.size
         omega
        ·omega
        ·have:=H.out.mem.rlt g d
         omega
        ·omega
     rcases List.mem_append.1 q with q|q
     ·have L:=HA.out.rows r q;refine⟨(((L.1.later y0.out.below).later y6).upon h2 (λg d e=>d.2 e.symm)).mono (λg d=>z0 g (.inr d.1) d.2),L.2⟩
     ·rw[jE.1 q,h6.out]
      have z5:∀g,Mid R wr w2 g->some g≠(Value.slice y (k+1) f).ownBlock:=λg d e=>by
       have:=c8 g e.symm;rcases d with d|d
       ·have:=H.out.mem.rlt g d
        omega
       ·omega
      exact⟨((b9.out.later y6).upon h2 (λg d e=>z5 g d e.symm)).mono (λg d=>z0 g (.inl d) (z5 g d)),readR_rises y3.out⟩)
   go_roundw
   case rel=>exact⟨k+1,rs++ [J],ls++ [T],b3.out,by omega,by simp,by simp[u.out],a7.out,by
    rw[aZ,oO,oO,<-List.append_assoc];refine List.Perm.append HP.out ?_;rw[h6.out]
    simp,b0.out⟩
   case measure=>simp[intOf];omega
  ·have x5:=jq (show k=ne by omega);have b8:=jq (show runsR A F ne=some ls from by rw[<-x5.out];exact h5.out)
   obtain⟨ad,c5⟩:∃ad,y=some ad:=by
    obtain⟨g,off,e,_⟩:=x8.out.resolve_left (λe=>by
     have:=congrArg List.length e;rw[jP,jP,u.out]at this
     simp at this)
    exact⟨_,e⟩
   subst c5;have x6:=jq (merge_any wr (some ad) (k+1) f);obtain⟨W,P⟩:=jl (wr.alloc (.cells #[.slice (some ad) (k+1) f] 148));have Y:Below wr.heap.size wr W:=by rw[P];exact(Below.refl _ wr).alloc jn _
   have C:=m.out.size;have a5:wr.heap.size<W.heap.size:=by rw[P];simp
   have HE:=jq (show Merging W (Mid R w W) wr.heap.size rs ad f from by
    refine⟨by rw[P,u.out];exact Blk.new wr _ _,.inr ⟨C,a5⟩,?_,?_,by rw[u.out];exact x2,by rw[u.out];omega,λr q=>?_⟩
    ·have:=x8.out.later Y
     rwa [List.map_map]at this
    ·have:=x7.out ad.block rfl;exact .inr ⟨this.1,by omega⟩
    ·have L:=HA.out.rows r q;exact⟨(L.1.later Y).mono (λg d=>d.1.imp id (λh=>⟨h.1,by omega⟩)),L.2⟩)
   have b1:=jq (m.out.trans (Y.mono C));rw[<-P]at x6;clear P Y C a5
   go_wp2_with fail
   refine x6.out.mono ?_;rintro e w2 ⟨rfl,rfl⟩
   go_wp2_with fail
   go_ret2
   exact⟨b1.out,by rw[b8.out];exact⟨_,rs,ad,f,rfl,HE.out,by rw[u.out,x5.out],HP.out⟩⟩
end Runs
namespace Runs
open Go.RowKit Go.Deep Go.Shelf Mem Crc Go.Maps Merge
open Store (Sto Files)
def RowsOut(A:Fi)(F:Files)(ne:Nat)(held:List B)(w:World)(e:Ending)(w':World):Prop:=
 Below w.heap.size w w'/\match runsR A F ne with
 |some ls=>∃a c,e=.returned (.tuple #[.slice a (held++ls.flatten).length c,.int .i64 0])/\Lies w' a ((sortB (held++ls.flatten)).map strB)
 |none=>∃a c,e=.returned (.tuple #[.slice a 0 c,.int .i64 5])
theorem runsR_count{A:Fi}{F:Files}{m:Nat}(d:0<A.wd)(f:∀nm b,F nm=some b->b.length<=m):∀{k:Nat} {ls:List (List B)},runsR A F k=some ls->ls.flatten.length<=k*m
 |0,ls,h=>by cases h;simp
 |k+1,ls,h=>by
  unfold runsR at h
  split at h
  ·cases h
  ·rename_i u i
   split at h
   ·cases h
   ·rename_i b hb
    split at h
    ·cases h
    ·rename_i l j
     injection h with h;subst h;have o:=runsR_count d f i;have p:=readR_len d j;have q:=f _ _ hb;rw[oO,jL,eY];have r: ([l]:List (List B)).flatten.length=l.length:=by simp
     omega
end Runs
end Go.Proofs.YtndkohocgfmamaaGreatDoor
