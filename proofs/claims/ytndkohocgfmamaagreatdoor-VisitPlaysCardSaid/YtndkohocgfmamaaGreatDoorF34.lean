/- Part. -/
import Derived.Test.YtndkohocgfmamaaGreatDoorF26
import Derived.Test.YtndkohocgfmamaaGreatDoorF33
import Derived.Deep.DeepCutAuto
set_option maxHeartbeats 2000000
set_option maxRecDepth 100000
namespace Go.Proofs.YtndkohocgfmamaaGreatDoor
open Go.Proofs.Tryz
namespace kY
open Go.RowKit Go.Deep Mem Crc Full aA Go.Proofs.YtndkohocgfmamaaGreatDoor.Frame
theorem Hf(a:World){base:Nat}(k:UInt8)(kd:Nat)(b:kd=k.toNat)(hb:base<=a.heap.size):ak (a.alloc (.cells #[.int .u8 (kd:Int)] 5)) base (.slice (some ⟨a.heap.size,0,none⟩) 1 1) [k]:=by
 have h:=World.ownsRow_lit (e:=5) (size:=1) (base:=base) a #[bv k] 1 hb (by decide) (by simp);rw[b];exact h
theorem Hg(b:World){base p:Nat}{k:UInt8}(f:TypeId)(e:ak b base (.slice (some ⟨p,0,none⟩) 1 1) [k]){a:Option Addr}{c:Nat}{l:List UInt8}(g:Lies b a (l.map bv))(hl:l.length<=1000000)(hb:base<=b.heap.size):
  ∃d w5,(Builtin.append_ #[84,84] f #[.slice (some ⟨p,0,none⟩) 1 1,.slice a l.length c]).run prog b=.ok d w5/\ak w5 base d (k ::l)/\Below base b w5:=by
 obtain⟨d,w5,j,h,i⟩:=lQ b f _ _ e a c l g (by simp;omega) hb;exact⟨d,w5,j,h,(Below.refl _ b).grown i hb (λq hq=>(e.lt q hq).1)⟩
attribute [local go_sem] Oper.semAt_some
theorem Sv(k:UInt8)(a:Option Addr)(cp:Nat)(b:List UInt8)(w:World)(h:Lies w a (b.map bv))(hb:b.length<=1000000):
  Calls prog 62 #[.agg #[bv k,.slice a b.length cp]] w λe w'=>∃v,e=.returned v/\ak w' w.heap.size v (bq k b)/\Below w.heap.size w w':=by
 obtain⟨n,Y⟩:=jl b.length;obtain⟨kd,X⟩:=jl k.toNat;have h8:bv k=.int .u8 (kd:Int):=by rw[X];rfl
 rw[<-Y,h8];obtain⟨W1,C⟩:=jl (w.alloc (.cells #[.int .u8 (kd:Int),.slice a n cp] 136));obtain⟨sb,Z⟩:=jl w.heap.size;have J:Below w.heap.size w W1:=by rw[C];exact(Below.refl _ w).alloc jn _
 have f:Blk W1 sb 136 #[.int .u8 (kd:Int),.slice a n cp]:=by rw[C,Z];exact Blk.new w _ _
 have x0:=f.cell 0;have x1:=f.cell 1
 simp at x0 x1
 have S:Below W1.heap.size W1 (W1.alloc (.cells #[.int .u8 (kd:Int)] 5)):=(Below.refl _ _).alloc jn _;have x5:=(f.below S f.lt).cell 0;have x6:=(f.below S f.lt).cell 1
 simp at x5 x6
 have y5:IntKind.u32.wrap (n:Int)=(n:Int):=by rw[IntKind.wrap_u32];omega
 have H:Hid (∀V:World,Calls prog 102 #[.int .u32 (n:Int)] V λe w'=>∃v,e=.returned v/\ak w' V.heap.size v (four n)/\Below V.heap.size V w'):=jq (λV=>EO n (by omega) V);have HL:=jq (h.later J);have y:=jq Y;have h2:=jq X;have F:=jq J;have x:=jq f;have A: (four n).length=4:=rfl;clear h Y X J f h8 S
 go_enter func62,ntmps62
 go_wp2_with fail
 rw[<-C,<-Z];clear C Z
 go_cut[3] (λx3 wx=>∃(j:Option Addr) (l:Nat),x3=.slice j 5 l/\Hid (ak wx W1.heap.size (.slice j 5 l) (k ::four n))/\Hid (Below W1.heap.size W1 wx))
 case first=>
  go_region_law ((first|(go_simp;go_at_call 102;refine(H.out _).mono ?_;rintro e o ⟨v4,rfl,s,m⟩;obtain⟨y6,h0,rfl,_,r,-⟩:=own_shape s;have u:=own_later (Hf W1 k kd h2.out jn) ((Below.refl (W1.alloc (.cells #[.int .u8 (kd:Int)] 5)).heap.size (W1.alloc (.cells #[.int .u8 (kd:Int)] 5))).drew.trans m);have g:=(((Below.refl W1.heap.size W1).alloc jn (.cells #[.int .u8 (kd:Int)] 5)).drew).trans (m.mono (by simp));obtain⟨v5,w5,E,i,p⟩:=Hg o 84 u (c:=h0) r (by rw[A];decide) g.size;obtain⟨j,l,rfl,-⟩:=own_shape i;have z:=jq i;have d:=jq (g.trans p);clear s m r u g i p;rw[A]at E⊢;dsimp only)|(go_simp;go_at_call 102;refine(H.out _).mono ?_;rintro e o ⟨v4,rfl,s,m⟩;obtain⟨y6,h0,rfl,_,r,-⟩:=own_shape s;have t:=((Below.refl W1.heap.size W1).drew).trans m;have T:=x.out.below t x.out.lt;have y0:=T.cell 0;have y1:=T.cell 1;simp at y0 y1;have u:=Hf o k kd h2.out t.size;have L:Below o.heap.size o (o.alloc (.cells #[.int .u8 (kd:Int)] 5)):=(Below.refl _ _).alloc jn _;have g:=t.trans (L.mono t.size);obtain⟨v5,w5,E,i,p⟩:=Hg _ 84 u (c:=h0) (r.later L) (by rw[A];decide) g.size;obtain⟨j,l,rfl,-⟩:=own_shape i;have z:=jq i;have d:=jq (g.trans p);clear s m r u g i p T t L;rw[A]at E⊢;dsimp only)|(refine vD rfl (.tmp 6) (.tmp 11) 84 84 rfl _ _ rfl rfl E ?_)))
  all_goals go_wp2_with fail
  all_goals go_meet
  all_goals exact⟨_,_,rfl,z,d⟩
 case rest=>
  obtain⟨j,l,rfl,z,d⟩:=hcut;have U:=x.out.below d.out x.out.lt;have t1:=U.cell 1
  simp at t1
  have D: (marked (head k n)).length=9:=by rw[gG];rfl
  have I:Hid ((marked b).length=n+4):=jq (by rw[gG,y.out])
  have x8:Hid (∀V:World,Below wc.heap.size wc V->Calls prog 103 #[.slice j 5 l] V λe w'=>∃v,e=.returned v/\ak w' V.heap.size v (marked (head k n))/\Below V.heap.size V w'):=jq (λV R=>by
   obtain⟨a',c',e',_,y4,_,_⟩:=own_shape z.out;cases e';exact wK j l (head k n) V (y4.later R) (by show 5<=_;decide))
  have x9:Hid (∀V:World,Below W1.heap.size W1 V->Calls prog 103 #[.slice a n cp] V λe w'=>∃v,e=.returned v/\ak w' V.heap.size v (marked b)/\Below V.heap.size V w'):=jq (λV R=>by
   have:=wK a cp b V (HL.out.later R) (by omega);rw[<-y.out]at this;exact this)
  have h1:=jq U;clear U x0 x1 x5 x6 H y5
  go_wp2_with fail
  go_region_law ((first|(go_simp;go_at_call 103;refine(x9.out _ (d.out.trans (G.out.mono d.out.size))).mono ?_;rintro e w7 ⟨v7,rfl,h7,N⟩;obtain⟨y7,y8,rfl,_,h6,-⟩:=own_shape h7;have P:=own_later y2.out N;have B:=G.out.trans (N.mono G.out.size);obtain⟨v8,w8,x4,Q,x2⟩:=lQ w7 84 _ _ P y7 y8 (marked b) h6 (by rw[D,I.out];have:=y.out;omega) B.size;have h5:=B.grown x2 B.size (λq hq=>(P.lt q hq).1);obtain⟨y9,z0,rfl,-⟩:=own_shape Q;have y3:=jq Q;have x7:=jq h5;rw[D,I.out]at x4;rw[I.out];clear h7 N h6 P B Q x2 h5;dsimp only)|(go_simp;go_at_call 103;refine(x8.out _ (Below.refl wc.heap.size wc).drew).mono ?_;rintro e w6 ⟨v6,rfl,O,h3⟩;have M:=(Below.refl wc.heap.size wc).drew.trans h3;obtain⟨z1,z2,rfl,-⟩:=own_shape O;have h9:=h1.out.below M h1.out.lt;have k1:=h9.cell 1;simp at k1;have y2:=jq O;have G:=jq M;rw[D];clear O h3 M h9;dsimp only)|(refine vD rfl (.tmp 14) (.tmp 17) 84 84 rfl _ _ rfl rfl x4 ?_)))
  all_goals
   go_wp2_with fail
   go_ret
   have hB:=d.out.trans (x7.out.mono d.out.size);refine⟨.slice y9 (marked (head k n)++marked b).length z0,by rw[jL,D];rfl,?_,F.out.trans (hB.mono F.out.size)⟩;have:=bH y3.out (ax F.out.size d.out.size);unfold bq;rw[<-y.out];exact this
end kY
namespace Runs
open Go.RowKit Go.Deep Go.Shelf Mem Crc Merge aA bQ
open Store (nv)
open Go.Proofs.YtndkohocgfmamaaGreatDoor.Text (dec nu He)
attribute [local go_sem] Oper.semAt_some
theorem qb(pf:List UInt8)(p:pf.length<=16)(wd rm ne:Int)(ha:Option Addr)(g hc:Nat)(k:Nat)(r:k<=1000000)(w:World):
  Calls prog 26 #[.agg #[nv pf,.int .i64 wd,.int .i64 rm,.slice ha g hc,.int .i64 ne],.int .i64 (k:Int)] w λe w'=>e=.returned (nv (rname pf k))/\Below w.heap.size w w':=by
 have u:IntKind.u64.wrap (k:Int)=k:=IntWalk.u64_in _ (by omega);obtain⟨sp,b⟩:∃sp:ByteArray,nv pf=.string sp:=⟨_,rfl⟩;obtain⟨sd,a⟩:∃sd:ByteArray,nu (dec k)=.string sd:=⟨_,rfl⟩
 have n:=jq (show nv (rname pf k)=.string (sp++sd)from by
  unfold nv at b;unfold Text.nu at a;injection b with b;injection a with a;rw[<-b,<-a,Gw]
  rfl)
 have s:sp.size<=16:=by
  unfold nv at b;injection b with b;rw[<-b]
  simpa[ByteArray.size]using p
 have t:sd.size<=20:=by
  unfold Text.nu at a;injection a with a;rw[<-a];have:=Gv k
  simpa[ByteArray.size]using this
 have h:=λV=>He 20 k V (by omega) jn (by omega)
 rw[a]at h;have o:=jq h;rw[b];obtain⟨W1,d⟩:=jl (w.alloc (.cells #[.string sp,.int .i64 wd,.int .i64 rm,.slice ha g hc,.int .i64 ne] 35));obtain⟨xb,i⟩:=jl w.heap.size;have m:Below w.heap.size w W1:=by rw[d];exact(Below.refl _ w).alloc jn _
 have f:Blk W1 xb 35 #[.string sp,.int .i64 wd,.int .i64 rm,.slice ha g hc,.int .i64 ne]:=by rw[d,i];exact Blk.new w _ _
 have x0:=f.cell 0
 simp at x0
 have l:=jq f;have j:=jq m;clear b a h f m
 go_enter func26,ntmps26
 go_wp2_with fail
 rw[<-d,<-i];clear d i
 go_region_with ((go_at_call 61;refine(o.out _).mono ?_;rintro e w2 ⟨rfl,c⟩;have c:=(Below.refl W1.heap.size W1).drew.trans c;have q:=(l.out.below c l.out.lt).cell 0;simp at q))
 all_goals
  go_wp2_with fail
  go_ret
  exact⟨by rw[n.out];rfl,j.out.trans (c.mono j.out.size)⟩
theorem xF(a:Option Addr)(c:Nat)(l:List B)(w:World)(J:Lies w a (l.map strB))(T:l.flatten.length<=900000)(hn:l.length<=1000000):
  Calls prog 27 #[.slice a l.length c] w λe w'=>e=.returned (nv (Frame.bq 82 l.flatten))/\Below w.heap.size w w':=by
 obtain⟨n,C⟩:=jl l.length;rw[<-C]at hn⊢;have HL:=jq J;have G:=jq C;have j:=jq T;clear J C T
 go_enter func27,ntmps27
 go_wp2_with fail
 go_loopw[3,8] (λx i wr=>∃k:Nat,k<=n/\i=.int .i64 (k:Int)/\Hid (Grow w x ((l.take k).flatten) wr)) (λ_ i _=>n-(intOf i).toNat)
 case atStart=>exact⟨0,aC _,rfl,jq ⟨fT w 5 1,(Below.refl _ w).alloc jn _⟩⟩
 case round=>
  obtain⟨k,hk,rfl,d⟩:=hrel
  rename_i x _
  by_cases hlt:k<n
  ·have h5:decide ((k:Int) <(n:Int))=true:=jd (by omega);obtain⟨b,hb⟩:∃b,l[k]? =some b:=⟨l[k]'(by rw[<-G.out];exact hlt),jg _⟩;obtain⟨sb,f⟩:∃sb:ByteArray,strB b=.string sb:=⟨_,rfl⟩
   have X:sb.size=b.length:=by
    unfold strB at f;injection f with f;rw[<-f]
    simp[ByteArray.size]
   obtain⟨lg,lo,rfl,cl⟩:=iB (HL.out.later d.out.below) (k:=k) (u:=.string sb) (by simp[hb,f]);obtain⟨V,cap,g,L,o⟩:=Pf b sb f wr;obtain⟨cur,y⟩:=jl ((l.take k).flatten);have D: (l.take (k+1)).flatten=cur++b:=by rw[y,bF,hb,oO];simp
   have Y: (cur++b).length<=900000:=by
    have h1:=j.out;rw[<-iq (k+1) l,oO,jL,D]at h1
    omega
   rw[jL]at Y;rw[<-y]at d;have v:=own_later d.out.own o;have h:=d.out.below.trans (o.mono d.out.below.size);rw[X]at g;obtain⟨v3,w3,U,M,R⟩:=lQ V 84 _ _ v (some ⟨wr.heap.size,0,none⟩) cap b L (by omega) h.size;have p:Grow w v3 (cur++b) w3:=⟨M,h.grown R h.size (λq hq=>(v.lt q hq).1)⟩;rw[<-D]at p;have h2:=jq p;obtain⟨lb,S⟩:=jl b.length;rw[<-S]at g U;clear hb f X L y D Y v h M R p S d o
   go_wp2_with (first|(at_builtin;refine Lib.wpList_append_run _ rfl _ _ _ _ rfl _ _ rfl rfl _ _ U ?_))
   go_roundw
   case rel=>exact⟨k+1,by omega,by simp,h2⟩
   case measure=>simp[intOf];omega
  ·obtain rfl:k=n:=by omega
   have h5:decide ((k:Int) <(k:Int))=false:=jf (by omega);have P: (l.take k).flatten=l.flatten:=by rw[G.out,lC]
   rw[P]at d;obtain⟨a2,c2,rfl,_,r,_,_⟩:=own_shape d.out.own;obtain⟨fl,A⟩:=jl l.flatten;rw[<-A]at r j⊢;have m:=jq (kY.Sv 82 a2 c2 fl wr r (by have:=j.out;omega));have F:=jq d.out.below;have h4:bv (82:UInt8)=.int .u8 82:=rfl;rw[h4]at m;obtain⟨fn,Q⟩:=jl fl.length;rw[<-Q]at m⊢;have h0:=jq A;clear d r P A Q
   go_wp2_with fail
   with_reducible refine m.out.mono ?_
   rintro e w4 ⟨v4,rfl,N,I⟩;obtain⟨a4,c4,rfl,_,t,_,_⟩:=own_shape N;obtain⟨H,z⟩:=jl (Frame.bq 82 fl);rw[<-z]at t⊢;have g:=Full.tX (vc:=c4) t;obtain⟨sf,E⟩:∃s:ByteArray,nv H=.string s:=⟨_,rfl⟩;rw[E]at g;have h3:=jq (show nv (Frame.bq 82 l.flatten)=.string sf by rw[<-h0.out,<-z];exact E);obtain⟨h6,O⟩:=jl H.length;rw[<-O]at g⊢;have Z:=jq (F.out.trans (I.mono F.out.size));clear N I t E O z
   go_wp2_with fail
   go_ret
   exact⟨by rw[h3.out];rfl,Z.out⟩
end Runs
namespace Runs
open Go.RowKit Go.Deep Go.Shelf Mem Crc Merge bQ
open Store (nv)
def iP(w w':World)(t:TypeId)(sz:Nat)(a0 a:Option Addr)(n c:Nat)(Sw xs:List Value):Prop:=(a=a0/\xs=Sw)\/w'.ownsRow w.heap.size t sz (.slice a n c) n xs
def sV(A:Fi)(mh:Option Addr)(hl mc ne:Nat):Value:=.agg #[nv A.pf,.int .i64 A.wd,.int .i64 A.rm,.slice mh hl mc,.int .i64 ne]
attribute [local go_sem] Oper.semAt_some
theorem Hl(A:Fi)(a4:A.ok)(held:List B)(L:List FF)(mh an:Option Addr)(mc nc ne:Nat)(w:World)(h0:held≠[])(hw:∀b∈held,b.length=A.wd)(hr:held.length<=A.rm)(a3:ne<=100000)(hM:Lies w mh (held.map strB))(hN:Lies w an (aU L))(F:L.length<=100000):
  Calls prog 54 #[sV A mh held.length mc ne,.slice an L.length nc] w λe w'=>∃ma mc' aG aN,e=.returned (.tuple #[sV A ma 0 mc' (ne+1),.slice aG (eO L (rname A.pf ne) (aR held)).length aN])/\w'.ownsRow w.heap.size 9 1 (.slice ma 0 mc') 0 []/\w'.ownsRow w.heap.size 142 2 (.slice aG (eO L (rname A.pf ne) (aR held)).length aN) (eO L (rname A.pf ne) (aR held)).length (aU (eO L (rname A.pf ne) (aR held)))/\Below w.heap.size w w':=by
 obtain⟨k1,k2,k3,k4,k5,k6⟩:=id a4
 have hm: (sortB held).flatten.length<=900000:=by
  rw[nZ hw];have:=Nat.mul_le_mul (ax hr k6) k4
  omega
 have a5:0<held.length:=lD.2 h0;obtain⟨wd,h7⟩:∃z:Int,z=A.wd:=⟨_,rfl⟩;obtain⟨rm,Y⟩:∃z:Int,z=A.rm:=⟨_,rfl⟩;obtain⟨m,M⟩:∃s:ByteArray,nv A.pf=.string s:=⟨_,rfl⟩;obtain⟨nm,U⟩:∃s:ByteArray,nv (rname A.pf ne)=.string s:=⟨_,rfl⟩;obtain⟨rb,X⟩:∃s:ByteArray,nv (aR held)=.string s:=⟨_,rfl⟩;obtain⟨W1,u⟩:=jl (w.alloc (.cells #[.string m,.int .i64 wd,.int .i64 rm,.slice mh held.length mc,.int .i64 ne] 35));have R:Below w.heap.size w W1:=by rw[u];exact(Below.refl _ w).alloc jn _
 obtain⟨xb,C⟩:=jl w.heap.size;have I:Blk W1 xb 35 #[.string m,.int .i64 wd,.int .i64 rm,.slice mh held.length mc,.int .i64 ne]:=by rw[u,C];exact Blk.new w _ _
 obtain⟨W2,H⟩:=jl (W1.alloc (.cells #[.string ⟨#[]⟩,.int .i64 0,.int .i64 0,.slice none 0 0,.int .i64 0] 35));have d:Below W1.heap.size W1 W2:=by rw[H];exact(Below.refl _ W1).alloc jn _
 obtain⟨ny,J⟩:=jl W1.heap.size;have y5:Blk W2 ny 35 #[.string ⟨#[]⟩,.int .i64 0,.int .i64 0,.slice none 0 0,.int .i64 0]:=by rw[H,J];exact Blk.new W1 _ _
 have i:=I.below d I.lt;have Z:W1.heap.size=w.heap.size+1:=by rw[u];simp
 have x0:=i.cell 0;have x1:=i.cell 1;have x2:=i.cell 2;have N:=i.cell 3;have x4:=i.cell 4
 simp at x0 x1 x2 N x4
 obtain⟨j,y⟩:=jl held.length;obtain⟨ln,T⟩:=jl L.length;have E:Below w.heap.size w W2:=R.trans (d.mono R.size)
 have z9:Hid (∀V:World,Calls prog 26 #[.agg #[.string m,.int .i64 wd,.int .i64 rm,.slice mh j mc,.int .i64 ne],.int .i64 ne] V λe w'=>e=.returned (.string nm)/\Below V.heap.size V w'):=jq (λV=>by
  have:=qb A.pf k2 wd rm ne mh j mc ne (by omega) V;rw[M,U]at this;exact this)
 have a2:Hid (∀V:World,Below W2.heap.size W2 V->Calls prog 28 #[.slice mh j mc] V λe w'=>∃a c,e=.returned (.slice a j c)/\Lies w' a ((sortB held).map strB)/\Below V.heap.size V w'):=jq (λV o=>by
  rw[y];refine(wL V mh mc held ((hM.later E).later o) (by omega)).mono ?_;rintro e w' ⟨v,rfl,G,r⟩;obtain⟨a,c,rfl,_,F,_,_⟩:=own_shape G;exact⟨a,c,rfl,F,r⟩)
 have a1:Hid (∀(V:World) (a:Option Addr) (c:Nat),Lies V a ((sortB held).map strB)->Calls prog 27 #[.slice a j c] V λe w'=>e=.returned (.string rb)/\Below V.heap.size V w'):=jq (λV a c o=>by
  have:=xF a c (sortB held) V o hm (by rw[(dJ held).length_eq];omega);rw[(dJ held).length_eq,<-y,show Frame.bq 82 (sortB held).flatten=aR held from rfl,X]at this;exact this)
 have a0:Hid (∀V:World,Below W2.heap.size W2 V->Calls prog 31 #[.slice an ln nc,.string nm,.string rb] V λe w'=>∃a n c,e=.returned (.slice a n c)/\n=(eO L (rname A.pf ne) (aR held)).length/\w'.ownsRow V.heap.size 142 2 (.slice a n c) n (aU (eO L (rname A.pf ne) (aR held)))/\Below V.heap.size V w'):=jq (λV o=>by
  have:=iN an nc L (rname A.pf ne) (aR held) V ((hN.later E).later o) F;rw[U,X,<-T]at this;refine this.mono ?_;rintro e w' ⟨v,rfl,G,r⟩;obtain⟨a,c,rfl,_,_,_,_⟩:=own_shape G;exact⟨a,_,c,rfl,rfl,G,r⟩)
 have ht: ((j:Int)==0)=false:=by simp;omega
 have a6:RowKit.wrap64 ((ne:Int)+1)=(ne:Int)+1:=IntWalk.wrap64_in _ (by omega);have z7:sV A mh held.length mc ne=.agg #[.string m,.int .i64 wd,.int .i64 rm,.slice mh j mc,.int .i64 ne]:=by unfold sV;rw[M,y,h7,Y]
 rw[z7,<-T];rw[<-y]at N u I i;have P:=jq i;have O:=jq y5;have HB:=jq E;have x6:=jq (And.intro Z (And.intro C J));have Q:=jq (And.intro M (And.intro h7 Y));have r:Below W2.heap.size W2 W2.drew:=(Below.refl _ W2).drew
 have D:Hid (∀V:World,Below W2.heap.size W2 V->V.cell? ⟨xb,0,none⟩=some (.string m)/\V.cell? ⟨xb,1,none⟩=some (.int .i64 wd)/\V.cell? ⟨xb,2,none⟩=some (.int .i64 rm)/\V.cell? ⟨xb,3,none⟩=some (.slice mh j mc)/\V.cell? ⟨xb,4,none⟩=some (.int .i64 ne)):=jq (λV o=>by
  have h:=i.below o i.lt;exact⟨by rw[h.cell];rfl,by rw[h.cell];rfl,by rw[h.cell];rfl,by rw[h.cell];rfl,by rw[h.cell];rfl⟩)
 have z6:xb+1=ny:=by rw[C,J,Z]
 clear M h7 Y U X I i y5 R d E Z y T hM hN F hm a5 h0 hw hr z7
 go_enter func54,ntmps54
 go_wp2_with fail
 rw[<-u,<-H,<-C,z6];clear u H C J z6
 go_region_held3 (λw'=>w'.cell? ⟨xb,0,none⟩=some (.string m)/\w'.cell? ⟨xb,1,none⟩=some (.int .i64 wd)/\w'.cell? ⟨xb,2,none⟩=some (.int .i64 rm)/\w'.cell? ⟨xb,3,none⟩=some (.slice mh j mc)/\w'.cell? ⟨xb,4,none⟩=some (.int .i64 ne)) (first|exact⟨x0,x1,x2,N,x4⟩|exact y9|exact y8|exact y7|exact y6) ((first|(go_at_call 26;refine(z9.out _).mono ?_;rintro e w2 ⟨rfl,d⟩;have d:=r.trans d;have y6:=D.out _ d;dsimp only)|(go_at_call 28;refine(a2.out _ d).mono ?_;rintro e w3 ⟨sa,sc,rfl,x8,t⟩;have t:=d.trans (t.mono d.size);have y7:=D.out _ t;dsimp only)|(go_at_call 27;refine(a1.out _ _ _ x8).mono ?_;rintro e w4 ⟨rfl,k⟩;have k:=t.trans (k.mono t.size);have y8:=D.out _ k;dsimp only)|(go_at_call 31;refine(a0.out _ k).mono ?_;rintro e q ⟨pa,pn,pc,rfl,z5,x9,x7⟩;have x5:=jq z5;clear z5;have x:=k.trans (x7.mono k.size);have y9:=D.out _ x;dsimp only)))
 have l:=(P.out.below x P.out.lt).alloc (.cells #[] 9);have f:=(O.out.below x O.out.lt).alloc (.cells #[] 9);have y0:=l.cell 0;have y1:=l.cell 1;have y2:=l.cell 2;have y3:=l.cell 3;have y4:=l.cell 4
 simp at y0 y1 y2 y3 y4
 have f3:=l.frozen 3;have f4:=l.frozen 4;have r0:=f.cell 0;have r1:=f.cell 1;have r2:=f.cell 2;have r3:=f.cell 3;have r4:=f.cell 4
 simp at r0 r1 r2 r3 r4
 have z0:=f.frozen 0;have z1:=f.frozen 1;have z2:=f.frozen 2;have z3:=f.frozen 3;have z4:=f.frozen 4;have h9:=jq x9;have h8:=jq x;have z8:=jq k;have a3:ny≠xb:=by have:=x6.out;omega
 clear l f x9 x y6 y7 y8 y9 d t k x7 x8 x0 x1 x2 N x4 r
 go_wp2_with fail
 refine bodyPost_ret (v:=.tuple #[.agg #[.string m,.int .i64 wd,.int .i64 rm,.slice (some ⟨q.heap.size,0,none⟩) 0 0,.int .i64 ((ne:Int)+1)],.slice pa pn pc]) (by simp[results,Tryz.f54,go_sem,r0,r1,r2,r3,r4]) rfl ?_;have hu:=((((((((Upon.refl (λg=>g=xb\/g=ny) (q.alloc (.cells #[] 9))).set (p:=⟨xb,3,none⟩) (.inl (.inl rfl)) (.slice (some ⟨q.heap.size,0,none⟩) 0 0)).set (p:=⟨xb,4,none⟩) (.inl (.inl rfl)) (.int .i64 ((ne:Int)+1))).set (p:=⟨ny,0,none⟩) (.inl (.inr rfl)) (.string m)).set (p:=⟨ny,1,none⟩) (.inl (.inr rfl)) (.int .i64 wd)).set (p:=⟨ny,2,none⟩) (.inl (.inr rfl)) (.int .i64 rm)).set (p:=⟨ny,3,none⟩) (.inl (.inr rfl)) (.slice (some ⟨q.heap.size,0,none⟩) 0 0)).set (p:=⟨ny,4,none⟩) (.inl (.inr rfl)) (.int .i64 ((ne:Int)+1)));have h1:=x6.out;have h2:=O.out.lt;have h3:=z8.out.size;have h4:=h8.out.size;have h5:=HB.out.size;have h6:=P.out.lt;refine⟨some ⟨q.heap.size,0,none⟩,0,pa,pc,?_,fC (bH (fT q 9 1) (by omega)) hu (λg S e=>?_),?_,(((HB.out.trans (h8.out.mono h5)).alloc (by omega) _).trans (hu.below (by simp;omega) (λg e=>by rcases e with rfl|rfl <;> omega)))⟩
 ·unfold sV;rw[Q.out.1,Q.out.2.1,Q.out.2.2,x5.out]
  rfl
 ·have e2:q.heap.size=g:=by simpa[Value.ownBlock]using S
  rcases e with e|e <;> omega
 ·have:=fC (h9.out.alloc (.cells #[] 9)) hu (λg S e=>by
   have:=(h9.out.lt g S).1;rcases e with e|e <;> omega)
  rw[x5.out]at this;exact bH this (by omega)
structure iH(w W:World)(xb rb:Nat)(v0 v1 v2 v3 v4:Value):Prop where
 below:Below w.heap.size w W
 bx:Blk W xb 35 #[v0,v1,v2,v3,v4]
 br:∃u0 u1 u2 u3 u4,Blk W rb 35 #[u0,u1,u2,u3,u4]
 x:w.heap.size<=xb
 r:xb<rb
theorem Ba(w:World)(v0 v1 v2 v3 v4:Value):iH w ((w.alloc (.cells #[v0,v1,v2,v3,v4] 35)).alloc (.cells #[.string ⟨#[]⟩,.int .i64 0,.int .i64 0,.slice none 0 0,.int .i64 0] 35)) w.heap.size (w.heap.size+1) v0 v1 v2 v3 v4:=by
 have:=Blk.new (w.alloc (.cells #[v0,v1,v2,v3,v4] 35)) 35 #[.string ⟨#[]⟩,.int .i64 0,.int .i64 0,.slice none 0 0,.int .i64 0];rw[World.size_alloc]at this;exact⟨((Below.refl _ w).alloc jn _).alloc (by simp) _,(Blk.new w _ _).alloc _,⟨_,_,_,_,_,this⟩,aj _,by omega⟩
variable {w W W':World}{xb rb:Nat}{v0 v1 v2 v3 v4:Value}
theorem iH.later(h:iH w W xb rb v0 v1 v2 v3 v4)(a:Below W.heap.size W W'):iH w W' xb rb v0 v1 v2 v3 v4:=by
 obtain⟨c,u1,u2,d,e,b⟩:=h.br;exact⟨h.below.trans (a.mono h.below.size),h.bx.below a h.bx.lt,⟨c,u1,u2,d,e,b.below a b.lt⟩,h.x,h.r⟩
theorem iH.cells(h:iH w W xb rb v0 v1 v2 v3 v4): (W.cell? ⟨xb,0,none⟩=some v0/\W.cell? ⟨xb,1,none⟩=some v1/\W.cell? ⟨xb,2,none⟩=some v2/\W.cell? ⟨xb,3,none⟩=some v3/\W.cell? ⟨xb,4,none⟩=some v4):=by
 have h:=h.bx;exact⟨by rw[h.cell];rfl,by rw[h.cell];rfl,by rw[h.cell];rfl,by rw[h.cell];rfl,by rw[h.cell];rfl⟩
theorem iH.res(h:iH w W xb rb v0 v1 v2 v3 v4):∃b u1 u2 c d,(W.cell? ⟨rb,0,none⟩=some b/\W.cell? ⟨rb,1,none⟩=some u1/\W.cell? ⟨rb,2,none⟩=some u2/\W.cell? ⟨rb,3,none⟩=some c/\W.cell? ⟨rb,4,none⟩=some d)/\(W.frozen? ⟨rb,0,none⟩=false/\W.frozen? ⟨rb,1,none⟩=false/\W.frozen? ⟨rb,2,none⟩=false/\W.frozen? ⟨rb,3,none⟩=false/\W.frozen? ⟨rb,4,none⟩=false)/\(W.frozen? ⟨xb,0,none⟩=false/\W.frozen? ⟨xb,1,none⟩=false/\W.frozen? ⟨xb,2,none⟩=false/\W.frozen? ⟨xb,3,none⟩=false/\W.frozen? ⟨xb,4,none⟩=false):=by
 obtain⟨b,u1,u2,c,d,a⟩:=h.br;exact⟨b,u1,u2,c,d,⟨by rw[a.cell];rfl,by rw[a.cell];rfl,by rw[a.cell];rfl,by rw[a.cell];rfl,by rw[a.cell];rfl⟩,⟨a.frozen 0,a.frozen 1,a.frozen 2,a.frozen 3,a.frozen 4⟩,h.bx.frozen 0,h.bx.frozen 1,h.bx.frozen 2,h.bx.frozen 3,h.bx.frozen 4⟩
theorem iH.done(h:iH w W xb rb v0 v1 v2 v3 v4)(a:Upon (λg=>g=xb\/g=rb) W W'):Below w.heap.size w W':=h.below.trans (a.below h.below.size (λg e=>by
 have:=h.x;have:=h.r;rcases e with rfl|rfl <;> omega))
theorem iH.row(h:iH w W xb rb v0 v1 v2 v3 v4)(i:Upon (λg=>g=xb\/g=rb) W W'){base:Nat}{e:TypeId}{size n:Nat}{v:Value}{xs:List Value}(a:W.ownsRow base e size v n xs)(b:e≠35):W'.ownsRow base e size v n xs:=by
 obtain⟨j,u1,u2,k,l,f⟩:=h.br
 exact fC a i (λg c d=>by
  rcases d with rfl|rfl
  ·exact aV a h.bx b c
  ·exact aV a f b c)
theorem iH.sets(h:iH w W xb rb v0 v1 v2 v3 v4)(b c d e a4:Value):iH w (((((W.setCell ⟨xb,0,none⟩ b).setCell ⟨xb,1,none⟩ c).setCell ⟨xb,2,none⟩ d).setCell ⟨xb,3,none⟩ e).setCell ⟨xb,4,none⟩ a4) xb rb b c d e a4:=by
 obtain⟨i,u1,u2,j,k,g⟩:=h.br;have a:=h.x;have f:rb≠xb:=by have:=h.r;omega
 exact⟨((((h.below.setCell a b).setCell a c).setCell a d).setCell a e).setCell a a4,by simpa using((((h.bx.set 0 b).set 1 c).set 2 d).set 3 e).set 4 a4,⟨i,u1,u2,j,k,((((g.far (p:=⟨xb,0,none⟩) f b).far (p:=⟨xb,1,none⟩) f c).far (p:=⟨xb,2,none⟩) f d).far (p:=⟨xb,3,none⟩) f e).far (p:=⟨xb,4,none⟩) f a4⟩,a,h.r⟩
theorem Bb{b:B}{s:ByteArray}(h:strB b=.string s):s.size=b.length:=by
 unfold strB at h;injection h with h;rw[<-h]
 simp[ByteArray.size]
theorem Ho(A:Fi)(mh an:Option Addr)(mc a nc ne:Nat)(w:World):
  Calls prog 54 #[sV A mh 0 mc ne,.slice an a nc] w λe w'=>e=.returned (.tuple #[sV A mh 0 mc ne,.slice an a nc])/\Below w.heap.size w w':=by
 obtain⟨wd,f⟩:∃z:Int,z=A.wd:=⟨_,rfl⟩;obtain⟨rm,c⟩:∃z:Int,z=A.rm:=⟨_,rfl⟩;obtain⟨g,d⟩:∃s:ByteArray,nv A.pf=.string s:=⟨_,rfl⟩;have b:=Ba w (.string g) (.int .i64 wd) (.int .i64 rm) (.slice mh 0 mc) (.int .i64 ne);obtain⟨p,u1,u2,q,r,⟨r0,l,m,n,o⟩,⟨t,u,x,y,B⟩,⟨h,i,j,g3,k⟩⟩:=b.res;unfold sV;rw[d,<-f,<-c];clear d f c b
 go_enter func54,ntmps54
 go_wp2_with fail
 exact bodyPost_ret (v:=.tuple #[.agg #[.string g,.int .i64 wd,.int .i64 rm,.slice mh 0 mc,.int .i64 ne],.slice an a nc]) (by simp[results,Tryz.f54,go_sem]) rfl ⟨rfl,((Below.refl _ w).alloc jn _).alloc (by simp) _⟩
def dm(L:List FF)(pf:List UInt8):Nat->List FF
 |0=>L
 |k+1=>eH (dm L pf k) (rname pf k)
theorem qh(L:List FF)(pf:List UInt8):∀k,(dm L pf k).length<=L.length
 |0=>aj _
 |k+1=>ax (rX _ _) (qh L pf k)
structure bR(b:Nat)(w':World)(an a:Option Addr)(L l:List FF):Prop where
 lies:Lies w' a (aU l)
 new: (a=an/\l=L)\/∀g,Mem.blk a=some g->b<=g/\g<w'.heap.size
theorem bR.later{b:Nat}{w w':World}{an a:Option Addr}{L l:List FF}(h:bR b w an a L l)(d:Below w.heap.size w w'):bR b w' an a L l:=⟨h.lies.later d,h.new.imp id (λc g e=>⟨(c g e).1,aD (c g e).2 d.size⟩)⟩
theorem bR.upon{b xb rb:Nat}{w0 w w':World}{an a:Option Addr}{L l:List FF}(h:bR b w an a L l)(j:Lies w0 an (aU L))(n:w0.heap.size<=xb/\xb<b)(m:w0.heap.size<=rb/\rb<b)(f:Upon (λg=>g=xb\/g=rb) w w'):bR b w' an a L l:=by
 refine⟨?_,h.new.imp id (λd g c=>⟨(d g c).1,aD (d g c).2 f.size⟩)⟩;rcases h.new with⟨rfl,rfl⟩|d
 ·by_cases i:aU l= []
  ·exact .inl i
  ·refine h.lies.upon f (λg c e=>?_);obtain⟨q,o,rfl,hq,_⟩:=j.resolve_left i;have k:q=g:=by simpa[Mem.blk]using c
   rcases e with e|e <;> omega
 ·exact h.lies.upon f (λg c e=>by have:=d g c;rcases e with e|e <;> omega)
theorem bR.mono{b c:Nat}{w':World}{an a:Option Addr}{L l:List FF}(h:bR b w' an a L l)(hc:c<=b):bR c w' an a L l:=⟨h.lies,h.new.imp id (λd g e=>⟨by have:=(d g e).1;omega,(d g e).2⟩)⟩
theorem Bc(A:Fi)(S:A.ok)(L:List FF)(mh an:Option Addr)(d mc nc ne:Nat)(w:World)(y8:ne<=100000)(r:Lies w an (aU L))(J:L.length<=100000):
  Calls prog 24 #[sV A mh d mc ne,.slice an L.length nc] w λe w'=>∃Y aG aN,e=.returned (.tuple #[sV A Y 0 0 0,.slice aG (dm L A.pf ne).length aN])/\eP w' w.heap.size (.slice Y 0 0) []/\bR w.heap.size w' an aG L (dm L A.pf ne)/\Below w.heap.size w w':=by
 obtain⟨k1,X,k3,k4,k5,k6⟩:=id S;obtain⟨wd,U⟩:∃z:Int,z=A.wd:=⟨_,rfl⟩;obtain⟨rm,T⟩:∃z:Int,z=A.rm:=⟨_,rfl⟩;obtain⟨b,C⟩:∃s:ByteArray,nv A.pf=.string s:=⟨_,rfl⟩;have h:=Ba w (.string b) (.int .i64 wd) (.int .i64 rm) (.slice mh d mc) (.int .i64 ne);obtain⟨xb,F⟩:=jl w.heap.size;obtain⟨rb,m⟩:=jl (w.heap.size+1);obtain⟨W2,t⟩:=jl ((w.alloc (.cells #[.string b,.int .i64 wd,.int .i64 rm,.slice mh d mc,.int .i64 ne] 35)).alloc (.cells #[.string ⟨#[]⟩,.int .i64 0,.int .i64 0,.slice none 0 0,.int .i64 0] 35));rw[<-t,<-m,<-F]at h;have D:∀(a:Option Addr) (k c j:Nat),sV A a k c j=.agg #[.string b,.int .i64 wd,.int .i64 rm,.slice a k c,.int .i64 j]:=λa k c j=>by unfold sV;rw[C,U,T]
 have h7:Hid (∀(k:Nat) (V:World),k<=1000000->Calls prog 26 #[.agg #[.string b,.int .i64 wd,.int .i64 rm,.slice mh d mc,.int .i64 ne],.int .i64 k] V λe w'=>e=.returned (nv (rname A.pf k))/\Below V.heap.size V w'):=jq (λk V Q=>by
  have:=qb A.pf X wd rm ne mh d mc k Q V;rw[C]at this;exact this)
 rw[D];have h9:=jq D;have HS:=jq h;have HN:=jq (r.later h.below);have h5:=jq r;have HL:=jq J;obtain⟨ln,x⟩:=jl L.length;have h3:=jq x;rw[<-x];clear C U T h D r J x S k1 X k3 k4 k5 k6
 go_enter func24,ntmps24
 go_wp2_with fail
 rw[<-t,<-F,show xb+1=rb by omega];have y9:rb≠xb:=by omega
 have x6:=jq (show w.heap.size<=xb/\xb<rb by omega);clear t F m
 go_loopw[1,6] (λv i wr=>∃(k:Nat) (a:Option Addr) (n c:Nat),k<=ne/\i=.int .i64 (k:Int)/\v=.slice a n c/\Hid (n=(dm L A.pf k).length)/\Hid (bR (rb+1) wr an a L (dm L A.pf k))/\Hid (iH w wr xb rb (.string b) (.int .i64 wd) (.int .i64 rm) (.slice mh d mc) (.int .i64 ne))) (λ_ i _=>ne-(intOf i).toNat)
 case atStart=>exact⟨0,an,ln,nc,aC _,rfl,rfl,jq h3.out,jq ⟨HN.out,.inl ⟨rfl,rfl⟩⟩,HS⟩
 case round=>
  obtain⟨k,a,n,c,Q,rfl,rfl,G,H,f⟩:=hrel;obtain⟨x0,x1,x2,x3,x4⟩:=f.out.cells
  by_cases hlt:k<ne
  ·have y5:decide ((k:Int) <(ne:Int))=true:=jd (by omega);obtain⟨sn,B⟩:∃s:ByteArray,nv (rname A.pf k)=.string s:=⟨_,rfl⟩;have y:=h7.out k wr (by omega);rw[B]at y;have h6:=jq y
   have HW:Hid (∀V:World,Below wr.heap.size wr V->Calls prog 59 #[.slice a n c,.string sn] V λe w'=>∃a' n' c',e=.returned (.slice a' n' c')/\n'=(dm L A.pf (k+1)).length/\bR (rb+1) w' an a' L (dm L A.pf (k+1))/\Below V.heap.size V w'):=jq (λV O=>by
    have:=O7 a c (dm L A.pf k) (rname A.pf k) V (H.out.lies.later O) (by have:=qh L A.pf k;have:=HL.out;omega);rw[B,<-G.out]at this;refine this.mono ?_;rintro e w' ⟨v,rfl,M,hB⟩;obtain⟨a',c',rfl,_,x7,x8,x9⟩:=own_shape M;obtain⟨_,_,_,_,_,m⟩:=f.out.br;have h1:=m.lt;have h2:=O.size;exact⟨a',_,c',rfl,rfl,⟨x7,.inr (λg P=>⟨by have:=x8 g P;omega,(M.lt g (x9.trans P)).2⟩)⟩,hB⟩)
   clear y B
   go_wp2_with fail
   refine h6.out.mono ?_;rintro e w3 ⟨rfl,q⟩;have x5:=jq (HW.out w3 q);have h0:=jq q;clear q
   go_wp2_with fail
   refine x5.out.mono ?_;rintro e w4 ⟨a',n',c',rfl,R,N,I⟩;have h8:=jq N;have h4:=jq R;have Z:=jq ((f.out.later h0.out).later I);clear R N I
   go_wp2_with fail
   go_roundw
   case rel=>exact⟨k+1,a',n',c',by omega,by simp,rfl,h4,h8,Z⟩
   case measure=>simp[intOf];omega
  ·obtain rfl:k=ne:=by omega
   have y5:decide ((k:Int) <(k:Int))=false:=jf (by omega);have l:=f.out.later ((Below.refl wr.heap.size wr).alloc jn (.cells #[] 9));obtain⟨y0,y1,y2,y3,y4⟩:=l.cells;obtain⟨u0,u1,u2,u3,u4,⟨r0,r1,r2,r3,r4⟩,⟨z0,z1,z2,z3,z4⟩,⟨g0,g1,g2,g3,g4⟩⟩:=l.res;have o:=jq l;clear l
   go_wp2_with fail
   refine bodyPost_ret (v:=.tuple #[.agg #[.string b,.int .i64 wd,.int .i64 rm,.slice (some ⟨wr.heap.size,0,none⟩) 0 0,.int .i64 0],.slice a n c]) (by simp[results,Tryz.f24,go_sem,r0,r1,r2,r3,r4]) rfl ?_;have E:=((((((((Upon.refl (λg=>g=xb\/g=rb) (wr.alloc (.cells #[] 9))).set (p:=⟨xb,3,none⟩) (.inl (.inl rfl)) (.slice (some ⟨wr.heap.size,0,none⟩) 0 0)).set (p:=⟨xb,4,none⟩) (.inl (.inl rfl)) (.int .i64 0)).set (p:=⟨rb,0,none⟩) (.inl (.inr rfl)) (.string b)).set (p:=⟨rb,1,none⟩) (.inl (.inr rfl)) (.int .i64 wd)).set (p:=⟨rb,2,none⟩) (.inl (.inr rfl)) (.int .i64 rm)).set (p:=⟨rb,3,none⟩) (.inl (.inr rfl)) (.slice (some ⟨wr.heap.size,0,none⟩) 0 0)).set (p:=⟨rb,4,none⟩) (.inl (.inr rfl)) (.int .i64 0));have y7:=x6.out;obtain⟨_,_,_,_,_,u⟩:=o.out.br;have u:=u.lt;rw[World.size_alloc]at u;have y6:=(H.out.later ((Below.refl wr.heap.size wr).alloc jn (.cells #[] 9))).upon h5.out ⟨y7.1,by omega⟩ ⟨by omega,by omega⟩ E;refine⟨some ⟨wr.heap.size,0,none⟩,a,c,?_,bH (o.out.row E (fT wr 9 1) (by decide)) f.out.below.size,y6.mono (by omega),o.out.done E⟩;rw[h9.out,G.out]
   rfl
open Full
open Store (Files)
def kC(pl:Nat)(wd rm:Int):Prop:=1<=pl/\pl<=16/\1<=wd/\wd<=64/\1<=rm/\rm<=4096
theorem Hq{pl:Nat}{wd rm:Int}(h:¬kC pl wd rm): (pl=0)\/(0<pl/\16<pl)\/(0<pl/\pl<=16/\wd<1)\/(0<pl/\pl<=16/\1<=wd/\64<wd)\/(0<pl/\pl<=16/\1<=wd/\wd<=64/\rm<1)\/(0<pl/\pl<=16/\1<=wd/\wd<=64/\1<=rm/\4096<rm):=by
 unfold kC at h
 omega
theorem Hr(a:Option Addr)(n c:Nat)(i:ByteArray)(wd rm:Int)(w:World)(h:¬kC i.size wd rm):
  Calls prog 18 #[.slice a n c,.string i,.int .i64 wd,.int .i64 rm] w λe w'=>e=.returned (.tuple #[.agg #[.string ⟨#[]⟩,.int .i64 0,.int .i64 0,.slice none 0 0,.int .i64 0],.int .i64 1])/\Below w.heap.size w w':=by
 obtain⟨pl,g⟩:=jl i.size;have hb:=Blk.new w 35 #[.string ⟨#[]⟩,.int .i64 0,.int .i64 0,.slice none 0 0,.int .i64 0];rw[<-g]at h;have r0:=hb.cell 0;have l:=hb.cell 1;have m:=hb.cell 2;have o:=hb.cell 3;have p:=hb.cell 4
 simp at r0 l m o p
 rcases Hq h with b|⟨b,d⟩|⟨b,d,f⟩|⟨b,d,f,j⟩|⟨b,d,f,j,k⟩|⟨b,d,f,j,k,q⟩
 all_goals
  rw[g]at b
  try rw[g]at d
  clear h hb
  go_enter func18,ntmps18
  go_wp2_with fail
  exact bodyPost_ret (v:=.tuple #[.agg #[.string ⟨#[]⟩,.int .i64 0,.int .i64 0,.slice none 0 0,.int .i64 0],.int .i64 1]) (by simp[results,Tryz.f18,go_sem]) rfl ⟨rfl,(Below.refl _ w).alloc jn _⟩
theorem Ht(sv:Value)(c:ByteArray)(wd rm:Int)(w:World)(h:¬kC c.size wd rm):
  Calls prog 17 #[sv,.string c,.int .i64 wd,.int .i64 rm] w λe w'=>e=.returned (.tuple #[.pointer none,.int .i64 1])/\w'=w:=by
 obtain⟨pl,f⟩:=jl c.size;rw[<-f]at h;rcases Hq h with a|⟨a,b⟩|⟨a,b,d⟩|⟨a,b,d,g⟩|⟨a,b,d,g,i⟩|⟨a,b,d,g,i,k⟩
 all_goals
  rw[f]at a
  try rw[f]at b
  clear h
  first|(have j: ((c.size:Int)==0)=false:=by rw[beq_eq_false_iff_ne];omega)|(have j: ((c.size:Int)==0)=true:=by rw[beq_iff_eq];omega)
  go_enter func17,ntmps17
  go_wp2_with fail
  exact bodyPost_ret (v:=.tuple #[.pointer none,.int .i64 1]) (by simp[results,results17,go_sem]) rfl ⟨rfl,rfl⟩
theorem Hu(A:Fi)(h0:A.ok)(L:List FF)(F:Files)(an:Option Addr)(nc ne:Nat)(w:World)(h1:aQ L F)(hr:∀j,j<ne->F (rname A.pf j)≠none)(hl:F (rname A.pf ne)=none)(x2:ne<=L.length)(X:Lies w an (aU L))(hL:L.length<=100000):
  Calls prog 18 #[.slice an L.length nc,nv A.pf,.int .i64 A.wd,.int .i64 A.rm] w λe w'=>e=.returned (.tuple #[sV A none 0 0 ne,.int .i64 0])/\Below w.heap.size w w':=by
 obtain⟨k1,k2,k3,k4,k5,k6⟩:=id h0;obtain⟨wd,N⟩:∃z:Int,z=A.wd:=⟨_,rfl⟩;obtain⟨rm,M⟩:∃z:Int,z=A.rm:=⟨_,rfl⟩;obtain⟨d,m⟩:∃s:ByteArray,nv A.pf=.string s:=⟨_,rfl⟩;have x3:d.size=A.pf.length:=Bb m;obtain⟨ln,I⟩:=jl L.length;have h2:sV A none 0 0 ne=.agg #[.string d,.int .i64 wd,.int .i64 rm,.slice none 0 0,.int .i64 ne]:=by unfold sV;rw[m,N,M]
 obtain⟨W1,t⟩:=jl (w.alloc (.cells #[.string ⟨#[]⟩,.int .i64 0,.int .i64 0,.slice none 0 0,.int .i64 0] 35));obtain⟨W2,G⟩:=jl (W1.alloc (.cells #[.string d,.int .i64 wd,.int .i64 rm,.slice none 0 0,.int .i64 0] 35));have D:Below w.heap.size w W1:=by rw[t];exact(Below.refl _ w).alloc jn _
 have h4:W1.heap.size=w.heap.size+1:=by rw[t];simp
 have E:Below W1.heap.size W1 W2:=by rw[G];exact(Below.refl _ W1).alloc jn _
 obtain⟨rb,J⟩:=jl w.heap.size;obtain⟨xb,h3⟩:=jl (rb+1)
 have Y:Blk W2 rb 35 #[.string ⟨#[]⟩,.int .i64 0,.int .i64 0,.slice none 0 0,.int .i64 0]:=by
  have h:=Blk.new w 35 #[.string ⟨#[]⟩,.int .i64 0,.int .i64 0,.slice none 0 0,.int .i64 0];rw[<-t,<-J]at h;exact h.below E h.lt
 have Z:Blk W2 xb 35 #[.string d,.int .i64 wd,.int .i64 rm,.slice none 0 0,.int .i64 ((0:Nat):Int)]:=by
  have h:=Blk.new W1 35 #[.string d,.int .i64 wd,.int .i64 rm,.slice none 0 0,.int .i64 0];rw[<-G,h4,<-J,<-h3]at h;exact h
 have h8:Hid (∀(j k:Nat) (V:World),k<=1000000->Calls prog 26 #[.agg #[.string d,.int .i64 wd,.int .i64 rm,.slice none 0 0,.int .i64 j],.int .i64 k] V λe w'=>e=.returned (nv (rname A.pf k))/\Below V.heap.size V w'):=jq (λj k V hk=>by
  have:=qb A.pf k2 wd rm j none 0 0 k hk V;rw[m]at this;exact this)
 have h6:=jq Y;have h7:=jq Z;have HB:=jq (D.trans (E.mono D.size));have HN:=jq X;have q:=jq I;have x0:=jq h1;have HR:=jq hr;have HL:=jq hl;have x4:=jq (show w.heap.size<=rb/\rb<xb by omega);have x5:ln<=100000:=by omega
 have x7:ne<=ln:=by omega
 have t1:0<d.size:=by omega
 have t2:d.size<=16:=by omega
 have t3:1<=wd:=by omega
 have t4:wd<=64:=by omega
 have t5:1<=rm:=by omega
 have t6:rm<=4096:=by omega
 rw[h2,m,<-N,<-M,<-I];have x8:rb≠xb:=by omega
 rw[show xb=w.heap.size+1 by omega,show rb=w.heap.size by omega]at *;clear m N M h2 x3 I Y Z D E h4 X h1 hr hl x2 hL h0 k1 k2 k3 k4 k5 k6 J h3
 go_enter func18,ntmps18
 go_wp2_with fail
 rw[<-t,<-G]
 go_loopw[11] (λi wr=>∃k:Nat,k<=ne/\i=.int .i64 (k:Int)/\Hid (Blk wr (w.heap.size+1) 35 #[.string d,.int .i64 wd,.int .i64 rm,.slice none 0 0,.int .i64 (k:Int)])/\Hid (Blk wr w.heap.size 35 #[.string ⟨#[]⟩,.int .i64 0,.int .i64 0,.slice none 0 0,.int .i64 0])/\Hid (Below w.heap.size w wr)) (λi _=>ne+1-(intOf i).toNat)
 case atStart=>exact⟨0,aC _,rfl,h7,h6,HB⟩
 case round=>
  obtain⟨k,hk,rfl,f,r,n⟩:=hrel;have x6:decide ((k:Int)<=(ln:Int))=true:=jd (by omega);have O:=f.out.cell 0;have P:=f.out.cell 1;have Q:=f.out.cell 2;have R:=f.out.cell 3;have S:=f.out.cell 4
  simp at O P Q R S
  obtain⟨sn,x⟩:∃s:ByteArray,nv (rname A.pf k)=.string s:=⟨_,rfl⟩;have u:=h8.out k k wr (by omega);rw[x]at u;obtain⟨f1,_⟩:=x0.out.find (rname A.pf k);obtain⟨ix,H⟩:∃i:Int,i=(if fE L (rname A.pf k) <L.length then(fE L (rname A.pf k):Int)else 0):=⟨_,rfl⟩
  have o:∀b:Bool,decide (fE L (rname A.pf k) <L.length)=b->Hid (∀V:World,Below w.heap.size w V->Calls prog 51 #[.slice an ln nc,.string sn] V λe w'=>e=.returned (.tuple #[.int .i64 ix,.bool b])/\w'=V):=λb hb=>jq (λV hV=>by
   have:=nM an nc L (rname A.pf k) V (HN.out.later hV) (by have:=q.out;omega);rw[x,<-q.out,q.out,hb,<-H,<-q.out]at this;exact this)
  have U:=jq u
  by_cases hlt:k<ne
  ·have y:=o true (jd (f1.2 (HR.out k hlt)));have x9:RowKit.wrap64 ((k:Int)+1)=(k:Int)+1:=IntWalk.wrap64_in _ (by omega);clear u f1 H o x
   go_wp2_with fail
   refine U.out.mono ?_;rintro e T ⟨rfl,g⟩;have l:=jq (n.out.trans (g.mono n.out.size));have B:=jq (y.out T l.out);have c:=f.out.below g f.out.lt;have C:=c.cell 4;have z4:=c.frozen 4
   simp at C
   have x1:=jq (c.set 4 (.int .i64 ((k:Int)+1)));have h9:=jq ((r.out.below g r.out.lt).far (p:=⟨w.heap.size+1,4,none⟩) (by simp) (.int .i64 ((k:Int)+1)));have h5:=jq (l.out.setCell (p:=⟨w.heap.size+1,4,none⟩) (by simp) (.int .i64 ((k:Int)+1)));clear g c O P Q R S
   go_wp2_with fail
   refine B.out.mono ?_;rintro e w4 ⟨rfl,rfl⟩
   go_wp2_with fail
   go_roundw
   case rel=>exact⟨k+1,by omega,by simp,jq (by simpa using x1.out),h9,h5⟩
   case measure=>simp[intOf];omega
  ·obtain rfl:k=ne:=by omega
   have y:=o false (jf (λh=>f1.1 h HL.out));clear u f1 H o x
   go_wp2_with fail
   refine U.out.mono ?_;rintro e T ⟨rfl,g⟩;have l:=jq (n.out.trans (g.mono n.out.size));have B:=jq (y.out T l.out);have c:=f.out.below g f.out.lt;have a:=r.out.below g r.out.lt;have g0:=c.cell 0;have g1:=c.cell 1;have g2:=c.cell 2;have g3:=c.cell 3;have C:=c.cell 4;have r0:=a.cell 0;have r1:=a.cell 1;have r2:=a.cell 2;have r3:=a.cell 3;have r4:=a.cell 4
   simp at g0 g1 g2 g3 C r0 r1 r2 r3 r4
   have z0:=a.frozen 0;have z1:=a.frozen 1;have z2:=a.frozen 2;have z3:=a.frozen 3;have z4:=a.frozen 4;clear g c a O P Q R S
   go_wp2_with fail
   refine B.out.mono ?_;rintro e w4 ⟨rfl,rfl⟩
   go_wp2_with fail
   refine bodyPost_ret (v:=.tuple #[.agg #[.string d,.int .i64 wd,.int .i64 rm,.slice none 0 0,.int .i64 k],.int .i64 0]) (by simp[results,Tryz.f18,go_sem,r0,r1,r2,r3,r4]) rfl ⟨rfl,?_⟩;exact((((l.out.setCell (p:=⟨w.heap.size,0,none⟩) (by simp) _).setCell (p:=⟨w.heap.size,1,none⟩) (by simp) _).setCell (p:=⟨w.heap.size,2,none⟩) (by simp) _).setCell (p:=⟨w.heap.size,3,none⟩) (by simp) _).setCell (p:=⟨w.heap.size,4,none⟩) (by simp) _
end Runs
end Go.Proofs.YtndkohocgfmamaaGreatDoor
