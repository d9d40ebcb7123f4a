/- Part. -/
import Derived.Test.YtndkohocgfmamaaGreatDoorF10
set_option maxHeartbeats 1000000
set_option maxRecDepth 100000
namespace Go.Proofs.YtndkohocgfmamaaGreatDoor
open Go.Proofs.Tryz
namespace aA
open Go.RowKit Go.Deep Mem Crc Varint
structure af where
 name:List UInt8
 id:Nat
 size:Nat
 blocks:List Nat
def iv(i:Nat):Value:=.int .i64 (i:Int)
structure FR where
 f:af
 a:Option Addr
 c:Nat
def FR.vs(x:FR):List Value:=[sv x.f.name,.int .u32 (x.f.id:Int),iv x.f.size,.slice x.a x.f.blocks.length x.c]
def ay(l:List FR):List Value:=l.flatMap FR.vs
theorem jr(l:List FR): (ay l).length=l.length*4:=by
 induction l with
 |nil=>rfl
 |cons x r b=>unfold ay at b⊢;rw[jC,jL,b,List.length_cons];show 4+_=_;omega
theorem su:∀{l:List FR} {k:Nat} {x:FR},l[k]? =some x->∀{j:Nat} {u:Value},x.vs[j]? =some u->(ay l)[k*4+j]? =some u
 | [],k,x,hx,_,_,_=>by simp at hx
 |y ::r,0,x,hx,j,u,hu=>by
  simp at hx
  subst hx;unfold ay;rw[jC,iK (by have:=(jS.1 hu).1;omega)]
  simpa using hu
 |y ::r,k+1,x,hx,j,u,hu=>by
  have:=su (l:=r) (k:=k) (x:=x) (by simpa using hx) hu;have e:y.vs.length=4:=rfl;unfold ay at this⊢;rw[jC,iL (by rw[e];omega),<-this]
  congr 1
  rw[e]
  omega
variable {w W w':World}{a:Option Addr}{k:Nat}{α β:Type}{v:Value}{bs:List UInt8}
theorem iB{xs:List Value}(h:Lies w a xs){u:Value}(b:xs[k]? =some u):∃g o,a=some ⟨g,o,none⟩/\w.cell? ⟨g,o+k,none⟩=some u:=by
 obtain⟨g,o,rfl,_,hc⟩:=h.resolve_left (λe=>by rw[e]at b;simp at b);exact⟨g,o,rfl,hc k u b⟩
structure bV(w:World)(a:Option Addr)(l:List FR):Prop where
 row:Lies w a (ay l)
 blocks:∀x∈l,Lies w x.a (x.f.blocks.map iv)/\x.f.blocks.length<=x.c
theorem bV.later{w w':World}{a:Option Addr}{l:List FR}(h:bV w a l)(b:Below w.heap.size w w'):bV w' a l:=⟨h.row.later b,λx c=>⟨(h.blocks x c).1.later b,(h.blocks x c).2⟩⟩
theorem bV.cells{l:List FR}(h:bV w a l){x:FR}(b:l[k]? =some x):∃g o,a=some ⟨g,o,none⟩/\w.cell? ⟨g,o+k*4,none⟩=some (sv x.f.name)/\w.cell? ⟨g,o+k*4+1,none⟩=some (.int .u32 (x.f.id:Int))/\w.cell? ⟨g,o+k*4+2,none⟩=some (iv x.f.size)/\w.cell? ⟨g,o+k*4+3,none⟩=some (.slice x.a x.f.blocks.length x.c):=by
 have d:ay l≠[]:=λe=>by
  have:=jr l;have i:=(jS.1 b).1;rw[e]at this
  simp at this
  omega
 obtain⟨g,o,rfl,_,hc⟩:=h.row.resolve_left d;refine⟨g,o,rfl,?_,?_,?_,?_⟩
 ·exact hc _ _ (su b (j:=0) rfl)
 ·exact hc _ _ (su b (j:=1) rfl)
 ·exact hc _ _ (su b (j:=2) rfl)
 ·exact hc _ _ (su b (j:=3) rfl)
def eG(l:List Nat):List UInt8:=l.flatMap aT
def bW(f:af):List UInt8:=aT f.name.length++(f.name++(aT f.id++(aT f.size++eG f.blocks)))
def bN(ver next:Nat)(l:List af):List UInt8:=aT ver++(aT next++(aT l.length++l.flatMap bW))
structure af.fits(f:af):Prop where
 id:f.id<4294967296
 size:f.size<4294967296
 blocks:∀i∈f.blocks,i<4294967296
theorem yC(f:α->List β){l:List α}{x:α}(b:l[k]? =some x): (l.take (k+1)).flatMap f=(l.take k).flatMap f++f x:=by
 rw[bF,b,ig]
 simp
theorem yD(f:α->List β)(l:List α)(k:Nat): ((l.take k).flatMap f).length<=(l.flatMap f).length:=by
 have h:l.flatMap f=(l.take k).flatMap f++(l.drop k).flatMap f:=by rw[<-ig,iq]
 rw[h,jL]
 omega
theorem BZ(l:List Nat):l.length<=(eG l).length:=by
 induction l with
 |nil=>exact aj _
 |cons x r b=>
  unfold eG at b⊢;rw[jC,jL,List.length_cons];have:=BV x
  omega
structure Grow(W:World)(v:Value)(bs:List UInt8)(w:World):Prop where
 own:ak w W.heap.size v bs
 below:Below W.heap.size W w
theorem Grow.step{b:Value}{bs':List UInt8}(h:Grow W v bs w)(c:ak w' W.heap.size b bs')(d:Upon (λq=>v.ownBlock=some q) w w'):Grow W b bs' w':=
 ⟨c,h.below.trans (d.below h.below.size (λq hq=>(h.own.lt q hq).1))⟩
theorem Grow.box(h:Grow W v bs w)(d:Upon (λq=>v.ownBlock=some q) w w'){b:Nat}{t:TypeId}{cs:Array Value}(hb:Blk w b t cs)(c:5≠t):Blk w' b t cs:=hb.upon d (λe=>aV h.own hb c e)
theorem Ca(ver next:Nat)(a:Option Addr)(c:Nat)(l:List FR)(w:World)(h:bV w a l)(hv:ver<18446744073709551616)(hn:next<4294967296)(hf:∀x∈l,x.f.fits)(hm: (bN ver next (l.map FR.f)).length<=900000)(hl:l.length<=1000000):
  Calls prog 127 #[.agg #[.int .u64 (ver:Int),.int .u32 (next:Int),.slice a l.length c]] w λe w'=>∃v,e=.returned v/\ak w' w.heap.size v (bN ver next (l.map FR.f))/\Below w.heap.size w w':=by
 obtain⟨n,y4⟩:=jl l.length;rw[<-y4]at hl⊢;obtain⟨W,O⟩:=jl (w.alloc (.cells #[.int .u64 (ver:Int),.int .u32 (next:Int),.slice a n c] 108));have h0:Below w.heap.size w W:=by rw[O];exact(Below.refl _ w).alloc jn _
 have Q:Blk W w.heap.size 108 #[.int .u64 (ver:Int),.int .u32 (next:Int),.slice a n c]:=by rw[O];exact Blk.new w _ _
 have b7:Grow W (.slice none 0 0) [] W:=⟨World.ownsRow_nil W W.heap.size 5 1,Below.refl _ _⟩;obtain⟨xb,U⟩:=jl w.heap.size;rw[<-U]at Q;have HF:=jq (h.later h0);have z3:=jq Q;have V:=jq h0;have L:=jq y4;have d5:=jq hf;have HM:=jq hm;have J:=jq b7;have f6:=jq U;have c5:=Q.cell 0
 simp at c5
 clear h Q h0 y4 hf hm b7
 go_enter func127,ntmps127
 go_wp2_with fail
 rw[<-O,<-U];clear O U;refine(iN ver hv _ _ W J.out.own jn (by simp)).mono ?_;rintro e w1 ⟨v1,rfl,z8,h6,e8⟩;have B:=jq (J.out.step z8 h6);have x1:=J.out.box h6 z3.out (by decide);have m1:=x1.cell 1
 simp at m1
 have y8:=jq x1;clear z8 h6 e8 x1 c5
 go_wp2_with fail
 refine(iN next (by omega) _ _ w1 B.out.own B.out.below.size (by have:=fP 9 ver (by omega);simp;omega)).mono ?_;rintro e w2 ⟨v2,rfl,z9,h7,e9⟩;have C:=jq (B.out.step z9 h7);have x2:=B.out.box h7 y8.out (by decide);have m2:=x2.cell 2
 simp at m2
 have y9:=jq x2;clear z9 h7 e9 x2 m1
 go_wp2_with fail
 refine(iN n (by omega) _ _ w2 C.out.own C.out.below.size (by have:=fP 9 ver (by omega);have:=fP 9 next (by omega);simp;omega)).mono ?_;rintro e w3 ⟨v3,rfl,a0,h8,f0⟩;have x9:=C.out.step a0 h8;have a9:=C.out.box h8 y9.out (by decide);have m3:=a9.cell 2
 simp at m3
 obtain⟨pre,S⟩:=jl ( []++aT ver++aT next++aT n);rw[<-S]at x9;have d6:=jq x9
 have c8:∀k,(pre++((l.map FR.f).take k).flatMap bW).length<=900000:=λk=>by
  have A:=HM.out;have h2:=yD bW (l.map FR.f) k;have e:bN ver next (l.map FR.f)=pre++(l.map FR.f).flatMap bW:=by rw[S,L.out];unfold bN;simp
  rw[e,jL]at A;rw[jL]
  omega
 have e4:=jq c8;have e2:=jq S;clear a0 h8 f0 a9 x9 m2 S c8 B C y8 y9 z3 J
 go_wp2_with fail
 go_loopw[3,25] (λx i wr=>∃k,k<=n/\i=.int .i64 k/\Grow W x (pre++((l.map FR.f).take k).flatMap bW) wr) (λ_ i _=>n-(intOf i).toNat)
 case atStart=>exact⟨0,aC _,rfl,by simpa using d6.out⟩
 case round=>
  obtain⟨k,hk,rfl,s⟩:=hrel
  by_cases hlt:k<n
  ·obtain⟨x,T⟩:∃x,l[k]? =some x:=⟨l[k]'(by rw[<-L.out];exact hlt),jg _⟩;obtain⟨g,o,rfl,Y,c1,c2,Z⟩:=(HF.out.later s.below).cells T;have y7:=jM T;obtain⟨h5,b4⟩:=HF.out.blocks x y7;have b6:=d5.out x y7;obtain⟨⟨nm,id,p,bl⟩,ba,X⟩:=x;dsimp only at Y c1 c2 Z h5 b4 b6;obtain⟨cur,x7⟩:=jl (pre++((l.map FR.f).take k).flatMap bW)
   have y3:pre++((l.map FR.f).take (k+1)).flatMap bW=cur++bW ⟨nm,id,p,bl⟩:=by
    rw[x7,yC bW (x:=⟨nm,id,p,bl⟩) (by simp[T]),List.append_assoc]
   have d:=e4.out (k+1);rw[y3]at d;rw[<-x7]at s;have e0:=jq y3;have t:=jq s;have d9:=jq h5;obtain⟨hid,f9,b3⟩:=b6;have c9:=jq b3
   have b9:cur.length+(aT nm.length).length+nm.length+(aT id).length+(aT p).length+(eG bl).length<=900000:=by
    unfold bW at d;simp only[jL]at d
    omega
   clear y3 s x7 d T y7 h5 b3;obtain⟨bn,x6⟩:=jl bl.length;rw[<-x6]at Z b4;unfold iv at c2;obtain⟨b,H⟩:∃b:ByteArray,.string b=sv nm:=⟨_,rfl⟩
   have c7:b.size=nm.length:=by
    have e:b=⟨nm.toArray⟩:=by unfold sv at H;injection H
    rw[e];show nm.toArray.size=_
    simp
   rw[<-H]at Y;have e3:=jq H;have z:=jq c7;have z2:=jq x6;have f8:b.size<=1000000:=by omega
   have f7:bn<=1000000:=by have:=BZ bl;omega
   have f5:IntKind.u64.wrap (b.size:Int)=(b.size:Int):=by rw[IntKind.wrap_u64];omega
   clear H c7 x6
   go_wp2_with fail
   obtain⟨N,x8⟩:=jl wr.heap.size;obtain⟨WB,P⟩:=jl (wr.alloc (.cells #[.string b,.int .u32 (id:Int),.int .i64 (p:Int),.slice ba bn X] 113));have b2:Blk WB N 113 #[.string b,.int .u32 (id:Int),.int .i64 (p:Int),.slice ba bn X]:=by rw[P,x8];exact Blk.new wr _ _
   have h4:Grow W u3 cur WB:=by rw[P];exact⟨t.out.own.alloc _,t.out.below.alloc t.out.below.size _⟩
   rw[<-P,<-x8];have z7:Grow W u3 cur WB.drew:=⟨own_later h4.own ((Below.refl _ WB).drew),h4.below.drew⟩;have x5:Blk WB.drew N 113 #[.string b,.int .u32 (id:Int),.int .i64 (p:Int),.slice ba bn X]:=b2;have a5:WB.drew.cell? ⟨N,0,none⟩=some (.string b):=x5.cell 0;have m:=jq z7;have I:=jq x5;clear P x8 h4 b2 z7 x5 Y c1 c2 Z;have z5:=jq (iN b.size (by omega) _ _ WB.drew m.out.own m.out.below.size (by omega))
   go_region_held3 (λw'=>w'.cell? ⟨N,0,none⟩=some (.string b)) (first|exact a5|exact a6|exact a7) (first|(go_at_call 165;refine z5.out.mono ?_;rintro e w4 ⟨v4,rfl,G,r,f1⟩;have a6:=(m.out.box r I.out (by decide)).cell 0;dsimp only)|(obtain⟨v5,w5,y5,a1,y1⟩:=JW w4 84 v4 _ G nm (by have:=fP 9 b.size (by rw[z.out];omega);rw[jL];rw[z.out]at this⊢;omega) (m.out.step G r).below.size;rw[<-e3.out]at y5;have a7:=((m.out.step G r).box (Upon.of_grown y1 (λq hq=>.inl hq)) (m.out.box r I.out (by decide)) (by decide)).cell 0;refine vD rfl (.tmp 34) (.tmp 36) 84 9 rfl _ _ rfl rfl y5 ?_))
   have y0:=m.out.step G r;have b0:=m.out.box r I.out (by decide);have y6:Upon (λq=>v4.ownBlock=some q) w4 w5:=Upon.of_grown y1 (λq hq=>.inl hq);have z6:=y0.step a1 y6;have x3:=y0.box y6 b0 (by decide);have d1:=x3.cell 1
   simp at d1
   have D:=jq z6;have z0:=jq x3;have e5: (cur++aT b.size++nm).length<=900000:=by rw[z.out];simp only[jL];omega
   clear G r f1 y5 a1 y1 a5 y0 b0 y6 z6 x3 z5 m I f5 a6 a7
   rename_i hHeld
   clear hHeld
   go_wp2_with fail
   refine(iN id (by omega) _ _ w5 D.out.own D.out.below.size (by omega)).mono ?_;rintro e w6 ⟨v6,rfl,a2,h9,f2⟩;have x4:=D.out.box h9 z0.out (by decide);have d2:=x4.cell 2
   simp at d2
   have E:=jq (D.out.step a2 h9);have z1:=jq x4;have e6: (cur++aT b.size++nm++aT id).length<=900000:=by rw[z.out];simp only[jL];omega
   clear a2 h9 f2 x4 d1
   go_wp2_with fail
   refine(iN p (by omega) _ _ w6 E.out.own E.out.below.size (by omega)).mono ?_;rintro e w7 ⟨v7,rfl,a3,x0,f3⟩;have b1:=E.out.box x0 z1.out (by decide);have d3:=b1.cell 3
   simp at d3
   have h3:=E.out.step a3 x0;obtain⟨M,R⟩:=jl (cur++aT b.size++nm++aT id++aT p);rw[<-R]at h3;have d7:=jq h3;have d0:=jq R
   have c4:∀j,(M++eG (bl.take j)).length<=900000:=λj=>by
    have:=yD aT bl j;unfold eG;rw[R,z.out];simp only[jL];unfold eG at b9
    omega
   have z4:=jq c4;clear a3 x0 f3 b1 d2 h3 R c4 e5 e6 D E z0 z1 b9
   go_wp2_with fail
   go_loopw[3,51] (λy i wq=>∃j,j<=bn/\i=.int .i64 j/\Grow W y (M++eG (bl.take j)) wq) (λ_ i _=>bn-(intOf i).toNat)
   case atStart=>exact⟨0,aC _,rfl,by simpa[eG]using d7.out⟩
   case round=>
    obtain⟨j,hj,rfl,b8⟩:=hrel;have F:=jq b8;clear b8
    by_cases y2:j<bn
    ·obtain⟨q,hq⟩:∃q,bl[j]? =some q:=⟨bl[j]'(by rw[<-z2.out];exact y2),jg _⟩;have c6:=c9.out q (jM hq);obtain⟨bg,bo,rfl,cq⟩:=iB (d9.out.later F.out.below) (k:=j) (u:=.int .i64 (q:Int)) (by simp[hq,iv]);have e7:=z4.out j;have e1:Hid (M++eG (bl.take (j+1))=(M++eG (bl.take j))++aT q):=jq (by unfold eG;rw[yC aT hq,List.append_assoc]);clear hq
     go_wp2_with fail
     refine(iN q (Nat.lt_trans c6 (by decide)) _ _ _ F.out.own F.out.below.size (ax (z4.out j) (by decide))).mono ?_;rintro e w8 ⟨v8,rfl,a4,a8,f4⟩;have d8:=jq (F.out.step a4 a8);clear a4 a8 f4 cq d3 e7 c6
     go_wp2_with fail
     go_roundw
     case rel=>exact⟨j+1,rO y2,by simp,by rw[e1.out];exact d8.out⟩
     case measure=>simp[intOf];omega
    ·obtain rfl:j=bn:=by omega
     have d:bl.take j=bl:=by rw[z2.out,lC]
     have b5:Grow W u3 (pre++((l.map FR.f).take (k+1)).flatMap bW) wr:=by
      rw[e0.out];have A:=F.out;rw[d,d0.out,z.out]at A;unfold bW
      simpa only[List.append_assoc]using A
     have d4:=jq b5;clear b5 d y2 hj
     go_wp2_with fail
     go_roundw
     case rel=>exact⟨k+1,rO hlt,by simp,d4.out⟩
     case measure=>simp[intOf];omega
  ·obtain rfl:k=n:=by omega
   have d: (l.map FR.f).take k=l.map FR.f:=by rw[jW (by rw[jP,<-L.out];exact aj _)]
   rw[d]at s;have t:=jq s;clear s d hlt hk
   go_wp2_with fail
   go_ret
   refine⟨_,rfl,?_,V.out.trans (t.out.below.mono V.out.size)⟩;have A:=bH t.out.own V.out.size;have e:bN ver next (l.map FR.f)=pre++(l.map FR.f).flatMap bW:=by rw[e2.out,L.out];unfold bN;simp
   unfold ak;rw[e];exact A
end aA
end Go.Proofs.YtndkohocgfmamaaGreatDoor
