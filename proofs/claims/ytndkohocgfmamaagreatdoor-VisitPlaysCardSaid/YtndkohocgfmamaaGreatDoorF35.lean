/- Part. -/
import Derived.Test.YtndkohocgfmamaaGreatDoorF32
import Derived.Test.YtndkohocgfmamaaGreatDoorF34
set_option maxHeartbeats 2000000
set_option maxRecDepth 100000
namespace Go.Proofs.YtndkohocgfmamaaGreatDoor
open Go.Proofs.Tryz
namespace Runs
open Go.RowKit Go.Deep Go.Shelf Mem Crc Merge bQ
open Store (nv)
def fw(L:List FF)(A:Fi)(ne:Nat)(l:List B):List FF:=if l= []then dm L A.pf ne else eO (dm L A.pf ne) (rname A.pf 0) (Frame.bq 82 l.flatten)
attribute [local go_sem] Oper.semAt_some
theorem Hw(A:Fi)(h2:A.ok)(L:List FF)(l:List B)(mh an C:Option Addr)(Y mc nc lc ne:Nat)(w:World)(a8:ne<=100000)(U:Lies w an (aU L))(T:L.length<=100000)(a5:Lies w C (l.map strB))(hl:l.length<=10000)(a2:l.flatten.length<=900000):
  Calls prog 65 #[sV A mh Y mc ne,.slice an L.length nc,.slice C l.length lc] w λe w'=>∃b aG aN,e=.returned (.tuple #[sV A b 0 0 (cu l),.slice aG (fw L A ne l).length aN])/\eP w' w.heap.size (.slice b 0 0) []/\bR w.heap.size w' an aG L (fw L A ne l)/\Below w.heap.size w w':=by
 obtain⟨k1,k2,k3,k4,k5,k6⟩:=id h2;obtain⟨wd,b1⟩:∃z:Int,z=A.wd:=⟨_,rfl⟩;obtain⟨rm,a9⟩:∃z:Int,z=A.rm:=⟨_,rfl⟩;obtain⟨d,x5⟩:∃s:ByteArray,nv A.pf=.string s:=⟨_,rfl⟩;have u:=Ba w (.string d) (.int .i64 wd) (.int .i64 rm) (.slice mh Y mc) (.int .i64 ne);obtain⟨x0,x1,x2,x3,x4⟩:=u.cells;have o:∀(a:Option Addr) (k c j:Nat),sV A a k c j=.agg #[.string d,.int .i64 wd,.int .i64 rm,.slice a k c,.int .i64 j]:=λa k c j=>by unfold sV;rw[x5,b1,a9]
 have t:=Bc A h2 L mh an Y mc nc ne _ a8 (U.later u.below) T
 have z7:∀(b:Option Addr) (V:World),Calls prog 26 #[.agg #[.string d,.int .i64 wd,.int .i64 rm,.slice b 0 0,.int .i64 0],.int .i64 0] V λe w'=>e=.returned (nv (rname A.pf 0))/\Below V.heap.size V w':=λb V=>by
  have:=qb A.pf k2 wd rm 0 b 0 0 0 (by omega) V;rw[x5]at this;exact this
 obtain⟨pn,h4⟩:=jl ((dm L A.pf ne).length);obtain⟨ln,X⟩:=jl L.length;obtain⟨nl,Z⟩:=jl l.length;rw[<-X,<-h4,o]at t;simp only[o]at t;rw[o,<-X,<-Z];have b7:=jq z7;have y8:=jq o;have HC:=jq t;have HS:=jq u;have M:=jq U;have b5:=jq a5;have N:=jq Z;have y5:=jq h4;have b3:=jq a2;have b6:=jq (show(dm L A.pf ne).length<=100000 from ax (qh L A.pf ne) T);have b4:=jq hl;clear x5 b1 a9 u t X h4 U o h2 T a8 z7 a5 Z a2 k1 k2 k3 k4 k5 k6 hl
 go_enter func65,ntmps65
 go_wp2_with fail
 refine HC.out.mono ?_;rintro e I ⟨b,aG,aN,rfl,z8,a0,P⟩;have m:=HS.out.later P;obtain⟨y0,y1,y2,y3,y4⟩:=m.cells;obtain⟨u0,u1,u2,u3,u4,_,_,g0,g1,g2,g3,g4⟩:=m.res;have n:=m.sets (.string d) (.int .i64 wd) (.int .i64 rm) (.slice b 0 0) (.int .i64 0);obtain⟨t0,t1,t2,t3,t4⟩:=n.cells;obtain⟨v0,v1,v2,v3,v4,⟨r0,D,E,G,H⟩,⟨z0,z1,z2,z3,z4⟩,⟨j0,j1,j2,j3,j4⟩⟩:=n.res;obtain⟨W4,h⟩:=jl (((((I.setCell ⟨w.heap.size,0,none⟩ (.string d)).setCell ⟨w.heap.size,1,none⟩ (.int .i64 wd)).setCell ⟨w.heap.size,2,none⟩ (.int .i64 rm)).setCell ⟨w.heap.size,3,none⟩ (.slice b 0 0)).setCell ⟨w.heap.size,4,none⟩ (.int .i64 0));rw[<-h]at n;have y:Upon (λg=>g=w.heap.size\/g=w.heap.size+1) I W4:=by rw[h];exact(((((Upon.refl (λg=>g=w.heap.size\/g=w.heap.size+1) I).set (p:=⟨w.heap.size,0,none⟩) (.inl (.inl rfl)) _).set (p:=⟨w.heap.size,1,none⟩) (.inl (.inl rfl)) _).set (p:=⟨w.heap.size,2,none⟩) (.inl (.inl rfl)) _).set (p:=⟨w.heap.size,3,none⟩) (.inl (.inl rfl)) _).set (p:=⟨w.heap.size,4,none⟩) (.inl (.inl rfl)) _
 have b2:w.heap.size+2<=I.heap.size:=by have:=P.size;simp at this;omega
 have b0:bR (w.heap.size+2) W4 an aG L (dm L A.pf ne):=by
  have h1:=a0.upon M.out (xb:=w.heap.size) (rb:=w.heap.size+1) ⟨aj _,by simp <;> omega⟩ ⟨by omega,by simp <;> omega⟩ y;exact h1.mono (by simp <;> omega)
 have z9:eP W4 (w.heap.size+2) (.slice b 0 0) []:=bH (m.row y z8 (by decide)) (by simp <;> omega);have y6:=jq b0;have x9:=jq z9;have q:=jq n;have c6:=jq (show w.heap.size+2<=W4.heap.size from ax b2 y.size);clear a0 z8 b0 z9 m y b2 P n
 by_cases r:nl=0
 ·have hd:decide (0<nl)=false:=jf (by omega);have a4:l= []:=iw (by rw[<-N.out];exact r);have i:=jq a4;have c5:=jq h;clear a4 r h
  go_wp2_with fail
  refine bodyPost_ret (v:=.tuple #[.agg #[.string d,.int .i64 wd,.int .i64 rm,.slice b 0 0,.int .i64 0],.slice aG pn aN]) (by simp[results,Tryz.f65,go_sem,r0,D,E,G,H]) rfl ?_;rw[<-c5.out];have f:=((((((Upon.refl (λg=>g=w.heap.size\/g=w.heap.size+1) W4).set (p:=⟨w.heap.size+1,0,none⟩) (.inl (.inr rfl)) (.string d)).set (p:=⟨w.heap.size+1,1,none⟩) (.inl (.inr rfl)) (.int .i64 wd)).set (p:=⟨w.heap.size+1,2,none⟩) (.inl (.inr rfl)) (.int .i64 rm)).set (p:=⟨w.heap.size+1,3,none⟩) (.inl (.inr rfl)) (.slice b 0 0)).set (p:=⟨w.heap.size+1,4,none⟩) (.inl (.inr rfl)) (.int .i64 0));have h8:fw L A ne l=dm L A.pf ne:=if_pos i.out;have h6:cu l=0:=if_pos i.out;rw[h8,h6];refine⟨b,aG,aN,by rw[y8.out,y5.out];rfl,bH (q.out.row f x9.out (by decide)) (by omega),((y6.out.upon M.out ⟨aj _,by omega⟩ ⟨by omega,by omega⟩ f).mono (by omega)),q.out.done f⟩
 ·have hd:decide (0<nl)=true:=jd (by omega);have i:=jq (show¬l= []from λe=>r (by rw[N.out,e];rfl));have x8:=jq (b7.out b W4);obtain⟨sn,h9⟩:∃s:ByteArray,nv (rname A.pf 0)=.string s:=⟨_,rfl⟩;rw[h9]at x8;have c3:=jq h9;clear r h9
  go_wp2_with fail
  rw[<-h];clear h t0 t1 t2 t3 t4 r0 D E G H z0 z1 z2 z3 z4 j0 j1 j2 j3 j4 y0 y1 y2 y3 y4 g0 g1 g2 g3 g4 x0 x1 x2 x3 x4;refine x8.out.mono ?_;rintro e w5 ⟨rfl,S⟩;have a6:Lies w5 C (l.map strB):=(b5.out.later q.out.below).later S;have h7:=xF C lc l w5 a6 b3.out (by have:=b4.out;omega);obtain⟨sr,x6⟩:∃s:ByteArray,nv (Frame.bq 82 l.flatten)=.string s:=⟨_,rfl⟩;rw[x6,<-N.out]at h7;have c2:=jq h7;have c4:=jq x6;have x7:=jq S;clear a6 h7 x6 S
  go_wp2_with fail
  refine c2.out.mono ?_;rintro e w6 ⟨rfl,y9⟩;have Q:Below W4.heap.size W4 w6:=x7.out.trans (y9.mono x7.out.size);have h5:=iN aG aN (dm L A.pf ne) (rname A.pf 0) (Frame.bq 82 l.flatten) w6 (y6.out.later Q).lies b6.out;rw[c3.out,c4.out,<-y5.out]at h5;have c0:=jq h5;have J:=jq Q;clear h5 y9 Q
  go_wp2_with fail
  refine c0.out.mono ?_;rintro e w7 ⟨v7,rfl,W,z5⟩;obtain⟨O,c7,rfl,_,z6,a1,a3⟩:=own_shape W;have R:Below W4.heap.size W4 w7:=J.out.trans (z5.mono J.out.size);have x:=q.out.later R;obtain⟨t0,t1,t2,t3,t4⟩:=x.cells;obtain⟨v0,v1,v2,v3,v4,⟨r0,D,E,G,H⟩,⟨z0,z1,z2,z3,z4⟩,⟨j0,j1,j2,j3,j4⟩⟩:=x.res;obtain⟨p7,h3⟩:=jl ((eO (dm L A.pf ne) (rname A.pf 0) (Frame.bq 82 l.flatten)).length);have c8:=c6.out;have c9:=J.out.size;have c1:=jq (show bR (w.heap.size+2) w7 an O L (eO (dm L A.pf ne) (rname A.pf 0) (Frame.bq 82 l.flatten))from⟨z6,.inr (λg hg=>⟨by have:=a1 g hg;omega,(W.lt g (a3.trans hg)).2⟩)⟩);rw[<-h3];have b9:=jq h3;have y7:=jq x;have b8:=jq (own_later x9.out R);clear W z5 z6 a1 a3 R x h3 c8 c9
  go_wp2_with fail
  refine bodyPost_ret (v:=.tuple #[.agg #[.string d,.int .i64 wd,.int .i64 rm,.slice b 0 0,.int .i64 1],.slice O p7 c7]) (by simp[results,Tryz.f65,go_sem,r0,D,E,G,H]) rfl ?_;have f:=(((((((Upon.refl (λg=>g=w.heap.size\/g=w.heap.size+1) w7).set (p:=⟨w.heap.size,4,none⟩) (.inl (.inl rfl)) (.int .i64 1)).set (p:=⟨w.heap.size+1,0,none⟩) (.inl (.inr rfl)) (.string d)).set (p:=⟨w.heap.size+1,1,none⟩) (.inl (.inr rfl)) (.int .i64 wd)).set (p:=⟨w.heap.size+1,2,none⟩) (.inl (.inr rfl)) (.int .i64 rm)).set (p:=⟨w.heap.size+1,3,none⟩) (.inl (.inr rfl)) (.slice b 0 0)).set (p:=⟨w.heap.size+1,4,none⟩) (.inl (.inr rfl)) (.int .i64 1));have h8:fw L A ne l=eO (dm L A.pf ne) (rname A.pf 0) (Frame.bq 82 l.flatten):=if_neg i.out;have h6:cu l=1:=if_neg i.out;rw[h8,h6];refine⟨b,O,c7,by rw[y8.out,b9.out];rfl,bH (y7.out.row f b8.out (by decide)) (by omega),((c1.out.upon M.out ⟨aj _,by omega⟩ ⟨by omega,by omega⟩ f).mono (by omega)),y7.out.done f⟩
end Runs
namespace Runs
open Go.RowKit Go.Deep Go.Shelf Mem Crc Go.Maps Merge Full bQ
open Store (Sto Files setF fF fG nv)
theorem Sy(nm b:List UInt8)(l:List FF): (gP nm b l).1.length+(if(gP nm b l).2 then 0 else 1)<=l.length+1:=by
 have h:∀(l:List FF) (s:List FF×Bool),(l.foldl (dL nm b) s).1.length+(if(l.foldl (dL nm b) s).2 then 0 else 1)<=s.1.length+(if s.2 then 0 else 1)+l.length:=by
  intro l
  induction l with
  |nil=>intro s;exact aj _
  |cons x r c=>
   intro s;have d:=c (dL nm b s x)
   have e: (dL nm b s x).1.length+(if(dL nm b s x).2 then 0 else 1)<=s.1.length+(if s.2 then 0 else 1)+1:=by
    unfold dL
    split
    ·omega
    ·split
     ·rename_i f a
      rw[a.1]
      simp
     ·dsimp only;rw[jL,List.length_singleton]
      omega
   rw[List.foldl_cons,List.length_cons]
   omega
 have:=h l ([],false)
 simp at this
 unfold gP
 omega
theorem rG(l:List FF)(nm b:List UInt8): (eO l nm b).length<=l.length+1:=by
 have a:=Sy nm b l;unfold bQ.eO
 split
 ·omega
 ·rename_i hd
  rw[if_neg hd]at a;rw[jL,List.length_singleton]
  omega
variable {L:List FF}{F:Files}
theorem rH(h:aQ L F)(nm b:List UInt8):aQ (eO L nm b) (setF F nm (some b)):=by
 have:=h.put nm b
 have e:setF F nm (some b)=λx=>if x=nm then some b else F x:=by
  funext x
  by_cases a:x=nm
  ·rw[a,fF,if_pos rfl]
  ·rw[fG _ a,if_neg a]
 rw[e];exact this
theorem Hy(h:aQ L F)(nm:List UInt8):aQ (eH L nm) (setF F nm none):=by
 have:=h.without nm
 have e:setF F nm none=λx=>if x=nm then none else F x:=by
  funext x
  by_cases a:x=nm
  ·rw[a,fF,if_pos rfl]
  ·rw[fG _ a,if_neg a]
 rw[e];exact this
theorem oh{L:List FF}{F:Files}(h:aQ L F)(pf:List UInt8):∀k,aQ (dm L pf k) (iW F pf k)
 |0=>h
 |k+1=>Hy (oh h pf k) _
theorem Bd(h:aQ L F)(A:Fi)(ne:Nat)(l:List (List UInt8)):aQ (fw L A ne l) (gI F A ne l):=by
 unfold fw gI
 by_cases hl:l= []
 ·rw[if_pos hl,if_pos hl];exact oh h A.pf ne
 ·rw[if_neg hl,if_neg hl];exact rH (oh h A.pf ne) _ _
theorem Hz(L:List FF)(A:Fi)(ne:Nat)(l:List (List UInt8)): (fw L A ne l).length<=L.length+1:=by
 unfold fw
 split
 ·exact Nat.le_succ_of_le (qh _ _ _)
 ·exact ax (rG _ _ _) (Nat.succ_le_succ (qh _ _ _))
theorem H6{pf:List UInt8}(d:1<=pf.length)(e:pf.length<=16){k:Nat}(c:k<10):1<=(rname pf k).length/\(rname pf k).length<=32:=by
 have b:∀k:Fin 10,(rname [] k.1).length<=10:=by decide
 have a:=b ⟨k,c⟩;unfold rname at a⊢;simp only[jL,List.nil_append]at a⊢
 omega
end Runs
namespace Runs
open Go.RowKit Go.Deep Go.Shelf Mem Crc Merge bQ Full
open Store (nv Files)
attribute [local go_sem] Oper.semAt_some
theorem H7(A:Fi)(y1:A.ok)(held:List B)(L:List FF)(F:Files)(mh an:Option Addr)(mc nc ne:Nat)(w:World)(a7:aQ L F)(a2:ne<=90)(hF:∀j,j<ne->F (rname A.pf j)≠none)(a9:∀nm b,F nm=some b->b.length<=10000)(hh:held.length<=4096)(hM:Lies w mh (held.map strB))(hN:Lies w an (aU L))(hL:L.length<=100000):
  Calls prog 40 #[sV A mh held.length mc ne,.slice an L.length nc] w (RowsOut A F ne held w):=by
 obtain⟨k1,k2,k3,k4,k5,k6⟩:=id y1;obtain⟨wd,y7⟩:∃z:Int,z=A.wd:=⟨_,rfl⟩;obtain⟨rm,a5⟩:∃z:Int,z=A.rm:=⟨_,rfl⟩;obtain⟨E,y6⟩:∃s:ByteArray,nv A.pf=.string s:=⟨_,rfl⟩;obtain⟨f,R⟩:=jl held.length;obtain⟨ln,x7⟩:=jl L.length;have a8:sV A mh held.length mc ne=.agg #[.string E,.int .i64 wd,.int .i64 rm,.slice mh f mc,.int .i64 ne]:=by unfold sV;rw[y6,y7,a5,R]
 obtain⟨W1,I⟩:=jl (w.alloc (.cells #[.string E,.int .i64 wd,.int .i64 rm,.slice mh f mc,.int .i64 ne] 35));have h0:Below w.heap.size w W1:=by rw[I];exact(Below.refl _ w).alloc jn _
 have D:Blk W1 w.heap.size 35 #[.string E,.int .i64 wd,.int .i64 rm,.slice mh f mc,.int .i64 ne]:=by rw[I];exact Blk.new w _ _
 have y8:W1.heap.size=w.heap.size+1:=by rw[I];simp
 obtain⟨W2,Q⟩:=jl (W1.alloc (.cells #[] 9));have H:Below W1.heap.size W1 W2:=by rw[Q];exact(Below.refl _ W1).alloc jn _
 have h8:eP W2 W1.heap.size (.slice (some ⟨W1.heap.size,0,none⟩) 0 0) []:=by rw[Q];exact fT W1 9 1
 obtain⟨a3,c3,W3,h2,h9,a1⟩:=tZ W2 33 _ _ h8 mh mc held ((hM.later h0).later H) (by simp;omega) H.size;rw[List.nil_append,<-R]at h2;rw[List.nil_append]at h9;have h1:Below W1.heap.size W1 W3:=H.grown a1 H.size (λq hq=>(h8.lt q hq).1);have z9:=D.below H D.lt;have x3:=z9.cell 3
 simp at x3
 have y0:=(D.below h1 D.lt).cell 0;rw[Q,y8,I]at h2;rw[Q,I]at x3;obtain⟨xb,d2⟩:=jl w.heap.size;have b3:=jq (show Blk W3 w.heap.size 35 #[.string E,.int .i64 wd,.int .i64 rm,.slice mh f mc,.int .i64 ne]from D.below h1 D.lt);have HB:=jq (h0.trans (h1.mono h0.size));have HO:=jq (show eP W3 (w.heap.size+1) (.slice a3 f c3) held by rw[R,<-y8];exact h9)
 have b7:Hid (∀(k:Nat) (V:World),k<=1000000->Calls prog 26 #[.agg #[.string E,.int .i64 wd,.int .i64 rm,.slice mh f mc,.int .i64 ne],.int .i64 k] V λe w'=>e=.returned (nv (rname A.pf k))/\Below V.heap.size V w'):=jq (λk V hk=>by
  have:=qb A.pf k2 wd rm ne mh f mc k hk V;rw[y6]at this;exact this)
 have c4:Hid (∀(b:List UInt8) (V:World),b.length<=10000->Calls prog 74 #[nv b,.int .i64 wd] V (ug (readR A.wd b) V)):=jq (λb V hb=>by
  rw[y7];exact Pp A.wd k3 k4 b V (by omega))
 have HN:=jq hN;have b4:=jq R;have X:=jq x7;have HF:=jq hF;have Y:=jq a9;have c5:=jq a7;have HL:=jq hL;have HH:=jq hh;have h5:=jq y1;rw[a8,<-x7];clear y6 y7 a5 a8 R x7 h0 H h8 h9 a1 h1 D z9 I Q y8 hM hN hF a9 a7 hL hh y1 k1 k2 k3 k4 k5 k6 y0 d2
 go_enter func40,ntmps40
 go_wp2_with (first|(at_builtin;refine Lib.wpList_append_run _ rfl _ _ _ _ rfl _ _ rfl rfl _ _ h2 ?_))
 clear h2 x3
 go_loopw[6,7] (λo i wr=>∃(k n:Nat) (ls:List (List B)) (T:Option Addr) (U:Nat),k<=ne/\i=.int .i64 (k:Int)/\o=.slice T n U/\Hid (n=(held++ls.flatten).length)/\Hid (runsR A F k=some ls)/\Hid (eP wr (w.heap.size+1) (.slice T n U) (held++ls.flatten))/\Hid (Blk wr w.heap.size 35 #[.string E,.int .i64 wd,.int .i64 rm,.slice mh f mc,.int .i64 ne])/\Hid (Below w.heap.size w wr)) (λ_ i _=>ne-(intOf i).toNat)
 case atStart=>exact⟨0,f,[],a3,c3,aC _,rfl,rfl,jq (by simp[b4.out]),jq rfl,jq (by simpa using HO.out),b3,HB⟩
 case round=>
  obtain⟨k,n,ls,T,U,hk,rfl,rfl,z1,O,z2,h,y⟩:=hrel;have q0:=h.out.cell 0;have J:=h.out.cell 1;have q2:=h.out.cell 2;have q3:=h.out.cell 3;have q4:=h.out.cell 4
  simp at q0 J q2 q3 q4
  by_cases hlt:k<ne
  ·have d1:decide ((k:Int) <(ne:Int))=true:=jd (by omega);obtain⟨b,hb⟩:=si.1 (HF.out k hlt);obtain⟨sn,y4⟩:∃s:ByteArray,nv (rname A.pf k)=.string s:=⟨_,rfl⟩;have x9:=b7.out k wr (by omega);rw[y4]at x9;obtain⟨f1,f2⟩:=c5.out.find (rname A.pf k);obtain⟨r,x5⟩:=jl (fE L (rname A.pf k));rw[<-x5]at f1 f2;have x6:r<L.length:=f1.2 (by rw[hb];exact λe=>by cases e);have hx:=f2 b hb;obtain⟨t,v,rfl,c9,l⟩:=tO (HN.out.later y.out) hx;obtain⟨sb,y3⟩:∃s:ByteArray,nv b=.string s:=⟨_,rfl⟩;dsimp only at l;rw[y3]at l
   have y9:Hid (∀V:World,Below w.heap.size w V->Calls prog 51 #[.slice (some ⟨t,v,none⟩) ln nc,.string sn] V λe w'=>e=.returned (.tuple #[.int .i64 (r:Int),.bool true])/\w'=V):=jq (λV hV=>by
    have:=nM (some ⟨t,v,none⟩) nc L (rname A.pf k) V (HN.out.later hV) (by have:=HL.out;omega);rw[y4,<-X.out,<-x5,X.out,if_pos x6,jd x6,<-X.out]at this;exact this)
   rw[<-X.out]at x6;have z0:=jq x9;have N:=jq (λV=>c4.out b V (Y.out _ _ hb));have h4:=jq hb;have z3:=jq h.out.lt;rw[y3]at N;clear x9 x5 f1 f2 hx y3 c9 y4 hb
   cases hrr:readR A.wd b with
   |none=>
    have b8:=jq (show runsR A F ne=none from runsR_none (by omega) (runsR_stop O.out h4.out hrr));rw[hrr]at N;clear hrr
    go_wp2_with fail
    refine z0.out.mono ?_;rintro e w3 ⟨rfl,c⟩;have M:=jq (y.out.trans (c.mono y.out.size));have h3:=jq (y9.out w3 M.out);have c1:=(c.cell (p:=⟨t,v+r*2+1,none⟩) (World.block_lt_of_cell? wr _ l)).trans l;have g:=(c.cell (p:=⟨w.heap.size,1,none⟩) z3.out).trans J;clear c q0 J q2 q3 q4 l
    go_wp2_with fail
    refine h3.out.mono ?_;rintro e d ⟨rfl,rfl⟩;have P:=N.out d.drew;have G:=jq M.out
    go_wp2_with fail
    go_region_held3 (λw'=>w'.cell? ⟨t,v+r*2+1,none⟩=some (.string sb)/\w'.cell? ⟨w.heap.size,1,none⟩=some (.int .i64 wd)) (first|exact⟨c1,g⟩|exact S) ((go_at_call 74;refine P.mono ?_;rintro e x ⟨a,ra,rc,rfl⟩;have a:=((Below.refl d.heap.size d).drew).trans a;have S:=And.intro ((a.cell (p:=⟨t,v+r*2+1,none⟩) (World.block_lt_of_cell? d _ c1)).trans c1) ((a.cell (p:=⟨w.heap.size,1,none⟩) (World.block_lt_of_cell? d _ g)).trans g);dsimp only))
    obtain⟨W9,x1⟩:=jl (x.alloc (.cells #[] 9));have W:=jq (show RowsOut A F ne held w (.returned (.tuple #[.slice (some ⟨x.heap.size,0,none⟩) 0 0,.int .i64 5])) W9 from⟨by rw[x1];exact((G.out.trans (a.mono G.out.size)).alloc (ax G.out.size a.size) _),by rw[b8.out];exact⟨_,_,rfl⟩⟩);rw[x1]at W;clear a S x1 c1 g P
    go_wp2_with fail
    go_ret2
    exact W.out
   |some u=>
    have b9:=jq (show runsR A F (k+1)=some (ls++ [u])from runsR_next O.out h4.out hrr);have b5:=jq (show u.length<=10000 from ax (readR_len (by have:=h5.out.2.2.1;omega) hrr) (Y.out _ _ h4.out));rw[hrr]at N;clear hrr
    go_wp2_with fail
    refine z0.out.mono ?_;rintro e w3 ⟨rfl,c⟩;have M:=jq (y.out.trans (c.mono y.out.size));have h3:=jq (y9.out w3 M.out);have c1:=(c.cell (p:=⟨t,v+r*2+1,none⟩) (World.block_lt_of_cell? wr _ l)).trans l;have g:=(c.cell (p:=⟨w.heap.size,1,none⟩) z3.out).trans J;have c0:=jq (own_later z2.out c);have h6:=jq (h.out.below c h.out.lt);clear c q0 J q2 q3 q4 l
    go_wp2_with fail
    refine h3.out.mono ?_;rintro e d ⟨rfl,rfl⟩;have P:=N.out d.drew;have G:=jq M.out
    go_wp2_with fail
    go_region_held3 (λw'=>w'.cell? ⟨t,v+r*2+1,none⟩=some (.string sb)/\w'.cell? ⟨w.heap.size,1,none⟩=some (.int .i64 wd)) (first|exact⟨c1,g⟩|exact S) ((go_at_call 74;refine P.mono ?_;rintro e x ⟨a,ra,rc,rfl,z7⟩;have a:=((Below.refl d.heap.size d).drew).trans a;have S:=And.intro ((a.cell (p:=⟨t,v+r*2+1,none⟩) (World.block_lt_of_cell? d _ c1)).trans c1) ((a.cell (p:=⟨w.heap.size,1,none⟩) (World.block_lt_of_cell? d _ g)).trans g);dsimp only))
    obtain⟨d5,d6,e5,_,h7,_,_⟩:=own_shape z7;injection e5 with e6 e7 e8;rw[<-e6]at h7;have C:eP x (w.heap.size+1) (.slice T n U) (held++ls.flatten):=own_later c0.out a;have x2:=h6.out.below a h6.out.lt;have d0:=runsR_count (m:=10000) (by have:=h5.out.2.2.1;omega) Y.out O.out;have b0:w.heap.size+1<=x.heap.size:=by have:=h6.out.lt;have:=a.size;omega
    obtain⟨a6,c6,w6,y2,x0,x4⟩:=tZ x 33 _ _ C ra rc u h7 (by
     have:=HH.out;have:=b5.out;have:=jD 10000 hk;have:=jD 10000 a2;rw[jL]
     omega) b0
    have z4:Below w.heap.size w w6:=(G.out.trans (a.mono G.out.size)).grown x4 (by omega) (λq hq=>by have:=(C.lt q hq).1;omega);have z8:=(x4.block w.heap.size x2.lt (λe=>by have:=(C.lt w.heap.size e.symm).1;omega)).trans x2;obtain⟨n6,x8⟩:=jl ((held++(ls++ [u]).flatten).length);have a0:held++ls.flatten++u=held++(ls++ [u]).flatten:=by simp
    rw[a0,<-x8]at y2 x0;obtain⟨nl,a4⟩:=jl u.length;rw[<-a4]at y2⊢;have b6:=jq x8;have c2:=jq x0;have c8:=jq (show Blk w6 w.heap.size 35 #[.string E,.int .i64 wd,.int .i64 rm,.slice mh f mc,.int .i64 ne]from z8);have b2:=jq z4;clear a S c1 g P z7 e6 e7 e8 h7 C x2 d0 b0 x0 x4 z4 z8 x8 a0 a4
    go_wp2_with (first|(at_builtin;refine Lib.wpList_append_run _ rfl _ _ _ _ rfl _ _ rfl rfl _ _ y2 ?_))
    go_roundw
    case rel=>exact⟨k+1,n6,ls++ [u],a6,c6,by omega,by simp,rfl,b6,b9,c2,c8,b2⟩
    case measure=>simp[intOf];omega
  ·obtain rfl:k=ne:=by omega
   have d1:decide ((k:Int) <(k:Int))=false:=jf (by omega);obtain⟨d3,d4,Z,_,z6,_,_⟩:=own_shape z2.out;injection Z with Z e2 e3
   have y5:=wL wr T U (held++ls.flatten) (by rw[Z];exact z6) (by
    have:=runsR_count (by have:=h5.out.2.2.1;omega) Y.out O.out;have:=HH.out;rw[jL];have:=jD 10000 a2
    omega)
   rw[<-z1.out]at y5;have c7:=jq y5;clear Z e2 e3 z6 y5 q0 J q2 q3
   go_wp2_with fail
   with_reducible refine c7.out.mono ?_
   rintro e x ⟨v5,rfl,C,a⟩;obtain⟨sa,sc,rfl,_,z5,_,_⟩:=own_shape C
   have W:=jq (show RowsOut A F k held w (.returned (.tuple #[.slice sa n sc,.int .i64 0])) x from⟨y.out.trans (a.mono y.out.size),by
    rw[O.out];exact⟨sa,sc,by rw[<-z1.out],z5⟩⟩)
   clear C z5 a
   go_wp2_with fail
   go_ret2
   exact W.out
end Runs
end Go.Proofs.YtndkohocgfmamaaGreatDoor
