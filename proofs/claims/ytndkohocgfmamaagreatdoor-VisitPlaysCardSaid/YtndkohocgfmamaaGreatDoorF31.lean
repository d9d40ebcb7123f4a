/- Part. -/
import Derived.Test.YtndkohocgfmamaaGreatDoorF30
import Derived.Test.YtndkohocgfmamaaGreatDoorShelf
set_option maxHeartbeats 400000
set_option maxRecDepth 100000
namespace Go.Proofs.YtndkohocgfmamaaGreatDoor
open Go.Proofs.Tryz
namespace Runs
open Go.RowKit Go.Deep Go.Shelf Go.Lib Mem Crc Merge
attribute [local go_sem] Oper.semAt_some
theorem RJ:∀l:List B,Lib.join l []=l.flatten
 | []=>rfl
 |x ::r=>by
  rw[Lib.join_cons]
  simp[Lib.joinTail]
theorem RL(l:List B):Lib.lens l=l.flatten.length:=by simp[Lib.lens,List.length_flatten]
theorem Gt{base:Nat}{w:World}{v:Value}{l:B}(h:Lib.FreshBytes base w v l):∃a c,v=.slice a l.length c/\Lies w a (l.map bv):=by
 obtain⟨g,cap,zs,rfl,_,t,_,y,q,hb,hc,_⟩:=h;refine⟨_,_,rfl,?_⟩
 by_cases f:l= []
 ·exact .inl (by simp[f])
 ·have x:0<l.length:=lD.2 f;have k:=hc 0 (by omega);refine .inr ⟨g,0,rfl,?_,λi u j=>?_⟩
  ·obtain⟨o,p,_⟩:=cells_of_cell k;exact(dG.1 p).1
  ·have d:i<l.length:=by simpa using(jS.1 j).1
   have e:i<zs.length:=by omega
   rw[Nat.zero_add,hc i (by omega)];have r:bv l[i]=u:=by simpa[jg d]using j
   have n:l[i]=zs[i].toNat.toUInt8:=by
    have b: (Lib.bytesOf (zs.take l.length))[i]? =l[i]?:=by rw[hb]
    rw[jg d]at b
    simp[Lib.bytesOf,d,jg e]at b
    rw[<-b]
   have s:=q zs[i] (qE e);rw[<-r,n,List.getD_eq_getElem?_getD,jg e];unfold bv
   simp
   omega
variable {a:Option Addr}{c:Nat}{l:List B}
theorem RN{vs:List SL}(w:World)(s:Lies w a (vs.map sl))(J:vs.length<=c)(E:bY w (vs.map sl) l)(F:∀b∈l,b≠[])(L:l.flatten.length<=1048576)(O:l.length<=1048576):
  Calls prog 134 #[.slice a vs.length c,.slice none 0 0] w λe w'=>∃f cp,e=.returned (.slice f l.flatten.length cp)/\Lies w' f (l.flatten.map bv)/\Below w.heap.size w w':=by
 have d:vs.length=l.length:=by simpa using E.len
 have G:∀(i:Nat) (v:Value) (b:B),(vs.map sl)[i]? =some v->l[i]? =some b->∃f cp,v=.slice (some f) b.length cp/\∀(j:Nat) x,b[j]? =some x->w.cell? (f.add j)=some (.int .u8 (x.toNat:Int)):=λi v b t hb=>by
  obtain⟨p,cp,e,_,hl⟩:=E.at_ i v b t hb;have I:=F b (jM hb);rcases hl with h|⟨g,o,rfl,z,hc⟩
  ·exact absurd (by simpa using h) I
  ·refine⟨_,cp,e,λj x M=>?_⟩;exact dQ (w:=w) (a:=⟨g,o,none⟩) (.inr ⟨g,o,rfl,z,hc⟩) j _ (by simp[M,bv])
 match l,d,s with
 | [],d,_=>
  rw[show vs.length=0 from d];refine(Tryz.bytes_Join_none a c _ w).mono ?_;rintro e w' ⟨rfl,rfl⟩;exact⟨_,_,rfl,.inl rfl,(Below.refl _ w).alloc jn _⟩
 | [b],d,s=>
  have n:0<vs.length:=by rw[d];exact Nat.one_pos
  rcases s with h|⟨g,o,rfl,z,hc⟩
  ·have:vs= []:=by simpa using h
   rw[this]at n;cases n
  ·obtain⟨f,cp,e,C⟩:=G 0 (sl vs[0]) b (by simp[jg n]) rfl;have D:=hc 0 (sl vs[0]) (by simp[jg n]);rw[e]at D;rw[show vs.length=1 from d];refine(Tryz.bytes_Join_one g o c f cp b _ w D C (lD.2 (F b (by simp))) (by simp at L;omega)).mono ?_;rintro e w' ⟨N,rfl,u,A⟩;obtain⟨q,k,rfl,hl⟩:=Gt u;exact⟨q,k,by simp,by simpa using hl,A⟩
 |x ::y ::r,d,s=>
  have n:2<=vs.length:=by rw[d];simp
  rcases s with h|⟨g,o,rfl,z,hc⟩
  ·have:vs= []:=by simpa using h
   rw[this]at n;cases n
  ·have H:Lib.PartsAt w ⟨g,o,none⟩ (vs.map sl) (x ::y ::r):=⟨by simpa using d,λi v t=>dQ (w:=w) (a:=⟨g,o,none⟩) (.inr ⟨g,o,rfl,z,hc⟩) i v t,λi v b t hb=>by
    obtain⟨f,cp,e,C⟩:=G i v b t hb;exact⟨some f,cp,e,(λh=>by cases h),(λq hq=>by cases hq;exact C)⟩⟩
   refine(Tryz.bytes_Join_many g o vs.length c (vs.map sl) (x ::y ::r) (.slice none 0 0) [] w d.symm n H J ⟨none,0,rfl,λ_=>rfl,λq hq=>by cases hq⟩ (by omega) (by rw[RL];simp only[List.length_nil,Nat.zero_mul];omega)).mono ?_;rintro e w' ⟨N,rfl,u,A⟩;rw[RJ]at u;obtain⟨q,k,rfl,hl⟩:=Gt u;exact⟨q,k,rfl,hl,A⟩
theorem RO: (((82:UInt8).toNat:Nat):Int)=82:=by decide
theorem Gu{vs:List SL}(w:World)(p:Lies w a (vs.map sl))(z:vs.length<=c)(q:bY w (vs.map sl) l)(B:∀b∈l,b≠[])(i:l.flatten.length<=1048576)(A:l.length<=1048576):
  Calls prog 91 #[.slice a vs.length c] w λe w'=>∃v,e=.returned (.tuple #[v,.int .i64 0])/\ak w' w.heap.size v (Frame.bq 82 l.flatten)/\Below w.heap.size w w':=by
 have h:=RN w p z q B i A;obtain⟨X,r⟩:=jl l.flatten;rw[<-r]at h i⊢;have u:=jq h;clear p q h r
 go_enter func91,ntmps91
 go_wp2_with fail
 refine u.out.mono ?_;rintro e w1 ⟨y,cp,rfl,k,n⟩;have j:=Frame.sF 82 y cp X w1 k i;rw[RO]at j;have x:=jq j;have d:=jq n;clear k n j
 go_wp2_with fail
 refine x.out.mono ?_;rintro e w2 ⟨v,rfl,f,o⟩;have s:=jq (bH f d.out.size);have t:=jq (d.out.trans (o.mono d.out.size));obtain⟨va,vc,rfl,_,_,_,_⟩:=own_shape f;clear f o
 go_wp2_with fail
 go_ret2
 exact⟨_,rfl,s.out,t.out⟩
end Runs
namespace Runs
open Go.RowKit Go.Deep Go.Shelf Mem Crc Merge
attribute [local go_sem] Oper.semAt_some
def pieces(g off wd m:Nat):List SL:=(List.range m).map λk=>(some ⟨g,off+k*wd,none⟩,wd,wd)
theorem nO(g off wd m:Nat): (pieces g off wd m).length=m:=by simp[pieces]
theorem yU(g off wd k:Nat):pieces g off wd (k+1)=pieces g off wd k++ [(some ⟨g,off+k*wd,none⟩,wd,wd)]:=by simp[pieces,List.range_succ]
variable {g m c:Nat}
theorem RP(n:Nat)(hn:1<=n)(l d b:Nat){w0:World}{off wd:Nat}(h5:0<wd)(h3:m*wd<=c)(h4:m*wd<=1000000)(A:d<w0.heap.size)(z:b<w0.heap.size)(J E:List SL->World->Prop)(R:∀s X q,J s X->J s (X.drewN q))(V:∀pre x W,J pre W->pre.length<m->YieldAt Fence.wide (n-1) prog l #[sl x] W λe f=>
   (e=.returned (.bool true)/\J (pre++ [x]) f/\Below w0.heap.size W f)\/(e=.returned (.bool false)/\E (pre++ [x]) f))(W:World)(Q:Below w0.heap.size w0 W)(hcs:w0.cell? ⟨d,0,none⟩=some (.slice (some ⟨g,off,none⟩) (m*wd) c))(w:w0.cell? ⟨b,0,none⟩=some (.int .i64 wd))(P:J [] W):
  CallsIn Fence.wide n prog 128 #[.func (.yield l) #[] #[],.pointer (some ⟨d,0,none⟩),.pointer (some ⟨b,0,none⟩)] W λe f=>(∃v,e=.returned v)/\
   ((∃L,L=pieces g off wd m/\J L f)\/(∃pre,(∃k,k<=m/\pre=pieces g off wd k)/\E pre f)):=by
 obtain⟨M,j⟩:=jl (m*wd);rw[<-j]at h3 hcs h4;refine callsIn_of_wp func128 rfl trivial ?_ rfl;simp only[ntmps128,List.size_toArray,List.length_cons,List.length_nil,Nat.reduceAdd,Nat.reduceSub,Array.replicate_succ,Array.replicate_zero,List.push_toArray,List.append_toArray,List.nil_append,List.cons_append]
 gi_wp2
 gi_loopw [4] (λi wr=>∃k p:Nat,k<=m/\p=k*wd/\i=.int .i64 p/\J (pieces g off wd k) wr/\Below w0.heap.size w0 wr)
  (λi _=>M-(intOf i).toNat)
 case atStart=>exact⟨0,0,aC _,by simp,rfl,P,Q⟩
 case round=>
  obtain⟨k,p,Z,h,rfl,u,r⟩:=hrel;have h9:=(r.cell (p:=⟨d,0,none⟩) A).trans hcs;have h6:=(r.cell (p:=⟨b,0,none⟩) z).trans w
  by_cases hlt:k<m
  ·have H:p+wd<=M:=by rw[h,j,<-eY];exact jD _ hlt
   have G:p+wd=(k+1)*wd:=by rw[h,eY]
   have B:=yU g off wd k;rw[<-h]at B;have D:=jq B;have HP:=jq h;have O:=jq G;have HM:=jq j;clear B h G j;have hw:IntKind.i64.wrap ((p:Int)+wd)=(p:Int)+wd:=(IntWalk.i64_left _).trans (IntWalk.wrap64_in _ (by omega));have h2:p<M:=aD (Nat.lt_add_of_pos_right h5) H;have h1:decide ((p:Int) <(M:Int))=true:=jd (Int.ofNat_lt.2 h2);have x2:min (wd:Int) ((M-p:Nat):Int)=wd:=Int.min_eq_left (Int.ofNat_le.2 (Nat.le_sub_of_add_le' H));have C:=jq r;have N:=jq u;clear r u
   gi_wp2
   gi_quiet (fail)
   have Y:wr.grownBy (wr.drewN nq) none:=⟨rfl,rfl,rfl,aj _,λ_ _ _=>rfl⟩;have o:=C.out.grown Y (by have:=C.out.size;omega) (λq e=>by cases e);have x0:=(o.cell (p:=⟨d,0,none⟩) A).trans hcs;have h7:=(o.cell (p:=⟨b,0,none⟩) z).trans w;have F:=R _ _ nq N.out;obtain⟨fn,x3,assign,body,I,U⟩:=V _ (some ⟨g,off+p,none⟩,wd,wd) (wr.drewN nq) F (by rw[nO];exact hlt);have t:=jq o;unfold sl at I;dsimp only at I;clear F o
   gi_wp2
   refine U.mono ?_;rintro e W3 (⟨rfl,S,y⟩|⟨rfl,T⟩)
   ·have x1:=((t.out.trans y).cell (p:=⟨d,0,none⟩) A).trans hcs;have h8:=((t.out.trans y).cell (p:=⟨b,0,none⟩) z).trans w
    gi_wp2
    go_roundw
    case rel=>exact⟨k+1,p+wd,by omega,O.out,by simp,by rw[D.out];exact S,t.out.trans y⟩
    case measure=>simp[intOf];omega
   ·gi_wp2
    refine bodyPost_ret (results_none rfl _ _ _) rfl ?_;exact⟨⟨_,rfl⟩,.inr ⟨_,⟨k+1,by omega,D.out.symm⟩,T⟩⟩
  ·obtain rfl:k=m:=Nat.le_antisymm Z (Nat.not_lt.1 hlt);obtain rfl:p=M:=h.trans j.symm;have h1:decide ((p:Int) <(p:Int))=false:=by simp
   gi_wp2
   go_end0
   exact⟨⟨_,rfl⟩,.inl ⟨_,rfl,u⟩⟩
theorem qQ(a:Option Addr)(len c wd:Nat)(d:0<wd)(w:World):
  Calls prog 83 #[.slice a len c,.int .i64 wd] w λe w'=>e=.returned (.func (.func 128) #[] #[.pointer (some ⟨w.heap.size,0,none⟩),.pointer (some ⟨w.heap.size+1,0,none⟩)])/\w'=(w.alloc (.cells #[.slice a len c] 84)).alloc (.cells #[.int .i64 wd] 3):=by
 have b:decide ((wd:Int) <1)=false:=jf (by omega)
 go_enter func83,ntmps83
 go_wp2_with fail
 go_ret
 exact⟨rfl,rfl⟩
theorem RQ{off wd:Nat}(h:0<wd)(D:m*wd<=c)(f:m*wd<=1000000)(w:World)(d b:Nat)(u:d<w.heap.size)(t:b<w.heap.size)(hcs:w.cell? ⟨d,0,none⟩=some (.slice (some ⟨g,off,none⟩) (m*wd) c))(B:w.cell? ⟨b,0,none⟩=some (.int .i64 wd)):
  Calls prog 110 #[.func (.func 128) #[] #[.pointer (some ⟨d,0,none⟩),.pointer (some ⟨b,0,none⟩)]] w λe w'=>∃v,e=.returned v/\gY w' w.heap.size v (pieces g off wd m)/\Below w.heap.size w w':=by
 have E:m<=1000000:=ax (Nat.le_mul_of_pos_right m h) f
 have G:SeqStopsK Fence.wide 4 prog 128 #[.pointer (some ⟨d,0,none⟩),.pointer (some ⟨b,0,none⟩)] (λx:SL=>#[sl x]) (Below w.heap.size) (λH=>H=pieces g off wd m)
   (λpre=>∃k,k<=m/\pre=pieces g off wd k) m w:=λl J i W z y I A n=>by
  exact RP 4 (by omega) l d b (w0:=w) h D f u t J i (λs X q F=>y s X _ none F ⟨rfl,rfl,rfl,aj _,λ_ _ _=>rfl⟩ (λr e=>by cases e)) (λpre x j C hl=>A pre x j C hl) W z hcs B n
 refine(Af _ _ (enters_of func128 (by kernel_rfl) rfl) E w jn G).mono ?_;rintro e w' ⟨v,xs,rfl,rfl,_,o,p⟩;exact⟨v,rfl,o,p⟩
end Runs
end Go.Proofs.YtndkohocgfmamaaGreatDoor
