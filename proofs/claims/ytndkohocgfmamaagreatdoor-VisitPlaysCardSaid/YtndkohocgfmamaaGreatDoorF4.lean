/- Part. -/
import Derived.Test.YtndkohocgfmamaaGreatDoorF0
import Derived.Test.YtndkohocgfmamaaGreatDoorF0H
namespace Go.Proofs.YtndkohocgfmamaaGreatDoor
namespace Heap
variable {α:Type}
def swap(f:Nat->α)(i j:Nat):Nat->α:=λk=>if k=i then f j else if k=j then f i else f k
theorem xK(f:Nat->α)(i j:Nat):swap f i j i=f j:=if_pos rfl
theorem FX(f:Nat->α)(i j:Nat):swap f i j j=f i:=by
 unfold swap
 by_cases h:j=i
 ·rw[if_pos h,h]
 ·rw[if_neg h,if_pos rfl]
variable {i j k n:Nat}
theorem pR(f:Nat->α)(c:k≠i)(d:k≠j):swap f i j k=f k:=by unfold swap;rw[if_neg c,if_neg d]
def row(f:Nat->α)(n:Nat):List α:=(List.range n).map f
theorem Aq(f:Nat->α)(n:Nat):row f (n+1)=row f n++ [f n]:=by simp[row,List.range_succ]
theorem Tq{f g:Nat->α}(h:∀k,k<n->f k=g k):row f n=row g n:=qI (λk c=>h k (List.mem_range.1 c))
theorem Rk(f:Nat->α)(n:Nat): (row f n).length=n:=by simp[row]
def put(f:Nat->α)(i:Nat)(v:α):Nat->α:=λk=>if k=i then v else f k
theorem rz(f:Nat->α)(i:Nat)(v:α):put f i v i=v:=if_pos rfl
theorem ku(f:Nat->α)(v:α)(h:k≠i):put f i v k=f k:=if_neg h
theorem Iu(f:Nat->α)(i:Nat)(v:α):∀n,i<n->(f i ::row (put f i v) n).Perm (v ::row f n):=by
 intro n
 induction n with
 |zero=>intro h;omega
 |succ n o=>
  intro h;rw[Aq,Aq]
  by_cases e:i=n
  ·subst e;rw[rz,Tq (λk q=>ku f v (by omega):∀k,k<i->put f i v k=f k)];have c: (f i ::(row f i++ [v])).Perm (f i ::v ::row f i):=List.Perm.cons _ (vB _ _);have d: (v ::(row f i++ [f i])).Perm (v ::f i ::row f i):=List.Perm.cons _ (vB _ _);exact(c.trans (List.Perm.swap _ _ _)).trans d.symm
  ·rw[ku f v (gL e)];have:=(o (by omega)).append_right [f n]
   simpa using this
theorem Tt(f:Nat->α)(i j:Nat):swap f i j=put (put f j (f i)) i (f j):=by
 funext k
 unfold swap put
 by_cases c:k=i
 ·simp[c]
 ·simp[c]
theorem FT(f:Nat->α)(h:i<n)(o:j<n): (row (swap f i j) n).Perm (row f n):=by
 rw[Tt];have c:=Iu (put f j (f i)) i (f j) n h;have d:=Iu f j (f i) n o
 have e:put f j (f i) i=f i:=by
  by_cases e:i=j
  ·subst e;exact rz _ _ _
  ·exact ku _ _ e
 rw[e]at c;exact(List.perm_cons _).1 (c.trans d)
def parent(c:Nat):Nat:=(c-1)/2
structure Ord(lt:α->α->Prop):Prop where
 asym:∀a b,lt a b->¬lt b a
 trans:∀a b c,¬lt b a->¬lt c b->¬lt c a
def Heap(lt:α->α->Prop)(f:Nat->α)(k n:Nat):Prop:=∀c,0<c->c<n->k<=parent c->¬lt (f c) (f (parent c))
structure Dn(lt:α->α->Prop)(f:Nat->α)(k n i:Nat):Prop where
 le:k<=i
 pairs:∀c,0<c->c<n->k<=parent c->parent c≠i->¬lt (f c) (f (parent c))
 Tv:i≠k->k<=parent i->∀c,0<c->c<n->parent c=i->¬lt (f c) (f (parent i))
theorem QS{lt:α->α->Prop}{f:Nat->α}(h:Heap lt f (k+1) n):Dn lt f k n k:=
 ⟨aj _,λc d hc e o=>h c d hc (by omega),λh=>absurd rfl h⟩
theorem ru{c:Nat}(h:0<c):parent c<c:=by unfold parent;omega
theorem FU{lt:α->α->Prop}{f:Nat->α}(h:Dn lt f k n i)(q:∀c,0<c->c<n->parent c=i->¬lt (f c) (f i)):Heap lt f k n:=λc d hc o=>by
 by_cases e:parent c=i
 ·rw[e];exact q c d hc e
 ·exact h.pairs c d hc o e
theorem QR{lt:α->α->Prop}(O:Ord lt){f:Nat->α}(h:Dn lt f k n i)(v:0<j)(y:j<n)(o:parent j=i)(hlt:lt (f j) (f i))(z:∀c,0<c->c<n->parent c=i->¬lt (f c) (f j)):Dn lt (swap f i j) k n j:=by
 have B:i<j:=by rw[<-o];exact ru v
 refine⟨by have:=h.le;omega,λc e hc w A=>?_,λC D c e hc q=>?_⟩
 ·have x:=ru e
  by_cases t:c=j
  ·subst t;rw[FX,o,xK];exact O.asym _ _ hlt
  ·by_cases u:c=i
   ·subst u;rw[xK,pR f (by omega) (by omega)]
    by_cases d:c=k
    ·omega
    ·exact h.Tv d w j v y o
   ·rw[pR f u t]
    by_cases d:parent c=i
    ·rw[d,xK];exact z c e hc d
    ·rw[pR f d A];exact h.pairs c e hc w d
 ·have x:=ru e;rw[o,xK,pR f (by omega) (by omega)];have:=h.pairs c e hc (by rw[q];have:=h.le;omega) (by rw[q];omega);rw[q]at this;exact this
theorem front{lt:α->α->Prop}(O:Ord lt){f:Nat->α}(h:Heap lt f 0 n):∀c,c<n->¬lt (f c) (f 0):=by
 intro c
 induction c using Nat.strongRecOn with
 |_ c o=>
  intro hc
  by_cases d:c=0
  ·subst d;intro hl;exact O.asym _ _ hl hl
  ·have e:=ru (Nat.pos_of_ne_zero d);exact O.trans _ _ _ (o _ e (by omega)) (h c (by omega) hc (aC _))
end Heap
namespace Merge
open Heap
abbrev B:=List UInt8
abbrev aS(l:List B):Prop:=l.Pairwise (·<=·)
def hlt(r s:List B):Prop:=∃a b,r.head? =some a/\s.head? =some b/\a<b
variable {s all out:List B}{n m:Nat}
theorem Tw{r:List B}{a b:B}(e:r.head? =some a)(o:s.head? =some b):hlt r s↔a<b:=by
 constructor
 ·rintro⟨a',q,c,d,h⟩;rw[e]at c;rw[o]at d;cases c;cases d;exact h
 ·exact λh=>⟨a,b,e,o,h⟩
abbrev Row:={r:List B // r≠[]}
def lt(r s:Row):Prop:=hlt r.1 s.1
def hd(r:Row):B:=r.1.head r.2
theorem wY(r:Row):r.1.head? =some (hd r):=List.head?_eq_some_head r.2
theorem lt_iff(r s:Row):lt r s↔hd r<hd s:=Tw (wY r) (wY s)
theorem ord:Ord lt where
 asym:=λa b h k=>by
  rw[lt_iff]at h k;exact absurd (List.le_of_lt k) (List.not_le.2 h)
 trans:=λa b c h k=>by
  rw[lt_iff,iM]at h k⊢;exact mE h k
variable {r:Row}{f g:Nat->Row}
theorem Tx(h:aS r.1):∀x∈r.1,hd r<=x:=λx c=>by
 obtain⟨l,hl⟩:=r
 cases l with
 |nil=>exact absurd rfl hl
 |cons a t=>
  rcases List.mem_cons.1 c with rfl|c
  ·exact List.le_refl _
  ·exact(eF.1 h).1 x c
def recs(f:Nat->Row)(n:Nat):List B:=((row f n).map Subtype.val).flatten
theorem Gd(h: (row f n).Perm (row g m)): (recs f n).Perm (recs g m):=(h.map _).flatten
structure Inv(all out:List B)(f:Nat->Row)(n:Nat):Prop where
 heap:Heap lt f 0 n
 rises:∀c,c<n->aS (f c).1
 up:aS out
 low:∀o∈out,∀x∈recs f n,o<=x
 same: (out++recs f n).Perm all
theorem xw{x:B}:x∈recs f n↔∃c,c<n/\x∈(f c).1:=by
 unfold recs row;simp only[List.mem_flatten,List.mem_map,List.mem_range]
 constructor
 ·rintro⟨l,⟨r,⟨c,hc,rfl⟩,rfl⟩,d⟩;exact⟨c,hc,d⟩
 ·rintro⟨c,hc,d⟩;exact⟨_,⟨_,⟨c,hc,rfl⟩,rfl⟩,d⟩
theorem least(h:Inv all out f n):∀x∈recs f n,hd (f 0)<=x:=λx d=>by
 obtain⟨c,hc,d⟩:=xw.1 d;have e:=front ord h.heap c hc;rw[lt_iff,iM]at e;exact mE e (Tx (h.rises c hc) x d)
theorem Iw(c:0<n):recs f n=(f 0).1++((List.range (n-1)).map (λk=>(f (k+1)).1)).flatten:=by
 obtain⟨m,rfl⟩:∃m,n=m+1:=⟨n-1,by omega⟩;unfold recs row;rw[List.range_succ_eq_map]
 simp[Function.comp_def]
theorem step(h:Inv all out f n)(t:Heap lt g 0 m)(v:∀c,c<m->aS (g c).1)(e: (hd (f 0)::recs g m).Perm (recs f n)):Inv all (out++ [hd (f 0)]) g m:=by
 have u:hd (f 0)∈recs f n:=e.mem_iff.1 (by simp);refine⟨t,v,?_,λo d x w=>?_,?_⟩
 ·refine gM.2 ⟨h.up,by simp,λa ha b hb=>?_⟩;rw[jE.1 hb];exact h.low a ha _ u
 ·have q:x∈recs f n:=e.mem_iff.1 (eD _ w);rcases List.mem_append.1 d with d|d
  ·exact h.low o d x q
  ·rw[jE.1 d];exact least h x q
 ·rw[List.append_assoc];exact(List.Perm.append_left out e).trans h.same
theorem Rh(c:0<n)(e: (f 0).1=hd (f 0)::r.1)(d: (row g n).Perm (row (put f 0 r) n)): (hd (f 0)::recs g n).Perm (recs f n):=by
 refine(List.Perm.cons _ (Gd d)).trans ?_;rw[Iw c,Iw c,rz,e]
 have: (λk=>(put f 0 r (k+1)).1)=λk=>(f (k+1)).1:=by
  funext k
  rw[ku f r (by omega)]
 rw[this];exact oN _
theorem Rc(d: (f 0).1= [hd (f 0)])(c: (f 0 ::row g n).Perm (row f (n+1))): (hd (f 0)::recs g n).Perm (recs f (n+1)):=by
 have h:=((c.map Subtype.val).flatten);rw[List.map_cons,List.flatten_cons,d]at h;exact h
theorem done(h:Inv all out f 0):aS out/\out.Perm all:=by
 have:=h.same;have e:recs f 0= []:=rfl;rw[e,List.append_nil]at this;exact⟨h.up,this⟩
theorem Au{a b:List B}(c:aS a)(d:aS b)(e:a.Perm b):a=b:=
 List.Perm.eq_of_pairwise (λ_ _ _ _ h k=>List.le_antisymm h k) c d e
theorem Rq(h:Inv all out f n)(q:aS s)(o:s.Perm all):out <+:s:=by
 obtain⟨t,d,u⟩:∃t:List B,t.Perm (recs f n)/\aS t:=⟨(recs f n).mergeSort (λx y=>decide (x<=y)),vv _ _,by
  have:=List.pairwise_mergeSort (le:=λx y:B=>decide (x<=y)) (λa b c h k=>by simp at h k⊢;exact mE h k) (λa b=>by simp;exact List.le_total a b) (recs f n);exact this.imp (λh=>by simpa using h)⟩
 have e:out++t=s:=Au (gM.2 ⟨h.up,u,λa ha b hb=>h.low a ha b (d.mem_iff.1 hb)⟩) q (((List.Perm.append_left out d).trans h.same).trans o.symm);exact⟨t,e⟩
end Merge
namespace aX
open Merge
def bB:Nat->Nat->List UInt8
 |0,_=>[]
 |m+1,n=>UInt8.ofNat (n/256^m)::bB m n
theorem gJ(m n:Nat): (bB m n).length=m:=by
 induction m with
 |zero=>rfl
 |succ m c=>simp[bB,c]
variable {a b n k:Nat}
theorem Ia(h:a%256=b%256):UInt8.ofNat a=UInt8.ofNat b:=by
 apply UInt8.toNat_inj.1
 simpa using h
theorem xL(m:Nat):∀(n k:Nat),m<=k->bB m (n%256^k)=bB m n:=by
 induction m with
 |zero=>intro n k _;rfl
 |succ m c=>
  intro n k e;unfold bB;rw[c n k (by omega)]
  congr 1
  apply Ia
  obtain⟨d,rfl⟩:∃d,k=m+(d+1):=⟨k-m-1,by omega⟩;rw[Nat.pow_add,Nat.mod_mul_right_div_self,iJ,Nat.mod_mul_left_mod]
theorem Iy(m:Nat):∀(a b:Nat),a<b->b<256^m->∀s t:List UInt8,bB m a++s<bB m b++t:=by
 induction m with
 |zero=>intro a b h hb;simp at hb;omega
 |succ m u=>
  intro a b h hb s t;have d:0<256^m:=Nat.pow_pos (by decide)
  have q:b/256^m<256:=by
   rw[qL d,iy,<-iJ];exact hb
  have w:a/256^m<=b/256^m:=Nat.div_le_div_right (kF h);unfold bB;rw[List.cons_append,List.cons_append,List.cons_lt_cons_iff]
  by_cases c:a/256^m=b/256^m
  ·right
   refine⟨by rw[c],?_⟩;rw[<-xL m a m jn,<-xL m b m jn];refine u _ _ ?_ (fJ _ d) s t;have e:=Nat.div_add_mod a (256^m);have v:=Nat.div_add_mod b (256^m);rw[c]at e
   omega
  ·left
   have o:a/256^m<b/256^m:=by omega
   rw[UInt8.lt_iff_toNat_lt,UInt8.toNat_ofNat',UInt8.toNat_ofNat'];simp only[Nat.reducePow];rw[oP q,oP (by omega)];exact o
def bO:List UInt8->Nat->Nat
 | [],n=>n
 |c ::l,n=>bO l (256*n+c.toNat)
theorem Ip(l m:List UInt8)(n:Nat):bO (l++m) n=bO m (bO l n):=by
 induction l generalizing n with
 |nil=>rfl
 |cons c l d=>exact d _
theorem xM(m:Nat):∀(n a:Nat),n<256^m->bO (bB m n) a=a*256^m+n:=by
 induction m with
 |zero=>intro n a h;simp at h;subst h;simp[bB,bO]
 |succ m e=>
  intro n a h;have c:0<256^m:=Nat.pow_pos (by decide)
  have d:n/256^m<256:=by
   rw[qL c,iy,<-iJ];exact h
  unfold bB bO;rw[<-xL m n m jn,e _ _ (fJ _ c),UInt8.toNat_ofNat'];simp only[Nat.reducePow];rw[oP d,Nat.add_mul,iJ];have o:=Nat.div_add_mod n (256^m);rw[iy 256 a,mG a 256,iy 256 (256^m),iy (n/256^m)]
  omega
theorem Bf{m:Nat}(ha:a<256^m)(hb:b<256^m)(h:bB m a=bB m b):a=b:=by
 have c:=xM m a 0 ha;have d:=xM m b 0 hb;rw[h]at c
 omega
theorem SH(a b:Nat)(hb:b<4294967296):bB 4 a++bB 4 b=bB 8 (a*4294967296+b):=by
 have e:∀(j:Nat),j<4->UInt8.ofNat ((a*4294967296+b)/256^(4+j))=UInt8.ofNat (a/256^j):=λj _=>by
  congr 1
  rw[Nat.pow_add,<-Nat.div_div_eq_div_mul,show(256:Nat)^4=4294967296 from rfl,iy a,Nat.mul_add_div (by decide),Nat.div_eq_of_lt hb]
  simp
 have f:bB 4 b=bB 4 (a*4294967296+b):=by
  rw[<-xL 4 (a*4294967296+b) 4 jn,show(256:Nat)^4=4294967296 from rfl,iy,Nat.mul_add_mod,oP hb]
 rw[f];show [UInt8.ofNat (a/256^3),UInt8.ofNat (a/256^2),UInt8.ofNat (a/256^1),UInt8.ofNat (a/256^0)]++_= [UInt8.ofNat ((a*4294967296+b)/256^(4+3)),UInt8.ofNat ((a*4294967296+b)/256^(4+2)),UInt8.ofNat ((a*4294967296+b)/256^(4+1)),UInt8.ofNat ((a*4294967296+b)/256^(4+0))]++bB 4 (a*4294967296+b);rw[e 3 (by decide),e 2 (by decide),e 1 (by decide),e 0 (by decide)]
def av:Nat:=18446744073709551615
def sat(n:Nat):Nat:=if n<=av then n else av
theorem uN(n:Nat):sat n<=av:=by unfold sat;split <;> omega
theorem uO(h:n<=av):sat n=n:=by unfold sat;rw[if_pos h]
theorem xN(a b:Nat):sat (sat a+b)=sat (a+b):=by
 unfold sat
 split <;> split <;> (try split) <;> omega
abbrev KC:=Nat×Nat
def ai(p:KC):List UInt8:=bB 8 p.1++bB 8 p.2
theorem dZ(p:KC): (ai p).length=16:=by unfold ai;rw[jL,gJ,gJ]
def iI(p:KC):Prop:=p.1<=av/\0<p.2/\p.2<=av
theorem p64(h:n<=av):n<256^8:=by
 have: (256:Nat)^8=18446744073709551616:=by decide
 unfold av at h
 omega
def tot(l:List KC)(k:Nat):Nat:=((l.filter (λp=>p.1==k)).map Prod.snd).sum
theorem iX(k:Nat):tot [] k=0:=rfl
theorem ic(p:KC)(l:List KC)(k:Nat):tot (p ::l) k=(if p.1=k then p.2 else 0)+tot l k:=by
 unfold tot;rw[jF]
 by_cases h:p.1=k
 ·simp[h]
 ·have: (p.1==k)=false:=by simpa using h
  simp[this,h]
theorem kD(l m:List KC)(k:Nat):tot (l++m) k=tot l k+tot m k:=by
 unfold tot;rw[oK,aZ,List.sum_append]
variable {l H V R out:List KC}{p:KC}
theorem Iz{m:List KC}(h:l.Perm m)(k:Nat):tot l k=tot m k:=by
 unfold tot;exact((h.filter _).map _).sum_nat
theorem IA(h:∀p∈l,0<p.2)(k:Nat):0<tot l k↔∃p∈l,p.1=k:=by
 induction l with
 |nil=>simp[iX]
 |cons p l c=>
  have c:=c (λq hq=>h q (eD _ hq));have t:=h p (by simp);rw[ic]
  constructor
  ·intro d
   by_cases e:p.1=k
   ·exact⟨p,by simp,e⟩
   ·rw[if_neg e,Nat.zero_add]at d;obtain⟨q,hq,o⟩:=c.1 d;exact⟨q,by simp[hq],o⟩
  ·rintro⟨q,hq,e⟩;rcases List.mem_cons.1 hq with rfl|hq
   ·rw[if_pos e];omega
   ·have:=c.2 ⟨q,hq,e⟩
    omega
def fI(out:List KC)(p:KC):List KC:=
 match out.getLast? with
 |some q=>if q.1=p.1 then out.dropLast++ [(q.1,sat (q.2+p.2))]else out++ [p]
 |none=>[p]
def merged(l:List KC):List KC:=l.foldl fI []
theorem Bp(l:List KC)(p:KC):merged (l++ [p])=fI (merged l) p:=by unfold merged;rw[kG];rfl
theorem uP:merged []= []:=rfl
theorem nE(o:List KC)(q p:KC):fI (o++ [q]) p=if q.1=p.1 then o++ [(q.1,sat (q.2+p.2))]else o++ [q]++ [p]:=by
 unfold fI;rw[List.getLast?_append]
 simp
theorem uQ(p:KC):fI [] p= [p]:=rfl
structure IB(l out:List KC):Prop where
 rises:out.Pairwise (λp q=>p.1<q.1)
 some_:∀k,(∃p∈out,p.1=k)↔∃p∈l,p.1=k
 sum:∀p∈out,p.2=sat (tot l p.1)
theorem Bq:∀(l:List KC),l.Pairwise (λp q=>p.1<=q.1)->(∀p∈l,p.2<=av)->IB l (merged l)/\∀q,(merged l).getLast? =some q->(∃p∈l,p.1=q.1)/\∀p∈l,p.1<=q.1:=by
 intro l
 suffices h:∀(n:Nat) (l:List KC),l.length=n->l.Pairwise (λp q=>p.1<=q.1)->(∀p∈l,p.2<=av)->IB l (merged l)/\∀q,(merged l).getLast? =some q->(∃p∈l,p.1=q.1)/\∀p∈l,p.1<=q.1 from h l.length l rfl
 clear l;intro n
 induction n with
 |zero=>
  intro l hl _ _;have:l= []:=iw hl;subst this;exact⟨⟨by simp[uP],by simp[uP],by simp[uP]⟩,by simp[uP]⟩
 |succ n Q=>
  intro l hl J D;obtain⟨t,p,rfl⟩:∃t p,l=t++ [p]:=⟨l.dropLast,l.getLast (by intro e;rw[e]at hl;simp at hl),(List.dropLast_concat_getLast _).symm⟩;have F:t.length=n:=by simpa using hl
  obtain⟨L,_,z⟩:=gM.1 J;have z:∀a∈t,a.1<=p.1:=λa ha=>z a ha p (by simp)
  have P:∀a∈t,a.2<=av:=λa ha=>D a (by simp[ha])
  have O:p.2<=av:=D p (by simp);obtain⟨⟨y,v,x⟩,A⟩:=Q t F L P;rw[Bp];obtain⟨o,I⟩:=jl (merged t);rw[<-I]at y v x A⊢;rcases nK o with rfl|⟨S,q,rfl⟩
  ·
   have N:t= []:=by
    rcases t with _|⟨a,t⟩
    ·rfl
    ·obtain⟨b,hb,_⟩:=(v a.1).2 ⟨a,by simp,rfl⟩;cases hb
   subst N;rw[uQ];refine⟨⟨by simp,by simp,λa ha=>?_⟩,λa ha=>?_⟩
   ·have e:a=p:=by simpa using ha
    subst e
    simp[ic,iX,uO O]
   ·have e:p=a:=by simpa using ha
    subst e;refine⟨⟨p,by simp,rfl⟩,λb hb=>?_⟩;have d:b=p:=by simpa using hb
    rw[d];exact aj _
  ·rw[nL]at y v x A⊢;obtain⟨⟨r,M,T⟩,B⟩:=A q (by simp);rw[nE];obtain⟨E,_,w⟩:=gM.1 y;have w:∀a∈S,a.1<q.1:=λa ha=>w a ha q (by simp)
   by_cases e:q.1=p.1
   ·rw[if_pos e];refine⟨⟨?_,λk=>?_,λa ha=>?_⟩,λa ha=>?_⟩
    ·refine gM.2 ⟨E,by simp,λa ha b hb=>?_⟩;have d:b=(q.1,sat (q.2+p.2)):=by simpa using hb
     rw[d];exact w a ha
    ·constructor
     ·rintro⟨a,ha,rfl⟩;rcases List.mem_append.1 ha with ha|ha
      ·obtain⟨b,hb,u⟩:=(v a.1).1 ⟨a,by simp[ha],rfl⟩;exact⟨b,by simp[hb],u⟩
      ·have c:a=(q.1,sat (q.2+p.2)):=by simpa using ha
       exact⟨p,by simp,by rw[c,e]⟩
     ·rintro⟨b,hb,rfl⟩;rcases List.mem_append.1 hb with hb|hb
      ·obtain⟨a,ha,u⟩:=(v b.1).2 ⟨b,hb,rfl⟩;rcases List.mem_append.1 ha with ha|ha
       ·exact⟨a,by simp[ha],u⟩
       ·have c:a=q:=by simpa using ha
        exact⟨(q.1,sat (q.2+p.2)),by simp,by rw[<-u,c]⟩
      ·have d:b=p:=by simpa using hb
       exact⟨(q.1,sat (q.2+p.2)),by simp,by rw[d];exact e⟩
    ·rw[kD,ic,iX];rcases List.mem_append.1 ha with ha|ha
     ·have:=w a ha;rw[if_neg (by omega),x a (by simp[ha])]
      simp
     ·have c:a=(q.1,sat (q.2+p.2)):=by simpa using ha
      rw[c];show sat (q.2+p.2)=sat (tot t q.1+((if p.1=q.1 then p.2 else 0)+0));rw[if_pos e.symm,x q (by simp),xN]
      rfl
    ·have c: (q.1,sat (q.2+p.2))=a:=by simpa using ha
     rw[<-c];refine⟨⟨p,by simp,e.symm⟩,λb hb=>?_⟩;rcases List.mem_append.1 hb with hb|hb
     ·exact B b hb
     ·have d:b=p:=by simpa using hb
      rw[d];exact Nat.le_of_eq e.symm
   ·rw[if_neg e]
    have hlt:q.1<p.1:=by
     have:=z r M
     omega
    have C:∀b∈t,b.1≠p.1:=λb hb d=>by
     have:=B b hb
     omega
    refine⟨⟨?_,λk=>?_,λa ha=>?_⟩,λa ha=>?_⟩
    ·refine gM.2 ⟨y,by simp,λa ha b hb=>?_⟩;have d:b=p:=by simpa using hb
     rw[d];rcases List.mem_append.1 ha with ha|ha
     ·have:=w a ha;omega
     ·have c:a=q:=by simpa using ha
      rw[c];exact hlt
    ·constructor
     ·rintro⟨a,ha,rfl⟩;rcases List.mem_append.1 ha with ha|ha
      ·obtain⟨b,hb,u⟩:=(v a.1).1 ⟨a,ha,rfl⟩;exact⟨b,by simp[hb],u⟩
      ·have c:a=p:=by simpa using ha
       exact⟨p,by simp,by rw[c]⟩
     ·rintro⟨b,hb,rfl⟩;rcases List.mem_append.1 hb with hb|hb
      ·obtain⟨a,ha,u⟩:=(v b.1).2 ⟨b,hb,rfl⟩;exact⟨a,List.mem_append_left _ ha,u⟩
      ·have d:b=p:=by simpa using hb
       exact⟨p,by simp,by rw[d]⟩
    ·rw[kD,ic,iX];rcases List.mem_append.1 ha with ha|ha
     ·have G:p.1≠a.1:=λc=>by
       obtain⟨b,hb,u⟩:=(v a.1).1 ⟨a,ha,rfl⟩;exact C b hb (by rw[u,c])
      rw[if_neg G,x a ha]
      simp
     ·have c:a=p:=by simpa using ha
      rw[c,if_pos rfl]
      have:tot t p.1=0:=by
       unfold tot;rw[List.filter_eq_nil_iff.2 (λb hb=>by simpa using C b hb)]
       rfl
      rw[this,uO (by omega)]
      omega
    ·have c:p=a:=by simpa using ha
     rw[<-c];refine⟨⟨p,by simp,rfl⟩,λb hb=>?_⟩;rcases List.mem_append.1 hb with hb|hb
     ·exact z b hb
     ·have d:b=p:=by simpa using hb
      rw[d];exact aj _
structure Held(H:List KC):Prop where
 ok:∀p∈H,iI p
 one:H.Pairwise (λp q=>p.1≠q.1)
theorem uM:Held []:=⟨λ_ h=>(by cases h),List.Pairwise.nil⟩
theorem xH(h:∀p∈l,p.1≠k):tot l k=0:=by
 unfold tot;rw[List.filter_eq_nil_iff.2 (λp c=>by simpa using h p c)]
 rfl
theorem Held.tot{H:List KC}(h:Held H){p:KC}(c:p∈H):tot H p.1=p.2:=by
 obtain⟨e,o⟩:=h;clear e
 revert c
 induction H with
 |nil=>intro c;cases c
 |cons a t v=>
  intro c;obtain⟨d,u⟩:=eF.1 o;rw[ic];rcases List.mem_cons.1 c with rfl|c
  ·rw[if_pos rfl,xH (λq hq=>(d q hq).symm)]
   rfl
  ·rw[if_neg (d p c),v u c,Nat.zero_add]
theorem Held.mem(h:Held H)(d:aX.tot H k≠0): (k,aX.tot H k)∈H:=by
 obtain⟨p,c,rfl⟩:=(IA (λp c=>(h.ok p c).2.1) k).1 (by omega);rw[h.tot c];exact c
theorem Held.Bl(h:Held H)(k:Nat):aX.tot H k<=av:=by
 by_cases c:aX.tot H k=0
 ·rw[c];exact aC _
 ·exact(h.ok _ (h.mem c)).2.2
def fH(H:List KC)(p:KC):List KC:=H.filter (λq=>q.1 !=p.1)++ [(p.1,sat (tot H p.1+p.2))]
theorem Ty(H:List KC)(k k':Nat):tot (H.filter (λq=>q.1 !=k)) k'=if k'=k then 0 else tot H k':=by
 induction H with
 |nil=>simp[iX]
 |cons a t d=>
  rw[jF]
  by_cases e:a.1=k
  ·have: (a.1 !=k)=false:=by simpa using e
   rw[this];simp only[Bool.false_eq_true,if_false];rw[d,ic]
   by_cases c:k'=k
   ·rw[if_pos c,if_pos c]
   ·rw[if_neg c,if_neg c,if_neg (by omega),Nat.zero_add]
  ·have: (a.1 !=k)=true:=by simpa using e
   rw[this];simp only[if_true];rw[ic,ic,d]
   by_cases c:k'=k
   ·rw[if_pos c,if_pos c,if_neg (by omega)]
   ·rw[if_neg c,if_neg c]
theorem Bg(H:List KC)(p:KC)(k:Nat):tot (fH H p) k=if k=p.1 then sat (tot H p.1+p.2)else tot H k:=by
 unfold fH;rw[kD,Ty,ic,iX]
 by_cases e:k=p.1
 ·rw[if_pos e,if_pos e,if_pos e.symm];omega
 ·rw[if_neg e,if_neg e,if_neg (λh=>e h.symm)];omega
theorem Held.put(h:Held H)(c:iI p):Held (fH H p):=by
 unfold fH;refine⟨λq hq=>?_,gM.2 ⟨h.one.filter _,by simp,λa ha b hb=>?_⟩⟩
 ·rcases List.mem_append.1 hq with hq|hq
  ·exact h.ok q (iA.1 hq).1
  ·have e:q=(p.1,sat (aX.tot H p.1+p.2)):=by simpa using hq
   rw[e];refine⟨c.1,?_,uN _⟩;show 0<sat (aX.tot H p.1+p.2);have:=c.2.1;unfold sat
   split
   ·omega
   ·decide
 ·have e:b=(p.1,sat (aX.tot H p.1+p.2)):=by simpa using hb
  rw[e];have:=(iA.1 ha).2
  simpa using this
theorem Tz(h:H.Pairwise (λp q=>p.1≠q.1))(k:Nat): (H.filter (λq=>q.1 !=k)).length+(if(∃p∈H,p.1=k)then 1 else 0)=H.length:=by
 induction H with
 |nil=>simp
 |cons a t d=>
  obtain⟨w,x⟩:=eF.1 h;have d:=d x;rw[jF]
  by_cases e:a.1=k
  ·have hb: (a.1 !=k)=false:=by simpa using e
   rw[hb];have y:¬∃p∈t,p.1=k:=fun⟨p,c,o⟩=>w p c (by omega)
   rw[if_neg y]at d;have z:∃p∈a ::t,p.1=k:=⟨a,by simp,e⟩;rw[if_pos z,List.length_cons]
   simpa using d
  ·have hb: (a.1 !=k)=true:=by simpa using e
   rw[hb];simp only[if_true,List.length_cons]
   have v: (∃p∈a ::t,p.1=k)↔∃p∈t,p.1=k:=by
    constructor
    ·rintro⟨p,c,o⟩;rcases List.mem_cons.1 c with rfl|c
     ·exact absurd o e
     ·exact⟨p,c,o⟩
    ·rintro⟨p,c,o⟩;exact⟨p,by simp[c],o⟩
   by_cases u:∃p∈t,p.1=k
   ·rw[if_pos u]at d;rw[if_pos (v.2 u)]
    omega
   ·rw[if_neg u]at d;rw[if_neg (λh=>u (v.1 h))]
    omega
theorem Tc(h:Held H)(p:KC): (fH H p).length=H.length+(if tot H p.1=0 then 1 else 0):=by
 have d:=Tz h.one p.1;have e:=IA (λp o=>(h.ok p o).2.1) p.1;unfold fH;rw[jL];simp only[List.length_cons,List.length_nil]
 by_cases c:∃q∈H,q.1=p.1
 ·have:=e.2 c;rw[if_pos c]at d;rw[if_neg (by omega)]
  omega
 ·have:¬0<tot H p.1:=λh=>c (e.1 h)
  rw[if_neg c]at d;rw[if_pos (by omega)]
  omega
structure nG(V R:List KC):Prop where
 ok:∀p∈R,iI p
 sum:∀k,sat (tot R k)=sat (tot V k)
 pos:∀k,0<tot R k↔0<tot V k
theorem nG.perm{R':List KC}(h:nG V R)(c:R'.Perm R):nG V R':=
 ⟨λp d=>h.ok p (c.mem_iff.1 d),λk=>by rw[Iz c,h.sum],λk=>by rw[Iz c,h.pos]⟩
theorem nG.none(h:nG V R)(k:Nat):nG (V++ [(k,0)]) R:=by
 have e:∀k',tot (V++ [(k,0)]) k'=tot V k':=λk'=>by
  rw[kD,ic,iX]
  split <;> omega
 exact⟨h.ok,λk'=>by rw[e,h.sum],λk'=>by rw[e,h.pos]⟩
theorem nG.put{V H R:List KC}(h:nG V (H++R))(o:Held H){p:KC}(d:iI p):nG (V++ [p]) (fH H p++R):=by
 refine⟨λq hq=>?_,λk=>?_,λk=>?_⟩
 ·rcases List.mem_append.1 hq with hq|hq
  ·exact(o.put d).ok q hq
  ·exact h.ok q (List.mem_append_right _ hq)
 ·have c:=h.sum k;rw[kD]at c;rw[kD,Bg,kD,ic,iX]
  by_cases e:k=p.1
  ·rw[if_pos e,if_pos e.symm,xN,<-e,Nat.add_zero,<-xN (tot V k) p.2,<-c,xN]
   congr 1
   omega
  ·rw[if_neg e,if_neg (λh=>e h.symm)]
   simpa using c
 ·have c:=h.pos k;rw[kD]at c;rw[kD,Bg,kD,ic,iX];have t:=d.2.1
  by_cases e:k=p.1
  ·rw[if_pos e,if_pos e.symm]
   have:0<sat (tot H p.1+p.2):=by
    unfold sat
    split
    ·omega
    ·decide
   constructor <;> intro <;> omega
  ·rw[if_neg e,if_neg (λh=>e h.symm)]
   simpa using c
theorem Ii{α:Type}[DecidableEq α]{l m:List α}(hl:l.Nodup)(c:m.Nodup)(h:∀x,x∈l↔x∈m):l.Perm m:=by
 rw[List.perm_iff_count];intro a;rw[hl.count,c.count]
 simp[h a]
theorem Held.nodup(h:Held H):H.Nodup:=h.one.imp (fun{a b} hne e=>hne (by rw[e]))
structure rJ(V out:List KC):Prop where
 rises:out.Pairwise (λp q=>p.1<q.1)
 some_:∀k,(∃p∈out,p.1=k)↔0<tot V k
 sum:∀p∈out,p.2=sat (tot V p.1)
 ok:∀p∈out,iI p
def rM(V:List KC)(j:Nat):Bool:=
 match V[j]? with
 |some p=>decide (0<p.2)&&decide (tot (V.take j) p.1=0)
 |none=>false
def xO(V:List KC):Nat->Nat
 |0=>0
 |j+1=>xO V j+(if rM V j=true then 1 else 0)
theorem TA(V:List KC):∀j,j<=V.length->∃c:List Nat,c.Nodup/\c.length=xO V j/\∀k,k∈c↔0<tot (V.take j) k:=by
 intro j
 induction j with
 |zero=>intro _;exact⟨[],oM,rfl,λk=>by simp[iX]⟩
 |succ j z=>
  intro A;obtain⟨c,o,q,d⟩:=z (by omega);obtain⟨p,u⟩:∃p,V[j]? =some p:=⟨V[j],jg (by omega)⟩;have y:V.take (j+1)=V.take j++ [p]:=by rw[bF,u];rfl
  have v:∀k,tot (V.take (j+1)) k=tot (V.take j) k+(if p.1=k then p.2 else 0):=λk=>by
   rw[y,kD,ic,iX,Nat.add_zero]
  have t:rM V j=(decide (0<p.2)&&decide (tot (V.take j) p.1=0)):=by unfold rM;rw[u]
  unfold xO
  by_cases hb:rM V j=true
  ·rw[if_pos hb];rw[t]at hb
   simp at hb
   refine⟨p.1 ::c,oL.2 ⟨λx=>by have:=(d p.1).1 x;omega,o⟩,by simp[q],λk=>?_⟩;rw[v k,List.mem_cons,d k]
   by_cases e:p.1=k
   ·rw[if_pos e]
    constructor
    ·intro _;omega
    ·intro _;exact .inl e.symm
   ·rw[if_neg e]
    constructor
    ·rintro(h|h)
     ·exact absurd h.symm e
     ·omega
    ·intro h;right;omega
  ·rw[if_neg hb];rw[t]at hb
   simp at hb
   refine⟨c,o,by simp[q],λk=>?_⟩;rw[v k,d k]
   by_cases e:p.1=k
   ·rw[if_pos e]
    constructor
    ·intro h;omega
    ·intro h
     by_cases w:0<p.2
     ·have:=hb w;rw[e]at this
      omega
     ·omega
   ·rw[if_neg e,Nat.add_zero]
theorem rJ.TB(h:rJ V out): (out.map Prod.fst).Nodup:=kJ.2 (h.rises.imp (fun{a b} hlt e=>by omega))
theorem rJ.pairs(h:rJ V out):xO V V.length=out.length:=by
 obtain⟨q,d,o,c⟩:=TA V V.length jn;rw[lC]at c
 have e:=Ii d h.TB (λk=>by
  rw[c k,<-h.some_ k,List.mem_map])
 have:=e.length_eq;rw[jP]at this
 omega
theorem rJ.met(h:rJ V out){j:Nat}(d:V[j]? =some p)(c:rM V j=true): (p.1,sat (tot V p.1))∈out:=by
 have u:0<p.2:=by
  unfold rM at c;rw[d]at c
  simp at c
  exact c.1
 have o:0<tot V p.1:=by
  obtain⟨s,t,e⟩:=rP (jM d);rw[e,kD,ic,if_pos rfl]
  omega
 obtain⟨q,hq,e⟩:=(h.some_ p.1).2 o;have:q=(p.1,sat (tot V p.1)):=Prod.ext e (by rw[h.sum q hq,e]);rw[<-this];exact hq
end aX
namespace Vp
open Merge aX
def bD:List KC->KC->List KC
 | [],p=>[p]
 |q ::r,p=>if q.1=p.1 then(q.1,sat (q.2+p.2))::r else q ::bD r p
theorem IC(H:List KC)(p:KC): (bD H p).length<=H.length+1:=by
 induction H with
 |nil=>simp[bD]
 |cons q r c=>
  unfold bD
  split
  ·simp
  ·simp only[List.length_cons];omega
variable {H r:List KC}
theorem TD{p:KC}(h:∀q∈H,q.1<=av/\q.2<=av)(c:p.1<=av/\p.2<=av):∀q∈bD H p,q.1<=av/\q.2<=av:=by
 induction H with
 |nil=>intro q hq;rw[jE.1 hq];exact c
 |cons a r d=>
  unfold bD
  split
  ·intro q hq;rcases List.mem_cons.1 hq with rfl|hq
   ·exact⟨(h a qG).1,uN _⟩
   ·exact h q (eD _ hq)
  ·intro q hq;rcases List.mem_cons.1 hq with rfl|hq
   ·exact h q qG
   ·exact d (λq hq=>h q (eD _ hq)) q hq
theorem Held.tail{q:KC}(h:Held (q ::r)):Held r/\∀a∈r,q.1≠a.1:=by
 obtain⟨c,d⟩:=h;obtain⟨e,o⟩:=eF.1 d;exact⟨⟨λp t=>c p (eD _ t),o⟩,e⟩
theorem IE(h:Held H)(p:KC)(t:iI p): (bD H p).Perm (fH H p):=by
 induction H with
 |nil=>
  unfold bD fH;simp only[List.filter_nil,List.nil_append,iX,Nat.zero_add];rw[uO t.2.2]
 |cons q r u=>
  obtain⟨o,d⟩:=Held.tail h;unfold bD fH
  by_cases e:q.1=p.1
  ·rw[if_pos e,List.filter_cons_of_neg (by simp[e]),ic,if_pos e,xH (λa ha c=>d a ha (by rw[e,c])),Nat.add_zero,vz.2 (λa ha=>by have:=d a ha;rw[e]at this;simpa using λc=>this c.symm),e];exact(vB _ _).symm
  ·rw[if_neg e,List.filter_cons_of_pos (by simpa using e),ic,if_neg e,Nat.zero_add,List.cons_append];exact(u o).cons q
theorem TF(q p:KC)(c:r≠[]):fI (q ::r) p=q ::fI r p:=by
 rcases nK r with rfl|⟨d,z,rfl⟩
 ·exact absurd rfl c
 ·rw[nL,<-List.cons_append,nE,nE]
  split <;> simp
theorem IG(p:KC):∀o:List KC,o.Pairwise (λa b=>a.1<b.1)->(∀q∈o,q.1<=p.1)->bD o p=fI o p
 | [],_,_=>rfl
 |q ::r,h,hk=>by
  obtain⟨t,u⟩:=eF.1 h
  by_cases c:r= []
  ·subst c;have:=nE [] q p;rw[List.nil_append]at this;rw[this];simp only[bD]
   split <;> simp
  ·obtain⟨z,d⟩:=List.exists_mem_of_ne_nil r c
   have e:q.1≠p.1:=by
    have:=t z d;have:=hk z (eD _ d)
    omega
   rw[TF q p c];unfold bD;rw[if_neg e,IG p r u (λa ha=>hk a (eD _ ha))]
theorem II(K:List KC)(h:K.Pairwise (λp q=>p.1<=q.1))(c:∀p∈K,p.2<=av):∀i,i<=K.length->(K.take i).foldl bD []=merged (K.take i)
 |0,_=>by simp[uP]
 |i+1,hi=>by
  have u:=II K h c i (by omega);obtain⟨p,t⟩:∃p,K[i]? =some p:=⟨_,jg (by omega)⟩;have o:K.take (i+1)=K.take i++ [p]:=by rw[bF,t];rfl
  rw[o,kG,u,Bp];have d:=h.sublist (List.take_sublist (i+1) K);rw[o]at d;obtain⟨v,-,w⟩:=gM.1 d;obtain⟨⟨x,m2,y⟩,-⟩:=Bq (K.take i) v (λq hq=>c q (rW hq));refine IG p _ x (λq hq=>?_);obtain⟨a,ha,e⟩:=(m2 q.1).1 ⟨q,hq,rfl⟩;rw[<-e];exact w a ha p (by simp)
theorem uR(l:List KC): (merged l).length<=l.length:=by
 have h:∀(l o:List KC),(l.foldl fI o).length<=o.length+l.length:=by
  intro l
  induction l with
  |nil=>intro o;simp
  |cons p t c=>
   intro o;have d:=c (fI o p)
   have e: (fI o p).length<=o.length+1:=by
    rcases nK o with rfl|⟨u,q,rfl⟩
    ·rw[uQ];simp
    ·rw[nL,nE]
     split <;> simp
   simp only[List.foldl_cons,List.length_cons]
   omega
 have:=h l []
 simpa[merged]using this
end Vp
end Go.Proofs.YtndkohocgfmamaaGreatDoor
