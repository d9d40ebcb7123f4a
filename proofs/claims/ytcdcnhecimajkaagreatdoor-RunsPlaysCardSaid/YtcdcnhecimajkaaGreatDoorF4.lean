/- Part. -/
import Derived.Test.YtcdcnhecimajkaaGreatDoorF0
import Derived.Test.YtcdcnhecimajkaaGreatDoorF0H
namespace Go.Proofs.YtcdcnhecimajkaaGreatDoor
namespace Heap
variable {α:Type}
def swap (f:Nat->α) (i j:Nat):Nat->α:=λk=>if k=i then f j else if k=j then f i else f k
theorem swap_l (f:Nat->α) (i j:Nat):swap f i j i=f j:=if_pos rfl
theorem swap_r (f:Nat->α) (i j:Nat):swap f i j j=f i:=by
 unfold swap
 by_cases h:j=i
 ·rw[if_pos h,h]
 ·rw[if_neg h,if_pos rfl]
theorem swap_o (f:Nat->α) {i j k:Nat} (h1:k≠i) (h2:k≠j):swap f i j k=f k:=by unfold swap;rw[if_neg h1,if_neg h2]
def row (f:Nat->α) (n:Nat):List α:=(List.range n).map f
theorem row_succ (f:Nat->α) (n:Nat):row f (n+1)=row f n++ [f n]:=by simp[row,List.range_succ]
theorem row_congr {f g:Nat->α} {n:Nat} (h:∀k,k<n->f k=g k):row f n=row g n:=List.map_congr_left (λk hk=>h k (List.mem_range.1 hk))
theorem row_length (f:Nat->α) (n:Nat): (row f n).length=n:=by simp[row]
def put (f:Nat->α) (i:Nat) (v:α):Nat->α:=λk=>if k=i then v else f k
theorem put_same (f:Nat->α) (i:Nat) (v:α):put f i v i=v:=if_pos rfl
theorem put_other (f:Nat->α) {i k:Nat} (v:α) (h:k≠i):put f i v k=f k:=if_neg h
theorem row_put (f:Nat->α) (i:Nat) (v:α):∀n,i<n->(f i ::row (put f i v) n).Perm (v ::row f n):=by
 intro n
 induction n with
 |zero=>intro h;omega
 |succ n ih=>
  intro h;rw[row_succ,row_succ]
  by_cases e:i=n
  ·subst e;rw[put_same,row_congr (λk hk=>put_other f v (by omega):∀k,k<i->put f i v k=f k)];have h1: (f i ::(row f i++ [v])).Perm (f i ::v ::row f i):=List.Perm.cons _ (List.perm_append_singleton _ _);have h2: (v ::(row f i++ [f i])).Perm (v ::f i ::row f i):=List.Perm.cons _ (List.perm_append_singleton _ _);exact(h1.trans (List.Perm.swap _ _ _)).trans h2.symm
  ·rw[put_other f v (Ne.symm e)];have:=(ih (by omega)).append_right [f n]
   simpa using this
theorem swap_puts (f:Nat->α) (i j:Nat):swap f i j=put (put f j (f i)) i (f j):=by
 funext k
 unfold swap put
 by_cases h1:k=i
 ·simp[h1]
 ·simp[h1]
theorem row_swap (f:Nat->α) {i j n:Nat} (hi:i<n) (hj:j<n): (row (swap f i j) n).Perm (row f n):=by
 rw[swap_puts];have h1:=row_put (put f j (f i)) i (f j) n hi;have h2:=row_put f j (f i) n hj
 have e:put f j (f i) i=f i:=by
  by_cases e:i=j
  ·subst e;exact put_same _ _ _
  ·exact put_other _ _ e
 rw[e]at h1;exact(List.perm_cons _).1 (h1.trans h2)
def parent (c:Nat):Nat:=(c-1)/2
structure Ord (lt:α->α->Prop):Prop where
 asym:∀a b,lt a b->¬lt b a
 trans:∀a b c,¬lt b a->¬lt c b->¬lt c a
def Heap (lt:α->α->Prop) (f:Nat->α) (k n:Nat):Prop:=∀c,0<c->c<n->k<=parent c->¬lt (f c) (f (parent c))
structure Dn (lt:α->α->Prop) (f:Nat->α) (k n i:Nat):Prop where
 le:k<=i
 pairs:∀c,0<c->c<n->k<=parent c->parent c≠i->¬lt (f c) (f (parent c))
 grand:i≠k->k<=parent i->∀c,0<c->c<n->parent c=i->¬lt (f c) (f (parent i))
theorem dn_start {lt:α->α->Prop} {f:Nat->α} {k n:Nat} (h:Heap lt f (k+1) n):Dn lt f k n k:=
 ⟨Nat.le_refl _,λc h0 hc hk hne=>h c h0 hc (by omega),λh=>absurd rfl h⟩
theorem parent_lt {c:Nat} (h:0<c):parent c<c:=by unfold parent;omega
theorem dn_stop {lt:α->α->Prop} {f:Nat->α} {k n i:Nat} (h:Dn lt f k n i) (hs:∀c,0<c->c<n->parent c=i->¬lt (f c) (f i)):Heap lt f k n:=λc h0 hc hk=>by
 by_cases e:parent c=i
 ·rw[e];exact hs c h0 hc e
 ·exact h.pairs c h0 hc hk e
theorem dn_step {lt:α->α->Prop} (O:Ord lt) {f:Nat->α} {k n i j:Nat} (h:Dn lt f k n i) (hj0:0<j) (hjn:j<n) (hji:parent j=i) (hlt:lt (f j) (f i)) (hmin:∀c,0<c->c<n->parent c=i->¬lt (f c) (f j)):Dn lt (swap f i j) k n j:=by
 have hij:i<j:=by rw[<-hji];exact parent_lt hj0
 refine⟨by have:=h.le;omega,λc h0 hc hk hne=>?_,λhjk hkp c h0 hc hcj=>?_⟩
 ·have hcl:=parent_lt h0
  by_cases e1:c=j
  ·subst e1;rw[swap_r,hji,swap_l];exact O.asym _ _ hlt
  ·by_cases e2:c=i
   ·subst e2;rw[swap_l,swap_o f (by omega) (by omega)]
    by_cases e3:c=k
    ·omega
    ·exact h.grand e3 hk j hj0 hjn hji
   ·rw[swap_o f e2 e1]
    by_cases e3:parent c=i
    ·rw[e3,swap_l];exact hmin c h0 hc e3
    ·rw[swap_o f e3 hne];exact h.pairs c h0 hc hk e3
 ·have hcl:=parent_lt h0;rw[hji,swap_l,swap_o f (by omega) (by omega)];have:=h.pairs c h0 hc (by rw[hcj];have:=h.le;omega) (by rw[hcj];omega);rw[hcj]at this;exact this
theorem front {lt:α->α->Prop} (O:Ord lt) {f:Nat->α} {n:Nat} (h:Heap lt f 0 n):∀c,c<n->¬lt (f c) (f 0):=by
 intro c
 induction c using Nat.strongRecOn with
 |_ c ih=>
  intro hc
  by_cases h0:c=0
  ·subst h0;intro hl;exact O.asym _ _ hl hl
  ·have hp:=parent_lt (Nat.pos_of_ne_zero h0);exact O.trans _ _ _ (ih _ hp (by omega)) (h c (by omega) hc (Nat.zero_le _))
end Heap
namespace Merge
open Heap
abbrev B:=List UInt8
abbrev Rises (l:List B):Prop:=l.Pairwise (·<=·)
def hlt (r s:List B):Prop:=∃a b,r.head? =some a/\s.head? =some b/\a<b
theorem hlt_iff {r s:List B} {a b:B} (h1:r.head? =some a) (h2:s.head? =some b):hlt r s↔a<b:=by
 constructor
 ·rintro⟨a',b',e1,e2,h⟩;rw[h1]at e1;rw[h2]at e2;cases e1;cases e2;exact h
 ·exact λh=>⟨a,b,h1,h2,h⟩
abbrev Row:={r:List B // r≠[]}
def lt (r s:Row):Prop:=hlt r.1 s.1
def hd (r:Row):B:=r.1.head r.2
theorem hd_some (r:Row):r.1.head? =some (hd r):=List.head?_eq_some_head r.2
theorem lt_iff (r s:Row):lt r s↔hd r<hd s:=hlt_iff (hd_some r) (hd_some s)
theorem ord:Ord lt where
 asym:=λa b h k=>by
  rw[lt_iff]at h k;exact absurd (List.le_of_lt k) (List.not_le.2 h)
 trans:=λa b c h k=>by
  rw[lt_iff,List.not_lt]at h k⊢;exact List.le_trans h k
theorem rises_head {r:Row} (h:Rises r.1):∀x∈r.1,hd r<=x:=λx hx=>by
 obtain⟨l,hl⟩:=r
 cases l with
 |nil=>exact absurd rfl hl
 |cons a t=>
  rcases List.mem_cons.1 hx with rfl|hx
  ·exact List.le_refl _
  ·exact(List.pairwise_cons.1 h).1 x hx
def recs (f:Nat->Row) (n:Nat):List B:=((row f n).map Subtype.val).flatten
theorem recs_perm {f g:Nat->Row} {n m:Nat} (h: (row f n).Perm (row g m)): (recs f n).Perm (recs g m):=(h.map _).flatten
structure Inv (all out:List B) (f:Nat->Row) (n:Nat):Prop where
 heap:Heap lt f 0 n
 rises:∀c,c<n->Rises (f c).1
 up:Rises out
 low:∀o∈out,∀x∈recs f n,o<=x
 same: (out++recs f n).Perm all
theorem mem_recs {f:Nat->Row} {n:Nat} {x:B}:x∈recs f n↔∃c,c<n/\x∈(f c).1:=by
 unfold recs row;simp only[List.mem_flatten,List.mem_map,List.mem_range]
 constructor
 ·rintro⟨l,⟨r,⟨c,hc,rfl⟩,rfl⟩,hx⟩;exact⟨c,hc,hx⟩
 ·rintro⟨c,hc,hx⟩;exact⟨_,⟨_,⟨c,hc,rfl⟩,rfl⟩,hx⟩
theorem least {all out:List B} {f:Nat->Row} {n:Nat} (h:Inv all out f n):∀x∈recs f n,hd (f 0)<=x:=λx hx=>by
 obtain⟨c,hc,hx⟩:=mem_recs.1 hx;have h1:=front ord h.heap c hc;rw[lt_iff,List.not_lt]at h1;exact List.le_trans h1 (rises_head (h.rises c hc) x hx)
theorem recs_front {f:Nat->Row} {n:Nat} (hn:0<n):recs f n=(f 0).1++((List.range (n-1)).map (λk=>(f (k+1)).1)).flatten:=by
 obtain⟨m,rfl⟩:∃m,n=m+1:=⟨n-1,by omega⟩;unfold recs row;rw[List.range_succ_eq_map]
 simp[Function.comp_def]
theorem step {all out:List B} {f g:Nat->Row} {n m:Nat} (h:Inv all out f n) (hg:Heap lt g 0 m) (hr:∀c,c<m->Rises (g c).1) (hp: (hd (f 0)::recs g m).Perm (recs f n)):Inv all (out++ [hd (f 0)]) g m:=by
 have hin:hd (f 0)∈recs f n:=hp.mem_iff.1 (by simp);refine⟨hg,hr,?_,λo ho x hx=>?_,?_⟩
 ·refine List.pairwise_append.2 ⟨h.up,by simp,λa ha b hb=>?_⟩;rw[jE.1 hb];exact h.low a ha _ hin
 ·have hx':x∈recs f n:=hp.mem_iff.1 (List.mem_cons_of_mem _ hx);rcases List.mem_append.1 ho with ho|ho
  ·exact h.low o ho x hx'
  ·rw[jE.1 ho];exact least h x hx'
 ·rw[List.append_assoc];exact(List.Perm.append_left out hp).trans h.same
theorem rest_perm {f g:Nat->Row} {n:Nat} (hn:0<n) {r:Row} (hr: (f 0).1=hd (f 0)::r.1) (hg: (row g n).Perm (row (put f 0 r) n)): (hd (f 0)::recs g n).Perm (recs f n):=by
 refine(List.Perm.cons _ (recs_perm hg)).trans ?_;rw[recs_front hn,recs_front hn,put_same,hr]
 have: (λk=>(put f 0 r (k+1)).1)=λk=>(f (k+1)).1:=by
  funext k
  rw[put_other f r (by omega)]
 rw[this];exact List.Perm.refl _
theorem gone_perm {f g:Nat->Row} {n:Nat} (hr: (f 0).1= [hd (f 0)]) (hg: (f 0 ::row g n).Perm (row f (n+1))): (hd (f 0)::recs g n).Perm (recs f (n+1)):=by
 have h:=((hg.map Subtype.val).flatten);rw[List.map_cons,List.flatten_cons,hr]at h;exact h
theorem done {all out:List B} {f:Nat->Row} (h:Inv all out f 0):Rises out/\out.Perm all:=by
 have:=h.same;have e:recs f 0= []:=rfl;rw[e,List.append_nil]at this;exact⟨h.up,this⟩
theorem sorted_one {a b:List B} (h1:Rises a) (h2:Rises b) (hp:a.Perm b):a=b:=
 List.Perm.eq_of_pairwise (λ_ _ _ _ h k=>List.le_antisymm h k) h1 h2 hp
theorem prefix_of {all out s:List B} {f:Nat->Row} {n:Nat} (h:Inv all out f n) (hs:Rises s) (hp:s.Perm all):out <+:s:=by
 obtain⟨t,ht1,ht2⟩:∃t:List B,t.Perm (recs f n)/\Rises t:=⟨(recs f n).mergeSort (λx y=>decide (x<=y)),List.mergeSort_perm _ _,by
  have:=List.pairwise_mergeSort (le:=λx y:B=>decide (x<=y)) (λa b c h k=>by simp at h k⊢;exact List.le_trans h k) (λa b=>by simp;exact List.le_total a b) (recs f n);exact this.imp (λh=>by simpa using h)⟩
 have e:out++t=s:=sorted_one (List.pairwise_append.2 ⟨h.up,ht2,λa ha b hb=>h.low a ha b (ht1.mem_iff.1 hb)⟩) hs (((List.Perm.append_left out ht1).trans h.same).trans hp.symm);exact⟨t,e⟩
end Merge
end Go.Proofs.YtcdcnhecimajkaaGreatDoor
