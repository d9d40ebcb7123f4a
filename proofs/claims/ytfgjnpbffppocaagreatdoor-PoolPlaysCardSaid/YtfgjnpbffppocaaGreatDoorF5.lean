/- Part. -/
import Derived.Test.YtfgjnpbffppocaaGreatDoorF0
import Derived.Test.YtfgjnpbffppocaaGreatDoorRows
namespace Go.Proofs.YtfgjnpbffppocaaGreatDoor
namespace Pool
abbrev Rows:=Nat->List (List Nat)
def upd (S:Rows) (i:Nat) (l:List (List Nat)):Rows:=λj=>if j=i then l else S j
theorem upd_same (S:Rows) (i:Nat) (l:List (List Nat)):upd S i l i=l:=if_pos rfl
theorem upd_other {S:Rows} {i j:Nat} (l:List (List Nat)) (h:j≠i):upd S i l j=S j:=if_neg h
theorem upd_id (S:Rows) (i:Nat):upd S i (S i)=S:=by
 funext j
 unfold upd
 split
 ·next h=>rw[h]
 ·rfl
def many (Hd:Rows) (n:Nat):Nat:=((List.range n).map (λi=>(Hd i).length)).sum
theorem many_succ (Hd:Rows) (n:Nat):many Hd (n+1)=many Hd n+(Hd n).length:=by unfold many;simp[List.range_succ]
theorem many_upd (Hd:Rows) (i:Nat) (l:List (List Nat)):∀n,i<n->many (upd Hd i l) n+(Hd i).length=many Hd n+l.length:=by
 have h0:∀n,n<=i->many (upd Hd i l) n=many Hd n:=by
  intro n hn;unfold many
  congr 1
  refine List.map_congr_left (λj hj=>?_);rw[upd_other _ (by have:=List.mem_range.1 hj;omega)]
 intro n
 induction n with
 |zero=>intro h;omega
 |succ n ih=>
  intro h;have e:∀G:Rows,many G (n+1)=many G n+(G n).length:=λG=>by unfold many;simp[List.range_succ]
  rw[e,e]
  by_cases hn:n=i
  ·subst hn;rw[h0 n jn,upd_same]
   omega
  ·have:=ih (by omega);rw[upd_other _ hn]
   omega
theorem len_le_many (Hd:Rows) (i:Nat):∀n,i<n->(Hd i).length<=many Hd n:=λn h=>by
 have:=many_upd Hd i [] n h
 simp at this
 omega
theorem many_le (Hd:Rows) {k n:Nat} (h:k<=n):many Hd k<=many Hd n:=by
 induction n with
 |zero=>rw[show k=0 by omega];exact Nat.le_refl _
 |succ n ih=>
  by_cases e:k=n+1
  ·rw[e];exact Nat.le_refl _
  ·have:=ih (by omega);rw[many_succ]
   omega
end Pool
end Go.Proofs.YtfgjnpbffppocaaGreatDoor
