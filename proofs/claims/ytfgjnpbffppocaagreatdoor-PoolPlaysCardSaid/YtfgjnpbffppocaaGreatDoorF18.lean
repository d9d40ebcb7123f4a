/- Part. -/
import Derived.Test.YtfgjnpbffppocaaGreatDoorF0
import Derived.Test.YtfgjnpbffppocaaGreatDoorF10
import Derived.Test.YtfgjnpbffppocaaGreatDoorF17
namespace Go.Proofs.YtfgjnpbffppocaaGreatDoor
namespace Pool
open Go.RowKit Mem Crc Walk
theorem best_rb (H:Rows):∀k,0<k->(bestOf (holds H k)).1=rb H k/\(bestOf (holds H k)).2=(H (rb H k)).length
 |0,h=>absurd h (by omega)
 |k+1,_=>by
  have hst:∀b:Nat×Nat,b.1=rb H k->b.2<=(H (rb H k)).length->(k=0\/b.2=(H (rb H k)).length)->(k=0->b=(0,0))->(bestOf (holds H k)=b)->(bestOf (holds H (k+1))).1=rb H (k+1)/\(bestOf (holds H (k+1))).2=(H (rb H (k+1))).length:=by
   intro b h1 h2 h3 h4 hb;have hr:rb H (k+1)=if(H (rb H k)).length<(H k).length then k else rb H k:=rfl
   by_cases h0:0<(H k).length
   ·rw[holds_yes _ _ h0,bestOf_snoc,hb]
    by_cases hlt:b.2<(H k).length
    ·rw[better_yes hlt];dsimp only;rcases h3 with hk|h3
     ·subst hk;have e:rb H (0+1)=0:=by unfold rb;split <;> rfl
      rw[e];exact⟨rfl,rfl⟩
     ·rw[hr,if_pos (by omega)];exact⟨rfl,rfl⟩
    ·rw[better_no hlt];rcases h3 with hk|h3
     ·subst hk;rw[h4 rfl]at hlt
      simp at hlt
      rw[hlt]at h0
      simp at h0
     ·rw[hr,if_neg (by omega)];exact⟨h1,h3⟩
   ·rw[holds_no _ _ h0,hb,hr,if_neg (by omega)];rcases h3 with hk|h3
    ·subst hk;refine⟨h1,?_⟩;rw[h4 rfl];show 0=(H 0).length
     omega
    ·exact⟨h1,h3⟩
  by_cases hk:0<k
  ·obtain⟨i1,i2⟩:=best_rb H k hk;exact hst _ i1 (by omega) (.inr i2) (λh=>absurd h (by omega)) rfl
  ·obtain rfl:k=0:=by omega
   exact hst (0,0) rfl (Nat.zero_le _) (.inl rfl) (λ_=>rfl) rfl
theorem made_ful {A:Pa} {S Hd:Rows} (hn:0<A.n) (hm:many Hd A.n<=A.room):madeS A S Hd=fulS A.room S Hd A.n/\madeH A Hd=fulH A.room Hd A.n:=by
 have hb:=(best_rb Hd A.n hn).1;unfold madeS madeH fulS fulH;rw[hb]
 by_cases h:many Hd A.n<A.room
 ·rw[if_pos h,if_pos h,if_neg (by omega),if_neg (by omega)];exact⟨rfl,rfl⟩
 ·rw[if_neg h,if_neg h,if_pos (by omega),if_pos (by omega)];exact⟨rfl,rfl⟩
theorem saved_out (S Hd:Rows) (n:Nat):sS S Hd (holds Hd n)=outS S Hd n/\sH Hd (holds Hd n)=outH Hd n:=by
 constructor
 ·funext j
  unfold sS outS
  by_cases hm:j∈(holds Hd n).map Prod.fst
  ·rw[if_pos hm,if_pos ((holds_fst Hd j n).1 hm).1]
  ·rw[if_neg hm]
   by_cases hj:j<n
   ·have he:Hd j= []:=Classical.byContradiction (λe=>hm ((holds_fst Hd j n).2 ⟨hj,e⟩));rw[if_pos hj,he,List.append_nil]
   ·rw[if_neg hj]
 ·funext j
  unfold sH outH
  by_cases hm:j∈(holds Hd n).map Prod.fst
  ·rw[if_pos hm,if_pos ((holds_fst Hd j n).1 hm).1]
  ·rw[if_neg hm]
   by_cases hj:j<n
   ·rw[if_pos hj];exact Classical.byContradiction (λe=>hm ((holds_fst Hd j n).2 ⟨hj,e⟩))
   ·rw[if_neg hj]
theorem many_add (S H:Rows) (n:Nat) (f g:Rows) (h:∀i,i<n->(f i).length+(g i).length=(S i).length+(H i).length):many f n+many g n=many S n+many H n:=by
 induction n with
 |zero=>rfl
 |succ n ih=>
  have:=ih (λi hi=>h i (by omega));have:=h n (by omega);rw[many_succ,many_succ,many_succ,many_succ]
  omega
end Pool
end Go.Proofs.YtfgjnpbffppocaaGreatDoor
