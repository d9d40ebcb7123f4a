/- Part. -/
import Derived.Test.YtfgjnpbffppocaaGreatDoorF0
import Derived.OrdersIn
import Derived.OwnWalkIn
import Derived.Deep.RegionHeld3
namespace Go.Proofs.YtfgjnpbffppocaaGreatDoor
namespace Round
open Go
def noDefer (l:List Oper):Bool:=l.all (λo=>match o.op with
 |.defer _=>false
 |_=>true)
theorem noDefer_at {l:List Oper} (h:noDefer l=true):∀(i:Nat) (o:Oper),l.toArray[i]? =some o->∀c,o.op≠.defer c:=λi o ho c e=>by
 have h1:=List.all_eq_true.1 h o (jM (by simpa using ho));rw[e]at h1;cases h1
section
variable {P:Program} {Q:Exit->Act->World->Prop} {l n:Nat}
theorem rows_wide {row:String} {args:Array Value} {w:World} {R:Value->World->Prop} (h:Rows P row args w R):RowsIn (Fence.wide.inRound l) n P row args w R:=λc cs _=>
 let ⟨v,w',r,s⟩:=h c cs
 ⟨v,w',r,stepsIn_wide.2 s⟩
theorem upon_round {o:Oper} {a:Act} {next:Act->World->Prop}:∀{r:Result Next},o.upon P a next Q r->o.uponIn (Fence.wide.inRound l) n P a next Q r
 |.ok (.value _) _,h=>h
 |.ok .skip _,h=>h
 |.ok (.defer _) _,h=>h
 |.ok (.enter _ _) _,h=>⟨λe=>by simp[Fence.wide]at e,callsIn_wide.2 h⟩
 |.ok (.row _ _) _,h=>⟨λe=>by simp[Fence.wide]at e,rows_wide h⟩
 |.halt (.panic _) _,h=>h
theorem op_round {o:Oper} {a:Act} {w:World} {next:Act->World->Prop} (hnd:∀c,o.op≠.defer c) (h:o.wp P a w next Q):o.wpIn (Fence.wide.inRound l) n P a w next Q:=
 ⟨λ_ _=>trivial,by rw[Oper.semAt_plain (Fence.wide.inRound l) _ _ hnd];exact upon_round h⟩
theorem any_round {md:Region.Mode} {ops:Array Oper} (hnd:∀(i:Nat) (o:Oper),ops[i]? =some o->∀c,o.op≠.defer c) (hq:¬LetsOut Q):∀(fuel:Nat) (listed:Array Bool) (a:Act) (w:World),wpAny P md ops Q fuel listed a w->wpAnyIn (Fence.wide.inRound l) n P md ops Q fuel listed a w
 |0,_,_,_,h=>h
 |fuel+1,listed,a,w,h=>⟨h.1,λi hi=>by
  have h1:=h.2 i hi;unfold wpOp at h1;unfold wpOpIn
  cases ho:ops[i]? with
  |none=>
   rw[ho]at h1;exact any_round hnd hq fuel _ _ _ h1
  |some o=>
   rw[ho]at h1;dsimp only at h1⊢
   by_cases hw:Region.wanted o (yielded ops a.tmps)=true
   ·rw[if_pos hw]at h1⊢;rcases h1 with h1|h1
    ·exact Oper.wpIn_mono (λa w h=>any_round hnd hq fuel _ a w h) (op_round (hnd i o ho) h1)
    ·exact absurd h1.2 hq
   ·rw[if_neg hw]at h1⊢;exact⟨λ_ _=>trivial,any_round hnd hq fuel _ _ _ h1⟩⟩
theorem region_round {id:Nat} {ops:List Oper} {a:Act} {w:World} (hm:P.follows .mixedOrders=true) (hd:noDefer ops=true) (hq:¬LetsOut Q) (h:wpAny P .any ops.toArray Q ops.toArray.size (Array.replicate ops.toArray.size false) a w.drew): (Code.region id ops.toArray true).wpIn (Fence.wide.inRound l) n P Q a w:=
 wpIn_region_any hm (any_round (noDefer_at hd) hq _ _ _ _ h)
def Calm (Q:Exit->Act->World->Prop):Exit->Act->World->Prop
 |.normal,a,w=>Q .normal a w
 |_,_,_=>False
theorem region_round_held {S:World->Prop} {id:Nat} {ops:List Oper} {a:Act} {w:World} (hm:P.follows .mixedOrders=true) (hd:noDefer ops=true) (hS:S w.drew) (h:S w.drew->wpAnyH P .any ops.toArray (Calm Q) S ops.toArray.size (Array.replicate ops.toArray.size false) a w.drew): (Code.region id ops.toArray true).wpIn (Fence.wide.inRound l) n P Q a w:=
 wpIn_mono (region_round (Q:=Calm Q) hm hd (by rintro⟨a,w,h⟩;exact h) (wpAny_of_held _ _ _ _ (h hS))) (λe a w h=>by
  cases e <;> first|exact h|exact h.elim)
end
end Round
end Go.Proofs.YtfgjnpbffppocaaGreatDoor
