/- A step of a region, taken first: its side conditions are shown where they stand. -/
import Derived.Deep.RegionHeld3
import Derived.WalkKit
namespace Go.Proofs.YtndkohocgfmamaaGreatDoor
open Go.RowKit
variable {P:Program}{ops:Array Oper}{Q:Exit -> Act -> World -> Prop}{md:Region.Mode}{S:World -> Prop}{oi:Oper}{fuel:Nat}{listed:Array Bool}{a:Act}{w:World}
theorem jk(i:Nat){v:Value}(h:wpAnyH P md ops Q S fuel (listed.setIfInBounds i true) (a.put oi.dst v) w)(hi:ops[i]? = some oi := by (simp only [List.getElem?_toArray, List.getElem?_cons_succ, List.getElem?_cons_zero]; rfl))(hh:Region.wanted oi (yielded ops a.tmps) = true := by rfl)(hy:∀ w, S w -> (execOp a.eval oi).run P w = .ok (.value v) w := by (intro w' hSw; (try dsimp only at hSw); go_split_ands; go_simp; try with_reducible rfl))(hs:Region.noSelect ops = true := by kernel_rfl)(hf:Region.free md ops listed i = true := by kernel_rfl)(hr:(Region.ready md ops listed).contains i = true := by kernel_rfl)(hQ:∀ c a w, Q (.panic c) (a.put oi.dst v) w -> Q (.panic c) a w := by exact fun _ _ _ h => h)(hS:S w := by assumption):wpAnyH P md ops Q S (fuel + 1) listed a w :=
  wpAnyH_take hi hs hf hr hQ (Or.inl ⟨hh, hy⟩) hS h
theorem jj(i:Nat)(h:wpAnyH P md ops Q S fuel (listed.setIfInBounds i true) (a.put oi.dst undef) w)(hi:ops[i]? = some oi := by (simp only [List.getElem?_toArray, List.getElem?_cons_succ, List.getElem?_cons_zero]; rfl))(hh:Region.wanted oi (yielded ops a.tmps) = false := by rfl)(hs:Region.noSelect ops = true := by kernel_rfl)(hf:Region.free md ops listed i = true := by kernel_rfl)(hr:(Region.ready md ops listed).contains i = true := by kernel_rfl)(hQ:∀ c a w, Q (.panic c) (a.put oi.dst undef) w -> Q (.panic c) a w := by exact fun _ _ _ h => h)(hS:S w := by assumption):wpAnyH P md ops Q S (fuel + 1) listed a w :=
  wpAnyH_take hi hs hf hr hQ (Or.inr ⟨hh, rfl⟩) hS h
end Go.Proofs.YtndkohocgfmamaaGreatDoor
