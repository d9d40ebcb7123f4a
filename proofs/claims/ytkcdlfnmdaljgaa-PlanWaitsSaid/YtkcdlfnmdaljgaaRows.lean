/-
  No cell of these rows narrows 'for every input' (looked for: loops, veiled, ifaces, maps, wideKeys, modest, calm, conditions, laid).
  DERIVED. THE GIVEN ROWS OF THIS SEAT. 3 by the template 'for every input the law returns true; each argument reads behind the call as it read before'; 0 by the template 'total and deterministic' (their statements: YtkcdlfnmdaljgaaTotals.lean).
  GIVEN WITH THE SEED: the statements are not yours to turn. If you find one false, say at which input.
  Laid BY PROGRAM, IN A SANDBOX (cutbox-rows.mjs): the forced cells as the released guide's own fill.sh prints them over the translation 41c39c5ce623830f… (all of the seat's roots in one cut). By AI agents, Wed Nov 11 2026. No macro, syntax, notation, axiom, sorry.
-/
import Derived.Test.YtkcdlfnmdaljgaaChecked
import GoSem.Claim
import GoSem.ClaimJoined
import GoSem.ClaimMapViews
import Derived.JoinedTies
import Derived.KernelRfl
namespace Go.Proofs.Ytkcdlfnmdaljgaa
/- THE CELL 'sum', in the pinned program and in every row, IS THE sha256 OF THE DUMP (.gsa) THAT YtkcdlfnmdaljgaaProg.lean LOADS. Nothing in Lean hashes anything: it is a label: what it is worth is what the hold of that sum in a sandbox is worth. -/
noncomputable def Try.pinned : Pinned := { name := "ytkcdlfnmdaljgaa", sum := "41c39c5ce623830f285c0a1d4f801f95830c4ea23d807a01c4ce36869c7085e0", checked := Try.checked }
namespace Rows
def none {H : Type} : Left H := { results := [], args := [] }

/-- 'palmerlaw26.PlanPicks': WHATEVER THE INPUT: true; the input reads as it did. -/
def planPicksSpec : ChangeSpec := { name := "planPicks", fn := fun _ => fun
  | [d1, d2] => { results := [.lit (.bool true)], args := [d1, d2] }
  | _ => none }
def planPicksRow : OpenClaim := { program := "ytkcdlfnmdaljgaa", sum := "41c39c5ce623830f285c0a1d4f801f95830c4ea23d807a01c4ce36869c7085e0", func := "palmer/palmerlaw26.PlanPicks", spec := "planPicks", unfollowed := true, recurses := true, apart := false }
def PlanPicksSaid : Prop := planPicksRow.holds Try.pinned (OpenSpec.ofChange planPicksSpec)

/-- ITS FALSE NEIGHBOUR: 'it returns false'. Refute it at one input. -/
def planPicksWrong : ChangeSpec := { name := "planPicks", fn := fun _ => fun
  | [d1, d2] => { results := [.lit (.bool false)], args := [d1, d2] }
  | _ => none }
def PlanPicksWrongFalsely : Prop := planPicksRow.holds Try.pinned (OpenSpec.ofChange planPicksWrong)

/-- 'palmerlaw26.PlanWaits': WHATEVER THE INPUT: true; the input reads as it did. -/
def planWaitsSpec : ChangeSpec := { name := "planWaits", fn := fun _ => fun
  | [d1, d2, d3] => { results := [.lit (.bool true)], args := [d1, d2, d3] }
  | _ => none }
def planWaitsRow : OpenClaim := { program := "ytkcdlfnmdaljgaa", sum := "41c39c5ce623830f285c0a1d4f801f95830c4ea23d807a01c4ce36869c7085e0", func := "palmer/palmerlaw26.PlanWaits", spec := "planWaits", unfollowed := true, recurses := true, apart := false }
def PlanWaitsSaid : Prop := planWaitsRow.holds Try.pinned (OpenSpec.ofChange planWaitsSpec)

/-- ITS FALSE NEIGHBOUR: 'it returns false'. Refute it at one input. -/
def planWaitsWrong : ChangeSpec := { name := "planWaits", fn := fun _ => fun
  | [d1, d2, d3] => { results := [.lit (.bool false)], args := [d1, d2, d3] }
  | _ => none }
def PlanWaitsWrongFalsely : Prop := planWaitsRow.holds Try.pinned (OpenSpec.ofChange planWaitsWrong)

/-- 'palmerlaw26.PlanWishes': WHATEVER THE INPUT: true; the input reads as it did. -/
def planWishesSpec : ChangeSpec := { name := "planWishes", fn := fun _ => fun
  | [d1, d2, d3] => { results := [.lit (.bool true)], args := [d1, d2, d3] }
  | _ => none }
def planWishesRow : OpenClaim := { program := "ytkcdlfnmdaljgaa", sum := "41c39c5ce623830f285c0a1d4f801f95830c4ea23d807a01c4ce36869c7085e0", func := "palmer/palmerlaw26.PlanWishes", spec := "planWishes", unfollowed := true, recurses := true, apart := false }
def PlanWishesSaid : Prop := planWishesRow.holds Try.pinned (OpenSpec.ofChange planWishesSpec)

/-- ITS FALSE NEIGHBOUR: 'it returns false'. Refute it at one input. -/
def planWishesWrong : ChangeSpec := { name := "planWishes", fn := fun _ => fun
  | [d1, d2, d3] => { results := [.lit (.bool false)], args := [d1, d2, d3] }
  | _ => none }
def PlanWishesWrongFalsely : Prop := planWishesRow.holds Try.pinned (OpenSpec.ofChange planWishesWrong)

/- THE SECOND FORM. 'bulk': how many values and letters a reading holds, each counted each time it is reached (what is shared counts as often as it is met; a slice's spare places count too). A statement '..UptoSaid' is the law's where the arguments, and the package variables that the reading takes, are together of bulk at most 1048576: NARROWER than '..Said'. Prove '..Said' where nothing that the law and all that it calls make is longer than what came in: it says more and counts as full. Else prove '..UptoSaid'. A law counts once. -/
mutual
def uptoBulk {H : Type} : DataW H → Nat
  | .lit (.string bytes) => bytes.length + 1
  | .lit _ => 1
  | .nil => 1
  | .ptr d => uptoBulk d + 1
  | .slice elems spare => uptoBulkAll elems + uptoBulkAll spare + 1
  | .agg parts => uptoBulkAll parts + 1
  | .iface _ d => uptoBulk d + 1
  | .map entries => uptoBulkEntries entries + 1
  | .held _ => 1
def uptoBulkAll {H : Type} : List (DataW H) → Nat
  | [] => 0
  | d :: r => uptoBulk d + uptoBulkAll r
def uptoBulkEntries {H : Type} : List (Lit × DataW H) → Nat
  | [] => 0
  | x :: r => uptoBulkEntry x + uptoBulkEntries r
def uptoBulkEntry {H : Type} : Lit × DataW H → Nat
  | (.string bytes, d) => bytes.length + uptoBulk d + 1
  | (_, d) => uptoBulk d + 1
 end
def uptoSmall : (H : Type) → List (DataW H) → Bool := fun _ ds => decide (uptoBulkAll ds ≤ 1048576)
def OpenSpec.upto (s : _root_.Go.ChangeSpec) : _root_.Go.OpenSpec := { _root_.Go.OpenSpec.ofChange s with cond := some uptoSmall }

/-- 'palmerlaw26.PlanPicks', WHERE WHAT IT READS IS OF BULK AT MOST 1048576: true; the input reads as it did. -/
def planPicksUptoRow : OpenClaim := { program := "ytkcdlfnmdaljgaa", sum := "41c39c5ce623830f285c0a1d4f801f95830c4ea23d807a01c4ce36869c7085e0", func := "palmer/palmerlaw26.PlanPicks", spec := "planPicks", unfollowed := true, recurses := true, apart := false, narrowed := true }
def PlanPicksUptoSaid : Prop := planPicksUptoRow.holds Try.pinned (OpenSpec.upto planPicksSpec)

/-- 'palmerlaw26.PlanWaits', WHERE WHAT IT READS IS OF BULK AT MOST 1048576: true; the input reads as it did. -/
def planWaitsUptoRow : OpenClaim := { program := "ytkcdlfnmdaljgaa", sum := "41c39c5ce623830f285c0a1d4f801f95830c4ea23d807a01c4ce36869c7085e0", func := "palmer/palmerlaw26.PlanWaits", spec := "planWaits", unfollowed := true, recurses := true, apart := false, narrowed := true }
def PlanWaitsUptoSaid : Prop := planWaitsUptoRow.holds Try.pinned (OpenSpec.upto planWaitsSpec)

/-- 'palmerlaw26.PlanWishes', WHERE WHAT IT READS IS OF BULK AT MOST 1048576: true; the input reads as it did. -/
def planWishesUptoRow : OpenClaim := { program := "ytkcdlfnmdaljgaa", sum := "41c39c5ce623830f285c0a1d4f801f95830c4ea23d807a01c4ce36869c7085e0", func := "palmer/palmerlaw26.PlanWishes", spec := "planWishes", unfollowed := true, recurses := true, apart := false, narrowed := true }
def PlanWishesUptoSaid : Prop := planWishesUptoRow.holds Try.pinned (OpenSpec.upto planWishesSpec)

end Rows
end Go.Proofs.Ytkcdlfnmdaljgaa
