/-
  No cell of these rows narrows 'for every input' (looked for: loops, veiled, ifaces, maps, wideKeys, modest, calm, conditions, laid).
  DERIVED. THE GIVEN ROWS OF THIS SEAT. 3 by the template 'for every input the law returns true; each argument reads behind the call as it read before'; 0 by the template 'total and deterministic' (their statements: YtndkohocgfmamaaGreatTotals.lean).
  GIVEN WITH THE SEED: the statements are not yours to turn. If you find one false, say at which input.
  Laid BY PROGRAM, IN A SANDBOX (cutbox-rows.mjs): the forced cells as the released guide's own fill.sh prints them over the translation 35aa2bb3d5898c43… (all of the seat's roots in one cut). By AI agents, Wed Nov 11 2026. No macro, syntax, notation, axiom, sorry.
-/
import Derived.Test.YtndkohocgfmamaaGreatChecked
import GoSem.Claim
import GoSem.ClaimJoined
import GoSem.ClaimMapViews
import Derived.JoinedTies
import Derived.KernelRfl
namespace Go.Proofs.YtndkohocgfmamaaGreat
/- THE CELL 'sum', in the pinned program and in every row, IS THE sha256 OF THE DUMP (.gsa) THAT YtndkohocgfmamaaGreatProg.lean LOADS. Nothing in Lean hashes anything: it is a label: what it is worth is what the hold of that sum in a sandbox is worth. -/
noncomputable def Tryz.pinned : Pinned := { name := "ytndkohocgfmamaagreat", sum := "35aa2bb3d5898c438d3fa6c5e0a70ec71c9b30d0219465853affebbe4c57f690", checked := Tryz.checked }
namespace Rows
def none {H : Type} : Left H := { results := [], args := [] }

/-- 'palmerlaw27.VisitCounts': WHATEVER THE INPUT: true; the input reads as it did. -/
def visitCountsSpec : ChangeSpec := { name := "visitCounts", fn := fun _ => fun
  | [d1, d2, d3] => { results := [.lit (.bool true)], args := [d1, d2, d3] }
  | _ => none }
def visitCountsRow : OpenClaim := { program := "ytndkohocgfmamaagreat", sum := "35aa2bb3d5898c438d3fa6c5e0a70ec71c9b30d0219465853affebbe4c57f690", func := "palmer/palmerlaw27.VisitCounts", spec := "visitCounts", inPlace := ["internal/bytealg.Compare", "internal/bytealg.MakeNoZero", "math/bits.Add64"], unfollowed := true, recurses := true, plainKeys := false, apart := false }
def VisitCountsSaid : Prop := visitCountsRow.holds Tryz.pinned (OpenSpec.ofChange visitCountsSpec)

/-- ITS FALSE NEIGHBOUR: 'it returns false'. Refute it at one input. -/
def visitCountsWrong : ChangeSpec := { name := "visitCounts", fn := fun _ => fun
  | [d1, d2, d3] => { results := [.lit (.bool false)], args := [d1, d2, d3] }
  | _ => none }
def VisitCountsWrongFalsely : Prop := visitCountsRow.holds Tryz.pinned (OpenSpec.ofChange visitCountsWrong)

/-- 'palmerlaw27.VisitPrints': WHATEVER THE INPUT: true; the input reads as it did. -/
def visitPrintsSpec : ChangeSpec := { name := "visitPrints", fn := fun _ => fun
  | [d1, d2] => { results := [.lit (.bool true)], args := [d1, d2] }
  | _ => none }
def visitPrintsRow : OpenClaim := { program := "ytndkohocgfmamaagreat", sum := "35aa2bb3d5898c438d3fa6c5e0a70ec71c9b30d0219465853affebbe4c57f690", func := "palmer/palmerlaw27.VisitPrints", spec := "visitPrints", inPlace := ["internal/bytealg.Compare", "internal/bytealg.MakeNoZero", "math/bits.Add64"], unfollowed := true, recurses := true, plainKeys := false, apart := false }
def VisitPrintsSaid : Prop := visitPrintsRow.holds Tryz.pinned (OpenSpec.ofChange visitPrintsSpec)

/-- ITS FALSE NEIGHBOUR: 'it returns false'. Refute it at one input. -/
def visitPrintsWrong : ChangeSpec := { name := "visitPrints", fn := fun _ => fun
  | [d1, d2] => { results := [.lit (.bool false)], args := [d1, d2] }
  | _ => none }
def VisitPrintsWrongFalsely : Prop := visitPrintsRow.holds Tryz.pinned (OpenSpec.ofChange visitPrintsWrong)

/-- 'palmerlaw27.VisitDown': WHATEVER THE INPUT: true; the input reads as it did. -/
def visitDownSpec : ChangeSpec := { name := "visitDown", fn := fun _ => fun
  | [d1, d2] => { results := [.lit (.bool true)], args := [d1, d2] }
  | _ => none }
def visitDownRow : OpenClaim := { program := "ytndkohocgfmamaagreat", sum := "35aa2bb3d5898c438d3fa6c5e0a70ec71c9b30d0219465853affebbe4c57f690", func := "palmer/palmerlaw27.VisitDown", spec := "visitDown", inPlace := ["internal/bytealg.Compare", "math/bits.Add64", "internal/bytealg.MakeNoZero"], unfollowed := true, recurses := true, plainKeys := false, apart := false }
def VisitDownSaid : Prop := visitDownRow.holds Tryz.pinned (OpenSpec.ofChange visitDownSpec)

/-- ITS FALSE NEIGHBOUR: 'it returns false'. Refute it at one input. -/
def visitDownWrong : ChangeSpec := { name := "visitDown", fn := fun _ => fun
  | [d1, d2] => { results := [.lit (.bool false)], args := [d1, d2] }
  | _ => none }
def VisitDownWrongFalsely : Prop := visitDownRow.holds Tryz.pinned (OpenSpec.ofChange visitDownWrong)

/- THE SECOND FORM. 'bulk': how many values and letters a reading holds, each counted each time it is reached (what is shared counts as often as it is met; a slice's spare places count too). A statement '..UptoSaid' is the law's where the arguments, and the package variables that the reading takes, are together of bulk at most 1048576: NARROWER than '..Said'. Prove '..Said' where nothing that the law and all that it calls make is longer than what came in: it says more and counts as full. Else prove '..UptoSaid'. A law counts once. -/
mutual
def uptoBulk {H : Type} : DataW H → Nat
  | .lit (.string bytes) => bytes.length + 1
  | .lit _ => 1
  | .nil => 1
  | .ptr d => uptoBulk d + 1
  | .slice elems spare => uptoBulkAll elems + uptoBulkAll spare + 1
  | .agg parts => uptoBulkAll parts + 1
  | .iface _ d => uptoBulk d + 1
  | .map entries => uptoBulkEntries entries + 1
  | .held _ => 1
def uptoBulkAll {H : Type} : List (DataW H) → Nat
  | [] => 0
  | d :: r => uptoBulk d + uptoBulkAll r
def uptoBulkEntries {H : Type} : List (Lit × DataW H) → Nat
  | [] => 0
  | x :: r => uptoBulkEntry x + uptoBulkEntries r
def uptoBulkEntry {H : Type} : Lit × DataW H → Nat
  | (.string bytes, d) => bytes.length + uptoBulk d + 1
  | (_, d) => uptoBulk d + 1
 end
def uptoSmall : (H : Type) → List (DataW H) → Bool := fun _ ds => decide (uptoBulkAll ds ≤ 1048576)
def OpenSpec.upto (s : _root_.Go.ChangeSpec) : _root_.Go.OpenSpec := { _root_.Go.OpenSpec.ofChange s with cond := some uptoSmall }

/-- 'palmerlaw27.VisitCounts', WHERE WHAT IT READS IS OF BULK AT MOST 1048576: true; the input reads as it did. -/
def visitCountsUptoRow : OpenClaim := { program := "ytndkohocgfmamaagreat", sum := "35aa2bb3d5898c438d3fa6c5e0a70ec71c9b30d0219465853affebbe4c57f690", func := "palmer/palmerlaw27.VisitCounts", spec := "visitCounts", inPlace := ["internal/bytealg.Compare", "internal/bytealg.MakeNoZero", "math/bits.Add64"], unfollowed := true, recurses := true, plainKeys := false, apart := false, narrowed := true }
def VisitCountsUptoSaid : Prop := visitCountsUptoRow.holds Tryz.pinned (OpenSpec.upto visitCountsSpec)

/-- 'palmerlaw27.VisitPrints', WHERE WHAT IT READS IS OF BULK AT MOST 1048576: true; the input reads as it did. -/
def visitPrintsUptoRow : OpenClaim := { program := "ytndkohocgfmamaagreat", sum := "35aa2bb3d5898c438d3fa6c5e0a70ec71c9b30d0219465853affebbe4c57f690", func := "palmer/palmerlaw27.VisitPrints", spec := "visitPrints", inPlace := ["internal/bytealg.Compare", "internal/bytealg.MakeNoZero", "math/bits.Add64"], unfollowed := true, recurses := true, plainKeys := false, apart := false, narrowed := true }
def VisitPrintsUptoSaid : Prop := visitPrintsUptoRow.holds Tryz.pinned (OpenSpec.upto visitPrintsSpec)

/-- 'palmerlaw27.VisitDown', WHERE WHAT IT READS IS OF BULK AT MOST 1048576: true; the input reads as it did. -/
def visitDownUptoRow : OpenClaim := { program := "ytndkohocgfmamaagreat", sum := "35aa2bb3d5898c438d3fa6c5e0a70ec71c9b30d0219465853affebbe4c57f690", func := "palmer/palmerlaw27.VisitDown", spec := "visitDown", inPlace := ["internal/bytealg.Compare", "math/bits.Add64", "internal/bytealg.MakeNoZero"], unfollowed := true, recurses := true, plainKeys := false, apart := false, narrowed := true }
def VisitDownUptoSaid : Prop := visitDownUptoRow.holds Tryz.pinned (OpenSpec.upto visitDownSpec)

end Rows
end Go.Proofs.YtndkohocgfmamaaGreat
