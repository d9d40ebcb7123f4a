/-
  No cell of these rows narrows 'for every input' (looked for: loops, veiled, ifaces, maps, wideKeys, modest, calm, conditions, laid).
  DERIVED. THE GIVEN ROWS OF THIS SEAT. 3 by the template 'for every input the law returns true; each argument reads behind the call as it read before'; 0 by the template 'total and deterministic' (their statements: YtcdcnhecimajkaaGreatTotals.lean).
  GIVEN WITH THE SEED: the statements are not yours to turn. If you find one false, say at which input.
  Laid BY PROGRAM, IN A SANDBOX (cutbox-rows.mjs): the forced cells as the released guide's own fill.sh prints them over the translation 4117de4a5519bf61… (all of the seat's roots in one cut). By AI agents, Wed Nov 11 2026. No macro, syntax, notation, axiom, sorry.
-/
import Derived.Test.YtcdcnhecimajkaaGreatChecked
import GoSem.Claim
import GoSem.ClaimJoined
import GoSem.ClaimMapViews
import Derived.JoinedTies
import Derived.KernelRfl
namespace Go.Proofs.YtcdcnhecimajkaaGreat
/- THE CELL 'sum', in the pinned program and in every row, IS THE sha256 OF THE DUMP (.gsa) THAT YtcdcnhecimajkaaGreatProg.lean LOADS. Nothing in Lean hashes anything: it is a label: what it is worth is what the hold of that sum in a sandbox is worth. -/
noncomputable def Tryz.pinned : Pinned := { name := "ytcdcnhecimajkaagreat", sum := "4117de4a5519bf6101dbd066432dee3865e1caa2dd72f5398c0aa13620feb762", checked := Tryz.checked }
namespace Rows
def none {H : Type} : Left H := { results := [], args := [] }

/-- 'palmerlaw13.RunsSorts': WHATEVER THE INPUT: true; the input reads as it did. -/
def runsSortsSpec : ChangeSpec := { name := "runsSorts", fn := fun _ => fun
  | [d1, d2, d3, d4] => { results := [.lit (.bool true)], args := [d1, d2, d3, d4] }
  | _ => none }
def runsSortsRow : OpenClaim := { program := "ytcdcnhecimajkaagreat", sum := "4117de4a5519bf6101dbd066432dee3865e1caa2dd72f5398c0aa13620feb762", func := "palmer/palmerlaw13.RunsSorts", spec := "runsSorts", inPlace := ["internal/bytealg.Compare", "internal/bytealg.MakeNoZero"], unfollowed := true, recurses := true, apart := false }
def RunsSortsSaid : Prop := runsSortsRow.holds Tryz.pinned (OpenSpec.ofChange runsSortsSpec)

/-- ITS FALSE NEIGHBOUR: 'it returns false'. Refute it at one input. -/
def runsSortsWrong : ChangeSpec := { name := "runsSorts", fn := fun _ => fun
  | [d1, d2, d3, d4] => { results := [.lit (.bool false)], args := [d1, d2, d3, d4] }
  | _ => none }
def RunsSortsWrongFalsely : Prop := runsSortsRow.holds Tryz.pinned (OpenSpec.ofChange runsSortsWrong)

/-- 'palmerlaw13.RunsStops': WHATEVER THE INPUT: true; the input reads as it did. -/
def runsStopsSpec : ChangeSpec := { name := "runsStops", fn := fun _ => fun
  | [d1, d2, d3, d4, d5] => { results := [.lit (.bool true)], args := [d1, d2, d3, d4, d5] }
  | _ => none }
def runsStopsRow : OpenClaim := { program := "ytcdcnhecimajkaagreat", sum := "4117de4a5519bf6101dbd066432dee3865e1caa2dd72f5398c0aa13620feb762", func := "palmer/palmerlaw13.RunsStops", spec := "runsStops", inPlace := ["internal/bytealg.Compare", "internal/bytealg.MakeNoZero"], unfollowed := true, recurses := true, apart := false }
def RunsStopsSaid : Prop := runsStopsRow.holds Tryz.pinned (OpenSpec.ofChange runsStopsSpec)

/-- ITS FALSE NEIGHBOUR: 'it returns false'. Refute it at one input. -/
def runsStopsWrong : ChangeSpec := { name := "runsStops", fn := fun _ => fun
  | [d1, d2, d3, d4, d5] => { results := [.lit (.bool false)], args := [d1, d2, d3, d4, d5] }
  | _ => none }
def RunsStopsWrongFalsely : Prop := runsStopsRow.holds Tryz.pinned (OpenSpec.ofChange runsStopsWrong)

/-- 'palmerlaw13.RunsNil': WHATEVER THE INPUT: true; the input reads as it did. -/
def runsNilSpec : ChangeSpec := { name := "runsNil", fn := fun _ => fun
  | [d] => { results := [.lit (.bool true)], args := [d] }
  | _ => none }
def runsNilRow : OpenClaim := { program := "ytcdcnhecimajkaagreat", sum := "4117de4a5519bf6101dbd066432dee3865e1caa2dd72f5398c0aa13620feb762", func := "palmer/palmerlaw13.RunsNil", spec := "runsNil", inPlace := ["internal/bytealg.Compare", "internal/bytealg.MakeNoZero"], unfollowed := true, recurses := true, apart := false }
def RunsNilSaid : Prop := runsNilRow.holds Tryz.pinned (OpenSpec.ofChange runsNilSpec)

/-- ITS FALSE NEIGHBOUR: 'it returns false'. Refute it at one input. -/
def runsNilWrong : ChangeSpec := { name := "runsNil", fn := fun _ => fun
  | [d] => { results := [.lit (.bool false)], args := [d] }
  | _ => none }
def RunsNilWrongFalsely : Prop := runsNilRow.holds Tryz.pinned (OpenSpec.ofChange runsNilWrong)

/- THE SECOND FORM. 'bulk': how many values and letters a reading holds, each counted each time it is reached (what is shared counts as often as it is met; a slice's spare places count too). A statement '..UptoSaid' is the law's where the arguments, and the package variables that the reading takes, are together of bulk at most 1048576: NARROWER than '..Said'. Prove '..Said' where nothing that the law and all that it calls make is longer than what came in: it says more and counts as full. Else prove '..UptoSaid'. A law counts once. -/
mutual
def uptoBulk {H : Type} : DataW H → Nat
  | .lit (.string bytes) => bytes.length + 1
  | .lit _ => 1
  | .nil => 1
  | .ptr d => uptoBulk d + 1
  | .slice elems spare => uptoBulkAll elems + uptoBulkAll spare + 1
  | .agg parts => uptoBulkAll parts + 1
  | .iface _ d => uptoBulk d + 1
  | .map entries => uptoBulkEntries entries + 1
  | .held _ => 1
def uptoBulkAll {H : Type} : List (DataW H) → Nat
  | [] => 0
  | d :: r => uptoBulk d + uptoBulkAll r
def uptoBulkEntries {H : Type} : List (Lit × DataW H) → Nat
  | [] => 0
  | x :: r => uptoBulkEntry x + uptoBulkEntries r
def uptoBulkEntry {H : Type} : Lit × DataW H → Nat
  | (.string bytes, d) => bytes.length + uptoBulk d + 1
  | (_, d) => uptoBulk d + 1
 end
def uptoSmall : (H : Type) → List (DataW H) → Bool := fun _ ds => decide (uptoBulkAll ds ≤ 1048576)
def OpenSpec.upto (s : _root_.Go.ChangeSpec) : _root_.Go.OpenSpec := { _root_.Go.OpenSpec.ofChange s with cond := some uptoSmall }

/-- 'palmerlaw13.RunsSorts', WHERE WHAT IT READS IS OF BULK AT MOST 1048576: true; the input reads as it did. -/
def runsSortsUptoRow : OpenClaim := { program := "ytcdcnhecimajkaagreat", sum := "4117de4a5519bf6101dbd066432dee3865e1caa2dd72f5398c0aa13620feb762", func := "palmer/palmerlaw13.RunsSorts", spec := "runsSorts", inPlace := ["internal/bytealg.Compare", "internal/bytealg.MakeNoZero"], unfollowed := true, recurses := true, apart := false, narrowed := true }
def RunsSortsUptoSaid : Prop := runsSortsUptoRow.holds Tryz.pinned (OpenSpec.upto runsSortsSpec)

/-- 'palmerlaw13.RunsStops', WHERE WHAT IT READS IS OF BULK AT MOST 1048576: true; the input reads as it did. -/
def runsStopsUptoRow : OpenClaim := { program := "ytcdcnhecimajkaagreat", sum := "4117de4a5519bf6101dbd066432dee3865e1caa2dd72f5398c0aa13620feb762", func := "palmer/palmerlaw13.RunsStops", spec := "runsStops", inPlace := ["internal/bytealg.Compare", "internal/bytealg.MakeNoZero"], unfollowed := true, recurses := true, apart := false, narrowed := true }
def RunsStopsUptoSaid : Prop := runsStopsUptoRow.holds Tryz.pinned (OpenSpec.upto runsStopsSpec)

/-- 'palmerlaw13.RunsNil', WHERE WHAT IT READS IS OF BULK AT MOST 1048576: true; the input reads as it did. -/
def runsNilUptoRow : OpenClaim := { program := "ytcdcnhecimajkaagreat", sum := "4117de4a5519bf6101dbd066432dee3865e1caa2dd72f5398c0aa13620feb762", func := "palmer/palmerlaw13.RunsNil", spec := "runsNil", inPlace := ["internal/bytealg.Compare", "internal/bytealg.MakeNoZero"], unfollowed := true, recurses := true, apart := false, narrowed := true }
def RunsNilUptoSaid : Prop := runsNilUptoRow.holds Tryz.pinned (OpenSpec.upto runsNilSpec)

end Rows
end Go.Proofs.YtcdcnhecimajkaaGreat
