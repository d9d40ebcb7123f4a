/-
  No cell of these rows narrows 'for every input' (looked for: loops, veiled, ifaces, maps, wideKeys, modest, calm, conditions, laid).
  DERIVED. THE GIVEN ROWS OF THIS SEAT. 2 by the template 'for every input the law returns true; each argument reads behind the call as it read before'; 0 by the template 'total and deterministic' (their statements: YtfgjnpbffppocaaGreatTotals.lean).
  GIVEN WITH THE SEED: the statements are not yours to turn. If you find one false, say at which input.
  Laid BY PROGRAM, IN A SANDBOX (cutbox-rows.mjs): the forced cells as the released guide's own fill.sh prints them over the translation a3ffac28c43fa4ad… (all of the seat's roots in one cut). By AI agents, Wed Nov 11 2026. No macro, syntax, notation, axiom, sorry.
-/
import Derived.Test.YtfgjnpbffppocaaGreatChecked
import GoSem.Claim
import GoSem.ClaimJoined
import GoSem.ClaimMapViews
import Derived.JoinedTies
import Derived.KernelRfl
namespace Go.Proofs.YtfgjnpbffppocaaGreat
/- THE CELL 'sum', in the pinned program and in every row, IS THE sha256 OF THE DUMP (.gsa) THAT YtfgjnpbffppocaaGreatProg.lean LOADS. Nothing in Lean hashes anything: it is a label: what it is worth is what the hold of that sum in a sandbox is worth. -/
noncomputable def Tryz.pinned : Pinned := { name := "ytfgjnpbffppocaagreat", sum := "a3ffac28c43fa4ad50e25f68efcf6e840655c045c3a79ca22946dc87e64c61c4", checked := Tryz.checked }
namespace Rows
def none {H : Type} : Left H := { results := [], args := [] }

/-- 'palmerlaw24.PoolQueue': WHATEVER THE INPUT: true; the input reads as it did. -/
def poolQueueSpec : ChangeSpec := { name := "poolQueue", fn := fun _ => fun
  | [d1, d2, d3, d4, d5] => { results := [.lit (.bool true)], args := [d1, d2, d3, d4, d5] }
  | _ => none }
def poolQueueRow : OpenClaim := { program := "ytfgjnpbffppocaagreat", sum := "a3ffac28c43fa4ad50e25f68efcf6e840655c045c3a79ca22946dc87e64c61c4", func := "palmer/palmerlaw24.PoolQueue", spec := "poolQueue", unfollowed := true, recurses := true, apart := false }
def PoolQueueSaid : Prop := poolQueueRow.holds Tryz.pinned (OpenSpec.ofChange poolQueueSpec)

/-- ITS FALSE NEIGHBOUR: 'it returns false'. Refute it at one input. -/
def poolQueueWrong : ChangeSpec := { name := "poolQueue", fn := fun _ => fun
  | [d1, d2, d3, d4, d5] => { results := [.lit (.bool false)], args := [d1, d2, d3, d4, d5] }
  | _ => none }
def PoolQueueWrongFalsely : Prop := poolQueueRow.holds Tryz.pinned (OpenSpec.ofChange poolQueueWrong)

/-- 'palmerlaw24.PoolDown': WHATEVER THE INPUT: true; the input reads as it did. -/
def poolDownSpec : ChangeSpec := { name := "poolDown", fn := fun _ => fun
  | [d1, d2] => { results := [.lit (.bool true)], args := [d1, d2] }
  | _ => none }
def poolDownRow : OpenClaim := { program := "ytfgjnpbffppocaagreat", sum := "a3ffac28c43fa4ad50e25f68efcf6e840655c045c3a79ca22946dc87e64c61c4", func := "palmer/palmerlaw24.PoolDown", spec := "poolDown", unfollowed := true, recurses := true, apart := false }
def PoolDownSaid : Prop := poolDownRow.holds Tryz.pinned (OpenSpec.ofChange poolDownSpec)

/-- ITS FALSE NEIGHBOUR: 'it returns false'. Refute it at one input. -/
def poolDownWrong : ChangeSpec := { name := "poolDown", fn := fun _ => fun
  | [d1, d2] => { results := [.lit (.bool false)], args := [d1, d2] }
  | _ => none }
def PoolDownWrongFalsely : Prop := poolDownRow.holds Tryz.pinned (OpenSpec.ofChange poolDownWrong)

/- THE SECOND FORM. 'bulk': how many values and letters a reading holds, each counted each time it is reached (what is shared counts as often as it is met; a slice's spare places count too). A statement '..UptoSaid' is the law's where the arguments, and the package variables that the reading takes, are together of bulk at most 1048576: NARROWER than '..Said'. Prove '..Said' where nothing that the law and all that it calls make is longer than what came in: it says more and counts as full. Else prove '..UptoSaid'. A law counts once. -/
mutual
def uptoBulk {H : Type} : DataW H → Nat
  | .lit (.string bytes) => bytes.length + 1
  | .lit _ => 1
  | .nil => 1
  | .ptr d => uptoBulk d + 1
  | .slice elems spare => uptoBulkAll elems + uptoBulkAll spare + 1
  | .agg parts => uptoBulkAll parts + 1
  | .iface _ d => uptoBulk d + 1
  | .map entries => uptoBulkEntries entries + 1
  | .held _ => 1
def uptoBulkAll {H : Type} : List (DataW H) → Nat
  | [] => 0
  | d :: r => uptoBulk d + uptoBulkAll r
def uptoBulkEntries {H : Type} : List (Lit × DataW H) → Nat
  | [] => 0
  | x :: r => uptoBulkEntry x + uptoBulkEntries r
def uptoBulkEntry {H : Type} : Lit × DataW H → Nat
  | (.string bytes, d) => bytes.length + uptoBulk d + 1
  | (_, d) => uptoBulk d + 1
 end
def uptoSmall : (H : Type) → List (DataW H) → Bool := fun _ ds => decide (uptoBulkAll ds ≤ 1048576)
def OpenSpec.upto (s : _root_.Go.ChangeSpec) : _root_.Go.OpenSpec := { _root_.Go.OpenSpec.ofChange s with cond := some uptoSmall }

/-- 'palmerlaw24.PoolQueue', WHERE WHAT IT READS IS OF BULK AT MOST 1048576: true; the input reads as it did. -/
def poolQueueUptoRow : OpenClaim := { program := "ytfgjnpbffppocaagreat", sum := "a3ffac28c43fa4ad50e25f68efcf6e840655c045c3a79ca22946dc87e64c61c4", func := "palmer/palmerlaw24.PoolQueue", spec := "poolQueue", unfollowed := true, recurses := true, apart := false, narrowed := true }
def PoolQueueUptoSaid : Prop := poolQueueUptoRow.holds Tryz.pinned (OpenSpec.upto poolQueueSpec)

/-- 'palmerlaw24.PoolDown', WHERE WHAT IT READS IS OF BULK AT MOST 1048576: true; the input reads as it did. -/
def poolDownUptoRow : OpenClaim := { program := "ytfgjnpbffppocaagreat", sum := "a3ffac28c43fa4ad50e25f68efcf6e840655c045c3a79ca22946dc87e64c61c4", func := "palmer/palmerlaw24.PoolDown", spec := "poolDown", unfollowed := true, recurses := true, apart := false, narrowed := true }
def PoolDownUptoSaid : Prop := poolDownUptoRow.holds Tryz.pinned (OpenSpec.upto poolDownSpec)

end Rows
end Go.Proofs.YtfgjnpbffppocaaGreat
