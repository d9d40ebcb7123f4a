/-
  No cell of these rows narrows 'for every input' (looked for: loops, veiled, ifaces, maps, wideKeys, modest, calm, conditions, laid).
  DERIVED. THE GIVEN ROWS OF THIS SEAT. 4 by the template 'for every input the law returns true; each argument reads behind the call as it read before'; 0 by the template 'total and deterministic' (their statements: YtddjcamhhjkbfaaTotals.lean).
  GIVEN WITH THE SEED: the statements are not yours to turn. If you find one false, say at which input.
  Laid BY PROGRAM, IN A SANDBOX (cutbox-rows.mjs): the forced cells as the released guide's own fill.sh prints them over the translation f58fbd04a8f0bd94… (all of the seat's roots in one cut). By AI agents, Wed Nov 11 2026. No macro, syntax, notation, axiom, sorry.
-/
import Derived.Test.YtddjcamhhjkbfaaChecked
import GoSem.Claim
import GoSem.ClaimJoined
import GoSem.ClaimMapViews
import Derived.JoinedTies
import Derived.KernelRfl
namespace Go.Proofs.Ytddjcamhhjkbfaa
/- THE CELL 'sum', in the pinned program and in every row, IS THE sha256 OF THE DUMP (.gsa) THAT YtddjcamhhjkbfaaProg.lean LOADS. Nothing in Lean hashes anything: it is a label: what it is worth is what the hold of that sum in a sandbox is worth. -/
noncomputable def Try.pinned : Pinned := { name := "ytddjcamhhjkbfaa", sum := "f58fbd04a8f0bd9401019e5fa1c06e66a36f2f8a5a09d90711d51732f885e6c5", checked := Try.checked }
namespace Rows
def none {H : Type} : Left H := { results := [], args := [] }

/-- 'palmerlaw25.CacheAny': WHATEVER THE INPUT: true; the input reads as it did. -/
def cacheAnySpec : ChangeSpec := { name := "cacheAny", fn := fun _ => fun
  | [d1, d2] => { results := [.lit (.bool true)], args := [d1, d2] }
  | _ => none }
def cacheAnyRow : OpenClaim := { program := "ytddjcamhhjkbfaa", sum := "f58fbd04a8f0bd9401019e5fa1c06e66a36f2f8a5a09d90711d51732f885e6c5", func := "palmer/palmerlaw25.CacheAny", spec := "cacheAny", unfollowed := true, recurses := true, apart := false }
def CacheAnySaid : Prop := cacheAnyRow.holds Try.pinned (OpenSpec.ofChange cacheAnySpec)

/-- ITS FALSE NEIGHBOUR: 'it returns false'. Refute it at one input. -/
def cacheAnyWrong : ChangeSpec := { name := "cacheAny", fn := fun _ => fun
  | [d1, d2] => { results := [.lit (.bool false)], args := [d1, d2] }
  | _ => none }
def CacheAnyWrongFalsely : Prop := cacheAnyRow.holds Try.pinned (OpenSpec.ofChange cacheAnyWrong)

/-- 'palmerlaw25.CacheRoom': WHATEVER THE INPUT: true; the input reads as it did. -/
def cacheRoomSpec : ChangeSpec := { name := "cacheRoom", fn := fun _ => fun
  | [d1, d2] => { results := [.lit (.bool true)], args := [d1, d2] }
  | _ => none }
def cacheRoomRow : OpenClaim := { program := "ytddjcamhhjkbfaa", sum := "f58fbd04a8f0bd9401019e5fa1c06e66a36f2f8a5a09d90711d51732f885e6c5", func := "palmer/palmerlaw25.CacheRoom", spec := "cacheRoom", unfollowed := true, recurses := true, apart := false }
def CacheRoomSaid : Prop := cacheRoomRow.holds Try.pinned (OpenSpec.ofChange cacheRoomSpec)

/-- ITS FALSE NEIGHBOUR: 'it returns false'. Refute it at one input. -/
def cacheRoomWrong : ChangeSpec := { name := "cacheRoom", fn := fun _ => fun
  | [d1, d2] => { results := [.lit (.bool false)], args := [d1, d2] }
  | _ => none }
def CacheRoomWrongFalsely : Prop := cacheRoomRow.holds Try.pinned (OpenSpec.ofChange cacheRoomWrong)

/-- 'palmerlaw25.CachePlays': WHATEVER THE INPUT: true; the input reads as it did. -/
def cachePlaysSpec : ChangeSpec := { name := "cachePlays", fn := fun _ => fun
  | [d1, d2] => { results := [.lit (.bool true)], args := [d1, d2] }
  | _ => none }
def cachePlaysRow : OpenClaim := { program := "ytddjcamhhjkbfaa", sum := "f58fbd04a8f0bd9401019e5fa1c06e66a36f2f8a5a09d90711d51732f885e6c5", func := "palmer/palmerlaw25.CachePlays", spec := "cachePlays", unfollowed := true, recurses := true, apart := false }
def CachePlaysSaid : Prop := cachePlaysRow.holds Try.pinned (OpenSpec.ofChange cachePlaysSpec)

/-- ITS FALSE NEIGHBOUR: 'it returns false'. Refute it at one input. -/
def cachePlaysWrong : ChangeSpec := { name := "cachePlays", fn := fun _ => fun
  | [d1, d2] => { results := [.lit (.bool false)], args := [d1, d2] }
  | _ => none }
def CachePlaysWrongFalsely : Prop := cachePlaysRow.holds Try.pinned (OpenSpec.ofChange cachePlaysWrong)

/-- 'palmerlaw25.CacheNil': WHATEVER THE INPUT: true; the input reads as it did. -/
def cacheNilSpec : ChangeSpec := { name := "cacheNil", fn := fun _ => fun
  | [d1, d2] => { results := [.lit (.bool true)], args := [d1, d2] }
  | _ => none }
def cacheNilRow : OpenClaim := { program := "ytddjcamhhjkbfaa", sum := "f58fbd04a8f0bd9401019e5fa1c06e66a36f2f8a5a09d90711d51732f885e6c5", func := "palmer/palmerlaw25.CacheNil", spec := "cacheNil", unfollowed := true, recurses := true, apart := false }
def CacheNilSaid : Prop := cacheNilRow.holds Try.pinned (OpenSpec.ofChange cacheNilSpec)

/-- ITS FALSE NEIGHBOUR: 'it returns false'. Refute it at one input. -/
def cacheNilWrong : ChangeSpec := { name := "cacheNil", fn := fun _ => fun
  | [d1, d2] => { results := [.lit (.bool false)], args := [d1, d2] }
  | _ => none }
def CacheNilWrongFalsely : Prop := cacheNilRow.holds Try.pinned (OpenSpec.ofChange cacheNilWrong)

/- THE SECOND FORM. 'bulk': how many values and letters a reading holds, each counted each time it is reached (what is shared counts as often as it is met; a slice's spare places count too). A statement '..UptoSaid' is the law's where the arguments, and the package variables that the reading takes, are together of bulk at most 1048576: NARROWER than '..Said'. Prove '..Said' where nothing that the law and all that it calls make is longer than what came in: it says more and counts as full. Else prove '..UptoSaid'. A law counts once. -/
mutual
def uptoBulk {H : Type} : DataW H → Nat
  | .lit (.string bytes) => bytes.length + 1
  | .lit _ => 1
  | .nil => 1
  | .ptr d => uptoBulk d + 1
  | .slice elems spare => uptoBulkAll elems + uptoBulkAll spare + 1
  | .agg parts => uptoBulkAll parts + 1
  | .iface _ d => uptoBulk d + 1
  | .map entries => uptoBulkEntries entries + 1
  | .held _ => 1
def uptoBulkAll {H : Type} : List (DataW H) → Nat
  | [] => 0
  | d :: r => uptoBulk d + uptoBulkAll r
def uptoBulkEntries {H : Type} : List (Lit × DataW H) → Nat
  | [] => 0
  | x :: r => uptoBulkEntry x + uptoBulkEntries r
def uptoBulkEntry {H : Type} : Lit × DataW H → Nat
  | (.string bytes, d) => bytes.length + uptoBulk d + 1
  | (_, d) => uptoBulk d + 1
 end
def uptoSmall : (H : Type) → List (DataW H) → Bool := fun _ ds => decide (uptoBulkAll ds ≤ 1048576)
def OpenSpec.upto (s : _root_.Go.ChangeSpec) : _root_.Go.OpenSpec := { _root_.Go.OpenSpec.ofChange s with cond := some uptoSmall }

/-- 'palmerlaw25.CacheAny', WHERE WHAT IT READS IS OF BULK AT MOST 1048576: true; the input reads as it did. -/
def cacheAnyUptoRow : OpenClaim := { program := "ytddjcamhhjkbfaa", sum := "f58fbd04a8f0bd9401019e5fa1c06e66a36f2f8a5a09d90711d51732f885e6c5", func := "palmer/palmerlaw25.CacheAny", spec := "cacheAny", unfollowed := true, recurses := true, apart := false, narrowed := true }
def CacheAnyUptoSaid : Prop := cacheAnyUptoRow.holds Try.pinned (OpenSpec.upto cacheAnySpec)

/-- 'palmerlaw25.CacheRoom', WHERE WHAT IT READS IS OF BULK AT MOST 1048576: true; the input reads as it did. -/
def cacheRoomUptoRow : OpenClaim := { program := "ytddjcamhhjkbfaa", sum := "f58fbd04a8f0bd9401019e5fa1c06e66a36f2f8a5a09d90711d51732f885e6c5", func := "palmer/palmerlaw25.CacheRoom", spec := "cacheRoom", unfollowed := true, recurses := true, apart := false, narrowed := true }
def CacheRoomUptoSaid : Prop := cacheRoomUptoRow.holds Try.pinned (OpenSpec.upto cacheRoomSpec)

/-- 'palmerlaw25.CachePlays', WHERE WHAT IT READS IS OF BULK AT MOST 1048576: true; the input reads as it did. -/
def cachePlaysUptoRow : OpenClaim := { program := "ytddjcamhhjkbfaa", sum := "f58fbd04a8f0bd9401019e5fa1c06e66a36f2f8a5a09d90711d51732f885e6c5", func := "palmer/palmerlaw25.CachePlays", spec := "cachePlays", unfollowed := true, recurses := true, apart := false, narrowed := true }
def CachePlaysUptoSaid : Prop := cachePlaysUptoRow.holds Try.pinned (OpenSpec.upto cachePlaysSpec)

/-- 'palmerlaw25.CacheNil', WHERE WHAT IT READS IS OF BULK AT MOST 1048576: true; the input reads as it did. -/
def cacheNilUptoRow : OpenClaim := { program := "ytddjcamhhjkbfaa", sum := "f58fbd04a8f0bd9401019e5fa1c06e66a36f2f8a5a09d90711d51732f885e6c5", func := "palmer/palmerlaw25.CacheNil", spec := "cacheNil", unfollowed := true, recurses := true, apart := false, narrowed := true }
def CacheNilUptoSaid : Prop := cacheNilUptoRow.holds Try.pinned (OpenSpec.upto cacheNilSpec)

end Rows
end Go.Proofs.Ytddjcamhhjkbfaa
