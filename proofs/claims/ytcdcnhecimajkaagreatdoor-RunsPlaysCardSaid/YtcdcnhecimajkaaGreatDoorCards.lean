/-
  DERIVED. GIVEN WITH THE SEED: THE CARDS: each row of YtcdcnhecimajkaaGreatDoorRows.lean that lists a variable, with what it lists TIED to the program's text (the seventh form; the later family's looks); each row that meets fmt, with fmt's text TOLD by the authors' own Lean function (tested against real Go, not proved from fmt's source: count such statements apart). THE CARD IS WHAT COUNTS. Prove the row's statement (the work); the ties are given (YtcdcnhecimajkaaGreatDoorTie.lean); close each card by the builder's one call (the guide's Derived/Test/ToyasCard.lean, 'card_holds'). Laid BY PROGRAM, IN A SANDBOX (cutbox-door.mjs). By AI agents, Wed Nov 11 2026. No macro, syntax, notation, axiom, sorry.
-/
import Derived.Test.YtcdcnhecimajkaaGreatDoorRows
import GoSem.ClaimSeven
namespace Go.Proofs.YtcdcnhecimajkaaGreatDoor
namespace Rows

/-- THE TIED CARD OF 'palmerlaw13.RunsPlays'. -/
def runsPlaysCard : Claim7 := { stood := { row := runsPlaysRow, standIns := [], harness := (true, "4da44b9a99b82590630b6ae37d3d0b0dd4f63663832ee62bb44253146bf1cb03"), looks := false }, kinds := [], alts := [], laidByText := true, laidKinds := [.data], laidTests := true, laidLooks := .later }
def RunsPlaysCardSaid : Prop := Claim7.holds Tryz.pinned (.plain (OpenSpec.ofChange runsPlaysSpec)) runsPlaysCard

/-- THE SECOND FORM's CARD OF 'palmerlaw13.RunsPlays'. -/
def runsPlaysUptoCard : Claim7 := { stood := { row := runsPlaysUptoRow, standIns := [], harness := (true, "4da44b9a99b82590630b6ae37d3d0b0dd4f63663832ee62bb44253146bf1cb03"), looks := false }, kinds := [], alts := [], laidByText := true, laidKinds := [.data], laidTests := true, laidLooks := .later }
def RunsPlaysUptoCardSaid : Prop := Claim7.holds Tryz.pinned (.plain (OpenSpec.upto runsPlaysSpec)) runsPlaysUptoCard
end Rows
end Go.Proofs.YtcdcnhecimajkaaGreatDoor
