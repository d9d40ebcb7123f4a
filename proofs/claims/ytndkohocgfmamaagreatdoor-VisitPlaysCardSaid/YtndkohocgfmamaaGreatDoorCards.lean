/-
  DERIVED. GIVEN WITH THE SEED: THE CARDS: each row of YtndkohocgfmamaaGreatDoorRows.lean that lists a variable, with what it lists TIED to the program's text (the seventh form; the later family's looks); each row that meets fmt, with fmt's text TOLD by the authors' own Lean function (tested against real Go, not proved from fmt's source: count such statements apart). THE CARD IS WHAT COUNTS. Prove the row's statement (the work); the ties are given (YtndkohocgfmamaaGreatDoorTie.lean); close each card by the builder's one call (the guide's Derived/Test/ToyasCard.lean, 'card_holds'). Laid BY PROGRAM, IN A SANDBOX (cutbox-door.mjs). By AI agents, Wed Nov 11 2026. No macro, syntax, notation, axiom, sorry.
-/
import Derived.Test.YtndkohocgfmamaaGreatDoorRows
import GoSem.ClaimSeven
namespace Go.Proofs.YtndkohocgfmamaaGreatDoor
namespace Rows

/-- THE TIED CARD OF 'palmerlaw27.VisitPlays'. -/
def visitPlaysCard : Claim7 := { stood := { row := visitPlaysRow, standIns := [], harness := (true, "a6d670acfa3e54b47042e8ae5901779b26482c61c48dd599536c1afcb41953e2"), looks := false }, kinds := [], alts := [], laidByText := true, laidKinds := [.data], laidTests := true, laidLooks := .later }
def VisitPlaysCardSaid : Prop := Claim7.holds Tryz.pinned (.plain (OpenSpec.ofChange visitPlaysSpec)) visitPlaysCard

/-- THE SECOND FORM's CARD OF 'palmerlaw27.VisitPlays'. -/
def visitPlaysUptoCard : Claim7 := { stood := { row := visitPlaysUptoRow, standIns := [], harness := (true, "a6d670acfa3e54b47042e8ae5901779b26482c61c48dd599536c1afcb41953e2"), looks := false }, kinds := [], alts := [], laidByText := true, laidKinds := [.data], laidTests := true, laidLooks := .later }
def VisitPlaysUptoCardSaid : Prop := Claim7.holds Tryz.pinned (.plain (OpenSpec.upto visitPlaysSpec)) visitPlaysUptoCard
end Rows
end Go.Proofs.YtndkohocgfmamaaGreatDoor
