/-
  DERIVED. GIVEN WITH THE SEED: THE CARDS: each row of YtdpfhpecidmllaaDoorRows.lean that lists a variable, with what it lists TIED to the program's text (the seventh form; the later family's looks); each row that meets fmt, with fmt's text TOLD by the authors' own Lean function (tested against real Go, not proved from fmt's source: count such statements apart). THE CARD IS WHAT COUNTS. Prove the row's statement (the work); the ties are given (YtdpfhpecidmllaaDoorTie.lean); close each card by the builder's one call (the guide's Derived/Test/ToyasCard.lean, 'card_holds'). Laid BY PROGRAM, IN A SANDBOX (cutbox-door.mjs). By AI agents, Wed Nov 11 2026. No macro, syntax, notation, axiom, sorry.
-/
import Derived.Test.YtdpfhpecidmllaaDoorRows
import GoSem.ClaimSeven
namespace Go.Proofs.YtdpfhpecidmllaaDoor
namespace Rows

/-- THE TIED CARD OF 'palmerlaw07.ExtentPlays'. -/
def extentPlaysCard : Claim7 := { stood := { row := extentPlaysRow, standIns := [], harness := (true, "d9a9ad6200afdd8ee5883f1035d836af57404b4ab380448e37f42a76cdfd3e99"), looks := false }, kinds := [], alts := [], laidByText := true, laidKinds := [.data], laidTests := true, laidLooks := .later }
def ExtentPlaysCardSaid : Prop := Claim7.holds Tryd.pinned (.plain (OpenSpec.ofChange extentPlaysSpec)) extentPlaysCard

/-- THE TIED CARD OF 'palmerlaw07.ExtentBack'. -/
def extentBackCard : Claim7 := { stood := { row := extentBackRow, standIns := [], harness := (true, "d9a9ad6200afdd8ee5883f1035d836af57404b4ab380448e37f42a76cdfd3e99"), looks := false }, kinds := [], alts := [], laidByText := true, laidKinds := [.data], laidTests := true, laidLooks := .later }
def ExtentBackCardSaid : Prop := Claim7.holds Tryd.pinned (.plain (OpenSpec.ofChange extentBackSpec)) extentBackCard

/-- THE TIED CARD OF 'palmerlaw07.ExtentNil'. -/
def extentNilCard : Claim7 := { stood := { row := extentNilRow, standIns := [], harness := (true, "d9a9ad6200afdd8ee5883f1035d836af57404b4ab380448e37f42a76cdfd3e99"), looks := false }, kinds := [], alts := [], laidByText := true, laidKinds := [.data], laidTests := true, laidLooks := .later }
def ExtentNilCardSaid : Prop := Claim7.holds Tryd.pinned (.plain (OpenSpec.ofChange extentNilSpec)) extentNilCard

/-- THE SECOND FORM's CARD OF 'palmerlaw07.ExtentPlays'. -/
def extentPlaysUptoCard : Claim7 := { stood := { row := extentPlaysUptoRow, standIns := [], harness := (true, "d9a9ad6200afdd8ee5883f1035d836af57404b4ab380448e37f42a76cdfd3e99"), looks := false }, kinds := [], alts := [], laidByText := true, laidKinds := [.data], laidTests := true, laidLooks := .later }
def ExtentPlaysUptoCardSaid : Prop := Claim7.holds Tryd.pinned (.plain (OpenSpec.upto extentPlaysSpec)) extentPlaysUptoCard

/-- THE SECOND FORM's CARD OF 'palmerlaw07.ExtentBack'. -/
def extentBackUptoCard : Claim7 := { stood := { row := extentBackUptoRow, standIns := [], harness := (true, "d9a9ad6200afdd8ee5883f1035d836af57404b4ab380448e37f42a76cdfd3e99"), looks := false }, kinds := [], alts := [], laidByText := true, laidKinds := [.data], laidTests := true, laidLooks := .later }
def ExtentBackUptoCardSaid : Prop := Claim7.holds Tryd.pinned (.plain (OpenSpec.upto extentBackSpec)) extentBackUptoCard

/-- THE SECOND FORM's CARD OF 'palmerlaw07.ExtentNil'. -/
def extentNilUptoCard : Claim7 := { stood := { row := extentNilUptoRow, standIns := [], harness := (true, "d9a9ad6200afdd8ee5883f1035d836af57404b4ab380448e37f42a76cdfd3e99"), looks := false }, kinds := [], alts := [], laidByText := true, laidKinds := [.data], laidTests := true, laidLooks := .later }
def ExtentNilUptoCardSaid : Prop := Claim7.holds Tryd.pinned (.plain (OpenSpec.upto extentNilSpec)) extentNilUptoCard
end Rows
end Go.Proofs.YtdpfhpecidmllaaDoor
