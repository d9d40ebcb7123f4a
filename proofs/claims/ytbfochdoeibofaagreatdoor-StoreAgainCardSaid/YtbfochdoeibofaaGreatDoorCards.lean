/-
  DERIVED. GIVEN WITH THE SEED: THE CARDS: each row of YtbfochdoeibofaaGreatDoorRows.lean that lists a variable, with what it lists TIED to the program's text (the seventh form; the later family's looks); each row that meets fmt, with fmt's text TOLD by the authors' own Lean function (tested against real Go, not proved from fmt's source: count such statements apart). THE CARD IS WHAT COUNTS. Prove the row's statement (the work); the ties are given (YtbfochdoeibofaaGreatDoorTie.lean); close each card by the builder's one call (the guide's Derived/Test/ToyasCard.lean, 'card_holds'). Laid BY PROGRAM, IN A SANDBOX (cutbox-door.mjs). By AI agents, Wed Nov 11 2026. No macro, syntax, notation, axiom, sorry.
-/
import Derived.Test.YtbfochdoeibofaaGreatDoorRows
import GoSem.ClaimSeven
namespace Go.Proofs.YtbfochdoeibofaaGreatDoor
namespace Rows

/-- THE TIED CARD OF 'palmerlaw10.StoreOwn'. -/
def storeOwnCard : Claim7 := { stood := { row := storeOwnRow, standIns := [], harness := (true, "2dc6a13789321d2c97f1edbb5a35955205242cf0f5992d3c7f7d36e12b4ccdf0"), looks := false }, kinds := [], alts := [], laidByText := true, laidKinds := [.data], laidTests := true, laidLooks := .later }
def StoreOwnCardSaid : Prop := Claim7.holds Tryz.pinned (.plain (OpenSpec.ofChange storeOwnSpec)) storeOwnCard

/-- THE TIED CARD OF 'palmerlaw10.StorePlays'. -/
def storePlaysCard : Claim7 := { stood := { row := storePlaysRow, standIns := [], harness := (true, "2dc6a13789321d2c97f1edbb5a35955205242cf0f5992d3c7f7d36e12b4ccdf0"), looks := false }, kinds := [], alts := [], laidByText := true, laidKinds := [.data], laidTests := true, laidLooks := .later }
def StorePlaysCardSaid : Prop := Claim7.holds Tryz.pinned (.plain (OpenSpec.ofChange storePlaysSpec)) storePlaysCard

/-- THE TIED CARD OF 'palmerlaw10.StoreNil'. -/
def storeNilCard : Claim7 := { stood := { row := storeNilRow, standIns := [], harness := (true, "2dc6a13789321d2c97f1edbb5a35955205242cf0f5992d3c7f7d36e12b4ccdf0"), looks := false }, kinds := [], alts := [], laidByText := true, laidKinds := [.data], laidTests := true, laidLooks := .later }
def StoreNilCardSaid : Prop := Claim7.holds Tryz.pinned (.plain (OpenSpec.ofChange storeNilSpec)) storeNilCard

/-- THE TIED CARD OF 'palmerlaw10.StoreSpoilt'. -/
def storeSpoiltCard : Claim7 := { stood := { row := storeSpoiltRow, standIns := [], harness := (true, "2dc6a13789321d2c97f1edbb5a35955205242cf0f5992d3c7f7d36e12b4ccdf0"), looks := false }, kinds := [], alts := [], laidByText := true, laidKinds := [.data], laidTests := true, laidLooks := .later }
def StoreSpoiltCardSaid : Prop := Claim7.holds Tryz.pinned (.plain (OpenSpec.ofChange storeSpoiltSpec)) storeSpoiltCard

/-- THE TIED CARD OF 'palmerlaw10.StoreFalls'. -/
def storeFallsCard : Claim7 := { stood := { row := storeFallsRow, standIns := [], harness := (true, "2dc6a13789321d2c97f1edbb5a35955205242cf0f5992d3c7f7d36e12b4ccdf0"), looks := false }, kinds := [], alts := [], laidByText := true, laidKinds := [.data], laidTests := true, laidLooks := .later }
def StoreFallsCardSaid : Prop := Claim7.holds Tryz.pinned (.plain (OpenSpec.ofChange storeFallsSpec)) storeFallsCard

/-- THE TIED CARD OF 'palmerlaw10.StoreAgain'. -/
def storeAgainCard : Claim7 := { stood := { row := storeAgainRow, standIns := [], harness := (true, "2dc6a13789321d2c97f1edbb5a35955205242cf0f5992d3c7f7d36e12b4ccdf0"), looks := false }, kinds := [], alts := [], laidByText := true, laidKinds := [.data], laidTests := true, laidLooks := .later }
def StoreAgainCardSaid : Prop := Claim7.holds Tryz.pinned (.plain (OpenSpec.ofChange storeAgainSpec)) storeAgainCard

/-- THE SECOND FORM's CARD OF 'palmerlaw10.StoreOwn'. -/
def storeOwnUptoCard : Claim7 := { stood := { row := storeOwnUptoRow, standIns := [], harness := (true, "2dc6a13789321d2c97f1edbb5a35955205242cf0f5992d3c7f7d36e12b4ccdf0"), looks := false }, kinds := [], alts := [], laidByText := true, laidKinds := [.data], laidTests := true, laidLooks := .later }
def StoreOwnUptoCardSaid : Prop := Claim7.holds Tryz.pinned (.plain (OpenSpec.upto storeOwnSpec)) storeOwnUptoCard

/-- THE SECOND FORM's CARD OF 'palmerlaw10.StorePlays'. -/
def storePlaysUptoCard : Claim7 := { stood := { row := storePlaysUptoRow, standIns := [], harness := (true, "2dc6a13789321d2c97f1edbb5a35955205242cf0f5992d3c7f7d36e12b4ccdf0"), looks := false }, kinds := [], alts := [], laidByText := true, laidKinds := [.data], laidTests := true, laidLooks := .later }
def StorePlaysUptoCardSaid : Prop := Claim7.holds Tryz.pinned (.plain (OpenSpec.upto storePlaysSpec)) storePlaysUptoCard

/-- THE SECOND FORM's CARD OF 'palmerlaw10.StoreNil'. -/
def storeNilUptoCard : Claim7 := { stood := { row := storeNilUptoRow, standIns := [], harness := (true, "2dc6a13789321d2c97f1edbb5a35955205242cf0f5992d3c7f7d36e12b4ccdf0"), looks := false }, kinds := [], alts := [], laidByText := true, laidKinds := [.data], laidTests := true, laidLooks := .later }
def StoreNilUptoCardSaid : Prop := Claim7.holds Tryz.pinned (.plain (OpenSpec.upto storeNilSpec)) storeNilUptoCard

/-- THE SECOND FORM's CARD OF 'palmerlaw10.StoreSpoilt'. -/
def storeSpoiltUptoCard : Claim7 := { stood := { row := storeSpoiltUptoRow, standIns := [], harness := (true, "2dc6a13789321d2c97f1edbb5a35955205242cf0f5992d3c7f7d36e12b4ccdf0"), looks := false }, kinds := [], alts := [], laidByText := true, laidKinds := [.data], laidTests := true, laidLooks := .later }
def StoreSpoiltUptoCardSaid : Prop := Claim7.holds Tryz.pinned (.plain (OpenSpec.upto storeSpoiltSpec)) storeSpoiltUptoCard

/-- THE SECOND FORM's CARD OF 'palmerlaw10.StoreFalls'. -/
def storeFallsUptoCard : Claim7 := { stood := { row := storeFallsUptoRow, standIns := [], harness := (true, "2dc6a13789321d2c97f1edbb5a35955205242cf0f5992d3c7f7d36e12b4ccdf0"), looks := false }, kinds := [], alts := [], laidByText := true, laidKinds := [.data], laidTests := true, laidLooks := .later }
def StoreFallsUptoCardSaid : Prop := Claim7.holds Tryz.pinned (.plain (OpenSpec.upto storeFallsSpec)) storeFallsUptoCard

/-- THE SECOND FORM's CARD OF 'palmerlaw10.StoreAgain'. -/
def storeAgainUptoCard : Claim7 := { stood := { row := storeAgainUptoRow, standIns := [], harness := (true, "2dc6a13789321d2c97f1edbb5a35955205242cf0f5992d3c7f7d36e12b4ccdf0"), looks := false }, kinds := [], alts := [], laidByText := true, laidKinds := [.data], laidTests := true, laidLooks := .later }
def StoreAgainUptoCardSaid : Prop := Claim7.holds Tryz.pinned (.plain (OpenSpec.upto storeAgainSpec)) storeAgainUptoCard
end Rows
end Go.Proofs.YtbfochdoeibofaaGreatDoor
