/- A part of the proof. -/
import Derived.Test.YtbfochdoeibofaaGreatDoorG0
import Derived.Test.YtbfochdoeibofaaGreatDoorG32
import Derived.Test.YtbfochdoeibofaaGreatDoorTie
import Derived.ProofKit
import Derived.LaidMore
import Derived.MakeChecks
import Derived.Lib.LaidTab
namespace Go.Proofs.YtbfochdoeibofaaGreatDoor
namespace Ext
open Go.RowKit Mem
theorem gTab : Tryz.prog.globalNamed "math/bits.deBruijn64tab" = some 0 := by kernel_rfl
theorem tab_of_laid {W : World} (h : laidMetH Tryz.prog [("math/bits.deBruijn64tab", Rows.laid_math_bits_deBruijn64tab)] W) : Tab W := by
 rw[MakeChecks.laidMetH_plain _ _ _ (by kernel_rfl)]at h;have e:Rows.laid_math_bits_deBruijn64tab=Lib.tabData (H:=Unit) .u8 (Lib.deBruijn64tab.map (λn:Nat=>(n:Int))):=by kernel_rfl
 rw[e]at h;have hT:=Lib.tabIs_of_head gTab (t:=213) (e:=5) (n:=64) (by kernel_rfl) (by kernel_rfl) (by kernel_rfl) (by kernel_rfl) (by kernel_rfl) h;intro j hj;have:=hT.cell gTab j (by rw[jP];exact hj);rw[this];simp only[List.getD_eq_getElem?_getD,List.getElem?_map];cases Lib.deBruijn64tab[j]? <;> rfl
theorem door_met (os : Os) (args : Array Value) : laidMetH Tryz.prog [("math/bits.deBruijn64tab", Rows.laid_math_bits_deBruijn64tab)] ((World.doorLaid Tryz.prog 14 os).forCall (λ_ _ => 0) ⟨#[], args, []⟩).memory :=
 laidMetH_of_parts3 (fuel:=8) (laidMet_of_run' 8 (by kernel_rfl) (by kernel_rfl)) (by kernel_rfl) (by kernel_rfl)
end Ext
end Go.Proofs.YtbfochdoeibofaaGreatDoor
