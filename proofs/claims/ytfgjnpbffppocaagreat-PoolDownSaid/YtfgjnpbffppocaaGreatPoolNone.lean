/- slices.BinarySearch on no names. -/
import Derived.Test.YtfgjnpbffppocaaGreatRemove
import Derived.Test.YtfgjnpbffppocaaGreatPoolName
import Derived.Outline
namespace Go.Proofs.YtfgjnpbffppocaaGreat.Pool
open Go.RowKit Go.Deep Mem Crc

theorem search_empty (a : Option Addr) (cp : Nat) (nm : ByteArray) (w : World) : Calls Tryz.prog 20 #[.slice a 0 cp, .string nm] w fun e w' => e = .returned (.tuple #[.int .i64 0, .bool false]) ∧ w' = w := by
  go_enter Tryz.func20, Tryz.ntmps20
  go_wp2_with fail
  go_loopw [7, 8] (fun i j wr => i = .int .i64 0 ∧ j = .int .i64 0 ∧ wr = w) (fun _ _ _ => 0)
  case atStart => exact ⟨rfl, rfl, rfl⟩
  case round =>
    obtain ⟨rfl, rfl, rfl⟩ := hrel
    go_wp2_with fail
    go_ret2
    exact ⟨rfl, rfl⟩
end Go.Proofs.YtfgjnpbffppocaaGreat.Pool
