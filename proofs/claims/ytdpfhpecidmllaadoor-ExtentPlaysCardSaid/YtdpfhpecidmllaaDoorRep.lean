/- Layer 7: what a map holds; Is, Free, New. -/
import Derived.Test.YtdpfhpecidmllaaDoorBase
import Derived.IntWalk
import Derived.WalkSmall
namespace Go.Proofs.YtdpfhpecidmllaaDoor.Ext
open Go.RowKit Mem

set_option maxHeartbeats 1000000 in
theorem free_nil (w : World) : Calls Tryd.prog 12 #[.pointer none] w fun e w' => e = .returned (.int .i64 0) ∧ w = w' := by
  go_enter Tryd.func12, Tryd.ntmps12
  go_wp2
  go_ret
  exact ⟨rfl, rfl⟩
set_option maxHeartbeats 1000000 in
theorem is_nil (i : Int) (w : World) : Calls Tryd.prog 14 #[.pointer none, .int .i64 i] w fun e w' => e = .returned (.bool false) ∧ w = w' := by
  go_enter Tryd.func14, Tryd.ntmps14
  go_wp2
  go_ret
  exact ⟨rfl, rfl⟩
set_option maxHeartbeats 1000000 in
theorem clone_nil (w : World) : Calls Tryd.prog 10 #[.pointer none] w fun e w' => e = .returned (.pointer none) ∧ w = w' := by
  go_enter Tryd.func10, Tryd.ntmps10
  go_wp2
  go_ret
  exact ⟨rfl, rfl⟩
set_option maxHeartbeats 1000000 in
theorem count_any (n : Int) (w : World) : Calls Tryd.prog 9 #[.int .i64 n] w fun e w' => e = .returned (.int .i64 (min (max n 0) 65536)) ∧ w = w' := by
  by_cases h : n < 0
  · have e : min (max n 0) 65536 = 0 := by omega
    rw [e]
    go_enter Tryd.func9, Tryd.ntmps9
    go_wp2
    go_ret
    exact ⟨rfl, rfl⟩
  · by_cases h2 : 65536 < n
    · have e : min (max n 0) 65536 = 65536 := by omega
      rw [e]
      go_enter Tryd.func9, Tryd.ntmps9
      go_wp2
      go_ret
      exact ⟨rfl, rfl⟩
    · have e : min (max n 0) 65536 = n := by omega
      rw [e]
      go_enter Tryd.func9, Tryd.ntmps9
      go_wp2
      go_ret
      exact ⟨rfl, rfl⟩
end Go.Proofs.YtdpfhpecidmllaaDoor.Ext
