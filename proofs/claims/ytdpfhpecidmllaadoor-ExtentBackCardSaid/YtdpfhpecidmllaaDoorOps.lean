/- Layer 7: Free; what a map holds. -/
import Derived.Test.YtdpfhpecidmllaaDoorNew
import Derived.BigQuiet
import Derived.Deep.QuietTactic
namespace Go.Proofs.YtdpfhpecidmllaaDoor.Ext
open Go.RowKit Go.Shelf Mem
set_option maxHeartbeats 1000000 in
theorem free_any (C : Nat) (v : Value) (count taken : Int) (w : World) (h : Blk w C 46 #[v, .int .i64 count, .int .i64 taken]) (hc : 0 ≤ count ∧ count ≤ 65536) (ht : 0 ≤ taken ∧ taken ≤ 65536) :
    Calls Tryd.prog 12 #[.pointer (some ⟨C, 0, none⟩)] w fun e w' => e = .returned (.int .i64 (count - taken)) ∧ ∃ n, w' = w.drewN n := by
  have c1 := h.cell 1
  have c2 := h.cell 2
  simp at c1 c2
  have hw : IntKind.i64.wrap (count - taken) = count - taken := IntWalk.i64_in _ (by omega)
  go_enter Tryd.func12, Tryd.ntmps12
  go_wp2_with fail
  go_quiet (fail)
  go_wp2_with fail
  go_ret
  exact ⟨rfl, _, rfl⟩
set_option maxHeartbeats 1000000 in
theorem is_any (C g m cap : Nat) (count taken i : Int) (x : Int) (w : World) (h : Blk w C 46 #[.slice (some ⟨g, 0, none⟩) m cap, .int .i64 count, .int .i64 taken]) (hc : 0 ≤ count ∧ count ≤ 65536)
    (h0 : 0 ≤ i) (h1 : i < count) (hm : (i / 64).toNat < m) (hx : w.cell? ⟨g, (i / 64).toNat, none⟩ = some (.int .u64 x)) :
    Calls Tryd.prog 14 #[.pointer (some ⟨C, 0, none⟩), .int .i64 i] w fun e w' => e = .returned (.bool (bits .and .u64 (x / 2 ^ (i % 64).toNat) 1 == 1)) ∧ w = w' := by
  have c0 := h.cell 0
  have c1 := h.cell 1
  simp at c0 c1
  have d0 : decide (0 ≤ i) = true := by simpa using h0
  have d1 : decide (i < count) = true := by simpa using h1
  go_enter Tryd.func14, Tryd.ntmps14
  go_wp2_with fail
  go_ret
  exact ⟨rfl, rfl⟩
end Go.Proofs.YtdpfhpecidmllaaDoor.Ext
