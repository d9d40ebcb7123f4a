/- Layer 7: a nil map's Take, Hold, Give. -/
import Derived.Test.YtdpfhpecidmllaaDoorFind
namespace Go.Proofs.YtdpfhpecidmllaaDoor.Ext
open Go.RowKit Go.Shelf Mem

theorem outs_zero (i : Int) : outs 0 i = true := by
  unfold outs
  by_cases h : i < 0
  · simp [h]
  · have : (0 : Int) ≤ i := by omega
    simp [this]

set_option maxHeartbeats 1000000 in
theorem turn_none (taken : Bool) (w : World) : Calls Tryd.prog 23 #[.pointer none, .slice none 0 0, .bool taken] w fun e w' => e = .returned (.int .i64 0) ∧ Below w.heap.size w w' := by
  go_enter Tryd.func23, Tryd.ntmps23
  go_wp2_with (go_at_call 24; refine (contains_nil _ _).mono ?_; rintro e w1 ⟨rfl, rfl⟩)
  refine wp_loop_rounds 1 ?_
  rw [rounds_succ]
  go_wp2
  go_ret
  exact ⟨rfl, (Below.refl _ w).alloc (Nat.le_refl _) _⟩
set_option maxHeartbeats 1000000 in
theorem turn_out (i : Int) (b off : Nat) (taken : Bool) (w : World) (h : w.cell? ⟨b, off, none⟩ = some (.int .i64 i)) (hb : b < w.heap.size) : Calls Tryd.prog 23 #[.pointer none, .slice (some ⟨b, off, none⟩) 1 1, .bool taken] w fun e w' => e = .returned (.int .i64 9) ∧ Below w.heap.size w w' := by
  have hab := (Below.refl w.heap.size w).alloc (Nat.le_refl _) (.cells #[.int .i64 0] 3)
  have hi : Ints (w.alloc (.cells #[.int .i64 0] 3)) b off [i] := fun j x hx => by
    obtain ⟨hj, e⟩ := List.getElem?_eq_some_iff.1 hx
    obtain rfl : j = 0 := by simpa using hj
    obtain rfl : i = x := by simpa using e
    exact (hab.cell (p := ⟨b, off + 0, none⟩) hb).trans h
  have hc := contains_any w.heap.size b off 1 0 [i] (w.alloc (.cells #[.int .i64 0] 3)) ((Blk.new w _ _).cell 0) hi (by simp)
  have e : [i].any (outs 0) = true := by simp [outs_zero]
  rw [e] at hc
  have HC := Lib.hid hc
  clear hc hi h e
  go_enter Tryd.func23, Tryd.ntmps23
  go_wp2_with (go_at_call 24; refine HC.out.mono ?_; rintro e w1 ⟨rfl, rfl⟩)
  go_ret
  exact ⟨rfl, hab⟩
set_option maxHeartbeats 1000000 in
theorem hold_none (w : World) : Calls Tryd.prog 17 #[.pointer none, .slice none 0 0] w fun e w' => e = .returned (.int .i64 0) ∧ Below w.heap.size w w' := by
  go_enter Tryd.func17, Tryd.ntmps17
  go_wp2_with (go_at_call 23; refine (turn_none _ _).mono ?_; rintro e w1 ⟨rfl, hB⟩)
  go_ret
  exact ⟨rfl, hB⟩
set_option maxHeartbeats 1000000 in
theorem hold_out (i : Int) (b off : Nat) (w : World) (h : w.cell? ⟨b, off, none⟩ = some (.int .i64 i)) (hb : b < w.heap.size) : Calls Tryd.prog 17 #[.pointer none, .slice (some ⟨b, off, none⟩) 1 1] w fun e w' => e = .returned (.int .i64 9) ∧ Below w.heap.size w w' := by
  go_enter Tryd.func17, Tryd.ntmps17
  go_wp2_with (go_at_call 23; refine (turn_out i b off _ _ h hb).mono ?_; rintro e w1 ⟨rfl, hB⟩)
  go_ret
  exact ⟨rfl, hB⟩
set_option maxHeartbeats 1000000 in
theorem give_out (i : Int) (b off : Nat) (w : World) (h : w.cell? ⟨b, off, none⟩ = some (.int .i64 i)) (hb : b < w.heap.size) : Calls Tryd.prog 16 #[.pointer none, .slice (some ⟨b, off, none⟩) 1 1] w fun e w' => e = .returned (.int .i64 9) ∧ Below w.heap.size w w' := by
  go_enter Tryd.func16, Tryd.ntmps16
  go_wp2_with (go_at_call 23; refine (turn_out i b off _ _ h hb).mono ?_; rintro e w1 ⟨rfl, hB⟩)
  go_ret
  exact ⟨rfl, hB⟩
/-- The error of a nil map's Take. -/
def takeE (n : Int) : Int := if n < 0 then 1 else if 0 < n then 7 else 0
set_option maxHeartbeats 1000000 in
theorem take_nil (n : Int) (w : World) : Calls Tryd.prog 15 #[.pointer none, .int .i64 n] w fun e w' => e = .returned (.tuple #[.slice none 0 0, .int .i64 (takeE n)]) ∧ Below w.heap.size w w' := by
  by_cases h : n < 0
  · have d : decide (n < 0) = true := by simpa using h
    have e : takeE n = 1 := if_pos h
    rw [e]
    go_enter Tryd.func15, Tryd.ntmps15
    go_wp2_with fail
    go_ret2
    exact ⟨rfl, Below.refl _ _⟩
  have d : decide (n < 0) = false := by simpa using h
  by_cases h2 : 0 < n
  · have d2 : decide (0 < n) = true := by simpa using h2
    have e : takeE n = 7 := by unfold takeE; rw [if_neg h, if_pos h2]
    rw [e]
    go_enter Tryd.func15, Tryd.ntmps15
    go_wp2_with (go_at_call 12; refine (free_nil _).mono ?_; rintro e w' ⟨rfl, rfl⟩)
    go_ret2
    exact ⟨rfl, Below.refl _ _⟩
  obtain rfl : n = 0 := by omega
  have e : takeE 0 = 0 := by decide
  rw [e]
  go_enter Tryd.func15, Tryd.ntmps15
  go_wp2_with (go_at_call 12; refine (free_nil _).mono ?_; rintro e w' ⟨rfl, rfl⟩)
  refine wp_loop_rounds 1 ?_
  rw [rounds_succ]
  go_wp2_with (go_at_call 17; refine (hold_none _).mono ?_; rintro e w1 ⟨rfl, hB⟩)
  go_ret2
  exact ⟨rfl, hB⟩
end Go.Proofs.YtdpfhpecidmllaaDoor.Ext
