/- Layer 24: there, Held, Waiting. -/
import Derived.Test.YtfgjnpbffppocaaGreatPool
namespace Go.Proofs.YtfgjnpbffppocaaGreat.Pool
open Go.RowKit Go.Deep Mem Crc Walk

theorem there_in {A : Pa} {off : Bool} {w : World} {Qs : Nat → Prop} {hv : Nat → Option Value} {S Hd : Rows} (h : Pl A off w Qs hv S Hd) (i : Nat) (hi : i < A.n) :
    Calls Tryz.prog 23 #[.pointer (some ⟨A.p, 0, none⟩), .int .i64 (i : Int)] w fun e w' => e = .returned (.bool true) ∧ w' = w := by
  have c1 := h.pool.cell 1
  simp at c1
  clear h
  have h0 : decide ((0 : Int) ≤ (i : Int)) = true := by simp
  have h1 : decide ((i : Int) < (A.n : Int)) = true := by simp; omega
  go_enter Tryz.func23, Tryz.ntmps23
  go_wp2_with fail
  go_ret
  exact ⟨rfl, rfl⟩
theorem there_nil (x : Int) (w : World) :
    Calls Tryz.prog 23 #[.pointer none, .int .i64 x] w fun e w' => e = .returned (.bool false) ∧ w' = w := by
  go_enter Tryz.func23, Tryz.ntmps23
  go_wp2_with fail
  go_ret
  exact ⟨rfl, rfl⟩
theorem held_any {A : Pa} {off : Bool} {w : World} {Qs : Nat → Prop} {hv : Nat → Option Value} {S Hd : Rows} (h : Pl A off w Qs hv S Hd) :
    Calls Tryz.prog 9 #[.pointer (some ⟨A.p, 0, none⟩)] w fun e w' => e = .returned (.int .i64 (many Hd A.n : Int)) ∧ w' = w := by
  have c5 := h.pool.cell 5
  simp at c5
  clear h
  go_enter Tryz.func9, Tryz.ntmps9
  go_wp2_with fail
  go_ret
  exact ⟨rfl, rfl⟩
theorem held_nil (w : World) :
    Calls Tryz.prog 9 #[.pointer none] w fun e w' => e = .returned (.int .i64 0) ∧ w' = w := by
  go_enter Tryz.func9, Tryz.ntmps9
  go_wp2_with fail
  go_ret
  exact ⟨rfl, rfl⟩
theorem waiting_nil (x : Int) (w : World) :
    Calls Tryz.prog 12 #[.pointer none, .int .i64 x] w fun e w' => e = .returned (.int .i64 0) ∧ w' = w := by
  go_enter Tryz.func12, Tryz.ntmps12
  go_wp2_with (first | (go_at_call 23; refine (there_nil _ _).mono ?_; rintro e w1 ⟨rfl, rfl⟩))
  go_ret
  exact ⟨rfl, rfl⟩
end Go.Proofs.YtfgjnpbffppocaaGreat.Pool
