/- The walks of package bias and of the example of law 18: what each function returns. -/
import Derived.Test.YtahhkijnkjloaaaRows
import Derived.WalkKit
import Derived.Lib.Hide
namespace Go.Proofs.Ytahhkijnkjloaaa.Walks
open Go.RowKit

/-- The scaled one, as a number. -/
def wt (p q : Int) (b n : Bool) : Int := if b then q else if n then IntKind.u64.wrap (p * q) else p

theorem wt_back (p q : Int) (n : Bool) : wt p q true n = q := rfl
theorem wt_near (p q : Int) : wt p q false true = IntKind.u64.wrap (p * q) := rfl
theorem wt_far (p q : Int) : wt p q false false = p := rfl

theorem scale_any (p q : Int) (w : World) (hp : 0 ≤ p ∧ p ≤ 4294967295) (hq : 0 ≤ q ∧ q ≤ 4294967295) :
    Calls Try.prog 8 #[.int .u32 p, .int .u32 q] w fun e w' => e = .returned (.int .u64 (IntKind.u64.wrap (p * q))) ∧ w = w' := by
  obtain ⟨hp0, hp1⟩ := hp
  obtain ⟨hq0, hq1⟩ := hq
  go_enter Try.func8, Try.ntmps8
  go_wp2
  go_ret
  exact ⟨rfl, rfl⟩

theorem weight_any (p q : Int) (b n : Bool) (w : World) (hp : 0 ≤ p ∧ p ≤ 4294967295) (hq : 0 ≤ q ∧ q ≤ 4294967295) :
    Calls Try.prog 9 #[.int .u32 p, .int .u32 q, .bool b, .bool n] w fun e w' => e = .returned (.int .u64 (wt p q b n)) ∧ w = w' := by
  have hs := fun W => scale_any p q W hp hq
  have HS := Lib.hid hs
  clear hs
  obtain ⟨hp0, hp1⟩ := hp
  obtain ⟨hq0, hq1⟩ := hq
  cases b <;> cases n
  all_goals
    go_enter Try.func9, Try.ntmps9
    go_wp2_with (go_at_call 8; refine (HS.out _).mono ?_; rintro e w' ⟨rfl, rfl⟩)
    go_ret
    exact ⟨rfl, rfl⟩

theorem ref_any (p q : Int) (b n : Bool) (w : World) (hp : 0 ≤ p ∧ p ≤ 4294967295) (hq : 0 ≤ q ∧ q ≤ 4294967295) :
    Calls Try.prog 10 #[.int .u32 p, .int .u32 q, .bool b, .bool n] w fun e w' => e = .returned (.int .u64 (wt p q b n)) ∧ w = w' := by
  obtain ⟨hp0, hp1⟩ := hp
  obtain ⟨hq0, hq1⟩ := hq
  cases b <;> cases n
  all_goals
    go_enter Try.func10, Try.ntmps10
    go_wp2
    go_ret
    exact ⟨rfl, rfl⟩

theorem accepts_any (p q u : Int) (b n : Bool) (w : World) (hp : 0 ≤ p ∧ p ≤ 4294967295) (hq : 0 ≤ q ∧ q ≤ 4294967295) :
    Calls Try.prog 12 #[.int .u32 p, .int .u32 q, .bool b, .bool n, .int .u64 u] w fun e w' => e = .returned (.bool (decide (u < wt p q b n))) ∧ w = w' := by
  go_enter Try.func12, Try.ntmps12
  go_wp2_with (go_at_call 9; refine (weight_any p q b n _ hp hq).mono ?_; rintro e w' ⟨rfl, rfl⟩)
  go_ret
  exact ⟨rfl, rfl⟩

theorem sure_any (p q u : Int) (b : Bool) (w : World) (hp : 0 ≤ p ∧ p ≤ 4294967295) (hq : 0 ≤ q ∧ q ≤ 4294967295) :
    Calls Try.prog 13 #[.int .u32 p, .int .u32 q, .bool b, .int .u64 u] w fun e w' =>
      e = .returned (.tuple #[.bool (decide (u < wt p q b true) && decide (u < wt p q b false)), .bool (decide (u < wt p q b true) == decide (u < wt p q b false))]) ∧ w = w' := by
  rcases d1 : decide (u < wt p q b true) with _ | _ <;> rcases d2 : decide (u < wt p q b false) with _ | _
  all_goals
   go_enter Try.func13, Try.ntmps13
   go_wp2_with (go_at_call 12; refine (accepts_any p q u b _ _ hp hq).mono ?_; rintro e w' ⟨rfl, rfl⟩)
   go_ret2
   exact ⟨rfl, rfl⟩

theorem awake_any (w : World) :
    Calls Try.prog 11 #[] w fun e w' => e = .returned (.bool true) ∧ w = w' := by
  go_enter Try.func11, Try.ntmps11
  go_wp2_with (first | (go_at_call 8; refine (scale_any _ _ _ (by decide) (by decide)).mono ?_; rintro e w' ⟨rfl, rfl⟩) | (go_at_call 9; refine (weight_any _ _ _ _ _ (by decide) (by decide)).mono ?_; rintro e w' ⟨rfl, rfl⟩))
  go_ret
  exact ⟨rfl, rfl⟩

theorem wrap_small (p q : Int) (hp : 0 ≤ p ∧ p ≤ 4294967295) (hq : 0 ≤ q ∧ q ≤ 4294967295) : IntKind.u64.wrap (p * q) = p * q ∧ 0 ≤ p * q ∧ p * q ≤ 18446744065119617025 := by
  have h0 : 0 ≤ p * q := Int.mul_nonneg hp.1 hq.1
  have h1 : p * q ≤ 4294967295 * 4294967295 := Int.mul_le_mul hp.2 hq.2 hq.1 (by omega)
  refine ⟨?_, h0, by omega⟩
  show p * q % 18446744073709551616 = p * q
  omega

theorem weighs_walk (a0 : Int) (a1 : Int) (a2 : Bool) (a3 : Bool) (hp : 0 ≤ a0 ∧ a0 ≤ 4294967295) (hq : 0 ≤ a1 ∧ a1 ≤ 4294967295) (w : World) :
    Calls Try.prog 3 #[.int .u32 a0, .int .u32 a1, .bool a2, .bool a3] w fun e w' => e = .returned (.bool true) ∧ w = w' := by
  have hp' := Lib.hid hp
  have hq' := Lib.hid hq
  obtain ⟨hp0, hp1⟩ := hp
  obtain ⟨hq0, hq1⟩ := hq
  have e1 : (wt a0 a1 true a3 == a1) = true := beq_iff_eq.2 rfl
  go_enter Try.func3, Try.ntmps3
  go_wp2_with (first | (go_at_call 8; refine (scale_any _ _ _ hp'.out hq'.out).mono ?_; rintro e w' ⟨rfl, rfl⟩) | (go_at_call 9; refine (weight_any _ _ _ _ _ hp'.out hq'.out).mono ?_; rintro e w' ⟨rfl, rfl⟩) | (go_at_call 10; refine (ref_any _ _ _ _ _ hp'.out hq'.out).mono ?_; rintro e w' ⟨rfl, rfl⟩) | (go_at_call 11; refine (awake_any _).mono ?_; rintro e w' ⟨rfl, rfl⟩))
  go_ret
  exact ⟨rfl, rfl⟩

theorem scales_walk (a0 : Int) (a1 : Int) (a2 : Bool) (hp : 0 ≤ a0 ∧ a0 ≤ 4294967295) (hq : 0 ≤ a1 ∧ a1 ≤ 4294967295) (w : World) :
    Calls Try.prog 4 #[.int .u32 a0, .int .u32 a1, .bool a2] w fun e w' => e = .returned (.bool true) ∧ w = w' := by
  have hp' := Lib.hid hp
  have hq' := Lib.hid hq
  obtain ⟨hp0, hp1⟩ := hp
  obtain ⟨hq0, hq1⟩ := hq
  have e1 : (IntKind.u64.wrap (a0 * wt a0 a1 true a2) == IntKind.u64.wrap (a0 * a1)) = true := beq_iff_eq.2 rfl
  have e2 : (wt a0 a1 false true == IntKind.u64.wrap (a0 * a1)) = true := beq_iff_eq.2 rfl
  have e3 : (IntKind.u64.wrap (a1 * wt a0 a1 false false) == IntKind.u64.wrap (a0 * a1)) = true := beq_iff_eq.2 (by rw [wt_far, Int.mul_comm])
  go_enter Try.func4, Try.ntmps4
  go_wp2_with (first | (go_at_call 8; refine (scale_any _ _ _ hp'.out hq'.out).mono ?_; rintro e w' ⟨rfl, rfl⟩) | (go_at_call 9; refine (weight_any _ _ _ _ _ hp'.out hq'.out).mono ?_; rintro e w' ⟨rfl, rfl⟩) | (go_at_call 10; refine (ref_any _ _ _ _ _ hp'.out hq'.out).mono ?_; rintro e w' ⟨rfl, rfl⟩) | (go_at_call 11; refine (awake_any _).mono ?_; rintro e w' ⟨rfl, rfl⟩))
  go_ret
  exact ⟨rfl, rfl⟩

theorem accepts_walk (a0 : Int) (a1 : Int) (a2 a3 : Bool) (a4 : Int) (hp : 0 ≤ a0 ∧ a0 ≤ 4294967295) (hq : 0 ≤ a1 ∧ a1 ≤ 4294967295) (w : World) :
    Calls Try.prog 5 #[.int .u32 a0, .int .u32 a1, .bool a2, .bool a3, .int .u64 a4] w fun e w' => e = .returned (.bool true) ∧ w = w' := by
  have hp' := Lib.hid hp
  have hq' := Lib.hid hq
  obtain ⟨hp0, hp1⟩ := hp
  obtain ⟨hq0, hq1⟩ := hq
  go_enter Try.func5, Try.ntmps5
  go_wp2_with (first | (go_at_call 12; refine (accepts_any _ _ _ _ _ _ hp'.out hq'.out).mono ?_; rintro e w' ⟨rfl, rfl⟩) | (go_at_call 10; refine (ref_any _ _ _ _ _ hp'.out hq'.out).mono ?_; rintro e w' ⟨rfl, rfl⟩) | (go_at_call 11; refine (awake_any _).mono ?_; rintro e w' ⟨rfl, rfl⟩))
  go_ret
  exact ⟨rfl, rfl⟩

theorem sures_walk (a0 : Int) (a1 : Int) (a2 a3 : Bool) (a4 : Int) (hp : 0 ≤ a0 ∧ a0 ≤ 4294967295) (hq : 0 ≤ a1 ∧ a1 ≤ 4294967295) (w : World) :
    Calls Try.prog 7 #[.int .u32 a0, .int .u32 a1, .bool a2, .bool a3, .int .u64 a4] w fun e w' => e = .returned (.bool true) ∧ w = w' := by
  have hp' := Lib.hid hp
  have hq' := Lib.hid hq
  obtain ⟨hp0, hp1⟩ := hp
  obtain ⟨hq0, hq1⟩ := hq
  rcases d1 : decide (a4 < wt a0 a1 a2 true) with _ | _ <;> rcases d2 : decide (a4 < wt a0 a1 a2 false) with _ | _ <;> cases a3
  all_goals
    go_enter Try.func7, Try.ntmps7
    go_wp2_with (first | (go_at_call 13; refine (sure_any _ _ _ _ _ hp'.out hq'.out).mono ?_; rintro e w' ⟨rfl, rfl⟩) | (go_at_call 12; refine (accepts_any _ _ _ _ _ _ hp'.out hq'.out).mono ?_; rintro e w' ⟨rfl, rfl⟩) | (go_at_call 11; refine (awake_any _).mono ?_; rintro e w' ⟨rfl, rfl⟩))
    go_ret
    exact ⟨rfl, rfl⟩

theorem wt_le (p q : Int) (b n : Bool) (hp : 1 ≤ p ∧ p ≤ 40) (hq : 1 ≤ q ∧ q ≤ 40) : 0 ≤ wt p q b n ∧ wt p q b n ≤ p * q ∧ 0 ≤ p * q ∧ p * q ≤ 1600 ∧ IntKind.u64.wrap (p * q) = p * q := by
  have h0 := (wrap_small p q (by omega) (by omega)).1
  have h1 : 1 * q ≤ p * q := Int.mul_le_mul_of_nonneg_right hp.1 (by omega)
  have h2 : p * 1 ≤ p * q := Int.mul_le_mul_of_nonneg_left hq.1 (by omega)
  have h3 : p * q ≤ 40 * q := Int.mul_le_mul_of_nonneg_right hp.2 (by omega)
  refine ⟨?_, ?_, by omega, by omega, h0⟩ <;> unfold wt <;> split <;> (try split) <;> omega

/-- How many of the first k numbers are below x. -/
def below (k x : Int) : Int := if k < x then k else x
theorem below_yes (k x : Int) (h : decide (k < x) = true) : below k x + 1 = below (k + 1) x ∧ 0 ≤ below k x ∨ k < 0 := by
  have h := of_decide_eq_true h; unfold below; split <;> split <;> omega
theorem below_no (k x : Int) (h : decide (k < x) = false) : below k x = below (k + 1) x := by
  have h := of_decide_eq_false h; unfold below; split <;> split <;> omega
theorem below_bd (k x : Int) (h : 0 ≤ k) (h1 : 0 ≤ x) : 0 ≤ below k x ∧ below k x ≤ x := by
  unfold below; split <;> omega
theorem below_end (k x : Int) (h : x ≤ k) : below k x = x := by
  unfold below; split <;> omega

theorem counts_small (a0 : Int) (a1 : Int) (a2 a3 : Bool) (hp : 1 ≤ a0 ∧ a0 ≤ 40) (hq : 1 ≤ a1 ∧ a1 ≤ 40) (w : World) :
    Calls Try.prog 6 #[.int .u32 a0, .int .u32 a1, .bool a2, .bool a3] w fun e w' => e = .returned (.bool true) ∧ w = w' := by
  have hp' := Lib.hid (show 0 ≤ a0 ∧ a0 ≤ 4294967295 by omega)
  have hq' := Lib.hid (show 0 ≤ a1 ∧ a1 ≤ 4294967295 by omega)
  obtain ⟨hw0, hw1, hm0, hm1, hm⟩ := wt_le a0 a1 a2 a3 hp hq
  obtain ⟨hp0, hp1⟩ := hp
  obtain ⟨hq0, hq1⟩ := hq
  have hlt1 : decide (a0 < 1) = false := by simp; omega
  have hlt2 : decide (a1 < 1) = false := by simp; omega
  have hlt3 : decide (40 < a0) = false := by simp; omega
  have hlt4 : decide (40 < a1) = false := by simp; omega
  go_enter Try.func6, Try.ntmps6
  go_wp2_with fail
  go_loop [9, 10] (fun n u => ∃ k : Nat, (k : Int) ≤ a0 * a1 ∧ u = .int .u64 k ∧ n = .int .u64 (below k (wt a0 a1 a2 a3))) (fun _ u => (a0 * a1).toNat - (intOf u).toNat)
  case atStart => exact ⟨0, by omega, rfl, by unfold below; split <;> congr 1 <;> omega⟩
  case round =>
    obtain ⟨k, hk, rfl, rfl⟩ := hrel
    have hbd := below_bd k (wt a0 a1 a2 a3) (by omega) hw0
    by_cases hlt : (k : Int) < a0 * a1
    · rcases hd : decide ((k : Int) < wt a0 a1 a2 a3) with _ | _
      · have H := Lib.hid (below_no _ _ hd)
        go_wp2_with (go_at_call 12; refine (accepts_any _ _ _ _ _ _ hp'.out hq'.out).mono ?_; rintro e w' ⟨rfl, rfl⟩)
        go_round
        case rel => exact ⟨k + 1, by omega, by go_num, by rw [H.out]; go_num⟩
        case measure => simp [intOf]; omega
      · have H := Lib.hid (below_yes _ _ hd)
        go_wp2_with (go_at_call 12; refine (accepts_any _ _ _ _ _ _ hp'.out hq'.out).mono ?_; rintro e w' ⟨rfl, rfl⟩)
        go_round
        case rel => exact ⟨k + 1, by omega, by go_num, by rcases H.out with h | h; rw [h.1]; go_num; omega⟩
        case measure => simp [intOf]; omega
    · have H := Lib.hid (below_end k (wt a0 a1 a2 a3) (by omega))
      have e1 : (below k (wt a0 a1 a2 a3) == wt a0 a1 a2 a3) = true := beq_iff_eq.2 H.out
      have e2 : below k (wt a0 a1 a2 a3) ≤ a0 * a1 := by rw [H.out]; omega
      go_wp2_with (first | (go_at_call 8; refine (scale_any _ _ _ hp'.out hq'.out).mono ?_; rintro e w' ⟨rfl, rfl⟩) | (go_at_call 9; refine (weight_any _ _ _ _ _ hp'.out hq'.out).mono ?_; rintro e w' ⟨rfl, rfl⟩) | (go_at_call 11; refine (awake_any _).mono ?_; rintro e w' ⟨rfl, rfl⟩))
      go_ret
      exact ⟨rfl, rfl⟩

theorem counts_walk (a0 : Int) (a1 : Int) (a2 a3 : Bool) (hp : 0 ≤ a0 ∧ a0 ≤ 4294967295) (hq : 0 ≤ a1 ∧ a1 ≤ 4294967295) (w : World) :
    Calls Try.prog 6 #[.int .u32 a0, .int .u32 a1, .bool a2, .bool a3] w fun e w' => e = .returned (.bool true) ∧ w = w' := by
  by_cases h1 : a0 < 1
  · go_enter Try.func6, Try.ntmps6
    go_wp2_with (go_at_call 11; refine (awake_any _).mono ?_; rintro e w' ⟨rfl, rfl⟩)
    go_ret
    exact ⟨rfl, rfl⟩
  by_cases h2 : a1 < 1
  · go_enter Try.func6, Try.ntmps6
    go_wp2_with (go_at_call 11; refine (awake_any _).mono ?_; rintro e w' ⟨rfl, rfl⟩)
    go_ret
    exact ⟨rfl, rfl⟩
  by_cases h3 : 40 < a0
  · go_enter Try.func6, Try.ntmps6
    go_wp2_with (go_at_call 11; refine (awake_any _).mono ?_; rintro e w' ⟨rfl, rfl⟩)
    go_ret
    exact ⟨rfl, rfl⟩
  by_cases h4 : 40 < a1
  · go_enter Try.func6, Try.ntmps6
    go_wp2_with (go_at_call 11; refine (awake_any _).mono ?_; rintro e w' ⟨rfl, rfl⟩)
    go_ret
    exact ⟨rfl, rfl⟩
  exact counts_small a0 a1 a2 a3 (by omega) (by omega) w
end Go.Proofs.Ytahhkijnkjloaaa.Walks
