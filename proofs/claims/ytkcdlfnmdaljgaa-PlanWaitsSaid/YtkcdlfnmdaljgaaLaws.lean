/- The walks of the laws of package plan. -/
import Derived.Test.YtkcdlfnmdaljgaaRef
import Derived.OpenShut
namespace Go.Proofs.Ytkcdlfnmdaljgaa.Laws
open Go.RowKit
open Iter (upto upto_yes upto_no upto_length pickOf pickOf_nil pickOf_best pickOf_at bestOf bestOf_snoc better better_yes better_no Ints)
open Ref

/-- What is known of a slice of integers that came in. -/
def Row (k : IntKind) (w : World) (a : Option Addr) (len cap : Nat) (zs : List Int) : Prop :=
  (a = none ∧ len = 0 ∧ cap = 0 ∧ zs = []) ∨
  ∃ x, a = some x ∧ len ≤ cap ∧ cap ≤ maxLen ∧ zs.length = cap ∧ (∀ i, i < zs.length → w.cell? (x.add i) = some (.int k (zs.getD i 0))) ∧ ∀ n ∈ zs, (Lit.int k n).wf = true

theorem ints_of_row {w : World} {a : Option Addr} {len cap : Nat} {zs : List Int} (h : Row .i64 w a len cap zs) : Ints w.heap.size w a len (zs.take len) := by
  rcases h with ⟨rfl, rfl, rfl, rfl⟩ | ⟨x, rfl, hl, hm, hz, hc, _⟩
  · exact .inl ⟨rfl, rfl⟩
  · by_cases h0 : len = 0
    · subst h0; exact .inl ⟨rfl, rfl⟩
    · obtain ⟨b, off, spot⟩ := x
      have hc0 := hc 0 (by omega)
      have hspot : spot = none := by simpa [Addr.add] using World.cell?_spot hc0
      subst hspot
      refine .inr ⟨b, off, rfl, by simp; omega, ?_, fun j hj => ?_⟩
      · have := World.block_lt_of_cell? w _ hc0
        simpa [Addr.add] using this
      · have hj : j < len ∧ j < zs.length := by simp at hj; omega
        have h1 := hc j hj.2
        have h2 : (zs.take len)[j]?.getD 0 = zs.getD j 0 := by simp [hj.1]
        rw [h2, ← h1]
        unfold Addr.add
        split <;> simp_all

set_option maxHeartbeats 1000000 in
theorem picks_walk (a : Option Addr) (len cap : Nat) (zs : List Int) (order : Int) (w : World) (h0 : Row .i64 w a len cap zs) (ho : 0 ≤ order ∧ order ≤ 255) :
    Calls Try.prog 3 #[.slice a len cap, .int .u8 order] w fun e w' => e = .returned (.bool true) ∧ Below w.heap.size w w' := by
  have hI := ints_of_row h0
  have HI := Lib.hid hI
  have HO := Lib.hid ho
  clear hI h0 ho
  by_cases hl : 100 < len
  · go_enter Try.func3, Try.ntmps3
    go_wp2_with (go_at_call 6; refine (awake_any _).mono ?_; rintro e w' ⟨rfl, hB⟩)
    go_ret
    exact ⟨rfl, hB⟩
  · go_enter Try.func3, Try.ntmps3
    go_wp2_with fail
    refine (pick_calls a len cap _ order HO.out w (by omega) HI.out).mono ?_
    rintro e w1 ⟨rfl, hB1⟩
    have HI1 := Lib.hid ((HI.out.below hB1))
    go_wp2_with fail
    refine (ref_calls a len cap _ order HO.out w1 (by omega) (by rcases HI1.out with h | ⟨b, off, h1, h2, h3, h4⟩; exact .inl h; exact .inr ⟨b, off, h1, h2, Nat.lt_of_lt_of_le h3 hB1.size, h4⟩)).mono ?_
    rintro e w2 ⟨rfl, hB2⟩
    go_wp2_with (go_at_call 6; refine (awake_any _).mono ?_; rintro e w' ⟨rfl, hB⟩)
    go_ret
    have hs1 := hB1.size
    have hs2 := hB2.size
    exact ⟨rfl, (hB1.trans (hB2.mono hs1)).trans (hB.mono (by omega))⟩

theorem bit16 (n : Int) (h : 0 ≤ n ∧ n ≤ 255) : (bits BinOp.and IntKind.u8 n 16 != 0) = (n / 16 % 2 == 1) ∧ (bits BinOp.and IntKind.u8 n 32 != 0) = (n / 32 % 2 == 1) ∧ (bits BinOp.and IntKind.u8 n 64 != 0) = (n / 64 % 2 == 1) ∧ (bits BinOp.and IntKind.u8 n 128 != 0) = (n / 128 == 1) := by
  have H : ∀ m : Fin 256, (bits BinOp.and IntKind.u8 (m.val : Int) 16 != 0) = ((m.val : Int) / 16 % 2 == 1) ∧ (bits BinOp.and IntKind.u8 (m.val : Int) 32 != 0) = ((m.val : Int) / 32 % 2 == 1) ∧ (bits BinOp.and IntKind.u8 (m.val : Int) 64 != 0) = ((m.val : Int) / 64 % 2 == 1) ∧ (bits BinOp.and IntKind.u8 (m.val : Int) 128 != 0) = ((m.val : Int) / 128 == 1) := by decide +kernel
  obtain ⟨m, rfl⟩ := Int.eq_ofNat_of_zero_le h.1
  exact H ⟨m, by omega⟩

theorem drops_any (n : Int) (h : 0 ≤ n ∧ n ≤ 255) (w : World) : Calls Try.prog 9 #[.int .u8 n] w fun e w' => e = .returned (.bool (n / 16 % 2 == 1)) ∧ w = w' := by
  have e := Lib.hid (bit16 n h).1
  clear h
  go_enter Try.func9, Try.ntmps9
  go_wp2
  go_ret
  exact ⟨by rw [← e.out]; rfl, rfl⟩
theorem spills_any (n : Int) (h : 0 ≤ n ∧ n ≤ 255) (w : World) : Calls Try.prog 10 #[.int .u8 n] w fun e w' => e = .returned (.bool (n / 32 % 2 == 1)) ∧ w = w' := by
  have e := Lib.hid (bit16 n h).2.1
  clear h
  go_enter Try.func10, Try.ntmps10
  go_wp2
  go_ret
  exact ⟨by rw [← e.out]; rfl, rfl⟩
theorem saves_any (n : Int) (h : 0 ≤ n ∧ n ≤ 255) (w : World) : Calls Try.prog 11 #[.int .u8 n] w fun e w' => e = .returned (.bool (n / 64 % 2 == 1)) ∧ w = w' := by
  have e := Lib.hid (bit16 n h).2.2.1
  clear h
  go_enter Try.func11, Try.ntmps11
  go_wp2
  go_ret
  exact ⟨by rw [← e.out]; rfl, rfl⟩
theorem few_any (n : Int) (h : 0 ≤ n ∧ n ≤ 255) (w : World) : Calls Try.prog 12 #[.int .u8 n] w fun e w' => e = .returned (.bool (n / 128 == 1)) ∧ w = w' := by
  have e := Lib.hid (bit16 n h).2.2.2
  clear h
  go_enter Try.func12, Try.ntmps12
  go_wp2
  go_ret
  exact ⟨by rw [← e.out]; rfl, rfl⟩

/-- At and its twin of the document: one number v for both. -/
theorem at_both (a : Option Addr) (len cap : Nat) (zs : List Int) (n : Int) (hn : 0 ≤ n ∧ n ≤ 18446744073709551615) (w : World) (h0 : Row .u8 w a len cap zs) (hl : len ≤ 100) : ∃ v : Int,
    Calls Try.prog 13 #[.slice a len cap, .int .u64 n] w (fun e w' => e = .returned (.int .u8 v) ∧ w = w') ∧
    Calls Try.prog 14 #[.slice a len cap, .int .u64 n] w (fun e w' => e = .returned (.int .u8 v) ∧ w = w') := by
  by_cases hz : len = 0
  · subst hz
    refine ⟨0, ?_, ?_⟩
    · go_enter Try.func13, Try.ntmps13
      go_wp2
      go_ret
      exact ⟨rfl, rfl⟩
    · go_enter Try.func14, Try.ntmps14
      go_wp2
      go_ret
      exact ⟨rfl, rfl⟩
  · rcases h0 with ⟨rfl, rfl, rfl, rfl⟩ | ⟨x, rfl, hlc, hm, hzl, hc, _⟩
    · exact absurd rfl hz
    obtain ⟨b, off, spot⟩ := x
    have hc0 := hc 0 (by omega)
    have hspot : spot = none := by simpa [Addr.add] using World.cell?_spot hc0
    subst hspot
    obtain ⟨q, hq, hql⟩ : ∃ q : Nat, n % (len : Int) = (q : Int) ∧ q < len :=
      ⟨(n % (len : Int)).toNat, (Int.toNat_of_nonneg (Int.emod_nonneg _ (by omega))).symm, by have := Int.emod_lt_of_pos n (show (0 : Int) < len by omega); omega⟩
    have hcq : w.cell? ⟨b, off + q, none⟩ = some (.int .u8 (zs.getD q 0)) := by
      have h1 := hc q (by omega)
      rw [← h1]
      unfold Addr.add
      split <;> simp_all
    obtain ⟨v, hv⟩ : ∃ v, zs.getD q 0 = v := ⟨_, rfl⟩
    rw [hv] at hcq
    have hne : ((len : Int) == 0) = false := by simp; omega
    have hlp : (1 : Int) ≤ (len : Int) := by omega
    have hn0 := hn.1
    clear hn hm hzl hc hc0 hv hz hlc
    refine ⟨v, ?_, ?_⟩
    · go_enter Try.func13, Try.ntmps13
      go_wp2
      go_ret
      exact ⟨rfl, rfl⟩
    · go_enter Try.func14, Try.ntmps14
      go_wp2
      go_ret
      exact ⟨rfl, rfl⟩

set_option maxHeartbeats 1000000 in
theorem wishes_walk (a : Option Addr) (len cap : Nat) (zs : List Int) (n order : Int) (w : World) (h0 : Row .u8 w a len cap zs) (hn : 0 ≤ n ∧ n ≤ 18446744073709551615) (ho : 0 ≤ order ∧ order ≤ 255) :
    Calls Try.prog 5 #[.slice a len cap, .int .u64 n, .int .u8 order] w fun e w' => e = .returned (.bool true) ∧ Below w.heap.size w w' := by
  by_cases hl : 100 < len
  · clear h0 hn ho
    go_enter Try.func5, Try.ntmps5
    go_wp2_with (go_at_call 6; refine (awake_any _).mono ?_; rintro e w' ⟨rfl, hB⟩)
    go_ret
    exact ⟨rfl, hB⟩
  · obtain ⟨v, c1, c2⟩ := at_both a len cap zs n hn w h0 (by omega)
    have C1 := Lib.hid c1
    have C2 := Lib.hid c2
    have HO := Lib.hid ho
    obtain ⟨ho0, ho1⟩ := ho
    clear h0 hn c1 c2
    go_enter Try.func5, Try.ntmps5
    go_wp2_with (first | (go_at_call 9; refine (drops_any _ HO.out _).mono ?_; rintro e w' ⟨rfl, rfl⟩) | (go_at_call 10; refine (spills_any _ HO.out _).mono ?_; rintro e w' ⟨rfl, rfl⟩) | (go_at_call 11; refine (saves_any _ HO.out _).mono ?_; rintro e w' ⟨rfl, rfl⟩) | (go_at_call 12; refine (few_any _ HO.out _).mono ?_; rintro e w' ⟨rfl, rfl⟩) | (go_at_call 13; refine C1.out.mono ?_; rintro e w' ⟨rfl, rfl⟩) | (go_at_call 14; refine C2.out.mono ?_; rintro e w' ⟨rfl, rfl⟩) | (go_at_call 6; refine (awake_any _).mono ?_; rintro e w' ⟨rfl, hB⟩))
    go_ret
    exact ⟨rfl, hB⟩
end Go.Proofs.Ytkcdlfnmdaljgaa.Laws
