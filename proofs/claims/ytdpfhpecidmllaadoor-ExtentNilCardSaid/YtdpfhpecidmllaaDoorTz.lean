/- Layer 7: math/bits.TrailingZeros64 over this program; what it answers of a word turned round. -/
import Derived.Test.YtdpfhpecidmllaaDoorTurn
import Derived.Shelf.Spec.TrailingZeros
namespace Go.Proofs.YtdpfhpecidmllaaDoor.Ext
open Go.RowKit Go.Shelf Mem

/-- The table in its variable. -/
def Tab (w : World) : Prop := ∀ j, j < 64 → w.cell? ⟨0, j, none⟩ = some (.int .u8 ((Lib.deBruijn64tab.getD j 0 : Nat) : Int))
theorem Tab.below {w w' : World} {B : Nat} (h : Tab w) (hB : Below B w w') (h0 : 0 < B) : Tab w' := fun j hj => (hB.cell (p := ⟨0, j, none⟩) h0).trans (h j hj)
theorem Tab.lt {w : World} (h : Tab w) : 0 < w.heap.size := World.block_lt_of_cell? w _ (h 0 (by decide))
theorem Tab.only {w w' : World} {bs : List Nat} (h : Tab w) (hB : Only bs w w') (h0 : 0 ∉ bs) : Tab w' := fun j hj => (only_cell hB (p := ⟨0, j, none⟩) h.lt h0).trans (h j hj)
set_option maxHeartbeats 1000000 in
theorem tz_core (x k idx : Nat) (w : World) (hx0 : ((x : Int) == 0) = false)
    (key : IntKind.u64.wrap (bits BinOp.and IntKind.u64 (x : Int) (IntKind.u64.wrap (-(x : Int))) * 285870213051353865) / 288230376151711744 = (idx : Int))
    (hi : idx < 64) (hk : k < 64) (hcell : w.cell? ⟨0, idx, none⟩ = some (.int .u8 k)) :
    Calls Tryd.prog 22 #[.int .u64 x] w fun e w' => e = .returned (.int .i64 k) ∧ w = w' := by
  go_enter Tryd.func22, Tryd.ntmps22
  go_wp2_with (simp only [key])
  go_ret
  exact ⟨rfl, rfl⟩
theorem tz_any (x : Nat) (hx : x < 18446744073709551616) (hx0 : x ≠ 0) (w : World) (hT : Tab w) :
    Calls Tryd.prog 22 #[.int .u64 x] w fun e w' => e = .returned (.int .i64 (Lib.ctz 64 x)) ∧ w = w' := by
  obtain ⟨hlow, hk⟩ := Lib.lowest_bit 64 x hx0 hx
  obtain ⟨hi, htab⟩ := Lib.deBruijn64_at _ hk
  have hcell := hT _ hi
  rw [htab] at hcell
  exact tz_core x _ _ w (by simp; omega) (tz64_key x _ hx hx0 hlow) hi hk hcell

theorem ctz_bits (x : Nat) (h0 : x ≠ 0) (h : x < 2 ^ 64) : Lib.ctz 64 x < 64 ∧ x.testBit (Lib.ctz 64 x) = true ∧ ∀ b, b < Lib.ctz 64 x → x.testBit b = false := by
  have e : Lib.ctz 64 x = Lib.ctzFrom 64 x := by simp [Lib.ctz, h0]
  obtain ⟨m, hm, hk⟩ := Lib.ctzFrom_spec 64 x (by omega) h
  rw [e]
  generalize Lib.ctzFrom 64 x = c at hm hk
  subst hm
  refine ⟨hk, ?_, fun b hb => ?_⟩
  · rw [Nat.mul_comm, Nat.testBit_mul_two_pow]
    simp [Nat.testBit_zero]
  · rw [Nat.mul_comm, Nat.testBit_mul_two_pow]
    simp
    omega
/-- The lowest bit that is not set. -/
def low (x : Nat) : Nat := Lib.ctz 64 (2 ^ 64 - 1 - x)
theorem low_bits (x : Nat) (h : x < 2 ^ 64) (h0 : x ≠ 2 ^ 64 - 1) : low x < 64 ∧ x.testBit (low x) = false ∧ ∀ b, b < low x → x.testBit b = true := by
  obtain ⟨h1, h2, h3⟩ := ctz_bits (2 ^ 64 - 1 - x) (by omega) (by omega)
  have hb : ∀ b, (2 ^ 64 - 1 - x).testBit b = (decide (b < 64) && !x.testBit b) := fun b => by
    have := Nat.testBit_two_pow_sub_succ (x := x) (n := 64) h b
    rw [show 2 ^ 64 - (x + 1) = 2 ^ 64 - 1 - x by omega] at this
    exact this
  refine ⟨h1, ?_, fun b hlt => ?_⟩
  · have := h2
    rw [hb] at this
    unfold low
    generalize (x.testBit (Lib.ctz 64 (2 ^ 64 - 1 - x))) = t at this ⊢
    cases t
    · rfl
    · simp at this
  · have := h3 b hlt
    rw [hb] at this
    have hlt' : b < 64 := Nat.lt_trans hlt h1
    simpa [hlt'] using this
theorem not_u64 (x : Nat) (h : x < 2 ^ 64) : IntKind.u64.wrap (-(x : Int) - 1) = ((2 ^ 64 - 1 - x : Nat) : Int) := by
  have e : IntKind.u64.wrap (-(x : Int) - 1) = (-(x : Int) - 1) % 18446744073709551616 := by simp [IntKind.wrap, IntKind.bits, IntKind.signed]
  rw [e]
  omega
/-- A word with one more bit set. -/
def more (x j : Nat) : Nat := x ||| 2 ^ j
theorem more_lt (x j : Nat) (hx : x < 2 ^ 64) (hj : j < 64) : more x j < 2 ^ 64 := Nat.or_lt_two_pow hx (Nat.pow_lt_pow_right (by decide) hj)
theorem more_bit (x j b : Nat) : (more x j).testBit b = (x.testBit b || decide (j = b)) := by unfold more; rw [Nat.testBit_or, Nat.testBit_two_pow]
theorem more_int (x j : Nat) (hx : x < 2 ^ 64) (hj : j < 64) : bits .or .u64 (x : Int) (IntKind.u64.wrap (2 ^ j)) = ((more x j : Nat) : Int) := by
  rw [pow_wrap j hj]
  exact u64_or_nat x _ hx (Nat.pow_lt_pow_right (by decide) hj : 2 ^ j < 2 ^ 64)
theorem full_bits (x : Nat) (h : x < 2 ^ 64) (h0 : x = 2 ^ 64 - 1) (b : Nat) (hb : b < 64) : x.testBit b = true := by
  subst h0
  rw [Nat.testBit_two_pow_sub_one]
  simpa using hb

/-- The blocks below m whose flag is off, rising. -/
def frees (f : Nat → Bool) (m : Nat) : List Int := ((List.range m).filter (fun i => !f i)).map (fun i : Nat => (i : Int))
theorem frees_succ (f : Nat → Bool) (m : Nat) : frees f (m + 1) = frees f m ++ if f m then [] else [(m : Int)] := by
  unfold frees
  rw [List.range_succ, List.filter_append, List.map_append]
  cases h : f m <;> simp [h]
theorem frees_skip (f : Nat → Bool) (m n : Nat) (h : ∀ i, m ≤ i → i < m + n → f i = true) : frees f (m + n) = frees f m := by
  induction n with
  | zero => rfl
  | succ n ih =>
    rw [← Nat.add_assoc, frees_succ, ih (fun i h1 h2 => h i h1 (by omega)), h (m + n) (by omega) (by omega)]
    simp
theorem frees_prefix (f : Nat → Bool) (m n : Nat) : frees f m <+: frees f (m + n) := by
  induction n with
  | zero => exact List.prefix_refl _
  | succ n ih => rw [← Nat.add_assoc, frees_succ]; exact ih.trans (List.prefix_append _ _)
theorem frees_take (f : Nat → Bool) (m n q : Nat) (h : q ≤ (frees f m).length) : (frees f (m + n)).take q = (frees f m).take q := by
  obtain ⟨r, hr⟩ := frees_prefix f m n
  rw [← hr, List.take_append_of_le_length h]
theorem frees_congr (f g : Nat → Bool) (m : Nat) (h : ∀ i, i < m → f i = g i) : frees f m = frees g m := by
  unfold frees
  congr 1
  apply List.filter_congr
  intro i hi
  rw [h i (List.mem_range.1 hi)]
theorem frees_mem (f : Nat → Bool) (m : Nat) (x : Int) : x ∈ frees f m ↔ ∃ i : Nat, x = i ∧ i < m ∧ f i = false := by
  unfold frees
  rw [List.mem_map]
  constructor
  · rintro ⟨i, hi, rfl⟩
    rw [List.mem_filter, List.mem_range] at hi
    exact ⟨i, rfl, hi.1, by simpa using hi.2⟩
  · rintro ⟨i, rfl, h1, h2⟩
    exact ⟨i, by rw [List.mem_filter, List.mem_range]; exact ⟨h1, by simpa using h2⟩, rfl⟩
theorem frees_nodup (f : Nat → Bool) (m : Nat) : (frees f m).Nodup := by
  unfold frees
  rw [List.nodup_iff_pairwise_ne, List.pairwise_map]
  have := (List.nodup_range (n := m)).filter (fun i => !f i)
  exact this.imp (fun h e => h (by omega))
/-- Free blocks, each once: they may all be taken. -/
theorem fits_free : ∀ (l : List Int) (k : List Bool), l.Nodup → (∀ x ∈ l, 0 ≤ x ∧ k.getD x.toNat false = false) → fits false k l = true := by
  intro l
  induction l with
  | nil => intro k _ _; rfl
  | cons a r ih =>
    intro k hn h
    rw [List.nodup_cons] at hn
    unfold fits
    rw [(h a (List.mem_cons_self ..)).2]
    simp only [beq_self_eq_true, Bool.true_and]
    refine ih _ hn.2 (fun x hx => ?_)
    have h1 := h x (List.mem_cons_of_mem _ hx)
    refine ⟨h1.1, ?_⟩
    have hne : a.toNat ≠ x.toNat := by
      intro e
      have : a = x := by have := (h a (List.mem_cons_self ..)).1; have := h1.1; omega
      subst this
      exact hn.1 hx
    rw [List.getD_eq_getElem?_getD, flipK_at, if_neg hne, ← List.getD_eq_getElem?_getD]
    exact h1.2
end Go.Proofs.YtdpfhpecidmllaaDoor.Ext
