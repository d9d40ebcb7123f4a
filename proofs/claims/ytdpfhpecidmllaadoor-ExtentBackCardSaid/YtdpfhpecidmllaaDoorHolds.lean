/- Layer 7: what a map holds; Is, Free and flip on it. -/
import Derived.Test.YtdpfhpecidmllaaDoorBits
namespace Go.Proofs.YtdpfhpecidmllaaDoor.Ext
open Go.RowKit Go.Shelf Mem

/-- As many words. -/
def nw (k : List Bool) : Nat := (k.length + 63) / 64
/-- The map whose block is C holds just the blocks k; its words lie in block g. -/
structure Holds (C g cap : Nat) (k : List Bool) (w : World) : Prop where
  small : k.length ≤ 65536
  map : Blk w C 46 #[.slice (some ⟨g, 0, none⟩) (nw k) cap, .int .i64 k.length, .int .i64 (tak k)]
  words : ∃ cs, Blk w g 48 cs ∧ ∀ j, j < nw k → ∃ x : Nat, x < 2 ^ 64 ∧ cs[j]? = some (.int .u64 x) ∧ ∀ b, b < 64 → j * 64 + b < k.length → k[j * 64 + b]? = some (x.testBit b)
theorem Holds.below {C g cap : Nat} {k : List Bool} {w w' : World} {B : Nat} (h : Holds C g cap k w) (hB : Below B w w') (h1 : C < B) (h2 : g < B) : Holds C g cap k w' := by
  obtain ⟨cs, hc, hb⟩ := h.words
  exact ⟨h.small, h.map.below hB h1, cs, hc.below hB h2, hb⟩
theorem Holds.lt {C g cap : Nat} {k : List Bool} {w : World} (h : Holds C g cap k w) : C < w.heap.size ∧ g < w.heap.size := ⟨h.map.lt, by obtain ⟨cs, hc, _⟩ := h.words; exact hc.lt⟩
theorem Holds.later {C g cap : Nat} {k : List Bool} {w w' : World} (h : Holds C g cap k w) (hB : Below w.heap.size w w') : Holds C g cap k w' := h.below hB h.lt.1 h.lt.2
theorem Holds.drewN {C g cap : Nat} {k : List Bool} {w : World} (h : Holds C g cap k w) (n : Nat) : Holds C g cap k (w.drewN n) := ⟨h.small, h.map, h.words⟩
theorem Holds.drew {C g cap : Nat} {k : List Bool} {w : World} (h : Holds C g cap k w) : Holds C g cap k w.drew := ⟨h.small, h.map, h.words⟩
theorem Holds.only {C g cap : Nat} {k : List Bool} {w w' : World} {bs : List Nat} (h : Holds C g cap k w) (hB : Only bs w w') (h1 : C ∉ bs) (h2 : g ∉ bs) : Holds C g cap k w' := by
  obtain ⟨cs, hc, hb⟩ := h.words
  exact ⟨h.small, h.map.only hB h1, cs, hc.only hB h2, hb⟩
theorem Holds.ne {C g cap : Nat} {k : List Bool} {w : World} (h : Holds C g cap k w) : C ≠ g := by
  obtain ⟨cs, hc, _⟩ := h.words
  exact h.map.ne hc (by decide)
theorem i_word {i : Int} (h0 : 0 ≤ i) : (i / 64).toNat * 64 + (i % 64).toNat = i.toNat := by omega
theorem nw_at {k : List Bool} {i : Int} (h0 : 0 ≤ i) (h1 : i < k.length) : (i / 64).toNat < nw k := by unfold nw; omega
/-- Is it there and taken? -/
def isK (k : List Bool) (i : Int) : Bool := decide (0 ≤ i) && k.getD i.toNat false

theorem free_holds {C g cap : Nat} {k : List Bool} {w : World} (h : Holds C g cap k w) :
    Calls Tryd.prog 12 #[.pointer (some ⟨C, 0, none⟩)] w fun e w' => e = .returned (.int .i64 ((k.length : Int) - tak k)) ∧ ∃ n, w' = w.drewN n := by
  have h1 := h.small
  have h2 := tak_le k
  exact free_any C _ k.length (tak k) w h.map (by omega) (by omega)
set_option maxHeartbeats 1000000 in
theorem is_out {C g cap : Nat} {k : List Bool} {w : World} (h : Holds C g cap k w) (i : Int) (hi : i < 0 ∨ (k.length : Int) ≤ i) :
    Calls Tryd.prog 14 #[.pointer (some ⟨C, 0, none⟩), .int .i64 i] w fun e w' => e = .returned (.bool false) ∧ w = w' := by
  have c1 := h.map.cell 1
  simp at c1
  rcases hi with hi | hi
  · have d0 : decide (0 ≤ i) = false := by simpa using hi
    go_enter Tryd.func14, Tryd.ntmps14
    go_wp2_with fail
    go_ret
    exact ⟨rfl, rfl⟩
  · have d0 : decide (0 ≤ i) = true := by simp; omega
    have d1 : decide (i < (k.length : Int)) = false := by simpa using hi
    go_enter Tryd.func14, Tryd.ntmps14
    go_wp2_with fail
    go_ret
    exact ⟨rfl, rfl⟩
theorem is_holds {C g cap : Nat} {k : List Bool} {w : World} (h : Holds C g cap k w) (i : Int) :
    Calls Tryd.prog 14 #[.pointer (some ⟨C, 0, none⟩), .int .i64 i] w fun e w' => e = .returned (.bool (isK k i)) ∧ w = w' := by
  by_cases h0 : 0 ≤ i ∧ i < k.length
  · obtain ⟨h0, h1⟩ := h0
    obtain ⟨cs, hc, hb⟩ := h.words
    obtain ⟨x, hx, hcx, hbit⟩ := hb _ (nw_at h0 h1)
    have hbit := hbit (i % 64).toNat (by omega) (by rw [i_word h0]; omega)
    rw [i_word h0] at hbit
    have := is_any C g (nw k) cap k.length (tak k) i x w h.map (by have := h.small; omega) h0 h1 (nw_at h0 h1) ((hc.cell _).trans hcx)
    rw [bit_at x hx] at this
    have e : isK k i = x.testBit (i % 64).toNat := by
      unfold isK
      rw [List.getD_eq_getElem?_getD, hbit]
      simp [h0]
    rw [e]
    exact this
  · have e : isK k i = false := by
      unfold isK
      by_cases h1 : 0 ≤ i
      · rw [List.getD_eq_getElem?_getD, List.getElem?_eq_none (by omega)]
        simp
      · simp [h1]
    rw [e]
    exact is_out h i (by omega)
theorem flip_holds {C g cap : Nat} {k : List Bool} {w : World} (h : Holds C g cap k w) (i : Int) (h0 : 0 ≤ i) (h1 : i < k.length) :
    Calls Tryd.prog 26 #[.pointer (some ⟨C, 0, none⟩), .int .i64 i] w fun e w' => e = .returned (.tuple #[]) ∧ Holds C g cap (flipK k i.toNat) w' ∧ Only [C, g] w w' := by
  obtain ⟨cs, hc, hb⟩ := h.words
  obtain ⟨x, hx, hcx, hbit⟩ := hb _ (nw_at h0 h1)
  have hbi := hbit (i % 64).toNat (by omega) (by rw [i_word h0]; omega)
  rw [i_word h0] at hbi
  have hs := h.small
  have ht := tak_le k
  refine (flip_any C g (nw k) cap k.length (tak k) i cs x w h.map hc (by omega) (by omega) h0 h1 (nw_at h0 h1) hcx).mono fun e w' ⟨he, hm, hw, ho⟩ => ⟨he, ⟨by rw [flipK_length]; exact hs, ?_, ?_⟩, ho⟩
  · have e1 : nw (flipK k i.toNat) = nw k := by unfold nw; rw [flipK_length]
    have e2 : (tak (flipK k i.toNat) : Int) = next (setIn x i) (tak k) := by
      rw [tak_flip k i.toNat (by omega), setIn_nat x hx i h0, List.getD_eq_getElem?_getD, hbi]
      rfl
    rw [e1, e2, flipK_length]
    exact hm
  · refine ⟨_, hw, fun j hj => ?_⟩
    have e1 : nw (flipK k i.toNat) = nw k := by unfold nw; rw [flipK_length]
    rw [e1] at hj
    rw [flipK_length]
    obtain ⟨y, hy, hcy, hbity⟩ := hb j hj
    by_cases e : (i / 64).toNat = j
    · subst e
      have : y = x := by
        rw [hcx] at hcy
        have e2 := hcy.symm; simp at e2; omega
      subst this
      refine ⟨y ^^^ 2 ^ (i % 64).toNat, xor_lt y _ hy (by omega), ?_, fun b hb1 hb2 => ?_⟩
      · have hlt : (i / 64).toNat < cs.size := (Array.getElem?_eq_some_iff.1 hcx).1
        rw [Array.getElem?_setIfInBounds, if_pos rfl, if_pos hlt, turned_nat y hy i h0]
      · rw [flipK_at, xor_bit, hbity b hb1 hb2]
        by_cases hbb : (i % 64).toNat = b
        · subst hbb
          rw [if_pos (i_word h0).symm]
          simp
        · have hne : ¬ i.toNat = (i / 64).toNat * 64 + b := by omega
          rw [if_neg hne]
          simp [hbb]
    · refine ⟨y, hy, ?_, fun b hb1 hb2 => ?_⟩
      · rw [Array.getElem?_setIfInBounds, if_neg e]
        exact hcy
      · rw [flipK_at, if_neg (by omega)]
        exact hbity b hb1 hb2
end Go.Proofs.YtdpfhpecidmllaaDoor.Ext
