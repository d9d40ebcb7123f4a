/- Layer 7: the words' bits; the plain law of flips and of a turn. -/
import Derived.Test.YtdpfhpecidmllaaDoorFlip
import Derived.Laws.BitsAllLaws
namespace Go.Proofs.YtdpfhpecidmllaaDoor.Ext
open Go.RowKit Go.Shelf Mem

theorem and_one (n : Nat) (h : n < 2 ^ 64) : (bits .and .u64 (n : Int) 1 == 1) = n.testBit 0 := by
  have e := u64_and_nat n 1 h (by decide)
  rw [nat_mask1] at e
  have e1 : ((1 : Nat) : Int) = 1 := rfl
  rw [e1] at e
  rw [e, Nat.testBit_zero]
  rcases Nat.mod_two_eq_zero_or_one n with h | h <;> simp [h]
theorem div_pow (x j : Nat) : (x : Int) / 2 ^ j = ((x / 2 ^ j : Nat) : Int) := by simp
/-- What Is answers of a word. -/
theorem bit_at (x : Nat) (hx : x < 2 ^ 64) (i : Int) : (bits .and .u64 ((x : Int) / 2 ^ (i % 64).toNat) 1 == 1) = x.testBit (i % 64).toNat := by
  rw [div_pow, and_one _ (Nat.lt_of_le_of_lt (Nat.div_le_self _ _) hx), Nat.testBit_zero, Nat.testBit_eq_decide_div_mod_eq]
theorem pow_wrap (j : Nat) (h : j < 64) : IntKind.u64.wrap (2 ^ j) = ((2 ^ j : Nat) : Int) := by
  have e : IntKind.u64.wrap (2 ^ j) = (2 ^ j : Int) % 18446744073709551616 := by simp [IntKind.wrap, IntKind.bits, IntKind.signed]
  have h2 : 2 ^ j < 2 ^ 64 := Nat.pow_lt_pow_right (by decide) h
  have e2 : (2 ^ j : Int) = ((2 ^ j : Nat) : Int) := by simp
  rw [e, e2]
  generalize 2 ^ j = n at h2
  omega
theorem turned_nat (x : Nat) (hx : x < 2 ^ 64) (i : Int) (hi : 0 ≤ i) : turned x i = ((x ^^^ 2 ^ (i % 64).toNat : Nat) : Int) := by
  unfold turned
  have hj : (i % 64).toNat < 64 := by omega
  rw [pow_wrap _ hj]
  exact u64_xor_nat x _ hx (Nat.pow_lt_pow_right (by decide) hj : 2 ^ (i % 64).toNat < 2 ^ 64)
theorem xor_lt (x j : Nat) (hx : x < 2 ^ 64) (hj : j < 64) : x ^^^ 2 ^ j < 2 ^ 64 := Nat.xor_lt_two_pow hx (Nat.pow_lt_pow_right (by decide) hj)
theorem xor_bit (x j b : Nat) : (x ^^^ 2 ^ j).testBit b = (x.testBit b ^^ decide (j = b)) := by rw [Nat.testBit_xor, Nat.testBit_two_pow]
theorem setIn_nat (x : Nat) (hx : x < 2 ^ 64) (i : Int) (hi : 0 ≤ i) : setIn x i = !x.testBit (i % 64).toNat := by
  unfold setIn
  rw [turned_nat x hx i hi, bit_at _ (xor_lt x _ hx (by omega)), xor_bit]
  simp

/-- A block is turned. -/
def flipK (k : List Bool) (i : Nat) : List Bool := k.set i (!k.getD i false)
def flips (k : List Bool) (l : List Int) : List Bool := l.foldl (fun k i => flipK k i.toNat) k
theorem flipK_length (k : List Bool) (i : Nat) : (flipK k i).length = k.length := by unfold flipK; simp
theorem flipK_at (k : List Bool) (i j : Nat) : (flipK k i)[j]? = if i = j then k[j]?.map not else k[j]? := by
  unfold flipK
  rw [List.getElem?_set]
  by_cases e : i = j
  · subst e
    by_cases h : i < k.length
    · simp [h]
    · simp [h]
  · simp [e]
theorem flipK_comm (k : List Bool) (a b : Nat) : flipK (flipK k a) b = flipK (flipK k b) a := by
  apply List.ext_getElem?
  intro j
  simp only [flipK_at]
  split <;> split <;> rfl
theorem flipK_self (k : List Bool) (a : Nat) : flipK (flipK k a) a = k := by
  apply List.ext_getElem?
  intro j
  simp only [flipK_at]
  split
  · cases k[j]? <;> simp
  · rfl
theorem flips_length (l : List Int) : ∀ k, (flips k l).length = k.length := by
  induction l with
  | nil => intro k; rfl
  | cons i r ih => intro k; show (flips (flipK k i.toNat) r).length = _; rw [ih, flipK_length]
theorem flips_flipK (l : List Int) : ∀ k a, flips (flipK k a) l = flipK (flips k l) a := by
  induction l with
  | nil => intro k a; rfl
  | cons i r ih => intro k a; show flips (flipK (flipK k a) i.toNat) r = flipK (flips (flipK k i.toNat) r) a; rw [flipK_comm, ih]
/-- Turned twice: as it was. -/
theorem flips_self (l : List Int) : ∀ k, flips (flips k l) l = k := by
  induction l with
  | nil => intro k; rfl
  | cons i r ih =>
    intro k
    show flips (flipK (flips (flipK k i.toNat) r) i.toNat) r = k
    rw [flips_flipK, flips_flipK, flips_flipK, flipK_self, ih]
theorem flips_snoc (k : List Bool) (l : List Int) (n : Nat) (i : Int) (h : l[n]? = some i) : flips k (l.take (n + 1)) = flipK (flips k (l.take n)) i.toNat := by
  rw [List.take_add_one, h]
  unfold flips
  rw [List.foldl_append]
  rfl
/-- Do all blocks of a list stand so, each once? -/
def fits (taken : Bool) : List Bool → List Int → Bool
  | _, [] => true
  | k, i :: r => (k.getD i.toNat false == taken) && fits taken (flipK k i.toNat) r
def turnE (k : List Bool) (l : List Int) (taken : Bool) : Int := if l.any (outs k.length) then 9 else if fits taken k l then 0 else 13
def turnK (k : List Bool) (l : List Int) (taken : Bool) : List Bool := if l.any (outs k.length) then k else if fits taken k l then flips k l else k
theorem fits_take (taken : Bool) (l : List Int) : ∀ (k : List Bool) (n : Nat) (i : Int), fits taken k (l.take n) = true → l[n]? = some i → fits taken k (l.take (n + 1)) = ((flips k (l.take n)).getD i.toNat false == taken) := by
  induction l with
  | nil => intro k n i _ h; simp at h
  | cons a r ih =>
    intro k n i h hi
    cases n with
    | zero => simp at hi; subst hi; simp [fits, flips]
    | succ n =>
      simp only [List.take_succ_cons, fits, Bool.and_eq_true] at h
      rw [List.take_succ_cons, fits, h.1, Bool.true_and, ih _ n i h.2 (by simpa using hi)]
      rfl
theorem fits_no (taken : Bool) (l : List Int) : ∀ (k : List Bool) (n : Nat), fits taken k (l.take n) = false → fits taken k l = false := by
  induction l with
  | nil => intro k n h; simp [fits] at h
  | cons a r ih =>
    intro k n h
    cases n with
    | zero => simp [fits] at h
    | succ n =>
      rw [List.take_succ_cons, fits] at h
      rw [fits]
      cases hb : (k.getD a.toNat false == taken)
      · simp
      · rw [hb, Bool.true_and] at h
        rw [ih _ n h]
        rfl
/-- As many as are taken. -/
def tak (k : List Bool) : Nat := k.count true
theorem tak_le (k : List Bool) : tak k ≤ k.length := List.count_le_length
theorem tak_flip : ∀ (k : List Bool) (i : Nat), i < k.length → (tak (flipK k i) : Int) = next (!k.getD i false) (tak k) := by
  intro k
  induction k with
  | nil => intro i h; simp at h
  | cons a r ih =>
    intro i h
    cases i with
    | zero => cases a <;> simp [flipK, tak, next]
    | succ i =>
      have h2 : i < r.length := by simpa using h
      have := ih i h2
      have e : flipK (a :: r) (i + 1) = a :: flipK r i := by simp [flipK]
      rw [e]
      have e2 : (a :: r).getD (i + 1) false = r.getD i false := by simp
      rw [e2]
      unfold tak at this ⊢
      rw [List.count_cons, List.count_cons]
      cases hb : r.getD i false <;> rw [hb] at this <;> simp only [next, Bool.not_true, Bool.not_false] at this ⊢ <;> omega
end Go.Proofs.YtdpfhpecidmllaaDoor.Ext
