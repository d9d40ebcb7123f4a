/- Layer 20: All walkers of bytes. -/
import Derived.Test.YtfgjnpbffppocaaGreatWalkerPut
import Derived.StillTailTactics
namespace Go.Proofs.YtfgjnpbffppocaaGreat.Walk
open Go.RowKit Go.Deep Mem Crc

def at0 (bs : List UInt8) (i : Nat) : Nat := (bs.getD i 0).toNat
/-- What a number holds when m of its four bytes are read. -/
def part (bs : List UInt8) (q : Nat) : Nat → Nat
  | 0 => 0
  | m + 1 => part bs q m + at0 bs (q * 4 + m) * 256 ^ m
/-- The seven numbers of 28 bytes. -/
def seven (bs : List UInt8) : List Nat := (List.range 7).map (fun q => part bs q 4)
/-- All walkers of bytes. -/
def unall : Nat → List UInt8 → List (List Nat)
  | 0, _ => []
  | n + 1, bs => seven bs :: unall n (bs.drop 28)
theorem at0_lt (bs : List UInt8) (i : Nat) : at0 bs i < 256 := UInt8.toNat_lt _
theorem part_lt (bs : List UInt8) (q : Nat) : ∀ m, part bs q m < 256 ^ m
  | 0 => Nat.one_pos
  | m + 1 => by
    have h1 := part_lt bs q m
    have h2 := at0_lt bs (q * 4 + m)
    have h3 : (at0 bs (q * 4 + m) + 1) * 256 ^ m ≤ 256 * 256 ^ m := Nat.mul_le_mul_right _ (by omega)
    rw [Nat.add_mul, Nat.one_mul] at h3
    rw [Nat.pow_succ, Nat.mul_comm (256 ^ m) 256]
    show part bs q m + at0 bs (q * 4 + m) * 256 ^ m < _
    omega
theorem seven_ok (bs : List UInt8) : ok (seven bs) := by
  refine ⟨by simp [seven], fun n hn => ?_⟩
  obtain ⟨q, _, rfl⟩ := List.mem_map.1 hn
  exact part_lt bs q 4
theorem unall_ok : ∀ (n : Nat) (bs : List UInt8), ∀ x ∈ unall n bs, ok x
  | 0, _, x, h => by simp [unall] at h
  | n + 1, bs, x, h => by
    rcases List.mem_cons.1 h with rfl | h
    · exact seven_ok bs
    · exact unall_ok n _ x h
theorem unall_length : ∀ (n : Nat) (bs : List UInt8), (unall n bs).length = n
  | 0, _ => rfl
  | n + 1, bs => by simp [unall, unall_length n]
theorem unall_snoc : ∀ (n : Nat) (bs : List UInt8), unall (n + 1) bs = unall n bs ++ [seven (bs.drop (n * 28))]
  | 0, bs => by simp [unall]
  | n + 1, bs => by
    have := unall_snoc n (bs.drop 28)
    conv => lhs; unfold unall
    rw [this]
    show _ = unall (n + 1) bs ++ _
    conv => rhs; unfold unall
    rw [List.drop_drop, List.cons_append, show 28 + n * 28 = (n + 1) * 28 by omega]
/-- Written and read back. -/
theorem four_at (n : Nat) (h : n < 4294967296) (rest pre : List UInt8) (q : Nat) (hp : pre.length = q * 4) : part (pre ++ four n ++ rest) q 4 = n := by
  have h1 : ∀ m, m < 4 → at0 (pre ++ four n ++ rest) (q * 4 + m) = ((four n).getD m 0).toNat := fun m hm => by
    unfold at0
    rw [List.getD_eq_getElem?_getD, List.getD_eq_getElem?_getD, List.append_assoc, List.getElem?_append_right (by omega), hp, Nat.add_sub_cancel_left, List.getElem?_append_left (by rw [four_length]; exact hm)]
  simp only [part]
  rw [h1 0 (by omega), h1 1 (by omega), h1 2 (by omega), h1 3 (by omega)]
  simp [four]
  omega
theorem seven_bytes (x : List Nat) (h : ok x) (rest : List UInt8) : seven (bytes x ++ rest) = x := by
  obtain ⟨a, b, c, d, e, f, g, rfl⟩ := ok_seven h
  have hl := h.2
  have e0 : bytes [a, b, c, d, e, f, g] = four a ++ four b ++ four c ++ four d ++ four e ++ four f ++ four g := by simp [bytes]
  have p0 := four_at a (hl a (by simp)) (four b ++ four c ++ four d ++ four e ++ four f ++ four g ++ rest) [] 0 rfl
  have p1 := four_at b (hl b (by simp)) (four c ++ four d ++ four e ++ four f ++ four g ++ rest) (four a) 1 rfl
  have p2 := four_at c (hl c (by simp)) (four d ++ four e ++ four f ++ four g ++ rest) (four a ++ four b) 2 rfl
  have p3 := four_at d (hl d (by simp)) (four e ++ four f ++ four g ++ rest) (four a ++ four b ++ four c) 3 rfl
  have p4 := four_at e (hl e (by simp)) (four f ++ four g ++ rest) (four a ++ four b ++ four c ++ four d) 4 rfl
  have p5 := four_at f (hl f (by simp)) (four g ++ rest) (four a ++ four b ++ four c ++ four d ++ four e) 5 rfl
  have p6 := four_at g (hl g (by simp)) rest (four a ++ four b ++ four c ++ four d ++ four e ++ four f) 6 rfl
  have e1 : seven (bytes [a, b, c, d, e, f, g] ++ rest) = [part (bytes [a, b, c, d, e, f, g] ++ rest) 0 4, part (bytes [a, b, c, d, e, f, g] ++ rest) 1 4, part (bytes [a, b, c, d, e, f, g] ++ rest) 2 4, part (bytes [a, b, c, d, e, f, g] ++ rest) 3 4, part (bytes [a, b, c, d, e, f, g] ++ rest) 4 4, part (bytes [a, b, c, d, e, f, g] ++ rest) 5 4, part (bytes [a, b, c, d, e, f, g] ++ rest) 6 4] := rfl
  rw [e1, e0]
  simp only [List.append_assoc, List.nil_append] at p0 p1 p2 p3 p4 p5 p6 ⊢
  rw [p0, p1, p2, p3, p4, p5, p6]
theorem unall_all : ∀ (l : List (List Nat)), (∀ x ∈ l, ok x) → unall l.length (all l) = l
  | [], _ => rfl
  | x :: r, h => by
    have hx := h x (List.mem_cons_self ..)
    have e : all (x :: r) = bytes x ++ all r := by simp [all]
    rw [e]
    show seven (bytes x ++ all r) :: unall r.length ((bytes x ++ all r).drop 28) = _
    rw [seven_bytes x hx, List.drop_append_of_le_length (by rw [bytes_length x hx]; exact Nat.le_refl _), show (bytes x).drop 28 = [] from List.drop_eq_nil_of_le (by rw [bytes_length x hx]; exact Nat.le_refl _), List.nil_append, unall_all r (fun y hy => h y (List.mem_cons_of_mem _ hy))]
theorem infoW7 : (Tryz.prog.info? 38).map (fun i => (i.zero, i.size, i.bytes)) = some (some (.agg #[.int .u32 0, .int .u32 0, .int .u32 0, .int .u32 0, .int .u32 0, .int .u32 0, .int .u32 0]), 7, 28) := by kernel_rfl

/-- The seven numbers' block when m bytes are read. -/
def fill (bs : List UInt8) (m : Nat) : List Nat := (List.range 7).map (fun q => part bs q (min 4 (m - q * 4)))
theorem fill_end (bs : List UInt8) : fill bs 28 = seven bs := by
  unfold fill seven
  apply List.map_congr_left
  intro q hq
  have : q < 7 := List.mem_range.1 hq
  rw [show min 4 (28 - q * 4) = 4 by omega]
theorem fill_at (bs : List UInt8) (m q : Nat) (hq : q < 7) : (fill bs m)[q]? = some (part bs q (min 4 (m - q * 4))) := by
  unfold fill
  simp [hq]
/-- What a read byte does. -/
theorem fill_next (bs : List UInt8) (m : Nat) (hm : m < 28) : fill bs (m + 1) = (fill bs m).set (m / 4) (part bs (m / 4) (m % 4) + at0 bs m * 256 ^ (m % 4)) := by
  apply List.ext_getElem?
  intro q
  rw [List.getElem?_set]
  by_cases hq : q < 7
  · rw [fill_at bs (m + 1) q hq]
    by_cases e : m / 4 = q
    · subst e
      have hlen : (fill bs m).length = 7 := by simp [fill]
      rw [if_pos rfl, if_pos (by rw [hlen]; omega)]
      have e1 : min 4 (m + 1 - m / 4 * 4) = m % 4 + 1 := by omega
      rw [e1]
      show some (part bs (m / 4) (m % 4) + at0 bs (m / 4 * 4 + m % 4) * 256 ^ (m % 4)) = _
      rw [show m / 4 * 4 + m % 4 = m by omega]
    · rw [if_neg e, fill_at bs m q hq]
      congr 2
      omega
  · rw [List.getElem?_eq_none (by simp [fill]; omega)]
    split
    · rename_i e
      omega
    · rw [List.getElem?_eq_none (by simp [fill]; omega)]
theorem or_byte (a b r : Nat) (hr : r < 4) (ha : a < 256 ^ r) (hb : b < 256) : bits .or .u32 (a : Int) ((b * 256 ^ r : Nat) : Int) = ((a + b * 256 ^ r : Nat) : Int) := by
  have hp : 256 ^ r = 2 ^ (8 * r) := by rw [show 256 = 2 ^ 8 by decide, ← Nat.pow_mul]
  have h1 : b * 256 ^ r < 4294967296 := by
    have h2 : 256 ^ r ≤ 256 ^ 3 := Nat.pow_le_pow_right (by decide) (by omega)
    have h3 : b * 256 ^ r ≤ 255 * 256 ^ 3 := Nat.mul_le_mul (by omega) h2
    have h4 : (255 : Nat) * 256 ^ 3 = 4278190080 := by decide
    omega
  have h5 : a < 4294967296 := by
    have h2 : 256 ^ r ≤ 256 ^ 3 := Nat.pow_le_pow_right (by decide) (by omega)
    have h4 : (256 : Nat) ^ 3 = 16777216 := by decide
    omega
  have := u32_or_nat a (b * 256 ^ r) h5 h1
  rw [Nat.or_comm, nat_join (8 * r) (b * 256 ^ r) a (by rw [hp]; exact Nat.mul_mod_left _ _) (by rw [← hp]; exact ha)] at this
  rw [this]
  congr 1
  omega
end Go.Proofs.YtfgjnpbffppocaaGreat.Walk
