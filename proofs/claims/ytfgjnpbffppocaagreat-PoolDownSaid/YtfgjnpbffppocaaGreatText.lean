/- Layer 11: Put of a number behind nothing. -/
import Derived.Test.YtfgjnpbffppocaaGreatFrame
namespace Go.Proofs.YtfgjnpbffppocaaGreat.Text
open Go.RowKit Go.Deep Mem Crc

/-- A digit. -/
def dig (n : Nat) : UInt8 := UInt8.ofNat (48 + n % 10)
/-- A number's digits ahead of others. -/
def decA : Nat → Nat → List UInt8 → List UInt8
  | 0, _, acc => acc
  | f + 1, n, acc => if n / 10 = 0 then dig n :: acc else decA f (n / 10) (dig n :: acc)
/-- A number in decimal. -/
def dec (n : Nat) : List UInt8 := decA 20 n []
theorem decA_length : ∀ (f n : Nat) (acc : List UInt8), (decA f n acc).length ≤ acc.length + f
  | 0, _, _ => Nat.le_refl _
  | f + 1, n, acc => by
    unfold decA
    split
    · simp
    · have := decA_length f (n / 10) (dig n :: acc)
      simp at this
      omega
theorem dig_nat (n : Nat) : (dig n).toNat = 48 + n % 10 := by unfold dig; simp; omega
/-- Twenty cells of nought. -/
abbrev z20 : Array Value := #[.int .u8 0, .int .u8 0, .int .u8 0, .int .u8 0, .int .u8 0, .int .u8 0, .int .u8 0, .int .u8 0, .int .u8 0, .int .u8 0, .int .u8 0, .int .u8 0, .int .u8 0, .int .u8 0, .int .u8 0, .int .u8 0, .int .u8 0, .int .u8 0, .int .u8 0, .int .u8 0]
theorem zeros20 : z20.toList = List.replicate 20 (Value.int .u8 0) := rfl
/-- The digits' block: the last ones are written. -/
structure Digits (g k : Nat) (acc : List UInt8) (w : World) : Prop where
  len : acc.length = k
  top : k ≤ 20
  blk : ∃ cs, Blk w g 122 cs ∧ cs.size = 20 ∧ (∀ j, j < 20 - k → cs[j]? = some (.int .u8 0)) ∧ ∀ j x, acc[j]? = some x → cs[20 - k + j]? = some (bv x)
theorem len20 : Tryz.prog.arrayLen 122 = 20 := by kernel_rfl
theorem elem20 : Tryz.prog.elem 122 = 5 := by kernel_rfl
theorem und20 : Tryz.prog.underlying 122 = some (.array (Tryz.prog.arrayLen 122) (Tryz.prog.elem 122)) := by rw [len20, elem20]; exact Tryz.underlying122
theorem size8 (w : World) : (sizeOf 5).run Tryz.prog w = .ok 1 w := by kernel_rfl
theorem slice20 (g j : Nat) (hj : j < 20) (w : World) : (Instr.sliceAt 122 (.pointer (some ⟨g, 0, none⟩)) (some (.int .i64 (j : Int))) none none).run Tryz.prog w = .ok (.slice (some ⟨g, j, none⟩) (20 - j) (20 - j)) w := by
  rw [run_sliceAt_array_l w 122 ⟨g, 0, none⟩ und20 .i64 (j : Int) (by omega) (by rw [len20]; omega), elem20, size8, len20]
  have : ¬ 20 = j := by omega
  simp [slicedAt, Addr.add, Result.andThen, this]
  omega
set_option maxHeartbeats 400000 in
set_option maxRecDepth 100000 in
theorem put_nil (n : Nat) (w : World) (hn : n < 18446744073709551616) :
    Calls Tryz.prog 37 #[.slice none 0 0, .int .u64 n] w fun e w' => ∃ v, e = .returned v ∧ OwnB w' w.heap.size v (dec n) ∧ Below w.heap.size w w' := by
  obtain ⟨i0, hi0, hz0, hz1, hz2⟩ := info_parts infoB8
  have hz : z20.size = 20 := by rw [← Array.length_toList, zeros20, List.length_replicate]
  have hal := (Below.refl w.heap.size w).alloc (Nat.le_refl _) (.cells z20 122)
  have hb1 : Digits w.heap.size 0 [] (w.alloc (Obj.cells z20 122)) := by
    refine ⟨rfl, by omega, _, Blk.new w _ _, hz, fun j hj => ?_, fun j x hx => by simp at hx⟩
    rw [← Array.getElem?_toList, zeros20, List.getElem?_replicate, if_pos hj]
  have HAL := Lib.hid hal
  have HB1 := Lib.hid hb1
  clear hal hb1 hz
  go_enter Tryz.func37, Tryz.ntmps37
  go_wp2_with fail
  go_loopw [1, 6] (fun x i wr => ∃ (k m : Nat) (acc : List UInt8), k < 20 ∧ i = .int .i64 ((20 - k : Nat) : Int) ∧ x = .int .u64 m ∧ m < 18446744073709551616 ∧ m * 10 ^ k < 18446744073709551616 ∧ (k = 0 ∨ 0 < m) ∧ Hid (dec n = decA (20 - k) m acc) ∧ Hid (Digits w.heap.size k acc wr) ∧ Hid (Below w.heap.size w wr)) (fun x _ _ => (intOf x).toNat)
  case atStart => exact ⟨0, n, [], by omega, rfl, rfl, hn, by omega, .inl rfl, Lib.hid rfl, HB1, HAL⟩
  case round =>
    obtain ⟨k, m, acc, hk, rfl, rfl, hm, hmk, hk0, hd, hD, hB⟩ := hrel
    obtain ⟨hacc, _, cs, hcs, hsz, hzr, hat⟩ := hD.out
    obtain ⟨j, hj⟩ : ∃ j, j = 19 - k := ⟨_, rfl⟩
    have hj20 : 20 - k = j + 1 := by omega
    have c0 := (hcs.cell j).trans (hzr j (by omega))
    have fz := hcs.frozen j
    rw [hj20]
    have hdg := dig_nat m
    have HC := Lib.hid hcs
    have HZ := Lib.hid hzr
    have HA := Lib.hid hat
    have HS := Lib.hid hsz
    have hw1 : IntKind.i64.wrap (((j + 1 : Nat) : Int) - 1) = j := by rw [show ((j + 1 : Nat) : Int) - 1 = j by omega]; exact IntWalk.i64_in _ (by omega)
    have hset := (hcs.set j (.int .u8 (48 + (m : Int) % 10)))
    have hbel := hB.out.setCell (show w.heap.size ≤ (⟨w.heap.size, j, none⟩ : Addr).block from Nat.le_refl _) (.int .u8 (48 + (m : Int) % 10))
    have hD2 : Digits w.heap.size (k + 1) (dig m :: acc) (wr.setCell ⟨w.heap.size, j, none⟩ (.int .u8 (48 + (m : Int) % 10))) := by
      refine ⟨by simp [hacc], by omega, _, hset, by rw [Array.size_setIfInBounds]; exact hsz, fun q hq => ?_, fun q x hx => ?_⟩
      · rw [Array.getElem?_setIfInBounds, if_neg (by omega)]
        exact hzr q (by omega)
      · cases q with
        | zero =>
          have e : dig m = x := by simpa using hx
          subst e
          rw [Array.getElem?_setIfInBounds, if_pos (by omega), if_pos (by omega)]
          unfold bv
          rw [hdg]
          congr 2
        | succ q =>
          have hx' : acc[q]? = some x := by simpa using hx
          rw [Array.getElem?_setIfInBounds, if_neg (by omega)]
          have := hat q x hx'
          rw [show 20 - (k + 1) + (q + 1) = 20 - k + q by omega]
          exact this
    have HD2 := Lib.hid hD2
    have HB2 := Lib.hid hbel
    clear hset hbel hD2 hcs hzr hat hsz hdg hj
    by_cases hlast : m / 10 = 0
    · have hq : ((m : Int) / 10 == 0) = true := by simp; omega
      have hsl := fun w' => slice20 w.heap.size j (by omega) w'
      obtain ⟨hl2, _, cs2, hcs2, hsz2, _, hat2⟩ := HD2.out
      have hlies : ∀ q u, ((dig m :: acc).map bv)[q]? = some u → (wr.setCell ⟨w.heap.size, j, none⟩ (.int .u8 (48 + (m : Int) % 10))).cell? ((⟨w.heap.size, j, none⟩ : Addr).add q) = some u := fun q u hu => by
        have e : (⟨w.heap.size, j, none⟩ : Addr).add q = ⟨w.heap.size, j + q, none⟩ := by unfold Addr.add; split <;> simp_all
        rw [List.getElem?_map] at hu
        cases hx : (dig m :: acc)[q]? with
        | none => rw [hx] at hu; cases hu
        | some x =>
          rw [hx] at hu
          have := hat2 q x hx
          rw [e, hcs2.cell, show j + q = 20 - (k + 1) + q by omega, this]
          exact hu
      have HLS := Lib.hid hlies
      have H1 := Lib.hid (oneCell_bytes (dig m :: acc))
      have hnil := World.ownsRow_nil (wr.setCell ⟨w.heap.size, j, none⟩ (.int .u8 (48 + (m : Int) % 10))) w.heap.size 5 1
      have hdec : dec n = dig m :: acc := by
        rw [hd.out, hj20]
        unfold decA
        rw [if_pos hlast]
      have HDEC := Lib.hid hdec
      have hl3 : (dig m :: acc).length = 20 - j := by rw [hl2]; omega
      have HL3 := Lib.hid hl3
      have hsz3 := HB2.out.size
      clear hlies hdec hl3 hcs2 hat2 hsz2
      go_wp2_with (first | (at_builtin; refine wpList_append_own _ rfl _ _ 23 rfl w.heap.size 5 i0 (.int .u8 0) 1 1 Tryz.underlying23 hi0 hz0 hz1 hz2 rfl (by decide) _ _ _ rfl hnil ⟨w.heap.size, j, none⟩ (20 - j) (20 - j) ((dig m :: acc).map bv) rfl ?c1 HLS.out H1.out ?c3 ?c4 ?c5 ?_))
      case c1 => rw [List.length_map, HL3.out, Nat.mul_one]
      case c3 => unfold maxLen; omega
      case c4 => omega
      case c5 => exact hsz3
      intro v' w2 hown2 hgrow2 _
      have hB3 := HB2.out.grown hgrow2 hsz3 (fun q hq => by cases hq)
      have hO2 : OwnB w2 w.heap.size v' (dec n) := by
        unfold OwnB
        rw [HDEC.out, HL3.out]
        simpa using hown2
      have HO2 := Lib.hid hO2
      clear hown2 hgrow2 hO2 hnil
      go_wp2_with fail
      go_ret
      exact ⟨v', rfl, HO2.out, hB3⟩
    · have hq : ((m : Int) / 10 == 0) = false := by simp; omega
      have hk19 : k < 19 := by
        apply Nat.lt_of_not_le
        intro h19
        have h1 : 10 ^ 19 ≤ 10 ^ k := Nat.pow_le_pow_right (by decide) h19
        have h2 : 10 ≤ m := by omega
        have h3 : 10 * 10 ^ 19 ≤ m * 10 ^ k := Nat.mul_le_mul h2 h1
        have h4 : (10 : Nat) * 10 ^ 19 = 100000000000000000000 := by decide
        omega
      have hpow : m / 10 * 10 ^ (k + 1) < 18446744073709551616 := by
        rw [Nat.pow_succ, Nat.mul_comm (10 ^ k) 10, ← Nat.mul_assoc]
        exact Nat.lt_of_le_of_lt (Nat.mul_le_mul_right _ (Nat.div_mul_le_self m 10)) hmk
      have hdec : dec n = decA (20 - (k + 1)) (m / 10) (dig m :: acc) := by
        rw [hd.out, hj20]
        conv => lhs; unfold decA
        rw [if_neg hlast, show 20 - (k + 1) = j by omega]
      have HDEC := Lib.hid hdec
      have HPOW := Lib.hid hpow
      clear hdec hpow hmk
      go_wp2_with fail
      refine ⟨⟨k + 1, m / 10, dig m :: acc, by omega, ?_, by simp, by omega, HPOW.out, .inr (by omega), HDEC, HD2, HB2⟩, ?_⟩
      · rw [show 20 - (k + 1) = j by omega]
      · simp [intOf]; omega
end Go.Proofs.YtfgjnpbffppocaaGreat.Text
