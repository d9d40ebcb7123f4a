/- Fits, Frame, Text, Open, Upon, TextPut, RefPut, Print, RefPrint, in one text. -/
import Derived.Test.YtndkohocgfmamaaGreatG1
import Derived.ProofKit
import Derived.OpenShut
import Derived.Deep.Slices
import Derived.Laws.IdiomStrings
import Derived.Deep.RegionHeld3
/- Layer 2: Fits. -/
namespace Go.Proofs.YtndkohocgfmamaaGreat.Crc
open Go.RowKit Go.Deep Mem

/-- The bytes bodyOf of a sum. -/
def bodyOf (bs : List UInt8) : List UInt8 := bs.take (bs.length - 4)
def fitsL (bs : List UInt8) : List UInt8 := if 4 ≤ bs.length ∧ marked (bodyOf bs) = bs then bodyOf bs else []
def fitsE (bs : List UInt8) : Int := if bs.length < 4 then 2 else if marked (bodyOf bs) = bs then 0 else 5
theorem bodyOf_length (bs : List UInt8) : (bodyOf bs).length = bs.length - 4 := by unfold bodyOf; rw [List.length_take]; omega
theorem bodyOf_mark (bs : List UInt8) : bodyOf (marked bs) = bs := by
  unfold bodyOf
  rw [mark_length, Nat.add_sub_cancel]
  unfold marked
  rw [List.take_append_of_le_length (Nat.le_refl _), List.take_of_length_le (Nat.le_refl _)]
theorem fits_mark (bs : List UInt8) : fitsL (marked bs) = bs ∧ fitsE (marked bs) = 0 := by
  unfold fitsL fitsE
  rw [bodyOf_mark, mark_length]
  exact ⟨by rw [if_pos ⟨by omega, rfl⟩], by rw [if_neg (by omega), if_pos rfl]⟩
set_option maxHeartbeats 2000000 in
theorem fits_any (a : Option Addr) (cp : Nat) (bs : List UInt8) (w : World) (h : Lies w a (bs.map bv)) (hcp : bs.length ≤ cp) (hm : bs.length ≤ 3000000) :
    Calls Tryz.prog 110 #[.slice a bs.length cp] w fun e w' => ∃ v, e = .returned (.tuple #[v, .int .i64 (fitsE bs)]) ∧ OwnB w' w.heap.size v (fitsL bs) ∧ Below w.heap.size w w' := by
  by_cases h4 : bs.length < 4
  · have e1 : fitsE bs = 2 := if_pos h4
    have e2 : fitsL bs = [] := if_neg (by omega)
    rw [e1, e2]
    clear h e1 e2
    go_enter Tryz.func110, Tryz.ntmps110
    go_wp2_with fail
    go_ret2
    exact ⟨_, rfl, World.ownsRow_nil _ _ _ _, Below.refl _ _⟩
  · obtain ⟨g, off, rfl, hg, hc⟩ := h.resolve_left (fun e => by
      rw [List.map_eq_nil_iff] at e
      subst e
      exact h4 (by decide))
    have hL : Lies w (some ⟨g, off, none⟩) (bs.map bv) := .inr ⟨g, off, rfl, hg, hc⟩
    have hL2 : Lies w (some ⟨g, off, none⟩) ((bodyOf bs).map bv) := by unfold bodyOf; rw [List.map_take]; exact hL.take _
    obtain ⟨m, hm4⟩ : ∃ m, bs.length = m + 4 := ⟨bs.length - 4, by omega⟩
    have hol : (bodyOf bs).length = m := by rw [bodyOf_length]; omega
    have hcl := clone_any (some ⟨g, off, none⟩) cp (bodyOf bs) w hL2 (by omega)
    rw [hol] at hcl
    have HCL := Lib.hid hcl
    have HL := Lib.hid hL
    have HO := Lib.hid hol
    have HM4 := Lib.hid hm4
    have hw : IntKind.i64.wrap ((m : Int) + 4 - 4) = m := by rw [show (m : Int) + 4 - 4 = m by omega]; exact IntWalk.i64_in _ (by omega)
    have hmc : m ≤ cp := by omega
    have e1 : fitsE bs = if marked (bodyOf bs) = bs then 0 else 5 := if_neg h4
    have E1 := Lib.hid e1
    rw [hm4]
    clear hc hg hL hL2 hol hcl e1 h4
    go_enter Tryz.func110, Tryz.ntmps110
    go_wp2_with fail
    refine HCL.out.mono ?_
    rintro e w1 ⟨v, rfl, hown, hB1⟩
    have hown2 : OwnB w1 w.heap.size v (bodyOf bs) := hown
    obtain ⟨a1, c1, e1, _, hl1, _, _⟩ := own_shape hown2
    subst e1
    have hmk := mark_any a1 c1 (bodyOf bs) w1 hl1 (by rw [HO.out]; omega)
    have HMK := Lib.hid hmk
    have HOW := Lib.hid hown2
    have HB1 := Lib.hid hB1
    have hs1 := hB1.size
    clear hown hown2 hl1 hmk hB1
    go_wp2_with fail
    refine HMK.out.mono ?_
    rintro e w2 ⟨v2, rfl, hown3, hB2⟩
    obtain ⟨a2, c2, e2, _, hl2, _, _⟩ := own_shape hown3
    subst e2
    have hs2 := hB2.size
    have heq := equal_any a2 (some ⟨g, off, none⟩) c2 cp (marked (bodyOf bs)) bs w2 hl2 ((HL.out.later HB1.out).later hB2) (by rw [mark_length, HO.out]; omega)
    have hml : (marked (bodyOf bs)).length = m + 4 := by rw [mark_length, HO.out]
    rw [hml, HM4.out] at heq
    rw [hml]
    have HE := Lib.hid heq
    have HB2 := Lib.hid (HB1.out.trans (hB2.mono hs1))
    have HO2 := Lib.hid (own_later HOW.out hB2)
    clear hl2 heq hB2 hown3 hml
    go_wp2_with fail
    refine HE.out.mono ?_
    rintro e w3 ⟨rfl, q, rfl⟩
    by_cases hy : marked (bodyOf bs) = bs
    · have hb : (marked (bodyOf bs) == bs) = true := by simpa using hy
      have e3 : fitsE bs = 0 := by rw [E1.out, if_pos hy]
      have e4 : fitsL bs = bodyOf bs := if_pos ⟨by rw [HM4.out]; omega, hy⟩
      rw [hb]
      have E3 := Lib.hid e3
      have E4 := Lib.hid e4
      clear hy hb e3 e4 HE
      go_wp2_with fail
      go_ret2
      refine ⟨_, by rw [E3.out]; rfl, ?_, below_drewN HB2.out q⟩
      rw [E4.out]
      exact HO2.out
    · have hb : (marked (bodyOf bs) == bs) = false := by simpa using hy
      have e3 : fitsE bs = 5 := by rw [E1.out, if_neg hy]
      have e4 : fitsL bs = [] := if_neg (fun h => hy h.2)
      rw [hb]
      have E3 := Lib.hid e3
      have E4 := Lib.hid e4
      clear hy hb e3 e4 HE
      go_wp2_with fail
      go_ret2
      refine ⟨_, by rw [E3.out]; rfl, ?_, below_drewN HB2.out q⟩
      rw [E4.out]
      exact World.ownsRow_nil _ _ _ _
end Go.Proofs.YtndkohocgfmamaaGreat.Crc

/- Layer 5: Put of a section (behind nothing). -/
namespace Go.Proofs.YtndkohocgfmamaaGreat.Frame
open Go.RowKit Go.Deep Mem Crc

/-- A section's head. -/
def head (kind : UInt8) (n : Nat) : List UInt8 := [kind, UInt8.ofNat n, UInt8.ofNat (n / 256), UInt8.ofNat (n / 65536), UInt8.ofNat (n / 16777216)]
/-- A section's bytes. -/
def frameL (kind : UInt8) (body : List UInt8) : List UInt8 := marked (head kind body.length) ++ marked body
theorem frameL_length (kind : UInt8) (body : List UInt8) : (frameL kind body).length = body.length + 13 := by
  unfold frameL
  rw [List.length_append, mark_length, mark_length]
  simp [head]
  omega
/-- A row of the call's own that is not empty has an address. -/
theorem own_some {w : World} {base : Nat} {v : Value} {bs : List UInt8} (h : OwnB w base v bs) (h0 : 0 < bs.length) : ∃ g cap, v = .slice (some ⟨g, 0, none⟩) bs.length cap ∧ bs.length ≤ cap ∧ base ≤ g ∧ g < w.heap.size := by
  rcases h.2 with ⟨_, e⟩ | ⟨g, cap, cur, e, r⟩
  · omega
  · subst e
    exact ⟨g, cap, rfl, r.2.2.1, World.ownsRow.lt h g rfl⟩
set_option maxHeartbeats 400000 in
set_option maxRecDepth 100000 in
theorem put_nil (kind : UInt8) (a : Option Addr) (cp : Nat) (body : List UInt8) (w : World) (h : Lies w a (body.map bv)) (hm : body.length ≤ 1048576) :
    Calls Tryz.prog 67 #[.slice none 0 0, .agg #[.int .u8 (kind.toNat : Int), .slice a body.length cp]] w fun e w' => ∃ v, e = .returned (.tuple #[v, .int .i64 0]) ∧ OwnB w' w.heap.size v (frameL kind body) ∧ Below w.heap.size w w' := by
  obtain ⟨i0, hi0, hz0, hz1, hz2⟩ := info_parts infoB8
  have hal := (Below.refl w.heap.size w).alloc (Nat.le_refl _) (.cells #[.int .u8 (kind.toNat : Int), .slice a body.length cp] 137)
  have hbx := Blk.new w 137 #[.int .u8 (kind.toNat : Int), .slice a body.length cp]
  obtain ⟨n, hn⟩ : ∃ n, n = body.length := ⟨_, rfl⟩
  obtain ⟨W, hW⟩ : ∃ W, W = w.alloc (.cells #[.int .u8 (kind.toNat : Int), .slice a body.length cp] 137) := ⟨_, rfl⟩
  rw [← hW] at hal hbx
  rw [← hn] at hbx
  have hhd := hal.alloc (by have := hal.size; exact this) (.cells ((head kind n).map bv).toArray 5)
  have hmk := mark_any (some ⟨W.heap.size, 0, none⟩) 5 (head kind n) (W.alloc (.cells ((head kind n).map bv).toArray 5)) (by have := new_lies W 5 ((head kind n).map bv).toArray; simpa using this) (by simp [head])
  have hWs : W.heap.size = w.heap.size + 1 := by rw [hW]; simp
  rw [hWs, show (head kind n).length = 5 from rfl] at hmk
  have HMK := Lib.hid hmk
  have HL := Lib.hid h
  have HAL := Lib.hid hal
  have HHD := Lib.hid hhd
  have HBX := Lib.hid (hbx.alloc (.cells ((head kind n).map bv).toArray 5))
  have HW := Lib.hid hW
  have HN := Lib.hid hn
  have hsW := hal.size
  have hm2 : n ≤ 1048576 := by omega
  have hm3 : decide ((1048576 : Int) < (n : Int)) = false := by simp; omega
  have E := Lib.hid (show (#[.int .u8 (kind.toNat : Int), .int .u8 ((n : Int) % 256), .int .u8 ((n : Int) / 256 % 256), .int .u8 ((n : Int) / 65536), .int .u8 ((n : Int) / 16777216)] : Array Value) = ((head kind n).map bv).toArray by
    rw [bvI (y := (n : Int) % 256) (n := n) (by omega), bvI (y := (n : Int) / 256 % 256) (n := n / 256) (by omega), bvI (y := (n : Int) / 65536) (n := n / 65536) (by omega), bvI (y := (n : Int) / 16777216) (n := n / 16777216) (by omega)]
    rfl)
  rw [← hn] at HW ⊢
  clear h hal hhd hmk hbx hn hm hWs
  go_enter Tryz.func67, Tryz.ntmps67
  go_wp2_with fail
  rw [E.out, ← HW.out]
  refine HMK.out.mono ?_
  rintro e w1 ⟨v1, rfl, hown1, hB1⟩
  obtain ⟨g1, c1, e1, hc1, _, hg1⟩ := own_some hown1 (by rw [mark_length]; omega)
  subst e1
  have hs1 := hB1.size
  have hs0 : w.heap.size + 2 ≤ (W.alloc (.cells ((head kind n).map bv).toArray 5)).heap.size := by rw [HW.out]; simp
  have hBw : Below w.heap.size w w1 := HHD.out.trans (hB1.mono (by omega))
  obtain ⟨a1, c1', e1', _, hl1, _, _⟩ := own_shape hown1
  cases e1'
  have hml : (marked (head kind n)).length = 9 := by rw [mark_length]; rfl
  rw [hml]
  have HL1 := Lib.hid (lies_add hl1)
  have H1 := Lib.hid (oneCell_bytes (marked (head kind n)))
  have hbx1 := HBX.out.below hB1 HBX.out.lt
  have x1 := hbx1.cell 1
  simp at x1
  have HML := Lib.hid hml
  have HBw := Lib.hid hBw
  have HBX1 := Lib.hid hbx1
  have hnil := World.ownsRow_nil w1 w.heap.size 5 1
  have hsw1 := hBw.size
  clear hown1 hl1 hml hbx1 hBw hB1 HMK HHD HAL E HW
  go_wp2_with (first | (at_builtin; refine wpList_append_own _ rfl _ _ 45 rfl w.heap.size 5 i0 (.int .u8 0) 1 1 Tryz.underlying45 hi0 hz0 hz1 hz2 rfl (by decide) _ _ _ rfl hnil ⟨g1, 0, none⟩ 9 c1 ((marked (head kind n)).map bv) rfl ?c1 HL1.out H1.out ?c3 ?c4 ?c5 ?_))
  case c1 => rw [List.length_map, HML.out]
  case c3 => decide
  case c4 => decide
  case c5 => exact hsw1
  intro v2 w2 hown2 hgrow2 _
  have hB12 : Below w1.heap.size w1 w2 := (Below.refl _ w1).grown hgrow2 (Nat.le_refl _) (fun k hk => by cases hk)
  have hbx2 := HBX1.out.below hB12 HBX1.out.lt
  have x2 := hbx2.cell 1
  simp at x2
  have HB2 := Lib.hid (HBw.out.trans (hB12.mono hsw1))
  have hO2 : OwnB w2 w.heap.size v2 (marked (head kind n)) := by unfold OwnB; rw [HML.out]; exact hown2
  have hmk2 := mark_any a cp body w2 (HL.out.later HB2.out) (by have := HN.out; omega)
  rw [← HN.out] at hmk2
  have HMK2 := Lib.hid hmk2
  have HO2 := Lib.hid hO2
  have hs2 := HB2.out.size
  have hlt2 := hbx2.lt
  clear hown2 hgrow2 hbx2 hB12 hO2 hmk2 x1 hnil
  go_wp2_with fail
  refine HMK2.out.mono ?_
  rintro e w3 ⟨v3, rfl, hown3, hB3⟩
  obtain ⟨g3, c3, e3, hc3, _, hg3⟩ := own_some hown3 (by rw [mark_length]; omega)
  subst e3
  obtain ⟨a3, c3', e3', _, hl3, _, _⟩ := own_shape hown3
  cases e3'
  have hs3 := hB3.size
  have HL3 := Lib.hid (lies_add hl3)
  have H3 := Lib.hid (oneCell_bytes (marked body))
  have hO3 := own_later HO2.out hB3
  have HB3 := Lib.hid (HB2.out.trans (hB3.mono hs2))
  have hl0 : (marked (head kind n)).length + (marked body).length ≤ 1048600 := by rw [HML.out, mark_length, ← HN.out]; omega
  clear hown3 hl3 hB3 HMK2 x2
  go_wp2_with (first | (at_builtin; refine wpList_append_own _ rfl _ _ 45 rfl w.heap.size 5 i0 (.int .u8 0) 1 1 Tryz.underlying45 hi0 hz0 hz1 hz2 rfl (by decide) _ _ _ rfl hO3 ⟨g3, 0, none⟩ (marked body).length c3 ((marked body).map bv) rfl ?d1 HL3.out H3.out ?d3 ?d4 ?d5 ?_))
  case d1 => simp
  case d3 => unfold maxLen; omega
  case d4 => omega
  case d5 => omega
  intro v4 w4 hown4 hgrow4 _
  have hB4 := HB3.out.grown hgrow4 (by omega) (fun q hq => (hO3.lt q hq).1)
  have hO4 : OwnB w4 w.heap.size v4 (frameL kind body) := by
    unfold OwnB frameL
    rw [List.map_append, List.length_append, ← HN.out]
    exact hown4
  have HO4 := Lib.hid hO4
  clear hown4 hgrow4 hO4 hO3
  go_wp2_with fail
  go_ret2
  exact ⟨v4, rfl, HO4.out, hB4⟩
end Go.Proofs.YtndkohocgfmamaaGreat.Frame

/- Layer 11: Put of a number behind nothing. -/
namespace Go.Proofs.YtndkohocgfmamaaGreat.Text
open Go.RowKit Go.Deep Mem Crc

/-- A digit. -/
def dig (n : Nat) : UInt8 := UInt8.ofNat (48 + n % 10)
/-- A number's digits ahead of others. -/
def decA : Nat → Nat → List UInt8 → List UInt8
  | 0, _, acc => acc
  | f + 1, n, acc => if n / 10 = 0 then dig n :: acc else decA f (n / 10) (dig n :: acc)
/-- A number in decimal. -/
def dec (n : Nat) : List UInt8 := decA 20 n []
theorem decA_length : ∀ (f n : Nat) (acc : List UInt8), (decA f n acc).length ≤ acc.length + f
  | 0, _, _ => Nat.le_refl _
  | f + 1, n, acc => by
    unfold decA
    split
    · simp
    · have := decA_length f (n / 10) (dig n :: acc)
      simp at this
      omega
theorem dig_nat (n : Nat) : (dig n).toNat = 48 + n % 10 := by unfold dig; simp; omega
/-- Twenty cells of nought. -/
abbrev z20 : Array Value := #[.int .u8 0, .int .u8 0, .int .u8 0, .int .u8 0, .int .u8 0, .int .u8 0, .int .u8 0, .int .u8 0, .int .u8 0, .int .u8 0, .int .u8 0, .int .u8 0, .int .u8 0, .int .u8 0, .int .u8 0, .int .u8 0, .int .u8 0, .int .u8 0, .int .u8 0, .int .u8 0]
theorem zeros20 : z20.toList = List.replicate 20 (Value.int .u8 0) := rfl
/-- The digits' block: the last ones are written. -/
structure Digits (g k : Nat) (acc : List UInt8) (w : World) : Prop where
  len : acc.length = k
  top : k ≤ 20
  blk : ∃ cs, Blk w g 111 cs ∧ cs.size = 20 ∧ (∀ j, j < 20 - k → cs[j]? = some (.int .u8 0)) ∧ ∀ j x, acc[j]? = some x → cs[20 - k + j]? = some (bv x)
theorem len20 : Tryz.prog.arrayLen 111 = 20 := by kernel_rfl
theorem elem20 : Tryz.prog.elem 111 = 5 := by kernel_rfl
theorem und20 : Tryz.prog.underlying 111 = some (.array (Tryz.prog.arrayLen 111) (Tryz.prog.elem 111)) := by rw [len20, elem20]; exact Tryz.underlying111
theorem size8 (w : World) : (sizeOf 5).run Tryz.prog w = .ok 1 w := by kernel_rfl
theorem slice20 (g j : Nat) (hj : j < 20) (w : World) : (Instr.sliceAt 111 (.pointer (some ⟨g, 0, none⟩)) (some (.int .i64 (j : Int))) none none).run Tryz.prog w = .ok (.slice (some ⟨g, j, none⟩) (20 - j) (20 - j)) w := by
  rw [run_sliceAt_array_l w 111 ⟨g, 0, none⟩ und20 .i64 (j : Int) (by omega) (by rw [len20]; omega), elem20, size8, len20]
  have : ¬ 20 = j := by omega
  simp [slicedAt, Addr.add, Result.andThen, this]
  omega
set_option maxHeartbeats 400000 in
set_option maxRecDepth 100000 in
theorem put_nil (n : Nat) (w : World) (hn : n < 18446744073709551616) :
    Calls Tryz.prog 29 #[.slice none 0 0, .int .u64 n] w fun e w' => ∃ v, e = .returned v ∧ OwnB w' w.heap.size v (dec n) ∧ Below w.heap.size w w' := by
  obtain ⟨i0, hi0, hz0, hz1, hz2⟩ := info_parts infoB8
  have hz : z20.size = 20 := by rw [← Array.length_toList, zeros20, List.length_replicate]
  have hal := (Below.refl w.heap.size w).alloc (Nat.le_refl _) (.cells z20 111)
  have hb1 : Digits w.heap.size 0 [] (w.alloc (Obj.cells z20 111)) := by
    refine ⟨rfl, by omega, _, Blk.new w _ _, hz, fun j hj => ?_, fun j x hx => by simp at hx⟩
    rw [← Array.getElem?_toList, zeros20, List.getElem?_replicate, if_pos hj]
  have HAL := Lib.hid hal
  have HB1 := Lib.hid hb1
  clear hal hb1 hz
  go_enter Tryz.func29, Tryz.ntmps29
  go_wp2_with fail
  go_loopw [1, 6] (fun x i wr => ∃ (k m : Nat) (acc : List UInt8), k < 20 ∧ i = .int .i64 ((20 - k : Nat) : Int) ∧ x = .int .u64 m ∧ m < 18446744073709551616 ∧ m * 10 ^ k < 18446744073709551616 ∧ (k = 0 ∨ 0 < m) ∧ Hid (dec n = decA (20 - k) m acc) ∧ Hid (Digits w.heap.size k acc wr) ∧ Hid (Below w.heap.size w wr)) (fun x _ _ => (intOf x).toNat)
  case atStart => exact ⟨0, n, [], by omega, rfl, rfl, hn, by omega, .inl rfl, Lib.hid rfl, HB1, HAL⟩
  case round =>
    obtain ⟨k, m, acc, hk, rfl, rfl, hm, hmk, hk0, hd, hD, hB⟩ := hrel
    obtain ⟨hacc, _, cs, hcs, hsz, hzr, hat⟩ := hD.out
    obtain ⟨j, hj⟩ : ∃ j, j = 19 - k := ⟨_, rfl⟩
    have hj20 : 20 - k = j + 1 := by omega
    have c0 := (hcs.cell j).trans (hzr j (by omega))
    have fz := hcs.frozen j
    rw [hj20]
    have hdg := dig_nat m
    have HC := Lib.hid hcs
    have HZ := Lib.hid hzr
    have HA := Lib.hid hat
    have HS := Lib.hid hsz
    have hw1 : IntKind.i64.wrap (((j + 1 : Nat) : Int) - 1) = j := by rw [show ((j + 1 : Nat) : Int) - 1 = j by omega]; exact IntWalk.i64_in _ (by omega)
    have hset := (hcs.set j (.int .u8 (48 + (m : Int) % 10)))
    have hbel := hB.out.setCell (show w.heap.size ≤ (⟨w.heap.size, j, none⟩ : Addr).block from Nat.le_refl _) (.int .u8 (48 + (m : Int) % 10))
    have hD2 : Digits w.heap.size (k + 1) (dig m :: acc) (wr.setCell ⟨w.heap.size, j, none⟩ (.int .u8 (48 + (m : Int) % 10))) := by
      refine ⟨by simp [hacc], by omega, _, hset, by rw [Array.size_setIfInBounds]; exact hsz, fun q hq => ?_, fun q x hx => ?_⟩
      · rw [Array.getElem?_setIfInBounds, if_neg (by omega)]
        exact hzr q (by omega)
      · cases q with
        | zero =>
          have e : dig m = x := by simpa using hx
          subst e
          rw [Array.getElem?_setIfInBounds, if_pos (by omega), if_pos (by omega)]
          unfold bv
          rw [hdg]
          congr 2
        | succ q =>
          have hx' : acc[q]? = some x := by simpa using hx
          rw [Array.getElem?_setIfInBounds, if_neg (by omega)]
          have := hat q x hx'
          rw [show 20 - (k + 1) + (q + 1) = 20 - k + q by omega]
          exact this
    have HD2 := Lib.hid hD2
    have HB2 := Lib.hid hbel
    clear hset hbel hD2 hcs hzr hat hsz hdg hj
    by_cases hlast : m / 10 = 0
    · have hq : ((m : Int) / 10 == 0) = true := by simp; omega
      have hsl := fun w' => slice20 w.heap.size j (by omega) w'
      obtain ⟨hl2, _, cs2, hcs2, hsz2, _, hat2⟩ := HD2.out
      have hlies : ∀ q u, ((dig m :: acc).map bv)[q]? = some u → (wr.setCell ⟨w.heap.size, j, none⟩ (.int .u8 (48 + (m : Int) % 10))).cell? ((⟨w.heap.size, j, none⟩ : Addr).add q) = some u := fun q u hu => by
        have e : (⟨w.heap.size, j, none⟩ : Addr).add q = ⟨w.heap.size, j + q, none⟩ := by unfold Addr.add; split <;> simp_all
        rw [List.getElem?_map] at hu
        cases hx : (dig m :: acc)[q]? with
        | none => rw [hx] at hu; cases hu
        | some x =>
          rw [hx] at hu
          have := hat2 q x hx
          rw [e, hcs2.cell, show j + q = 20 - (k + 1) + q by omega, this]
          exact hu
      have HLS := Lib.hid hlies
      have H1 := Lib.hid (oneCell_bytes (dig m :: acc))
      have hnil := World.ownsRow_nil (wr.setCell ⟨w.heap.size, j, none⟩ (.int .u8 (48 + (m : Int) % 10))) w.heap.size 5 1
      have hdec : dec n = dig m :: acc := by
        rw [hd.out, hj20]
        unfold decA
        rw [if_pos hlast]
      have HDEC := Lib.hid hdec
      have hl3 : (dig m :: acc).length = 20 - j := by rw [hl2]; omega
      have HL3 := Lib.hid hl3
      have hsz3 := HB2.out.size
      clear hlies hdec hl3 hcs2 hat2 hsz2
      go_wp2_with (first | (at_builtin; refine wpList_append_own _ rfl _ _ 45 rfl w.heap.size 5 i0 (.int .u8 0) 1 1 Tryz.underlying45 hi0 hz0 hz1 hz2 rfl (by decide) _ _ _ rfl hnil ⟨w.heap.size, j, none⟩ (20 - j) (20 - j) ((dig m :: acc).map bv) rfl ?c1 HLS.out H1.out ?c3 ?c4 ?c5 ?_))
      case c1 => rw [List.length_map, HL3.out, Nat.mul_one]
      case c3 => unfold maxLen; omega
      case c4 => omega
      case c5 => exact hsz3
      intro v' w2 hown2 hgrow2 _
      have hB3 := HB2.out.grown hgrow2 hsz3 (fun q hq => by cases hq)
      have hO2 : OwnB w2 w.heap.size v' (dec n) := by
        unfold OwnB
        rw [HDEC.out, HL3.out]
        simpa using hown2
      have HO2 := Lib.hid hO2
      clear hown2 hgrow2 hO2 hnil
      go_wp2_with fail
      go_ret
      exact ⟨v', rfl, HO2.out, hB3⟩
    · have hq : ((m : Int) / 10 == 0) = false := by simp; omega
      have hk19 : k < 19 := by
        apply Nat.lt_of_not_le
        intro h19
        have h1 : 10 ^ 19 ≤ 10 ^ k := Nat.pow_le_pow_right (by decide) h19
        have h2 : 10 ≤ m := by omega
        have h3 : 10 * 10 ^ 19 ≤ m * 10 ^ k := Nat.mul_le_mul h2 h1
        have h4 : (10 : Nat) * 10 ^ 19 = 100000000000000000000 := by decide
        omega
      have hpow : m / 10 * 10 ^ (k + 1) < 18446744073709551616 := by
        rw [Nat.pow_succ, Nat.mul_comm (10 ^ k) 10, ← Nat.mul_assoc]
        exact Nat.lt_of_le_of_lt (Nat.mul_le_mul_right _ (Nat.div_mul_le_self m 10)) hmk
      have hdec : dec n = decA (20 - (k + 1)) (m / 10) (dig m :: acc) := by
        rw [hd.out, hj20]
        conv => lhs; unfold decA
        rw [if_neg hlast, show 20 - (k + 1) = j by omega]
      have HDEC := Lib.hid hdec
      have HPOW := Lib.hid hpow
      clear hdec hpow hmk
      go_wp2_with fail
      refine ⟨⟨k + 1, m / 10, dig m :: acc, by omega, ?_, by simp, by omega, HPOW.out, .inr (by omega), HDEC, HD2, HB2⟩, ?_⟩
      · rw [show 20 - (k + 1) = j by omega]
      · simp [intOf]; omega
end Go.Proofs.YtndkohocgfmamaaGreat.Text

/- What is known of a slice that came in: its elements' cells lie in a row. -/
namespace Go.Proofs.YtndkohocgfmamaaGreat.Args
open Go.ChangeShapes Go.WideShapes Go.RowKit Go.Deep Mem

theorem add_at (b off n : Nat) : (⟨b, off, none⟩ : Addr).add n = ⟨b, off + n, none⟩ := by
  unfold Addr.add
  split <;> simp_all
theorem flat_len {α : Type} (cells : α → List Value) (size : Nat) : ∀ l : List α, (∀ x ∈ l, (cells x).length = size) → (l.flatMap cells).length = l.length * size
  | [], _ => by simp
  | x :: r, h => by
    rw [List.flatMap_cons, List.length_append, h x (by simp), flat_len cells size r (fun y hy => h y (by simp [hy])), List.length_cons, Nat.add_mul]
    omega
/-- A cell of a row, found. -/
theorem flat_find {α : Type} (cells : α → List Value) (size : Nat) : ∀ (l : List α), (∀ x ∈ l, (cells x).length = size) → ∀ i u, (l.flatMap cells)[i]? = some u → ∃ q x j, l[q]? = some x ∧ (cells x)[j]? = some u ∧ i = q * size + j
  | [], _, i, u, h => by simp at h
  | x :: r, hl, i, u, h => by
    have hx := hl x (by simp)
    rw [List.flatMap_cons] at h
    by_cases hi : i < size
    · rw [List.getElem?_append_left (by omega)] at h
      exact ⟨0, x, i, rfl, h, by omega⟩
    · rw [List.getElem?_append_right (by omega), hx] at h
      obtain ⟨q, y, j, h1, h2, h3⟩ := flat_find cells size r (fun y hy => hl y (by simp [hy])) _ u h
      exact ⟨q + 1, y, j, by simpa using h1, h2, by rw [Nat.add_mul]; omega⟩
set_option maxRecDepth 100000 in
/-- A slice's cells, its elements read by 'cells'. -/
theorem slice_open_trod {H : Type} {enc : TypeId × Value → H} {fuel : Nat} {cs0 : List Value} {y0 : DataW H × List MemPlace} {W : World} {t e : TypeId} {size : Nat} {α : Type} [Inhabited α] (cells : α → List Value) (okE : α → Prop) (hu : Tryz.prog.underlying t = some (.slice e)) (hcells : Tryz.prog.cellsOf e = size) (hpos : 0 < size)
    (hel : ∀ fuel cs y, cs.length = size → DataW.trod enc Tryz.prog W 0 (fun _ => true) true fuel e cs = some y → ∃ x, cs = cells x ∧ okE x)
    (hf : DataW.trod enc Tryz.prog W 0 (fun _ => true) true fuel t cs0 = some y0) :
    ∃ (a : Option Addr) (len cap : Nat) (l : List α), cs0 = [.slice a len cap] ∧ len ≤ cap ∧ cap ≤ maxLen ∧ l.length = len ∧ (∀ x ∈ l, okE x) ∧ Lies W a (l.flatMap cells) := by
  rcases open_slice hu hf with ⟨hcs, _⟩ | ⟨a', len, cap, m, n, D, Pl, hcs, _, hl, hm, hmm, _, hi⟩
  · exact ⟨none, 0, 0, [], hcs, Nat.le_refl _, Nat.zero_le _, rfl, fun x hx => absurd hx (by simp), .inl rfl⟩
  · have hmm2 : len ≤ m := by rw [hmm]; split <;> omega
    rw [hcells] at hi
    have hspot : 0 < len → a'.spot = none := fun h0 => by
      obtain ⟨cs', hc, _⟩ := hi 0 (by omega)
      obtain ⟨_, hlen, hat⟩ := World.cells?_some hc
      have e := hat 0 (by omega)
      rw [List.getElem?_eq_getElem (by omega)] at e
      have := World.cell?_spot e
      simpa [Addr.add] using this
    obtain ⟨f, hfx⟩ := choose_lt (α := α) (n := len) (p := fun i x => okE x ∧ (cells x).length = size ∧ ∃ b off, a' = ⟨b, off, none⟩ ∧ b < W.heap.size ∧ ∀ j u, (cells x)[j]? = some u → W.cell? ⟨b, off + (i * size + j), none⟩ = some u) (fun i hlt => by
      obtain ⟨cs', hc, ht⟩ := hi i (by omega)
      obtain ⟨_, hlen, hat⟩ := World.cells?_some hc
      obtain ⟨x, rfl, hx⟩ := hel _ _ _ hlen ht
      obtain ⟨b, off, spot⟩ := a'
      have hs : spot = none := hspot (by omega)
      subst hs
      have e0 := hat 0 (by omega)
      rw [List.getElem?_eq_getElem (by omega), add_at, add_at] at e0
      have hb := World.block_lt_of_cell? W _ e0
      refine ⟨x, hx, hlen, b, off, rfl, hb, fun j u hu => ?_⟩
      have hj := (List.getElem?_eq_some_iff.1 hu).1
      have e := hat j (by omega)
      rw [hu, add_at, add_at, Nat.add_assoc] at e
      exact e)
    refine ⟨some a', _, _, (List.range len).map f, hcs, hl, hm, by simp, fun x hx => ?_, ?_⟩
    · obtain ⟨i, hi2, rfl⟩ := List.mem_map.1 hx
      exact (hfx i (List.mem_range.1 hi2)).1
    · by_cases h0 : len = 0
      · subst h0; exact .inl rfl
      · obtain ⟨_, _, b, off, rfl, hb, _⟩ := hfx 0 (by omega)
        refine .inr ⟨b, off, rfl, hb, fun i u hu => ?_⟩
        obtain ⟨q, x, j, hq, hj, rfl⟩ := flat_find cells size _ (fun x hx => by
          obtain ⟨i, hi2, rfl⟩ := List.mem_map.1 hx
          exact (hfx i (List.mem_range.1 hi2)).2.1) i u hu
        have hlt : q < len := by
          have := (List.getElem?_eq_some_iff.1 hq).1
          simpa using this
        obtain rfl : f q = x := by simpa [hlt] using hq
        obtain ⟨_, _, b', off', e', _, hc⟩ := hfx q hlt
        injection e' with e1 e2
        subst e1
        subst e2
        exact hc j u hj
set_option maxRecDepth 100000 in
/-- A slice, its elements read by 'cells'. -/
theorem slice_open {H : Type} {enc : TypeId × Value → H} {base : Nat} {v : Value} {d : DataW H} {p : List MemPlace} {W : World} {t e : TypeId} {size : Nat} {α : Type} [Inhabited α] (cells : α → List Value) (okE : α → Prop) (hu : Tryz.prog.underlying t = some (.slice e)) (hcells : Tryz.prog.cellsOf e = size) (hpos : 0 < size)
    (hel : ∀ fuel cs y, cs.length = size → DataW.trod enc Tryz.prog W 0 (fun _ => true) true fuel e cs = some y → ∃ x, cs = cells x ∧ okE x)
    (q : Value.okWide Tryz.prog W .any base t v) (h : DataW.Trod enc Tryz.prog W 0 (fun _ => true) true t v d p) :
    ∃ (a : Option Addr) (len cap : Nat) (l : List α), v = .slice a len cap ∧ len ≤ cap ∧ cap ≤ maxLen ∧ l.length = len ∧ (∀ x ∈ l, okE x) ∧ Lies W a (l.flatMap cells) := by
  obtain ⟨a, len, cap, rfl⟩ := okWide_slice hu q
  obtain ⟨fuel, hf⟩ := h
  obtain ⟨a', len', cap', l, hcs, r⟩ := slice_open_trod cells okE hu hcells hpos hel hf
  simp [Value.cells] at hcs
  obtain ⟨rfl, rfl, rfl⟩ := hcs
  exact ⟨_, _, _, l, rfl, r⟩
set_option maxRecDepth 100000 in
theorem int_open {H : Type} {enc : TypeId × Value → H} {v : Value} {d : DataW H} {p : List MemPlace} {W : World} {base : Nat} {t : TypeId} {k : IntKind} (hu : Tryz.prog.underlying t = some (.int k)) (q : Value.okWide Tryz.prog W .any base t v) (h : DataW.Trod enc Tryz.prog W 0 (fun _ => true) true t v d p) : ∃ n, v = .int k n ∧ (Lit.int k n).wf = true := by
  obtain ⟨n, rfl⟩ := okWide_int hu q
  obtain ⟨fuel, hf⟩ := h
  obtain ⟨m, hk, _, hw⟩ := DataW.trod_int hu hf
  simp [Value.cells] at hk
  subst hk
  exact ⟨n, rfl, hw⟩
set_option maxRecDepth 100000 in
theorem bytes_open {H : Type} {enc : TypeId × Value → H} {base : Nat} {v : Value} {d : DataW H} {p : List MemPlace} {W : World} {t e : TypeId} (hu : Tryz.prog.underlying t = some (.slice e)) (he : Tryz.prog.underlying e = some (.int .u8)) (hc : Tryz.prog.cellsOf e = 1)
    (q : Value.okWide Tryz.prog W .any base t v) (h : DataW.Trod enc Tryz.prog W 0 (fun _ => true) true t v d p) :
    ∃ (a : Option Addr) (cap : Nat) (l : List UInt8), v = .slice a l.length cap ∧ l.length ≤ cap ∧ cap ≤ maxLen ∧ Lies W a (l.map bv) := by
  obtain ⟨a, len, cap, l, rfl, h1, h2, rfl, _, hL⟩ := slice_open (α := UInt8) (fun b => [bv b]) (fun _ => True) hu hc (by decide) (fun fuel cs y hl hy => by
    obtain ⟨n, rfl, _, hw⟩ := DataW.trod_int he hy
    have hb := bounds_u8 hw
    refine ⟨UInt8.ofNat n.toNat, ?_, trivial⟩
    unfold bv
    simp
    omega) q h
  refine ⟨a, cap, l, rfl, h1, h2, ?_⟩
  have : ∀ l : List UInt8, l.flatMap (fun b => [bv b]) = l.map bv := fun l => by
    induction l with
    | nil => rfl
    | cons x r ih => rw [List.flatMap_cons, ih]; rfl
  rw [← this]
  exact hL
/-- A slice of slices of bytes. -/
theorem bytes_open_trod {H : Type} {enc : TypeId × Value → H} {fuel : Nat} {cs0 : List Value} {y0 : DataW H × List MemPlace} {W : World} {t e : TypeId} (hu : Tryz.prog.underlying t = some (.slice e)) (he : Tryz.prog.underlying e = some (.int .u8)) (hc : Tryz.prog.cellsOf e = 1)
    (hf : DataW.trod enc Tryz.prog W 0 (fun _ => true) true fuel t cs0 = some y0) :
    ∃ (a : Option Addr) (cap : Nat) (l : List UInt8), cs0 = [.slice a l.length cap] ∧ l.length ≤ cap ∧ cap ≤ maxLen ∧ Lies W a (l.map bv) := by
  obtain ⟨a, len, cap, l, rfl, h1, h2, rfl, _, hL⟩ := slice_open_trod (α := UInt8) (fun b => [bv b]) (fun _ => True) hu hc (by decide) (fun fuel cs y hl hy => by
    obtain ⟨n, rfl, _, hw⟩ := DataW.trod_int he hy
    have hb := bounds_u8 hw
    refine ⟨UInt8.ofNat n.toNat, ?_, trivial⟩
    unfold bv
    simp
    omega) hf
  refine ⟨a, cap, l, rfl, h1, h2, ?_⟩
  have : ∀ l : List UInt8, l.flatMap (fun b => [bv b]) = l.map bv := fun l => by
    induction l with
    | nil => rfl
    | cons x r ih => rw [List.flatMap_cons, ih]; rfl
  rw [← this]
  exact hL
set_option maxRecDepth 100000 in
/-- Rows of bytes that came in: the slices, and what they read as. -/
theorem rows_open {H : Type} {enc : TypeId × Value → H} {base : Nat} {v : Value} {d : DataW H} {p : List MemPlace} {W : World} {t e b : TypeId} (hu : Tryz.prog.underlying t = some (.slice e)) (he : Tryz.prog.underlying e = some (.slice b)) (hb : Tryz.prog.underlying b = some (.int .u8)) (hc : Tryz.prog.cellsOf e = 1) (hcb : Tryz.prog.cellsOf b = 1)
    (q : Value.okWide Tryz.prog W .any base t v) (h : DataW.Trod enc Tryz.prog W 0 (fun _ => true) true t v d p) :
    ∃ (a : Option Addr) (cap : Nat) (l : List ((Option Addr × Nat × Nat) × List UInt8)), v = .slice a l.length cap ∧ l.length ≤ cap ∧ cap ≤ maxLen ∧ (∀ x ∈ l, x.1.2.1 = x.2.length ∧ x.2.length ≤ x.1.2.2 ∧ x.1.2.2 ≤ maxLen ∧ Lies W x.1.1 (x.2.map bv)) ∧ Lies W a (l.map (fun x => .slice x.1.1 x.1.2.1 x.1.2.2)) := by
  obtain ⟨a, len, cap, l, rfl, h1, h2, rfl, h3, hL⟩ := slice_open (α := (Option Addr × Nat × Nat) × List UInt8) (fun x => [.slice x.1.1 x.1.2.1 x.1.2.2]) (fun x => x.1.2.1 = x.2.length ∧ x.2.length ≤ x.1.2.2 ∧ x.1.2.2 ≤ maxLen ∧ Lies W x.1.1 (x.2.map bv)) hu hc (by decide) (fun fuel cs y hl hy => by
    obtain ⟨a, cap, l, rfl, h1, h2, h3⟩ := bytes_open_trod he hb hcb hy
    exact ⟨((a, l.length, cap), l), rfl, rfl, h1, h2, h3⟩) q h
  refine ⟨a, cap, l, rfl, h1, h2, h3, ?_⟩
  have : ∀ l : List ((Option Addr × Nat × Nat) × List UInt8), l.flatMap (fun x => [(.slice x.1.1 x.1.2.1 x.1.2.2 : Value)]) = l.map (fun x => .slice x.1.1 x.1.2.1 x.1.2.2) := fun l => by
    induction l with
    | nil => rfl
    | cons x r ih => rw [List.flatMap_cons, ih]; rfl
  rw [← this]
  exact hL
set_option maxRecDepth 100000 in
theorem bools_open {H : Type} {enc : TypeId × Value → H} {base : Nat} {v : Value} {d : DataW H} {p : List MemPlace} {W : World} {t e : TypeId} (hu : Tryz.prog.underlying t = some (.slice e)) (he : Tryz.prog.underlying e = some .bool) (hc : Tryz.prog.cellsOf e = 1)
    (q : Value.okWide Tryz.prog W .any base t v) (h : DataW.Trod enc Tryz.prog W 0 (fun _ => true) true t v d p) :
    ∃ (a : Option Addr) (cap : Nat) (l : List Bool), v = .slice a l.length cap ∧ l.length ≤ cap ∧ cap ≤ maxLen ∧ Lies W a (l.map Value.bool) := by
  obtain ⟨a, len, cap, l, rfl, h1, h2, rfl, _, hL⟩ := slice_open (α := Bool) (fun b => [Value.bool b]) (fun _ => True) hu hc (by decide) (fun fuel cs y hl hy => by
    obtain ⟨b, rfl, _⟩ := DataW.trod_bool he hy
    exact ⟨b, rfl, trivial⟩) q h
  refine ⟨a, cap, l, rfl, h1, h2, ?_⟩
  have : ∀ l : List Bool, l.flatMap (fun b => [Value.bool b]) = l.map Value.bool := fun l => by
    induction l with
    | nil => rfl
    | cons x r ih => rw [List.flatMap_cons, ih]; rfl
  rw [← this]
  exact hL
end Go.Proofs.YtndkohocgfmamaaGreat.Args

/- The frame of a call by a set of blocks. -/
namespace Go.Proofs.YtndkohocgfmamaaGreat.Mem
open Go.RowKit

/-- What a call may have done: new blocks; writes to blocks of P. -/
structure Upon (P : Nat → Prop) (w w' : World) : Prop where
  os : w'.os = w.os
  tape : w'.tape = w.tape
  output : w'.output = w.output
  size : w.heap.size ≤ w'.heap.size
  block : ∀ k, k < w.heap.size → ¬ P k → w'.heap[k]? = w.heap[k]?
theorem Upon.refl (P : Nat → Prop) (w : World) : Upon P w w := ⟨rfl, rfl, rfl, Nat.le_refl _, fun _ _ _ => rfl⟩
theorem Upon.trans {P Q : Nat → Prop} {a b c : World} (h : Upon P a b) (k : Upon Q b c) (hs : ∀ g, Q g → P g ∨ a.heap.size ≤ g) : Upon P a c :=
  ⟨k.os.trans h.os, k.tape.trans h.tape, k.output.trans h.output, Nat.le_trans h.size k.size, fun i hi hn => (k.block i (Nat.lt_of_lt_of_le hi h.size) (fun hq => (hs i hq).elim hn (fun hg => by omega))).trans (h.block i hi hn)⟩
theorem Upon.mono {P Q : Nat → Prop} {w w' : World} (h : Upon P w w') (hs : ∀ k, P k → Q k) : Upon Q w w' := ⟨h.os, h.tape, h.output, h.size, fun k hk hn => h.block k hk (fun hp => hn (hs k hp))⟩
theorem Upon.of_only {P : Nat → Prop} {F : List Nat} {w w' : World} (h : Only F w w') (hF : ∀ g ∈ F, P g ∨ w.heap.size ≤ g) : Upon P w w' :=
  ⟨h.os, h.tape, h.output, h.size, fun k hk hn => h.block k hk (fun hm => (hF k hm).elim hn (fun hg => by omega))⟩
theorem Upon.of_below {P : Nat → Prop} {w w' : World} (h : Below w.heap.size w w') : Upon P w w' := ⟨h.os, h.tape, h.output, h.size, fun k hk _ => h.block k hk⟩
theorem Upon.of_grown {P : Nat → Prop} {w w' : World} {row : Option Nat} (h : w.grownBy w' row) (hr : ∀ g, row = some g → P g ∨ w.heap.size ≤ g) : Upon P w w' := Upon.of_only (F := row.toList) (Only.of_grown h (fun g hg => .inl (by rw [hg]; simp))) (fun g hg => hr g (by simpa using hg))
theorem Upon.below {P : Nat → Prop} {B : Nat} {w w' : World} (h : Upon P w w') (hB : B ≤ w.heap.size) (hs : ∀ g, P g → B ≤ g) : Below B w w' :=
  ⟨h.os, h.tape, h.output, h.size, fun k hk => h.block k (by omega) (fun hm => by have := hs k hm; omega)⟩
theorem Upon.drew {P : Nat → Prop} {a w : World} (h : Upon P a w) : Upon P a w.drew := ⟨h.os, h.tape, h.output, h.size, h.block⟩
theorem Upon.drewN {P : Nat → Prop} {a w : World} (h : Upon P a w) (n : Nat) : Upon P a (w.drewN n) := ⟨h.os, h.tape, h.output, h.size, h.block⟩
theorem Upon.set {P : Nat → Prop} {a w : World} (h : Upon P a w) {p : Addr} (hp : P p.block ∨ a.heap.size ≤ p.block) (u : Value) : Upon P a (w.setCell p u) :=
  ⟨h.os, h.tape, h.output, by simpa [World.setCell] using h.size, fun i hi hne => (Below.heap_setCell w p u i (by
    rintro rfl
    rcases hp with hp | hp
    · exact hne hp
    · omega)).trans (h.block i hi hne)⟩
theorem Upon.alloc {P : Nat → Prop} {a w : World} (h : Upon P a w) (o : Obj) : Upon P a (w.alloc o) :=
  ⟨h.os, h.tape, h.output, Nat.le_trans h.size (by simp), fun i hi hne => (Below.heap_alloc w o i (Nat.lt_of_lt_of_le hi h.size)).trans (h.block i hi hne)⟩
theorem Blk.upon {P : Nat → Prop} {w w' : World} {g : Nat} {t : TypeId} {cs : Array Value} (h : Blk w g t cs) (hb : Upon P w w') (hg : ¬ P g) : Blk w' g t cs := (hb.block g h.lt hg).trans h
theorem own_upon {P : Nat → Prop} {w w' : World} {base : Nat} {e : TypeId} {size : Nat} {v : Value} {n : Nat} {xs : List Value} (h : w.ownsRow base e size v n xs) (hb : Upon P w w') (hv : ∀ g, v.ownBlock = some g → ¬ P g) : w'.ownsRow base e size v n xs := by
  refine ⟨h.1, ?_⟩
  rcases h.2 with h0 | ⟨g, cap, cur, rfl, hg, hgg, r⟩
  · exact .inl h0
  · exact .inr ⟨g, cap, cur, rfl, hg, (hb.block g (h.lt g rfl).2 (hv g rfl)).trans hgg, r⟩
theorem Lies.upon {P : Nat → Prop} {w w' : World} {a : Option Addr} {xs : List Value} (h : Lies w a xs) (hb : Upon P w w') (hv : ∀ g, blk a = some g → ¬ P g) : Lies w' a xs := by
  rcases h with h | ⟨g, off, rfl, hg, hc⟩
  · exact .inl h
  · exact Lies.keep (.inr ⟨g, off, rfl, hg, hc⟩) hb.size (fun q hq => by cases hq; exact hb.block g hg (hv g rfl))
end Go.Proofs.YtndkohocgfmamaaGreat.Mem

/- Layer 11: Put of a number behind bytes of one's own. -/
namespace Go.Proofs.YtndkohocgfmamaaGreat.Text
open Go.RowKit Go.Deep Mem Crc

set_option maxHeartbeats 400000 in
set_option maxRecDepth 100000 in
theorem put_any (n : Nat) (w : World) (hn : n < 18446744073709551616) (B : Nat) (sv : Value) (bs : List UInt8) (hown0 : OwnB w B sv bs) (hBw : B ≤ w.heap.size) (hbs : bs.length ≤ 1000000000) :
    Calls Tryz.prog 29 #[sv, .int .u64 n] w fun e w' => ∃ v, e = .returned v ∧ OwnB w' B v (bs ++ dec n) ∧ Upon (fun g => sv.ownBlock = some g) w w' := by
  have hlt0 : ∀ g, sv.ownBlock = some g → B ≤ g ∧ g < w.heap.size := fun g hg => hown0.lt g hg
  obtain ⟨sa, sc, rfl, _, _, _, _⟩ := own_shape hown0
  obtain ⟨bl, hbl⟩ : ∃ bl, bl = bs.length := ⟨_, rfl⟩
  unfold OwnB at hown0
  rw [← hbl] at hown0 hlt0 ⊢
  have hbl2 : bl ≤ 1000000000 := by omega
  have HOWN0 := Lib.hid hown0
  have HLT0 := Lib.hid hlt0
  have HBL := Lib.hid hbl
  clear hown0 hlt0 hbl hbs
  obtain ⟨i0, hi0, hz0, hz1, hz2⟩ := info_parts infoB8
  have hz : z20.size = 20 := by rw [← Array.length_toList, zeros20, List.length_replicate]
  have hal := (Below.refl w.heap.size w).alloc (Nat.le_refl _) (.cells z20 111)
  have hb1 : Digits w.heap.size 0 [] (w.alloc (Obj.cells z20 111)) := by
    refine ⟨rfl, by omega, _, Blk.new w _ _, hz, fun j hj => ?_, fun j x hx => by simp at hx⟩
    rw [← Array.getElem?_toList, zeros20, List.getElem?_replicate, if_pos hj]
  have HAL := Lib.hid hal
  have HB1 := Lib.hid hb1
  have HOA := Lib.hid (HOWN0.out.alloc (.cells z20 111))
  clear hal hb1 hz
  go_enter Tryz.func29, Tryz.ntmps29
  go_wp2_with fail
  go_loopw [1, 6] (fun x i wr => ∃ (k m : Nat) (acc : List UInt8), k < 20 ∧ i = .int .i64 ((20 - k : Nat) : Int) ∧ x = .int .u64 m ∧ m < 18446744073709551616 ∧ m * 10 ^ k < 18446744073709551616 ∧ (k = 0 ∨ 0 < m) ∧ Hid (dec n = decA (20 - k) m acc) ∧ Hid (Digits w.heap.size k acc wr) ∧ Hid (Below w.heap.size w wr) ∧ Hid (wr.ownsRow B 5 1 (.slice sa bl sc) bl (bs.map bv))) (fun x _ _ => (intOf x).toNat)
  case atStart => exact ⟨0, n, [], by omega, rfl, rfl, hn, by omega, .inl rfl, Lib.hid rfl, HB1, HAL, HOA⟩
  case round =>
    obtain ⟨k, m, acc, hk, rfl, rfl, hm, hmk, hk0, hd, hD, hB, hOr⟩ := hrel
    obtain ⟨hacc, _, cs, hcs, hsz, hzr, hat⟩ := hD.out
    obtain ⟨j, hj⟩ : ∃ j, j = 19 - k := ⟨_, rfl⟩
    have hj20 : 20 - k = j + 1 := by omega
    have c0 := (hcs.cell j).trans (hzr j (by omega))
    have fz := hcs.frozen j
    rw [hj20]
    have hdg := dig_nat m
    have HC := Lib.hid hcs
    have HZ := Lib.hid hzr
    have HA := Lib.hid hat
    have HS := Lib.hid hsz
    have hw1 : IntKind.i64.wrap (((j + 1 : Nat) : Int) - 1) = j := by rw [show ((j + 1 : Nat) : Int) - 1 = j by omega]; exact IntWalk.i64_in _ (by omega)
    have hset := (hcs.set j (.int .u8 (48 + (m : Int) % 10)))
    have hbel := hB.out.setCell (show w.heap.size ≤ (⟨w.heap.size, j, none⟩ : Addr).block from Nat.le_refl _) (.int .u8 (48 + (m : Int) % 10))
    have hD2 : Digits w.heap.size (k + 1) (dig m :: acc) (wr.setCell ⟨w.heap.size, j, none⟩ (.int .u8 (48 + (m : Int) % 10))) := by
      refine ⟨by simp [hacc], by omega, _, hset, by rw [Array.size_setIfInBounds]; exact hsz, fun q hq => ?_, fun q x hx => ?_⟩
      · rw [Array.getElem?_setIfInBounds, if_neg (by omega)]
        exact hzr q (by omega)
      · cases q with
        | zero =>
          have e : dig m = x := by simpa using hx
          subst e
          rw [Array.getElem?_setIfInBounds, if_pos (by omega), if_pos (by omega)]
          unfold bv
          rw [hdg]
          congr 2
        | succ q =>
          have hx' : acc[q]? = some x := by simpa using hx
          rw [Array.getElem?_setIfInBounds, if_neg (by omega)]
          have := hat q x hx'
          rw [show 20 - (k + 1) + (q + 1) = 20 - k + q by omega]
          exact this
    have HD2 := Lib.hid hD2
    have HB2 := Lib.hid hbel
    have HO2 := Lib.hid (own_far hOr.out (p := ⟨w.heap.size, j, none⟩) (fun e => by have := HLT0.out w.heap.size e; omega) (.int .u8 (48 + (m : Int) % 10)))
    clear hset hbel hD2 hcs hzr hat hsz hdg hj
    by_cases hlast : m / 10 = 0
    · have hq : ((m : Int) / 10 == 0) = true := by simp; omega
      have hsl := fun w' => slice20 w.heap.size j (by omega) w'
      obtain ⟨hl2, _, cs2, hcs2, hsz2, _, hat2⟩ := HD2.out
      have hlies : ∀ q u, ((dig m :: acc).map bv)[q]? = some u → (wr.setCell ⟨w.heap.size, j, none⟩ (.int .u8 (48 + (m : Int) % 10))).cell? ((⟨w.heap.size, j, none⟩ : Addr).add q) = some u := fun q u hu => by
        have e : (⟨w.heap.size, j, none⟩ : Addr).add q = ⟨w.heap.size, j + q, none⟩ := by unfold Addr.add; split <;> simp_all
        rw [List.getElem?_map] at hu
        cases hx : (dig m :: acc)[q]? with
        | none => rw [hx] at hu; cases hu
        | some x =>
          rw [hx] at hu
          have := hat2 q x hx
          rw [e, hcs2.cell, show j + q = 20 - (k + 1) + q by omega, this]
          exact hu
      have HLS := Lib.hid hlies
      have H1 := Lib.hid (oneCell_bytes (dig m :: acc))
      have hdec : dec n = dig m :: acc := by
        rw [hd.out, hj20]
        unfold decA
        rw [if_pos hlast]
      have HDEC := Lib.hid hdec
      have hl3 : (dig m :: acc).length = 20 - j := by rw [hl2]; omega
      have HL3 := Lib.hid hl3
      have hsz3 := HB2.out.size
      clear hlies hdec hl3 hcs2 hat2 hsz2
      go_wp2_with (first | (at_builtin; refine wpList_append_own _ rfl _ _ 45 rfl B 5 i0 (.int .u8 0) 1 1 Tryz.underlying45 hi0 hz0 hz1 hz2 rfl (by decide) _ _ _ rfl HO2.out ⟨w.heap.size, j, none⟩ (20 - j) (20 - j) ((dig m :: acc).map bv) rfl ?c1 HLS.out H1.out ?c3 ?c4 ?c5 ?_))
      case c1 => rw [List.length_map, HL3.out, Nat.mul_one]
      case c3 => unfold maxLen; omega
      case c4 => omega
      case c5 => exact Nat.le_trans hBw hsz3
      intro v' w2 hown2 hgrow2 _
      have hB3 : Upon (fun g => (Value.slice sa bl sc).ownBlock = some g) w w2 := (Upon.of_below HB2.out).trans (Upon.of_grown (P := fun g => (Value.slice sa bl sc).ownBlock = some g) hgrow2 (fun g hg => .inl hg)) (fun g hg => .inl hg)
      have hO2 : OwnB w2 B v' (bs ++ dec n) := by
        unfold OwnB
        rw [HDEC.out, List.length_append, HL3.out, List.map_append, ← HBL.out]
        exact hown2
      have HO2 := Lib.hid hO2
      clear hown2 hgrow2 hO2
      go_wp2_with fail
      go_ret
      exact ⟨v', rfl, HO2.out, hB3⟩
    · have hq : ((m : Int) / 10 == 0) = false := by simp; omega
      have hk19 : k < 19 := by
        apply Nat.lt_of_not_le
        intro h19
        have h1 : 10 ^ 19 ≤ 10 ^ k := Nat.pow_le_pow_right (by decide) h19
        have h2 : 10 ≤ m := by omega
        have h3 : 10 * 10 ^ 19 ≤ m * 10 ^ k := Nat.mul_le_mul h2 h1
        have h4 : (10 : Nat) * 10 ^ 19 = 100000000000000000000 := by decide
        omega
      have hpow : m / 10 * 10 ^ (k + 1) < 18446744073709551616 := by
        rw [Nat.pow_succ, Nat.mul_comm (10 ^ k) 10, ← Nat.mul_assoc]
        exact Nat.lt_of_le_of_lt (Nat.mul_le_mul_right _ (Nat.div_mul_le_self m 10)) hmk
      have hdec : dec n = decA (20 - (k + 1)) (m / 10) (dig m :: acc) := by
        rw [hd.out, hj20]
        conv => lhs; unfold decA
        rw [if_neg hlast, show 20 - (k + 1) = j by omega]
      have HDEC := Lib.hid hdec
      have HPOW := Lib.hid hpow
      clear hdec hpow hmk
      go_wp2_with fail
      refine ⟨⟨k + 1, m / 10, dig m :: acc, by omega, ?_, by simp, by omega, HPOW.out, .inr (by omega), HDEC, HD2, HB2, HO2⟩, ?_⟩
      · rw [show 20 - (k + 1) = j by omega]
      · simp [intOf]; omega
end Go.Proofs.YtndkohocgfmamaaGreat.Text

/- palmerref11.Put: a number's digits. -/
namespace Go.Proofs.YtndkohocgfmamaaGreat.Text
open Go.RowKit Go.Deep Mem Crc

attribute [local go_sem] Oper.semAt_some
theorem decA_acc : ∀ (f n : Nat) (acc : List UInt8), decA f n acc = decA f n [] ++ acc
  | 0, _, _ => rfl
  | f + 1, n, acc => by
    unfold decA
    split
    · rfl
    · rw [decA_acc f (n / 10) (dig n :: acc), decA_acc f (n / 10) [dig n], List.append_assoc]
      rfl
theorem decA_fuel : ∀ (f n : Nat), 0 < f → n < 10 ^ f → ∀ acc, decA (f + 1) n acc = decA f n acc
  | 0, _, h, _, _ => absurd h (Nat.lt_irrefl _)
  | f + 1, n, _, hn, acc => by
    by_cases h : n / 10 = 0
    · unfold decA
      rw [if_pos h, if_pos h]
    · have hf : 0 < f := by
        rcases f with _ | f
        · simp at hn; omega
        · omega
      have hn' : n / 10 < 10 ^ f := by
        rw [Nat.div_lt_iff_lt_mul (by decide), ← Nat.pow_succ]
        exact hn
      have := decA_fuel f (n / 10) hf hn' (dig n :: acc)
      unfold decA
      rw [if_neg h, if_neg h]
      exact this
theorem dec_small (n : Nat) (h : n < 10) : dec n = [dig n] := by
  unfold dec decA
  rw [if_pos (by omega)]
theorem dec_big (n : Nat) (h : 10 ≤ n) (hn : n < 100000000000000000000) : dec n = dec (n / 10) ++ [dig n] := by
  unfold dec
  rw [show decA 20 n [] = decA 19 (n / 10) [dig n] by
    conv => lhs; unfold decA
    rw [if_neg (by omega)], decA_acc]
  rw [← decA_fuel 19 (n / 10) (by decide) (by have : (10 : Nat) ^ 19 = 10000000000000000000 := by decide
                                              omega)]
theorem str_app (a b : List UInt8) : ((⟨a.toArray⟩ : ByteArray) ++ (⟨b.toArray⟩ : ByteArray)) = ⟨(a ++ b).toArray⟩ := by
  apply ByteArray.ext
  simp
theorem dec_length (n : Nat) : (dec n).length ≤ 20 := by
  have := decA_length 20 n []
  rw [List.length_nil, Nat.zero_add] at this
  exact this
/-- A text as a value. -/
def strV (b : List UInt8) : Value := .string ⟨b.toArray⟩
theorem conv_one (w : World) (x : Nat) (hx : x < 10) : (convert 45 9 (.slice (some ⟨w.heap.size, 0, none⟩) 1 1)).run Tryz.prog (w.alloc (.cells #[.int .u8 (48 + (x : Int))] 5)) = .ok (strV [dig x]) (w.alloc (.cells #[.int .u8 (48 + (x : Int))] 5)) := by
  have hd := dig_nat x
  rw [Nat.mod_eq_of_lt hx] at hd
  refine run_convert_bytes_back _ 45 9 5 ⟨w.heap.size, 0, none⟩ 1 [dig x] Tryz.underlying45 Tryz.underlying5 Tryz.underlying9 (fun j hj => ?_)
  have e : j = 0 := by simpa using hj
  subst e
  have := (Blk.new w 5 #[.int .u8 (48 + (x : Int))]).cell 0
  simp [Addr.add, this, hd]
set_option maxHeartbeats 1000000 in
set_option maxRecDepth 100000 in
theorem refPut_any : ∀ (m n : Nat) (w : World), n < 10 ^ m → m ≤ 20 → n < 18446744073709551616 →
    Calls Tryz.prog 30 #[.int .u64 (n : Int)] w fun e w' => e = .returned (strV (dec n)) ∧ Below w.heap.size w w' := by
  intro m
  induction m with
  | zero =>
    intro n w h _ _
    have h0 : n = 0 := by simpa using h
    subst h0
    have hcv := conv_one w 0 (by decide)
    rw [dec_small 0 (by decide)]
    simp at hcv
    go_enter Tryz.func30, Tryz.ntmps30
    go_wp2_with fail
    go_ret
    exact ⟨rfl, (Below.refl _ w).alloc (Nat.le_refl _) _⟩
  | succ m ih =>
    intro n w h hm hn
    by_cases h10 : n < 10
    · have hcv := conv_one w n h10
      rw [dec_small n h10]
      clear h ih hn
      go_enter Tryz.func30, Tryz.ntmps30
      go_wp2_with fail
      go_ret
      exact ⟨rfl, (Below.refl _ w).alloc (Nat.le_refl _) _⟩
    · have h1 : n / 10 < 10 ^ m := by
        rw [Nat.div_lt_iff_lt_mul (by decide), ← Nat.pow_succ]
        exact h
      have hm1 : 1 ≤ m := by
        rcases m with _ | m
        · simp at h; omega
        · omega
      have h2 : n % 10 < 10 ^ m := Nat.lt_of_lt_of_le (Nat.mod_lt _ (by decide)) (by
        have := Nat.pow_le_pow_right (show 0 < 10 by decide) hm1
        omega)
      have HI1 := Lib.hid (fun w => ih (n / 10) w h1 (by omega) (by omega))
      have HI2 := Lib.hid (fun w => ih (n % 10) w h2 (by omega) (by omega))
      have HD := Lib.hid (show strV (dec n) = .string ((⟨(dec (n / 10)).toArray⟩ : ByteArray) ++ (⟨(dec (n % 10)).toArray⟩ : ByteArray)) from by
        rw [str_app, dec_small (n % 10) (by omega), dec_big n (by omega) (by omega)]
        have : dig (n % 10) = dig n := by unfold dig; rw [Nat.mod_mod]
        rw [this]
        rfl)
      have hs1 := dec_length (n / 10)
      have hs2 := dec_length (n % 10)
      obtain ⟨sa, hsa⟩ : ∃ sa : ByteArray, sa = ⟨(dec (n / 10)).toArray⟩ := ⟨_, rfl⟩
      obtain ⟨sb, hsb⟩ : ∃ sb : ByteArray, sb = ⟨(dec (n % 10)).toArray⟩ := ⟨_, rfl⟩
      have hla : sa.size ≤ 20 := by rw [hsa]; simpa [ByteArray.size] using hs1
      have hlb : sb.size ≤ 20 := by rw [hsb]; simpa [ByteArray.size] using hs2
      rw [← hsa, ← hsb] at HD
      have HSA := Lib.hid hsa
      have HSB := Lib.hid hsb
      have h10' : 10 ≤ n := by omega
      clear ih h h1 h2 hs1 hs2 hsa hsb h10
      obtain ⟨q, hq⟩ : ∃ q, q = n / 10 := ⟨_, rfl⟩
      obtain ⟨r, hr⟩ : ∃ r, r = n % 10 := ⟨_, rfl⟩
      have hqI : (n : Int) / 10 = (q : Int) := by omega
      have hrI : (n : Int) % 10 = (r : Int) := by omega
      rw [← hq] at HI1 HSA
      rw [← hr] at HI2 HSB
      clear hq hr
      go_enter Tryz.func30, Tryz.ntmps30
      go_wp2_with fail
      refine (HI1.out _).mono ?_
      rintro e w1 ⟨rfl, hB1⟩
      unfold strV
      rw [← HSA.out]
      go_wp2_with fail
      refine (HI2.out _).mono ?_
      rintro e w2 ⟨rfl, hB2⟩
      unfold strV
      rw [← HSB.out]
      have HB := Lib.hid (hB1.trans (hB2.mono hB1.size))
      clear hB1 hB2
      go_wp2_with fail
      go_ret
      exact ⟨by rw [HD.out]; rfl, HB.out⟩
end Go.Proofs.YtndkohocgfmamaaGreat.Text

/- Layer 27: Print, and the document's. -/
namespace Go.Proofs.YtndkohocgfmamaaGreat.Visit
open Go.RowKit Go.Deep Mem Crc
open Go.Proofs.YtndkohocgfmamaaGreat.Text (dec dec_length strV str_app put_any refPut_any)

attribute [local go_sem] Oper.semAt_some
/-- A visit's line. -/
def lineB (src : List Nat) (p : KC) : List UInt8 := (((((dec (src.getD (p.1 / 4294967296) 0)) ++ [32]) ++ dec (p.1 % 4294967296)) ++ [32]) ++ dec p.2) ++ [10]
theorem lineB_length (src : List Nat) (p : KC) : (lineB src p).length ≤ 63 := by
  unfold lineB
  have h1 := dec_length (src.getD (p.1 / 4294967296) 0)
  have h2 := dec_length (p.1 % 4294967296)
  have h3 := dec_length p.2
  simp only [List.length_append, List.length_cons, List.length_nil]
  omega
/-- Are all sources there? -/
def fitsP (src : List Nat) (p : KC) : Bool := decide (p.1 / 4294967296 < src.length)
def linesB (src : List Nat) (l : List KC) : List UInt8 := l.flatMap (lineB src)
theorem linesB_snoc (src : List Nat) (l : List KC) (p : KC) : linesB src (l ++ [p]) = linesB src l ++ lineB src p := by simp [linesB]
theorem linesB_length (src : List Nat) (l : List KC) : (linesB src l).length ≤ l.length * 63 := by
  induction l with
  | nil => simp [linesB]
  | cons a t ih =>
    have := lineB_length src a
    unfold linesB at ih ⊢
    rw [List.flatMap_cons, List.length_append, List.length_cons]
    omega
theorem vis_flat {w : World} {a : Option Addr} {l : List KC} (h : Lies w a (l.flatMap visC)) {i : Nat} {p : KC} (hi : l[i]? = some p) : ∃ g off, a = some ⟨g, off, none⟩ ∧ w.cell? ⟨g, off + i * 3, none⟩ = some (.int .u32 ((p.1 / 4294967296 : Nat) : Int)) ∧ w.cell? ⟨g, off + i * 3 + 1, none⟩ = some (.int .u32 ((p.1 % 4294967296 : Nat) : Int)) ∧ w.cell? ⟨g, off + i * 3 + 2, none⟩ = some (.int .u64 (p.2 : Int)) ∧ g < w.heap.size := by
  have hil := (List.getElem?_eq_some_iff.1 hi).1
  rcases h with h | ⟨g, off, rfl, hg, hc⟩
  · have := congrArg List.length h
    rw [Args.flat_len visC 3 l (fun x _ => rfl)] at this
    simp at this
    omega
  · have hat : ∀ (l : List KC) (i j : Nat) (p : KC) (u : Value), l[i]? = some p → j < 3 → (visC p)[j]? = some u → (l.flatMap visC)[i * 3 + j]? = some u := by
      intro l
      induction l with
      | nil => intro i j p u h; simp at h
      | cons b t ih =>
        intro i j p u h hj hu
        cases i with
        | zero =>
          have e : b = p := by simpa using h
          subst e
          rw [List.flatMap_cons, List.getElem?_append_left (by simp [visC]; omega)]
          simpa using hu
        | succ i =>
          rw [List.flatMap_cons, List.getElem?_append_right (by simp [visC]; omega)]
          have := ih i j p u (by simpa using h) hj hu
          rw [show (i + 1) * 3 + j - (visC b).length = i * 3 + j by simp [visC]; omega]
          exact this
    refine ⟨g, off, rfl, ?_, ?_, ?_, hg⟩
    · have := hc (i * 3 + 0) _ (hat l i 0 p _ hi (by decide) rfl)
      simpa using this
    · have := hc (i * 3 + 1) _ (hat l i 1 p _ hi (by decide) rfl)
      rw [← Nat.add_assoc] at this
      exact this
    · have := hc (i * 3 + 2) _ (hat l i 2 p _ hi (by decide) rfl)
      rw [← Nat.add_assoc] at this
      exact this
/-- What has been printed, beside the visit that is printed. -/
structure Printed (w W : World) (vb : Nat) (cs : Array Value) (v : Value) (bs : List UInt8) : Prop where
  own : OwnB W w.heap.size v bs
  below : Below w.heap.size w W
  blk : Blk W vb 37 cs
theorem Printed.put {w W W' : World} {vb : Nat} {cs : Array Value} {v v' : Value} {bs bs' : List UInt8} (h : Printed w W vb cs v bs) (hO : OwnB W' w.heap.size v' bs') (hu : Upon (fun g => v.ownBlock = some g) W W') : Printed w W' vb cs v' bs' :=
  ⟨hO, h.below.trans (hu.below h.below.size (fun g hg => (h.own.lt g hg).1)), h.blk.upon hu (own_ne_blk h.own h.blk (by decide))⟩
theorem Printed.app {w W W' : World} {vb : Nat} {cs : Array Value} {v v' : Value} {bs : List UInt8} {o : Obj} {c : UInt8} (h : Printed w W vb cs v bs) (hO : W'.ownsRow w.heap.size 5 1 v' (bs.length + 1) (bs.map bv ++ [bv c])) (hg : (W.alloc o).grownBy W' v.ownBlock) : Printed w W' vb cs v' (bs ++ [c]) := by
  refine h.put ?_ ((Upon.of_below ((Below.refl _ W).alloc (Nat.le_refl _) o)).trans (Upon.of_grown (P := fun g => v.ownBlock = some g) hg (fun g hg => .inl hg)) (fun g hg => .inl hg))
  unfold OwnB
  rw [List.map_append, List.length_append]
  exact hO
/-- Numbers of 32 bits as values. -/
def u32V (n : Nat) : Value := .int .u32 (n : Int)
set_option maxHeartbeats 4000000 in
set_option maxRecDepth 100000 in
theorem print_any (a sa : Option Addr) (cp sc : Nat) (l : List KC) (src : List Nat) (w : World) (hL : Lies w a (l.flatMap visC)) (hS : Lies w sa (src.map u32V)) (hok : ∀ p ∈ l, p.1 ≤ top64 ∧ p.2 ≤ top64) (hsrc : ∀ n ∈ src, n < 4294967296) (hn : l.length ≤ 100) (hm : src.length ≤ 100) :
    Calls Tryz.prog 14 #[.slice a l.length cp, .slice sa src.length sc] w fun e w' => (((∀ p ∈ l, fitsP src p = true) ∧ ∃ v, e = .returned (.tuple #[v, .int .i64 0]) ∧ OwnB w' w.heap.size v (linesB src l)) ∨ ((∃ p ∈ l, fitsP src p = false) ∧ e = .returned (.tuple #[.slice none 0 0, .int .i64 9]))) ∧ Below w.heap.size w w' := by
  obtain ⟨i0, hi0, hzA, hzB, hzC⟩ := info_parts infoB8
  obtain ⟨n, hln⟩ : ∃ n, n = l.length := ⟨_, rfl⟩
  obtain ⟨m, hlm⟩ : ∃ m, m = src.length := ⟨_, rfl⟩
  rw [← hln] at hn ⊢
  rw [← hlm] at hm ⊢
  have HL := Lib.hid hL
  have HS := Lib.hid hS
  have HOK := Lib.hid hok
  have HSRC := Lib.hid hsrc
  have HLN := Lib.hid hln
  have HLM := Lib.hid hlm
  have HO0 := Lib.hid (World.ownsRow_nil w w.heap.size 5 1)
  clear hL hS hok hsrc hln hlm
  go_enter Tryz.func14, Tryz.ntmps14
  go_wp2_with fail
  go_loopw [6, 11] (fun o i wr => ∃ k : Nat, k ≤ n ∧ i = .int .i64 k ∧ Hid (∀ p ∈ l.take k, fitsP src p = true) ∧ Hid (OwnB wr w.heap.size o (linesB src (l.take k))) ∧ Hid (Below w.heap.size w wr)) (fun _ i _ => n - (intOf i).toNat)
  case atStart => exact ⟨0, Nat.zero_le _, rfl, Lib.hid (fun p hp => by simp at hp), HO0, Lib.hid (Below.refl _ _)⟩
  case round =>
    obtain ⟨k, hk, rfl, hfit, hown, hB⟩ := hrel
    by_cases hlt : k < n
    · obtain ⟨p, hp⟩ : ∃ p, l[k]? = some p := ⟨l[k]'(by rw [← HLN.out]; exact hlt), List.getElem?_eq_getElem _⟩
      have hpm := List.mem_of_getElem? hp
      obtain ⟨hp1, hp2⟩ := HOK.out p hpm
      obtain ⟨g, off, rfl, c0, c1, c2, _⟩ := vis_flat (HL.out.later hB.out) hp
      obtain ⟨x, hx⟩ : ∃ x, x = p.1 / 4294967296 := ⟨_, rfl⟩
      obtain ⟨y, hy⟩ : ∃ y, y = p.1 % 4294967296 := ⟨_, rfl⟩
      obtain ⟨z, hz⟩ : ∃ z, z = p.2 := ⟨_, rfl⟩
      rw [← hx] at c0
      rw [← hy] at c1
      rw [← hz] at c2
      have hx32 : x < 4294967296 := by rw [hx]; unfold top64 at hp1; omega
      have hy32 : y < 4294967296 := by rw [hy]; exact Nat.mod_lt _ (by decide)
      have hz64 : z < 18446744073709551616 := by rw [hz]; unfold top64 at hp2; omega
      have hbs := hB.out.size
      have hll := linesB_length src (l.take k)
      rw [List.length_take] at hll
      have htk : l.take (k + 1) = l.take k ++ [p] := by rw [List.take_add_one, hp]; rfl
      have HTK := Lib.hid htk
      have HX := Lib.hid hx
      have HY := Lib.hid hy
      have HZ := Lib.hid hz
      have HPM := Lib.hid hpm
      clear htk hx hy hz hpm hp hp1 hp2
      by_cases hfx : x < m
      · have hge : decide ((m : Int) ≤ (x : Int)) = false := by simp; omega
        have hge2 : decide (m ≤ x) = false := by simp; omega
        obtain ⟨t, ht⟩ : ∃ t, src[x]? = some t := ⟨src[x]'(by rw [← HLM.out]; exact hfx), List.getElem?_eq_getElem _⟩
        have ht32 : t < 4294967296 := HSRC.out t (List.mem_of_getElem? ht)
        have hgd : src.getD x 0 = t := by rw [List.getD_eq_getElem?_getD, ht]; rfl
        have hcs : ∃ sg so, sa = some ⟨sg, so, none⟩ ∧ wr.cell? ⟨sg, so + x, none⟩ = some (.int .u32 (t : Int)) ∧ sg < w.heap.size := by
          obtain ⟨sg, so, rfl, hsg, hc⟩ := HS.out.resolve_left (fun e => by
            rw [List.map_eq_nil_iff] at e
            rw [e] at ht
            simp at ht)
          exact ⟨sg, so, rfl, (hB.out.cell (p := ⟨sg, so + x, none⟩) hsg).trans (hc x _ (by rw [List.getElem?_map, ht]; rfl)), hsg⟩
        obtain ⟨sg, so, rfl, cs, hsg⟩ := hcs
        have HT := Lib.hid (show lineB src p = (((((dec t ++ [32]) ++ dec y) ++ [32]) ++ dec z) ++ [10]) from by unfold lineB; rw [← HX.out, ← HY.out, ← HZ.out, hgd])
        have HFP := Lib.hid (show fitsP src p = true from by unfold fitsP; rw [← HX.out, ← HLM.out]; simpa using hfx)
        obtain ⟨L0, hL0⟩ : ∃ L0, L0 = linesB src (l.take k) := ⟨_, rfl⟩
        rw [← hL0] at hown hll
        have HL0 := Lib.hid hL0
        have cs2 : (wr.alloc (.cells #[.int .u32 (x : Int), .int .u32 (y : Int), .int .u64 (z : Int)] 37)).cell? ⟨sg, so + x, none⟩ = some (.int .u32 (t : Int)) := (((Below.refl _ wr).alloc (Nat.le_refl _) _).cell (p := ⟨sg, so + x, none⟩) (show sg < wr.heap.size by omega)).trans cs
        clear ht hgd hL0 cs
        go_wp2_with fail
        obtain ⟨V0, hV0⟩ : ∃ V0, V0 = wr.alloc (.cells #[.int .u32 (x : Int), .int .u32 (y : Int), .int .u64 (z : Int)] 37) := ⟨_, rfl⟩
        obtain ⟨vb, hvb⟩ : ∃ vb, vb = wr.heap.size := ⟨_, rfl⟩
        have hP0 : Printed w V0 vb #[.int .u32 (x : Int), .int .u32 (y : Int), .int .u64 (z : Int)] u6 L0 := ⟨by rw [hV0]; exact hown.out.alloc _, by rw [hV0]; exact hB.out.alloc hbs _, by rw [hV0, hvb]; exact Blk.new wr _ _⟩
        rw [← hV0, ← hvb]
        have HP0 := Lib.hid hP0
        have HPUT1 := Lib.hid (put_any t V0 (by omega) w.heap.size u6 L0 hP0.own hP0.below.size (by omega))
        clear hP0 hV0 hvb cs2
        refine HPUT1.out.mono ?_
        rintro e w1 ⟨v1, rfl, hO1, hu1⟩
        have hP1 := HP0.out.put hO1 hu1
        have hl1 := dec_length t
        obtain ⟨L1, hL1⟩ : ∃ L1, L1 = L0 ++ dec t := ⟨_, rfl⟩
        rw [← hL1] at hP1
        have hlen1 : L1.length ≤ L0.length + 20 := by rw [hL1, List.length_append]; omega
        have hz1 := hP1.below.size
        have hO1a : w1.ownsRow w.heap.size 5 1 v1 L1.length (L1.map bv) := hP1.own
        have HP1 := Lib.hid hP1
        have HO1 := Lib.hid hO1a
        have HL1 := Lib.hid hL1
        clear hP1 hO1 hu1 hO1a hL1 hl1 HPUT1 HP0
        go_wp2_with (first | (at_builtin; refine wpList_append_own _ rfl _ _ 45 rfl w.heap.size 5 i0 (.int .u8 0) 1 1 Tryz.underlying45 hi0 hzA hzB hzC rfl (by decide) _ _ _ rfl (HO1.out.alloc _) ⟨w1.heap.size, 0, none⟩ 1 1 [bv 32] rfl rfl (one_at rfl) (one_cell _) ?c13 ?c14 ?c15 ?_))
        case c13 => unfold maxLen; omega
        case c14 => omega
        case c15 => simp; omega
        intro v2 w2 hown2 hg2 _
        have hP2 := HP1.out.app hown2 hg2
        obtain ⟨L2, hL2⟩ : ∃ L2, L2 = L1 ++ [32] := ⟨_, rfl⟩
        rw [← hL2] at hP2
        have hlen2 : L2.length = L1.length + 1 := by rw [hL2, List.length_append]; rfl
        have hz2 := hP2.below.size
        have k2 := hP2.blk.cell 1
        simp at k2
        have HPUT2 := Lib.hid (put_any y w2 (by omega) w.heap.size v2 L2 hP2.own hz2 (by omega))
        have HP2 := Lib.hid hP2
        have HL2 := Lib.hid hL2
        have hlq2 : L2.length ≤ L0.length + 21 := by omega
        clear hP2 hown2 hg2 hL2 HO1 hlen2 hlen1
        go_wp2_with fail
        refine HPUT2.out.mono ?_
        rintro e w3 ⟨v3, rfl, hO3, hu3⟩
        have hP3 := HP2.out.put hO3 hu3
        have hl3 := dec_length y
        obtain ⟨L3, hL3⟩ : ∃ L3, L3 = L2 ++ dec y := ⟨_, rfl⟩
        rw [← hL3] at hP3
        have hlen3 : L3.length ≤ L2.length + 20 := by rw [hL3, List.length_append]; omega
        have hz3 := hP3.below.size
        have hO3a : w3.ownsRow w.heap.size 5 1 v3 L3.length (L3.map bv) := hP3.own
        have HP3 := Lib.hid hP3
        have HO3 := Lib.hid hO3a
        have HL3 := Lib.hid hL3
        clear hP3 hO3 hu3 hO3a hL3 hl3 HPUT2 HP2
        go_wp2_with (first | (at_builtin; refine wpList_append_own _ rfl _ _ 45 rfl w.heap.size 5 i0 (.int .u8 0) 1 1 Tryz.underlying45 hi0 hzA hzB hzC rfl (by decide) _ _ _ rfl (HO3.out.alloc _) ⟨w3.heap.size, 0, none⟩ 1 1 [bv 32] rfl rfl (one_at rfl) (one_cell _) ?c23 ?c24 ?c25 ?_))
        case c23 => unfold maxLen; omega
        case c24 => omega
        case c25 => simp; omega
        intro v4 w4 hown4 hg4 _
        have hP4 := HP3.out.app hown4 hg4
        obtain ⟨L4, hL4⟩ : ∃ L4, L4 = L3 ++ [32] := ⟨_, rfl⟩
        rw [← hL4] at hP4
        have hlen4 : L4.length = L3.length + 1 := by rw [hL4, List.length_append]; rfl
        have hz4 := hP4.below.size
        have k4 := hP4.blk.cell 2
        simp at k4
        have HPUT3 := Lib.hid (put_any z w4 (by omega) w.heap.size v4 L4 hP4.own hz4 (by omega))
        have HP4 := Lib.hid hP4
        have HL4 := Lib.hid hL4
        have hlq4 : L4.length ≤ L2.length + 21 := by omega
        clear hP4 hown4 hg4 hL4 HO3 hlen4 hlen3
        go_wp2_with fail
        refine HPUT3.out.mono ?_
        rintro e w5 ⟨v5, rfl, hO5, hu5⟩
        have hP5 := HP4.out.put hO5 hu5
        have hl5 := dec_length z
        obtain ⟨L5, hL5⟩ : ∃ L5, L5 = L4 ++ dec z := ⟨_, rfl⟩
        rw [← hL5] at hP5
        have hlen5 : L5.length ≤ L4.length + 20 := by rw [hL5, List.length_append]; omega
        have hz5 := hP5.below.size
        have hO5a : w5.ownsRow w.heap.size 5 1 v5 L5.length (L5.map bv) := hP5.own
        have HP5 := Lib.hid hP5
        have HO5 := Lib.hid hO5a
        have HL5 := Lib.hid hL5
        clear hP5 hO5 hu5 hO5a hL5 hl5 HPUT3 HP4
        go_wp2_with (first | (at_builtin; refine wpList_append_own _ rfl _ _ 45 rfl w.heap.size 5 i0 (.int .u8 0) 1 1 Tryz.underlying45 hi0 hzA hzB hzC rfl (by decide) _ _ _ rfl (HO5.out.alloc _) ⟨w5.heap.size, 0, none⟩ 1 1 [bv 10] rfl rfl (one_at rfl) (one_cell _) ?c33 ?c34 ?c35 ?_))
        case c33 => unfold maxLen; omega
        case c34 => omega
        case c35 => simp; omega
        intro v6 w6 hown6 hg6 _
        have hP6 := HP5.out.app hown6 hg6
        obtain ⟨L6, hL6⟩ : ∃ L6, L6 = L5 ++ [10] := ⟨_, rfl⟩
        rw [← hL6] at hP6
        have hlen6 : L6.length = L5.length + 1 := by rw [hL6, List.length_append]; rfl
        have hz6 := hP6.below.size
        have HP6 := Lib.hid hP6
        have HL6 := Lib.hid hL6
        have hlq6 : L6.length ≤ L4.length + 21 := by omega
        clear hP6 hown6 hg6 hL6 HO5 hlen6 hlen5
        go_wp2_with fail
        have HE : Hid (linesB src (l.take (k + 1)) = L6) := Lib.hid (by
          rw [HTK.out, linesB_snoc, HT.out, HL6.out, HL5.out, HL4.out, HL3.out, HL2.out, HL1.out, HL0.out]
          simp only [List.append_assoc])
        have HOE := Lib.hid HP6.out.own
        have HBE := Lib.hid HP6.out.below
        go_roundw
        case rel => exact ⟨k + 1, by omega, by simp, Lib.hid (fun q hq => by
          rw [HTK.out] at hq
          rcases List.mem_append.1 hq with hq | hq
          · exact hfit.out q hq
          · rw [List.mem_singleton.1 hq]; exact HFP.out), by rw [HE.out]; exact HOE, HBE⟩
        case measure => simp [intOf]; omega
      · have hge : decide ((m : Int) ≤ (x : Int)) = true := by simp; omega
        have hge2 : decide (m ≤ x) = true := by simp; omega
        have HFP := Lib.hid (show fitsP src p = false from by unfold fitsP; rw [← HX.out, ← HLM.out]; simpa using hfx)
        go_wp2_with fail
        go_ret2
        exact ⟨.inr ⟨⟨p, HPM.out, HFP.out⟩, rfl⟩, hB.out.alloc hbs _⟩
    · obtain rfl : k = n := by omega
      have htk : l.take k = l := by rw [HLN.out, List.take_length]
      have hO := hown.out
      have hF := hfit.out
      rw [htk] at hO hF
      have HO := Lib.hid hO
      have HF := Lib.hid hF
      clear htk hO hF
      go_wp2_with fail
      go_ret2
      exact ⟨.inl ⟨HF.out, _, rfl, HO.out⟩, hB.out⟩
end Go.Proofs.YtndkohocgfmamaaGreat.Visit

/- palmerref27.Print. -/
namespace Go.Proofs.YtndkohocgfmamaaGreat.Visit
open Go.RowKit Go.Deep Mem Crc
open Go.Proofs.YtndkohocgfmamaaGreat.Text (dec dec_length strV str_app refPut_any)

attribute [local go_sem] Oper.semAt_some
/-- The document's Put, its text under a name. -/
theorem putS (n : Nat) (hn : n < 18446744073709551616) (T : ByteArray) (hT : T = ⟨(dec n).toArray⟩) (w : World) : Calls Tryz.prog 30 #[.int .u64 (n : Int)] w fun e w' => e = .returned (.string T) ∧ Below w.heap.size w w' := by
  subst hT
  exact refPut_any 20 n w (by have : (10 : Nat) ^ 20 = 100000000000000000000 := by decide
                              omega) (by decide) hn
theorem keep4 {w X Y : World} {g off k sg so x : Nat} {x' t y z : Value} (hB : Below w.heap.size w X) (hg : g < w.heap.size) (hsg : sg < w.heap.size) (hXY : Below X.heap.size X Y)
    (h : X.cell? ⟨g, off + k * 3, none⟩ = some x' ∧ X.cell? ⟨sg, so + x, none⟩ = some t ∧ X.cell? ⟨g, off + k * 3 + 1, none⟩ = some y ∧ X.cell? ⟨g, off + k * 3 + 2, none⟩ = some z) :
    (Y.cell? ⟨g, off + k * 3, none⟩ = some x' ∧ Y.cell? ⟨sg, so + x, none⟩ = some t ∧ Y.cell? ⟨g, off + k * 3 + 1, none⟩ = some y ∧ Y.cell? ⟨g, off + k * 3 + 2, none⟩ = some z) ∧ Below w.heap.size w Y := by
  have hs := hB.size
  refine ⟨⟨?_, ?_, ?_, ?_⟩, hB.trans (hXY.mono hs)⟩
  · exact (hXY.cell (p := ⟨g, off + k * 3, none⟩) (show g < X.heap.size by omega)).trans h.1
  · exact (hXY.cell (p := ⟨sg, so + x, none⟩) (show sg < X.heap.size by omega)).trans h.2.1
  · exact (hXY.cell (p := ⟨g, off + k * 3 + 1, none⟩) (show g < X.heap.size by omega)).trans h.2.2.1
  · exact (hXY.cell (p := ⟨g, off + k * 3 + 2, none⟩) (show g < X.heap.size by omega)).trans h.2.2.2
set_option maxHeartbeats 4000000 in
set_option maxRecDepth 100000 in
theorem refPrint_any (a sa : Option Addr) (cp sc : Nat) (l : List KC) (src : List Nat) (w : World) (hL : Lies w a (l.flatMap visC)) (hS : Lies w sa (src.map u32V)) (hok : ∀ p ∈ l, p.1 ≤ top64 ∧ p.2 ≤ top64) (hsrc : ∀ n ∈ src, n < 4294967296) (hn : l.length ≤ 100) (hm : src.length ≤ 100) :
    Calls Tryz.prog 15 #[.slice a l.length cp, .slice sa src.length sc] w fun e w' => (((∀ p ∈ l, fitsP src p = true) ∧ e = .returned (.tuple #[strV (linesB src l), .bool true])) ∨ ((∃ p ∈ l, fitsP src p = false) ∧ e = .returned (.tuple #[strV [], .bool false]))) ∧ Below w.heap.size w w' := by
  obtain ⟨n, hln⟩ : ∃ n, n = l.length := ⟨_, rfl⟩
  obtain ⟨m, hlm⟩ : ∃ m, m = src.length := ⟨_, rfl⟩
  rw [← hln] at hn ⊢
  rw [← hlm] at hm ⊢
  have HL := Lib.hid hL
  have HS := Lib.hid hS
  have HOK := Lib.hid hok
  have HSRC := Lib.hid hsrc
  have HLN := Lib.hid hln
  have HLM := Lib.hid hlm
  clear hL hS hok hsrc hln hlm
  go_enter Tryz.func15, Tryz.ntmps15
  go_wp2_with fail
  go_loopw [6, 10] (fun o i wr => ∃ (k : Nat) (sb : ByteArray), k ≤ n ∧ i = .int .i64 k ∧ o = .string sb ∧ Hid (sb = ⟨(linesB src (l.take k)).toArray⟩) ∧ Hid (∀ p ∈ l.take k, fitsP src p = true) ∧ Hid (Below w.heap.size w wr)) (fun _ i _ => n - (intOf i).toNat)
  case atStart => exact ⟨0, _, Nat.zero_le _, rfl, rfl, Lib.hid rfl, Lib.hid (fun p hp => by simp at hp), Lib.hid (Below.refl _ _)⟩
  case round =>
    obtain ⟨k, sb, hk, rfl, rfl, hsb, hfit, hB⟩ := hrel
    by_cases hlt : k < n
    · obtain ⟨p, hp⟩ : ∃ p, l[k]? = some p := ⟨l[k]'(by rw [← HLN.out]; exact hlt), List.getElem?_eq_getElem _⟩
      have hpm := List.mem_of_getElem? hp
      obtain ⟨hp1, hp2⟩ := HOK.out p hpm
      obtain ⟨g, off, rfl, c0, c1, c2, _⟩ := vis_flat (HL.out.later hB.out) hp
      have hgw : g < w.heap.size := by
        obtain ⟨g', off', e, _, _, _, h⟩ := vis_flat HL.out hp
        cases e
        exact h
      obtain ⟨x, hx⟩ : ∃ x, x = p.1 / 4294967296 := ⟨_, rfl⟩
      obtain ⟨y, hy⟩ : ∃ y, y = p.1 % 4294967296 := ⟨_, rfl⟩
      obtain ⟨z, hz⟩ : ∃ z, z = p.2 := ⟨_, rfl⟩
      rw [← hx] at c0
      rw [← hy] at c1
      rw [← hz] at c2
      have hx32 : x < 4294967296 := by rw [hx]; unfold top64 at hp1; omega
      have hy32 : y < 4294967296 := by rw [hy]; exact Nat.mod_lt _ (by decide)
      have hz64 : z < 18446744073709551616 := by rw [hz]; unfold top64 at hp2; omega
      have hll := linesB_length src (l.take k)
      rw [List.length_take] at hll
      have hsl : sb.size ≤ 6300 := by
        rw [hsb.out]
        show (linesB src (l.take k)).toArray.size ≤ 6300
        rw [List.size_toArray]
        omega
      have htk : l.take (k + 1) = l.take k ++ [p] := by rw [List.take_add_one, hp]; rfl
      have HTK := Lib.hid htk
      have HX := Lib.hid hx
      have HY := Lib.hid hy
      have HZ := Lib.hid hz
      have HPM := Lib.hid hpm
      clear htk hx hy hz hpm hp hp1 hp2 hll
      by_cases hfx : x < m
      · have hge : decide ((m : Int) ≤ (x : Int)) = false := by simp; omega
        have hge2 : decide (m ≤ x) = false := by simp; omega
        obtain ⟨t, ht⟩ : ∃ t, src[x]? = some t := ⟨src[x]'(by rw [← HLM.out]; exact hfx), List.getElem?_eq_getElem _⟩
        have ht32 : t < 4294967296 := HSRC.out t (List.mem_of_getElem? ht)
        have hgd : src.getD x 0 = t := by rw [List.getD_eq_getElem?_getD, ht]; rfl
        have hcs : ∃ sg so, sa = some ⟨sg, so, none⟩ ∧ wr.cell? ⟨sg, so + x, none⟩ = some (.int .u32 (t : Int)) ∧ sg < w.heap.size := by
          obtain ⟨sg, so, rfl, hsg, hc⟩ := HS.out.resolve_left (fun e => by
            rw [List.map_eq_nil_iff] at e
            rw [e] at ht
            simp at ht)
          exact ⟨sg, so, rfl, (hB.out.cell (p := ⟨sg, so + x, none⟩) hsg).trans (hc x _ (by rw [List.getElem?_map, ht]; rfl)), hsg⟩
        obtain ⟨sg, so, rfl, cs, hsg⟩ := hcs
        obtain ⟨T, hT⟩ : ∃ T : ByteArray, T = ⟨(dec t).toArray⟩ := ⟨_, rfl⟩
        obtain ⟨Y, hY⟩ : ∃ Y : ByteArray, Y = ⟨(dec y).toArray⟩ := ⟨_, rfl⟩
        obtain ⟨Z, hZ⟩ : ∃ Z : ByteArray, Z = ⟨(dec z).toArray⟩ := ⟨_, rfl⟩
        have lT : T.size ≤ 20 := by rw [hT]; exact dec_length t
        have lY : Y.size ≤ 20 := by rw [hY]; exact dec_length y
        have lZ : Z.size ≤ 20 := by rw [hZ]; exact dec_length z
        have lsp : (⟨#[32]⟩ : ByteArray).size = 1 := rfl
        have lnl : (⟨#[10]⟩ : ByteArray).size = 1 := rfl
        obtain ⟨S1, hS1⟩ : ∃ S1, S1 = sb ++ T := ⟨_, rfl⟩
        obtain ⟨S2, hS2⟩ : ∃ S2, S2 = S1 ++ (⟨#[32]⟩ : ByteArray) := ⟨_, rfl⟩
        obtain ⟨S3, hS3⟩ : ∃ S3, S3 = S2 ++ Y := ⟨_, rfl⟩
        obtain ⟨S4, hS4⟩ : ∃ S4, S4 = S3 ++ (⟨#[32]⟩ : ByteArray) := ⟨_, rfl⟩
        obtain ⟨S5, hS5⟩ : ∃ S5, S5 = S4 ++ Z := ⟨_, rfl⟩
        obtain ⟨S6, hS6⟩ : ∃ S6, S6 = S5 ++ (⟨#[10]⟩ : ByteArray) := ⟨_, rfl⟩
        have l1 : S1.size = sb.size + T.size := by rw [hS1, ByteArray.size_append]
        have l2 : S2.size = S1.size + 1 := by rw [hS2, ByteArray.size_append, lsp]
        have l3 : S3.size = S2.size + Y.size := by rw [hS3, ByteArray.size_append]
        have l4 : S4.size = S3.size + 1 := by rw [hS4, ByteArray.size_append, lsp]
        have l5 : S5.size = S4.size + Z.size := by rw [hS5, ByteArray.size_append]
        have q1 : ∀ w, (Op.stringOp .add sb T).run Tryz.prog w = .ok (.string S1) w := fun w => by rw [hS1]; exact run_string_add_sum _ _ _ (by omega)
        have q2 : ∀ w, (Op.stringOp .add S1 ⟨#[32]⟩).run Tryz.prog w = .ok (.string S2) w := fun w => by rw [hS2]; exact run_string_add_sum _ _ _ (by omega)
        have q3 : ∀ w, (Op.stringOp .add S2 Y).run Tryz.prog w = .ok (.string S3) w := fun w => by rw [hS3]; exact run_string_add_sum _ _ _ (by omega)
        have q4 : ∀ w, (Op.stringOp .add S3 ⟨#[32]⟩).run Tryz.prog w = .ok (.string S4) w := fun w => by rw [hS4]; exact run_string_add_sum _ _ _ (by omega)
        have q5 : ∀ w, (Op.stringOp .add S4 Z).run Tryz.prog w = .ok (.string S5) w := fun w => by rw [hS5]; exact run_string_add_sum _ _ _ (by omega)
        have q6 : ∀ w, (Op.stringOp .add S5 ⟨#[10]⟩).run Tryz.prog w = .ok (.string S6) w := fun w => by rw [hS6]; exact run_string_add_sum _ _ _ (by omega)
        have HE : Hid (S6 = ⟨(linesB src (l.take (k + 1))).toArray⟩) := Lib.hid (by
          rw [hS6, hS5, hS4, hS3, hS2, hS1, HTK.out, linesB_snoc, hsb.out, hT, hY, hZ]
          have e1 : (⟨#[32]⟩ : ByteArray) = ⟨([32] : List UInt8).toArray⟩ := rfl
          have e2 : (⟨#[10]⟩ : ByteArray) = ⟨([10] : List UInt8).toArray⟩ := rfl
          rw [e1, e2, str_app, str_app, str_app, str_app, str_app, str_app]
          unfold lineB
          rw [← HX.out, ← HY.out, ← HZ.out, hgd]
          simp only [List.append_assoc])
        clear hS1 hS2 hS3 hS4 hS5 hS6 l1 l2 l3 l4 l5 lsp lnl lT lY lZ
        have HPT := Lib.hid (fun w => putS t (by omega) T hT w)
        have HPY := Lib.hid (fun w => putS y (by omega) Y hY w)
        have HPZ := Lib.hid (fun w => putS z hz64 Z hZ w)
        have HFP := Lib.hid (show fitsP src p = true from by unfold fitsP; rw [← HX.out, ← HLM.out]; simpa using hfx)
        have hB0 : Below w.heap.size w wr.drew := hB.out.drew
        have hk0 : wr.drew.cell? ⟨g, off + k * 3, none⟩ = some (.int .u32 (x : Int)) ∧ wr.drew.cell? ⟨sg, so + x, none⟩ = some (.int .u32 (t : Int)) ∧ wr.drew.cell? ⟨g, off + k * 3 + 1, none⟩ = some (.int .u32 (y : Int)) ∧ wr.drew.cell? ⟨g, off + k * 3 + 2, none⟩ = some (.int .u64 (z : Int)) := ⟨c0, cs, c1, c2⟩
        have hwt : IntKind.u64.wrap (t : Int) = t := IntWalk.u64_in _ (by omega)
        have hwy : IntKind.u64.wrap (y : Int) = y := IntWalk.u64_in _ (by omega)
        have HB0 := Lib.hid hB0
        have HGW := Lib.hid hgw
        have HSG := Lib.hid hsg
        clear ht hgd hT hY hZ hB0
        go_wp2_with fail
        go_region_held3 (fun w' => w'.cell? ⟨g, off + k * 3, none⟩ = some (.int .u32 (x : Int)) ∧ w'.cell? ⟨sg, so + x, none⟩ = some (.int .u32 (t : Int)) ∧ w'.cell? ⟨g, off + k * 3 + 1, none⟩ = some (.int .u32 (y : Int)) ∧ w'.cell? ⟨g, off + k * 3 + 2, none⟩ = some (.int .u64 (z : Int))) (first | exact hk0 | exact hk1 | exact hk2 | exact hk3) ((first | (go_at_call 30; (with_reducible refine (HPT.out _).mono ?_); rintro e w1 ⟨rfl, hB1⟩; have hkk := keep4 HB0.out HGW.out HSG.out hB1 hk0; have hk1 := hkk.1; have HB1 := Lib.hid hkk.2; clear hkk hB1; dsimp only) | (go_at_call 30; (with_reducible refine (HPY.out _).mono ?_); rintro e w2 ⟨rfl, hB2⟩; have hkk := keep4 HB1.out HGW.out HSG.out hB2 hk1; have hk2 := hkk.1; have HB2 := Lib.hid hkk.2; clear hkk hB2; dsimp only) | (go_at_call 30; (with_reducible refine (HPZ.out _).mono ?_); rintro e w3 ⟨rfl, hB3⟩; have hkk := keep4 HB2.out HGW.out HSG.out hB3 hk2; have hk3 := hkk.1; have HB3 := Lib.hid hkk.2; clear hkk hB3; dsimp only)))
        clear hk0 hk1 hk2 hk3 hwt hwy q1 q2 q3 q4 q5 q6
        go_wp2_with fail
        go_roundw
        case rel => exact ⟨k + 1, _, by omega, by simp, rfl, HE, Lib.hid (fun q hq => by
          rw [HTK.out] at hq
          rcases List.mem_append.1 hq with hq | hq
          · exact hfit.out q hq
          · rw [List.mem_singleton.1 hq]; exact HFP.out), HB3⟩
        case measure => simp [intOf]; omega
      · have hge : decide ((m : Int) ≤ (x : Int)) = true := by simp; omega
        have hge2 : decide (m ≤ x) = true := by simp; omega
        have HFP := Lib.hid (show fitsP src p = false from by unfold fitsP; rw [← HX.out, ← HLM.out]; simpa using hfx)
        go_wp2_with fail
        go_ret2
        exact ⟨.inr ⟨⟨p, HPM.out, HFP.out⟩, rfl⟩, hB.out⟩
    · obtain rfl : k = n := by omega
      have htk : l.take k = l := by rw [HLN.out, List.take_length]
      have hF := hfit.out
      have hsb2 := hsb.out
      rw [htk] at hF hsb2
      have HF := Lib.hid hF
      have HSB := Lib.hid hsb2
      clear htk hF hsb2
      go_wp2_with fail
      go_ret2
      exact ⟨.inl ⟨HF.out, by unfold strV; rw [← HSB.out]; rfl⟩, hB.out⟩
end Go.Proofs.YtndkohocgfmamaaGreat.Visit
