/- Layer 2: Fits. -/
import Derived.Test.YtfgjnpbffppocaaGreatMark
namespace Go.Proofs.YtfgjnpbffppocaaGreat.Crc
open Go.RowKit Go.Deep Mem

/-- The bytes bodyOf of a sum. -/
def bodyOf (bs : List UInt8) : List UInt8 := bs.take (bs.length - 4)
def fitsL (bs : List UInt8) : List UInt8 := if 4 ≤ bs.length ∧ marked (bodyOf bs) = bs then bodyOf bs else []
def fitsE (bs : List UInt8) : Int := if bs.length < 4 then 2 else if marked (bodyOf bs) = bs then 0 else 5
theorem bodyOf_length (bs : List UInt8) : (bodyOf bs).length = bs.length - 4 := by unfold bodyOf; rw [List.length_take]; omega
theorem bodyOf_mark (bs : List UInt8) : bodyOf (marked bs) = bs := by
  unfold bodyOf
  rw [mark_length, Nat.add_sub_cancel]
  unfold marked
  rw [List.take_append_of_le_length (Nat.le_refl _), List.take_of_length_le (Nat.le_refl _)]
theorem fits_mark (bs : List UInt8) : fitsL (marked bs) = bs ∧ fitsE (marked bs) = 0 := by
  unfold fitsL fitsE
  rw [bodyOf_mark, mark_length]
  exact ⟨by rw [if_pos ⟨by omega, rfl⟩], by rw [if_neg (by omega), if_pos rfl]⟩
set_option maxHeartbeats 2000000 in
theorem fits_any (a : Option Addr) (cp : Nat) (bs : List UInt8) (w : World) (h : Lies w a (bs.map bv)) (hcp : bs.length ≤ cp) (hm : bs.length ≤ 3000000) :
    Calls Tryz.prog 84 #[.slice a bs.length cp] w fun e w' => ∃ v, e = .returned (.tuple #[v, .int .i64 (fitsE bs)]) ∧ OwnB w' w.heap.size v (fitsL bs) ∧ Below w.heap.size w w' := by
  by_cases h4 : bs.length < 4
  · have e1 : fitsE bs = 2 := if_pos h4
    have e2 : fitsL bs = [] := if_neg (by omega)
    rw [e1, e2]
    clear h e1 e2
    go_enter Tryz.func84, Tryz.ntmps84
    go_wp2_with fail
    go_ret2
    exact ⟨_, rfl, World.ownsRow_nil _ _ _ _, Below.refl _ _⟩
  · obtain ⟨g, off, rfl, hg, hc⟩ := h.resolve_left (fun e => by
      rw [List.map_eq_nil_iff] at e
      subst e
      exact h4 (by decide))
    have hL : Lies w (some ⟨g, off, none⟩) (bs.map bv) := .inr ⟨g, off, rfl, hg, hc⟩
    have hL2 : Lies w (some ⟨g, off, none⟩) ((bodyOf bs).map bv) := by unfold bodyOf; rw [List.map_take]; exact hL.take _
    obtain ⟨m, hm4⟩ : ∃ m, bs.length = m + 4 := ⟨bs.length - 4, by omega⟩
    have hol : (bodyOf bs).length = m := by rw [bodyOf_length]; omega
    have hcl := clone_any (some ⟨g, off, none⟩) cp (bodyOf bs) w hL2 (by omega)
    rw [hol] at hcl
    have HCL := Lib.hid hcl
    have HL := Lib.hid hL
    have HO := Lib.hid hol
    have HM4 := Lib.hid hm4
    have hw : IntKind.i64.wrap ((m : Int) + 4 - 4) = m := by rw [show (m : Int) + 4 - 4 = m by omega]; exact IntWalk.i64_in _ (by omega)
    have hmc : m ≤ cp := by omega
    have e1 : fitsE bs = if marked (bodyOf bs) = bs then 0 else 5 := if_neg h4
    have E1 := Lib.hid e1
    rw [hm4]
    clear hc hg hL hL2 hol hcl e1 h4
    go_enter Tryz.func84, Tryz.ntmps84
    go_wp2_with fail
    refine HCL.out.mono ?_
    rintro e w1 ⟨v, rfl, hown, hB1⟩
    have hown2 : OwnB w1 w.heap.size v (bodyOf bs) := hown
    obtain ⟨a1, c1, e1, _, hl1, _, _⟩ := own_shape hown2
    subst e1
    have hmk := mark_any a1 c1 (bodyOf bs) w1 hl1 (by rw [HO.out]; omega)
    have HMK := Lib.hid hmk
    have HOW := Lib.hid hown2
    have HB1 := Lib.hid hB1
    have hs1 := hB1.size
    clear hown hown2 hl1 hmk hB1
    go_wp2_with fail
    refine HMK.out.mono ?_
    rintro e w2 ⟨v2, rfl, hown3, hB2⟩
    obtain ⟨a2, c2, e2, _, hl2, _, _⟩ := own_shape hown3
    subst e2
    have hs2 := hB2.size
    have heq := equal_any a2 (some ⟨g, off, none⟩) c2 cp (marked (bodyOf bs)) bs w2 hl2 ((HL.out.later HB1.out).later hB2) (by rw [mark_length, HO.out]; omega)
    have hml : (marked (bodyOf bs)).length = m + 4 := by rw [mark_length, HO.out]
    rw [hml, HM4.out] at heq
    rw [hml]
    have HE := Lib.hid heq
    have HB2 := Lib.hid (HB1.out.trans (hB2.mono hs1))
    have HO2 := Lib.hid (own_later HOW.out hB2)
    clear hl2 heq hB2 hown3 hml
    go_wp2_with fail
    refine HE.out.mono ?_
    rintro e w3 ⟨rfl, q, rfl⟩
    by_cases hy : marked (bodyOf bs) = bs
    · have hb : (marked (bodyOf bs) == bs) = true := by simpa using hy
      have e3 : fitsE bs = 0 := by rw [E1.out, if_pos hy]
      have e4 : fitsL bs = bodyOf bs := if_pos ⟨by rw [HM4.out]; omega, hy⟩
      rw [hb]
      have E3 := Lib.hid e3
      have E4 := Lib.hid e4
      clear hy hb e3 e4 HE
      go_wp2_with fail
      go_ret2
      refine ⟨_, by rw [E3.out]; rfl, ?_, below_drewN HB2.out q⟩
      rw [E4.out]
      exact HO2.out
    · have hb : (marked (bodyOf bs) == bs) = false := by simpa using hy
      have e3 : fitsE bs = 5 := by rw [E1.out, if_neg hy]
      have e4 : fitsL bs = [] := if_neg (fun h => hy h.2)
      rw [hb]
      have E3 := Lib.hid e3
      have E4 := Lib.hid e4
      clear hy hb e3 e4 HE
      go_wp2_with fail
      go_ret2
      refine ⟨_, by rw [E3.out]; rfl, ?_, below_drewN HB2.out q⟩
      rw [E4.out]
      exact World.ownsRow_nil _ _ _ _
end Go.Proofs.YtfgjnpbffppocaaGreat.Crc
