/- Layer 7: awake; the law ExtentNil, walked. -/
import Derived.Test.YtdpfhpecidmllaaDoorArgs
namespace Go.Proofs.YtdpfhpecidmllaaDoor.Ext
open Go.RowKit Go.Shelf Go.Deep Mem

set_option maxHeartbeats 2000000 in
theorem awake_any (w : World) (hT : Tab w) : Calls Tryd.prog 7 #[] w fun e w' => e = .returned (.bool true) ∧ Below w.heap.size w w' := by
  have HN := Lib.hid (new_own 3 w hT)
  clear hT
  go_enter Tryd.func7, Tryd.ntmps7
  go_wp2_with fail
  refine HN.out.mono ?_
  rintro e w1 ⟨rfl, hO, hB⟩
  have hk : List.replicate (cnt 3).toNat false = [false, false, false] := by decide
  rw [hk] at hO
  have hs1 := hO.map.lt
  have hw := (Below.refl w1.heap.size w1).alloc (Nat.le_refl _) (.cells #[.int .i64 1] 3)
  have hO2 := hO.later hw
  have hrow : Row (w1.alloc (.cells #[.int .i64 1] 3)) [w.heap.size + 1, w.heap.size] (some ⟨w1.heap.size, 0, none⟩) 1 [1] := by
    refine ⟨Nat.le_refl _, by simp, .inr ⟨w1.heap.size, 0, rfl, by simp, by simp; omega, fun i x hx => ?_⟩⟩
    match i, hx with
    | 0, hx =>
      simp at hx
      subst hx
      exact (Blk.new w1 3 #[.int .i64 1]).cell 0
  have hH := hold_any _ _ _ _ _ _ _ _ hO2.map hrow
  have e1 : turnE [false, false, false] [1] false = 0 := by decide
  have e2 : turnK [false, false, false] [1] false = [false, true, false] := by decide
  rw [e1, e2] at hH
  have HH := Lib.hid hH
  have HO2 := Lib.hid hO2
  have HB := Lib.hid (hB.trans (hw.mono hB.size))
  have hBs := hB.size
  clear hH hO2 hO hrow hw hB
  go_wp2_with fail
  refine HH.out.mono ?_
  rintro e w2 ⟨rfl, hh, ho⟩
  have hO3 := HO2.out.step hh ho
  have hB3 := HO2.out.only ho
  have HTK := Lib.hid (take_any _ _ _ _ 2 w2 hO3.map hO3.tab (by omega) (by have := hO3.pos; omega))
  have HO3 := Lib.hid hO3
  have HB3 := Lib.hid (HB.out.trans hB3)
  clear hh ho hO3 hB3
  go_wp2_with fail
  refine HTK.out.mono ?_
  rintro e w3 ⟨⟨a, cp, rfl, hown⟩, hh, ho⟩
  have e3 : takeL [false, true, false] 2 = [0, 2] := by decide
  have e4 : takeEr [false, true, false] 2 = 0 := by decide
  rw [e3] at hown
  rw [e3, e4]
  have hB4 := HO3.out.only ho
  have HB4 := Lib.hid (HB3.out.trans hB4)
  obtain ⟨a', cap', e, _, hf⟩ := own_form hown
  cases e
  obtain ⟨q, rfl, _, _, hcs⟩ := hf (by decide)
  have c0 := hcs 0 (.int .i64 0) rfl
  have c1 := hcs 1 (.int .i64 2) rfl
  have el : ([0, 2] : List Int).length = 2 := rfl
  rw [el]
  clear hcs hf hown hh ho hB4
  go_wp2_with fail
  go_ret
  exact ⟨rfl, HB4.out⟩

set_option maxHeartbeats 4000000 in
theorem nil_walk (i n count : Int) (w : World) (hT : Tab w) :
    Calls Tryd.prog 5 #[.int .i64 i, .int .i64 n, .int .i64 count] w fun e w' => e = .returned (.bool true) ∧ Below w.heap.size w w' := by
  have HT := Lib.hid (take_nil n w)
  have HTAB := Lib.hid hT
  clear hT
  go_enter Tryd.func5, Tryd.ntmps5
  go_wp2_with fail
  refine HT.out.mono ?_
  rintro e w1 ⟨rfl, hB1⟩
  have HB1 := Lib.hid hB1
  clear hB1
  have hs1 := HB1.out.size
  have hc := (Blk.new w1 3 #[.int .i64 i]).cell 0
  have HH := Lib.hid (hold_out i w1.heap.size 0 (w1.alloc (.cells #[.int .i64 i] 3)) hc (by simp))
  have hal := (Below.refl w1.heap.size w1).alloc (Nat.le_refl _) (.cells #[.int .i64 i] 3)
  have HAL := Lib.hid hal
  clear hal hc
  by_cases h0 : n < 0
  · have d0 : decide (n < 0) = true := by simpa using h0
    have et : takeE n = 1 := if_pos h0
    have n0 : (n == 0) = false := by simp; omega
    rw [et]
    clear h0 et
    go_wp2_with fail
    refine HH.out.mono ?_
    rintro e w2 ⟨rfl, hB2⟩
    have hs2 := hB2.size
    simp at hs2
    have hg := give_out i w2.heap.size 0 (w2.alloc (.cells #[.int .i64 i] 3)) ((Blk.new w2 3 #[.int .i64 i]).cell 0) (by simp)
    have HG := Lib.hid hg
    have HB2 := Lib.hid (HB1.out.trans ((HAL.out.trans (hB2.mono (by simp))).mono hs1))
    clear hg hB2
    go_wp2_with fail
    refine HG.out.mono ?_
    rintro e w3 ⟨rfl, hB3⟩
    have hs3 := hB3.size
    simp at hs3
    have HB3 := Lib.hid (HB2.out.trans (((Below.refl w2.heap.size w2).alloc (Nat.le_refl _) (.cells #[.int .i64 i] 3) |>.trans (hB3.mono (by simp))).mono (by omega)))
    have HN := Lib.hid (hold_none w3)
    clear hB3
    go_wp2_with (first | (go_at_call 12; refine (free_nil _).mono ?_; rintro e w' ⟨rfl, rfl⟩) | (go_at_call 14; refine (is_nil _ _).mono ?_; rintro e w' ⟨rfl, rfl⟩) | (go_at_call 10; refine (clone_nil _).mono ?_; rintro e w' ⟨rfl, rfl⟩))
    refine HN.out.mono ?_
    rintro e w4 ⟨rfl, hB4⟩
    have HB4 := Lib.hid (HB3.out.trans (hB4.mono (by omega)))
    clear hB4
    go_wp2_with fail
    refine (new_own count w4 (HTAB.out.below HB4.out HTAB.out.lt)).mono ?_
    rintro e w5 ⟨rfl, hO, hB5⟩
    have HF := Lib.hid (free_holds hO.map)
    have hT5 := hO.tab
    have hs4 := HB4.out.size
    have HB5 := Lib.hid (HB4.out.trans (hB5.mono hs4))
    have HAW := fun q => Lib.hid (awake_any (w5.drewN q) (hT5.below (below_drewN (Below.refl 1 _) q) Nat.one_pos))
    have el : ((List.replicate (cnt count).toNat false).length : Int) - tak (List.replicate (cnt count).toNat false) = min (max count 0) 65536 := by
      unfold tak
      rw [List.count_replicate, List.length_replicate]
      unfold cnt
      simp
      omega
    rw [el] at HF
    clear hO hB5 hT5 el
    go_wp2_with fail
    refine HF.out.mono ?_
    rintro e w6 ⟨rfl, q, rfl⟩
    go_wp2_with (first | (go_at_call 9; refine (count_any count _).mono ?_; rintro e w' ⟨rfl, rfl⟩) | (go_at_call 7; refine (HAW q).out.mono ?_; rintro e w7 ⟨rfl, hB7⟩))
    go_ret
    exact ⟨rfl, (below_drewN HB5.out q).trans (hB7.mono (by have := HB5.out.size; exact this))⟩
  by_cases h1 : 0 < n
  · have d0 : decide (n < 0) = false := by simpa using h0
    have et : takeE n = 7 := by unfold takeE; rw [if_neg h0, if_pos h1]
    have n0 : (n == 0) = false := by simp; omega
    rw [et]
    clear h0 et h1
    go_wp2_with fail
    refine HH.out.mono ?_
    rintro e w2 ⟨rfl, hB2⟩
    have hs2 := hB2.size
    simp at hs2
    have hg := give_out i w2.heap.size 0 (w2.alloc (.cells #[.int .i64 i] 3)) ((Blk.new w2 3 #[.int .i64 i]).cell 0) (by simp)
    have HG := Lib.hid hg
    have HB2 := Lib.hid (HB1.out.trans ((HAL.out.trans (hB2.mono (by simp))).mono hs1))
    clear hg hB2
    go_wp2_with fail
    refine HG.out.mono ?_
    rintro e w3 ⟨rfl, hB3⟩
    have hs3 := hB3.size
    simp at hs3
    have HB3 := Lib.hid (HB2.out.trans (((Below.refl w2.heap.size w2).alloc (Nat.le_refl _) (.cells #[.int .i64 i] 3) |>.trans (hB3.mono (by simp))).mono (by omega)))
    have HN := Lib.hid (hold_none w3)
    clear hB3
    go_wp2_with (first | (go_at_call 12; refine (free_nil _).mono ?_; rintro e w' ⟨rfl, rfl⟩) | (go_at_call 14; refine (is_nil _ _).mono ?_; rintro e w' ⟨rfl, rfl⟩) | (go_at_call 10; refine (clone_nil _).mono ?_; rintro e w' ⟨rfl, rfl⟩))
    refine HN.out.mono ?_
    rintro e w4 ⟨rfl, hB4⟩
    have HB4 := Lib.hid (HB3.out.trans (hB4.mono (by omega)))
    clear hB4
    go_wp2_with fail
    refine (new_own count w4 (HTAB.out.below HB4.out HTAB.out.lt)).mono ?_
    rintro e w5 ⟨rfl, hO, hB5⟩
    have HF := Lib.hid (free_holds hO.map)
    have hT5 := hO.tab
    have hs4 := HB4.out.size
    have HB5 := Lib.hid (HB4.out.trans (hB5.mono hs4))
    have HAW := fun q => Lib.hid (awake_any (w5.drewN q) (hT5.below (below_drewN (Below.refl 1 _) q) Nat.one_pos))
    have el : ((List.replicate (cnt count).toNat false).length : Int) - tak (List.replicate (cnt count).toNat false) = min (max count 0) 65536 := by
      unfold tak
      rw [List.count_replicate, List.length_replicate]
      unfold cnt
      simp
      omega
    rw [el] at HF
    clear hO hB5 hT5 el
    go_wp2_with fail
    refine HF.out.mono ?_
    rintro e w6 ⟨rfl, q, rfl⟩
    go_wp2_with (first | (go_at_call 9; refine (count_any count _).mono ?_; rintro e w' ⟨rfl, rfl⟩) | (go_at_call 7; refine (HAW q).out.mono ?_; rintro e w7 ⟨rfl, hB7⟩))
    go_ret
    exact ⟨rfl, (below_drewN HB5.out q).trans (hB7.mono (by have := HB5.out.size; exact this))⟩
  · have d0 : decide (n < 0) = false := by simpa using h0
    have et : takeE n = 0 := by unfold takeE; rw [if_neg h0, if_neg h1]
    have n0 : (n == 0) = true := by simp; omega
    rw [et]
    clear h0 et h1
    go_wp2_with fail
    refine HH.out.mono ?_
    rintro e w2 ⟨rfl, hB2⟩
    have hs2 := hB2.size
    simp at hs2
    have hg := give_out i w2.heap.size 0 (w2.alloc (.cells #[.int .i64 i] 3)) ((Blk.new w2 3 #[.int .i64 i]).cell 0) (by simp)
    have HG := Lib.hid hg
    have HB2 := Lib.hid (HB1.out.trans ((HAL.out.trans (hB2.mono (by simp))).mono hs1))
    clear hg hB2
    go_wp2_with fail
    refine HG.out.mono ?_
    rintro e w3 ⟨rfl, hB3⟩
    have hs3 := hB3.size
    simp at hs3
    have HB3 := Lib.hid (HB2.out.trans (((Below.refl w2.heap.size w2).alloc (Nat.le_refl _) (.cells #[.int .i64 i] 3) |>.trans (hB3.mono (by simp))).mono (by omega)))
    have HN := Lib.hid (hold_none w3)
    clear hB3
    go_wp2_with (first | (go_at_call 12; refine (free_nil _).mono ?_; rintro e w' ⟨rfl, rfl⟩) | (go_at_call 14; refine (is_nil _ _).mono ?_; rintro e w' ⟨rfl, rfl⟩) | (go_at_call 10; refine (clone_nil _).mono ?_; rintro e w' ⟨rfl, rfl⟩))
    refine HN.out.mono ?_
    rintro e w4 ⟨rfl, hB4⟩
    have HB4 := Lib.hid (HB3.out.trans (hB4.mono (by omega)))
    clear hB4
    go_wp2_with fail
    refine (new_own count w4 (HTAB.out.below HB4.out HTAB.out.lt)).mono ?_
    rintro e w5 ⟨rfl, hO, hB5⟩
    have HF := Lib.hid (free_holds hO.map)
    have hT5 := hO.tab
    have hs4 := HB4.out.size
    have HB5 := Lib.hid (HB4.out.trans (hB5.mono hs4))
    have HAW := fun q => Lib.hid (awake_any (w5.drewN q) (hT5.below (below_drewN (Below.refl 1 _) q) Nat.one_pos))
    have el : ((List.replicate (cnt count).toNat false).length : Int) - tak (List.replicate (cnt count).toNat false) = min (max count 0) 65536 := by
      unfold tak
      rw [List.count_replicate, List.length_replicate]
      unfold cnt
      simp
      omega
    rw [el] at HF
    clear hO hB5 hT5 el
    go_wp2_with fail
    refine HF.out.mono ?_
    rintro e w6 ⟨rfl, q, rfl⟩
    go_wp2_with (first | (go_at_call 9; refine (count_any count _).mono ?_; rintro e w' ⟨rfl, rfl⟩) | (go_at_call 7; refine (HAW q).out.mono ?_; rintro e w7 ⟨rfl, hB7⟩))
    go_ret
    exact ⟨rfl, (below_drewN HB5.out q).trans (hB7.mono (by have := HB5.out.size; exact this))⟩
end Go.Proofs.YtdpfhpecidmllaaDoor.Ext
