/- Layer 7: the law ExtentBack, walked. -/
import Derived.Test.YtdpfhpecidmllaaDoorPlays
import Derived.Deep.RegionWith
namespace Go.Proofs.YtdpfhpecidmllaaDoor.Ext
open Go.RowKit Go.Shelf Go.Deep Mem

theorem fits_taken : ∀ (l : List Int) (k : List Bool), l.Nodup → (∀ x ∈ l, 0 ≤ x ∧ x < k.length ∧ k.getD x.toNat true = false) → fits true (flips k l) l = true := by
  intro l
  induction l with
  | nil => intro k _ _; rfl
  | cons a r ih =>
    intro k hn h
    rw [List.nodup_cons] at hn
    have ha := h a (List.mem_cons_self ..)
    have e1 : flips k (a :: r) = flips (flipK k a.toNat) r := rfl
    have hne : ∀ x ∈ r, x.toNat ≠ a.toNat := fun x hx e => by
      have hx2 := h x (List.mem_cons_of_mem _ hx)
      have : x = a := by omega
      subst this
      exact hn.1 hx
    unfold fits
    have hk : k[a.toNat]? = some false := by
      have h3 := ha.2.2
      rw [List.getD_eq_getElem?_getD, List.getElem?_eq_getElem (by omega)] at h3
      rw [List.getElem?_eq_getElem (by omega)]
      simpa using h3
    have e2 : (flips k (a :: r)).getD a.toNat false = true := by
      rw [e1, List.getD_eq_getElem?_getD, flips_other r _ _ hne, flipK_at, if_pos rfl, hk]
      rfl
    rw [e2]
    simp only [beq_self_eq_true, Bool.true_and]
    rw [e1, flips_flipK, flipK_self]
    exact ih k hn.2 (fun x hx => h x (List.mem_cons_of_mem _ hx))
theorem back_law (k : List Bool) (n : Int) : turnE (takeK k n) (takeL k n) true = 0 ∧ turnK (takeK k n) (takeL k n) true = k := by
  have hm : ∀ x ∈ takeL k n, x ∈ freeL k := fun x hx => by
    unfold takeL at hx
    split at hx
    · simp at hx
    · exact List.mem_of_mem_take hx
  have hn : (takeL k n).Nodup := by
    unfold takeL
    split
    · exact List.nodup_nil
    · exact (frees_nodup _ _).sublist (List.take_sublist _ _)
  have h1 : (takeL k n).any (outs (takeK k n).length) = false := by
    have e : (takeK k n).length = k.length := flips_length _ _
    rw [e]
    exact (takeL_fits k n).2
  have h2 : fits true (takeK k n) (takeL k n) = true := fits_taken _ k hn (fun x hx => by
    obtain ⟨i, rfl, h3, h4⟩ := (frees_mem _ _ x).1 (hm x hx)
    exact ⟨by omega, by omega, by rw [Int.toNat_natCast]; exact h4⟩)
  unfold turnE turnK
  rw [h1, h2]
  exact ⟨rfl, flips_self _ _⟩

set_option maxHeartbeats 1000000 in
theorem back_walk (count n : Int) (a : Option Addr) (len cp : Nat) (l : List Act) (w : World) (hT : Tab w) (ha : Acts w a len l) :
    Calls Tryd.prog 4 #[.int .i64 count, .slice a len cp, .int .i64 n] w fun e w' => e = .returned (.bool true) ∧ Below w.heap.size w w' := by
  have HG := Lib.hid (great_any count a len cp l w ha)
  have HTAB := Lib.hid hT
  rcases hg : greatB count l with _ | _
  · rw [hg] at HG
    obtain ⟨g1, g2, g3⟩ := great_no hg
    have hlen := ha.len
    obtain ⟨c, hc⟩ : ∃ c : Nat, cnt count = c := ⟨(cnt count).toNat, by unfold cnt; omega⟩
    have hc2 : min (max count 0) 65536 = (c : Int) := hc
    have hc3 : c ≤ 300 := by unfold cnt at hc; omega
    obtain ⟨cap, hcap⟩ : ∃ cap, cap = ((cnt count + 63) / 64).toNat := ⟨_, rfl⟩
    have hnew := new_own count w hT
    rw [← hcap, hc, Int.toNat_natCast] at hnew
    have HN := Lib.hid hnew
    have hmk : ∀ w, (Instr.makeSlice 27 (.int .i64 c) (.int .i64 c)).run Tryd.prog w = .ok (.slice (some ⟨w.heap.size, 0, none⟩) c c) (w.alloc (.cells (madeCells #[.bool false] c) 4)) := fun w =>
      run_make_row' 27 4 (.bool false) 1 Tryd.underlying27 infoB rfl .i64 .i64 c (by omega) (by omega) w
    have HA := Lib.hid ha.cells
    have HG3 := Lib.hid g3
    clear hg ha hT hc g3 hcap hnew
    subst hlen
    go_enter Tryd.func4, Tryd.ntmps4
    go_wp2_with fail
    refine HG.out.mono ?_
    rintro e w' ⟨rfl, rfl⟩
    go_wp2_with fail
    refine HN.out.mono ?_
    rintro e w1 ⟨rfl, hO, hB⟩
    have HO := Lib.hid hO
    have HB := Lib.hid hB
    clear hO hB
    go_wp2_with fail
    go_loopw [8] (fun i wr => ∃ (j : Nat) (k : List Bool), j ≤ l.length ∧ i = .int .i64 j ∧ Hid (k.length = c) ∧ Hid (Own w.heap.size (w.heap.size + 1) w.heap.size cap k wr) ∧ Hid (Below w.heap.size w wr)) (fun i _ => l.length - (intOf i).toNat)
    case atStart => exact ⟨0, List.replicate c false, Nat.zero_le _, rfl, Lib.hid (by simp), HO, HB⟩
    case round =>
      obtain ⟨j, k, hj, rfl, hkl, hO, hB⟩ := hrel
      have hkb : k.length ≤ 300 := by rw [hkl.out]; exact hc3
      by_cases hlt : j < l.length
      · obtain ⟨t, ht⟩ : ∃ t, l[j]? = some t := ⟨_, List.getElem?_eq_getElem hlt⟩
        have hact := HA.out j t ht
        have htl := HG3.out t (List.mem_of_getElem? ht)
        obtain ⟨b, off, rfl, hb, a0, a1, a2⟩ := hact.at_
        have hlt1 := hO.out.map.lt
        have hs1 := hB.out.size
        have b0 := (hB.out.cell (p := ⟨b, off + j * 3, none⟩) hb).trans a0
        have b1 := (hB.out.cell (p := ⟨b, off + j * 3 + 1, none⟩) hb).trans a1
        have b2 := (hB.out.cell (p := ⟨b, off + j * 3 + 2, none⟩) hb).trans a2
        have HACT := Lib.hid hact
        have hbr : b < wr.heap.size := by omega
        have hal : Below wr.heap.size wr (wr.alloc (.cells (madeCells #[.bool false] c) 4)).drew := ((Below.refl wr.heap.size wr).alloc (Nat.le_refl _) (.cells (madeCells #[.bool false] c) 4)).drew
        have hB1 := hB.out.trans (hal.mono hs1)
        have hK1 : BK w.heap.size wr.heap.size c (List.replicate c false) (wr.alloc (.cells (madeCells #[.bool false] c) 4)).drew := (made_flags wr c (by omega)).mono hs1
        have hd := does_any _ _ _ _ _ _ t.cp t.a k _ t.kind t.n t.l _ (hO.out.later hal) hK1 (by rw [List.length_replicate]; omega) (hact.row htl hB1)
        rw [List.length_replicate] at hd
        have HD := Lib.hid hd
        have HB1 := Lib.hid hB1
        clear ht hact a0 a1 a2 hd hB1 hK1 hal
        go_wp2_with fail
        go_region_with (first | (go_at_call 9; refine (count_any count _).mono ?_; rintro e w' ⟨rfl, rfl⟩; rw [hc2]; dsimp only) | (go_at_call 11; refine HD.out.mono ?_; rintro e w3 ⟨x, gk', ck', rfl, _, hO3, _, ho3⟩; dsimp only))
        all_goals
          go_wp2_with fail
          refine ⟨⟨j + 1, actK k t.kind t.n t.l, by omega, by simp, Lib.hid (by rw [actK_length]; exact hkl.out), Lib.hid hO3, Lib.hid (HB1.out.trans (Only.below ho3 (by simp; omega) (by simp)))⟩, ?_⟩
          simp [intOf]; omega
      · obtain rfl : j = l.length := by omega
        have HCL := Lib.hid (clone_any _ _ _ k wr hO.out.map)
        have hlt1 := hO.out.map.lt
        have hs1 := hB.out.size
        go_wp2_with fail
        refine HCL.out.mono ?_
        rintro e w2 ⟨C', g', cap', rfl, hcl, hC', hg', hB2⟩
        have hO2 := hO.out.later hB2
        have HB2 := Lib.hid (hB.out.trans (hB2.mono hs1))
        have HTK := Lib.hid (take_any _ _ _ k n w2 hO2.map hO2.tab (Nat.succ_pos _) hO2.pos)
        have HO2 := Lib.hid hO2
        have HCL2 := Lib.hid hcl
        have hs2 := hB2.size
        clear hO2 hcl hB2 HCL
        go_wp2_with fail
        refine HTK.out.mono ?_
        rintro e w3 ⟨⟨xa, xc, rfl, hown⟩, hh, ho⟩
        have hO3 := HO2.out.step hh ho
        have hB3 := HO2.out.only ho
        have hs3 := ho.size
        have hc3' : Holds C' g' cap' k w3 := HCL2.out.only ho (by simp; omega) (by simp; omega)
        have HO3 := Lib.hid hO3
        have HB3 := Lib.hid (HB2.out.trans hB3)
        have HC3 := Lib.hid hc3'
        have HOW := Lib.hid hown
        clear hh ho hO3 hB3 hc3' hown
        by_cases hok : n < 0 ∨ (freeN k : Int) < n
        · have e1 : takeL k n = [] := by unfold takeL; rw [if_pos hok]
          have e2 : takeK k n = k := by unfold takeK; rw [e1]; rfl
          rw [e1]
          rw [e2] at HO3
          have el : ([] : List Int).length = 0 := rfl
          rw [el]
          clear el
          have HF := Lib.hid (free_freeN HO3.out.map)
          have HAW := fun q => Lib.hid (awake_any (w3.drewN q) (HO3.out.drewN q).tab)
          have hsz := HB3.out.size
          by_cases h0 : n < 0
          · have e3 : takeEr k n = 1 := if_pos h0
            have d0 : decide (n < 0) = true := by simpa using h0
            rw [e3]
            clear e1 e2 e3 hok h0
            go_wp2_with fail
            refine (HAW 0).out.mono ?_
            rintro e w7 ⟨rfl, hB7⟩
            go_wp2_with fail
            go_ret
            exact ⟨rfl, HB3.out.trans (hB7.mono hsz)⟩
          · have h1 : (freeN k : Int) < n := by omega
            have e3 : takeEr k n = 7 := by unfold takeEr; rw [if_neg h0, if_pos h1]
            have d0 : decide (n < 0) = false := by simpa using h0
            have d1 : decide ((freeN k : Int) < n) = true := by simpa using h1
            rw [e3]
            clear e1 e2 e3 hok h0 h1
            go_wp2_with fail
            refine HF.out.mono ?_
            rintro e w4 ⟨rfl, q, rfl⟩
            go_wp2_with fail
            refine (HAW q).out.mono ?_
            rintro e w7 ⟨rfl, hB7⟩
            go_wp2_with fail
            go_ret
            exact ⟨rfl, (below_drewN HB3.out q).trans (hB7.mono (by exact hsz))⟩
        · have e3 : takeEr k n = 0 := by unfold takeEr; rw [if_neg (by omega), if_neg (by omega)]
          have hl1 : (takeL k n).length ≤ 100000 := by have := takeL_len k n; omega
          have hrow : Row w3 [w.heap.size + 1, w.heap.size] xa xc (takeL k n) := row_of_own HOW.out (by simp; omega) hl1
          have hgv := give_any _ _ _ xc xa (takeK k n) (takeL k n) w3 HO3.out.map hrow
          rw [(back_law k n).1, (back_law k n).2] at hgv
          have HGV := Lib.hid hgv
          rw [e3]
          clear e3 hok hrow hgv
          go_wp2_with fail
          refine HGV.out.mono ?_
          rintro e w4 ⟨rfl, hh, ho⟩
          have hs4 := ho.size
          have HO4 := Lib.hid (HO3.out.step hh ho)
          have HB4 := Lib.hid (HB3.out.trans (HO3.out.only ho))
          have HC4 := Lib.hid (HC3.out.only ho (by simp; omega) (by simp; omega))
          clear hh ho
          go_wp2_with fail
          go_loopw [12] (fun i wr => ∃ m : Nat, m ≤ c ∧ i = .int .i64 m ∧ w4 = wr) (fun i _ => c - (intOf i).toNat)
          case atStart => exact ⟨0, Nat.zero_le _, rfl, rfl⟩
          case round =>
            obtain ⟨m, hm, rfl, rfl⟩ := hrel
            have HI1 := Lib.hid (is_holds HO4.out.map m)
            have HI2 := Lib.hid (is_holds HC4.out m)
            obtain ⟨x, hx⟩ : ∃ x, x = isK k m := ⟨_, rfl⟩
            rw [← hx] at HI1 HI2
            clear hx
            by_cases hmc : m < c
            · go_wp2_with fail
              refine (count_any count _).mono ?_
              rintro e w' ⟨rfl, rfl⟩
              rw [hc2]
              go_wp2_with fail
              refine HI1.out.mono ?_
              rintro e w' ⟨rfl, rfl⟩
              go_wp2_with fail
              refine HI2.out.mono ?_
              rintro e w' ⟨rfl, rfl⟩
              go_wp2_with fail
              refine ⟨⟨m + 1, by omega, by simp, trivial⟩, ?_⟩
              simp [intOf]; omega
            · have HF1 := Lib.hid (free_freeN HO4.out.map)
              have HF2 := fun q => Lib.hid (free_freeN (HC4.out.drewN q))
              have HAW := fun q => Lib.hid (awake_any (w4.drewN q) (HO4.out.drewN q).tab)
              have hsz := HB4.out.size
              go_wp2_with fail
              refine (count_any count _).mono ?_
              rintro e w' ⟨rfl, rfl⟩
              rw [hc2]
              go_wp2_with fail
              refine HF1.out.mono ?_
              rintro e w5 ⟨rfl, q1, rfl⟩
              go_wp2_with fail
              refine (HF2 _).out.mono ?_
              rintro e w5 ⟨rfl, q2, rfl⟩
              go_wp2_with fail
              refine (HAW _).out.mono ?_
              rintro e w7 ⟨rfl, hB7⟩
              go_wp2_with fail
              go_ret
              exact ⟨rfl, (below_drewN HB4.out _).trans (hB7.mono (by exact hsz))⟩
  · rw [hg] at HG
    have HAW := Lib.hid (awake_any w hT)
    clear hg ha hT
    go_enter Tryd.func4, Tryd.ntmps4
    go_wp2_with fail
    refine HG.out.mono ?_
    rintro e w' ⟨rfl, rfl⟩
    go_wp2_with fail
    refine HAW.out.mono ?_
    rintro e w1 ⟨rfl, hB⟩
    go_wp2_with fail
    go_ret
    exact ⟨rfl, hB⟩
end Go.Proofs.YtdpfhpecidmllaaDoor.Ext
