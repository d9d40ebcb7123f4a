/- Layer 7: turn. -/
import Derived.Test.YtdpfhpecidmllaaDoorHolds
namespace Go.Proofs.YtdpfhpecidmllaaDoor.Ext
open Go.RowKit Go.Shelf Mem

theorem only_cell {bs : List Nat} {w w' : World} (h : Only bs w w') {p : Addr} (hp : p.block < w.heap.size) (hn : p.block ∉ bs) : w'.cell? p = w.cell? p := by
  have e := h.block p.block hp hn
  unfold World.cell?
  rw [e]
theorem Ints.only {w w' : World} {bs : List Nat} {b off : Nat} {l : List Int} (h : Ints w b off l) (hB : Only bs w w') (hb : b < w.heap.size) (hn : b ∉ bs) : Ints w' b off l := fun i x hx => (only_cell hB (p := ⟨b, off + i, none⟩) hb hn).trans (h i x hx)

set_option maxHeartbeats 4000000 in
theorem turn_any (C g cap b off cp : Nat) (k : List Bool) (l : List Int) (taken : Bool) (w : World) (h : Holds C g cap k w) (hl : Ints w b off l) (hb : b < w.heap.size) (hbC : b ≠ C) (hbg : b ≠ g) (hlen : l.length ≤ 100000) (hcp : l.length ≤ cp) :
    Calls Tryd.prog 23 #[.pointer (some ⟨C, 0, none⟩), .slice (some ⟨b, off, none⟩) l.length cp, .bool taken] w fun e w' => e = .returned (.int .i64 (turnE k l taken)) ∧ Holds C g cap (turnK k l taken) w' ∧ Only [C, g] w w' := by
  have c1 := h.map.cell 1
  simp at c1
  have hw1 : Below w.heap.size w (w.alloc (.cells #[.int .i64 k.length] 3)) := (Below.refl _ w).alloc (Nat.le_refl _) _
  have HC := Lib.hid (contains_any w.heap.size b off cp k.length l (w.alloc (.cells #[.int .i64 k.length] 3)) ((Blk.new w _ _).cell 0) (hl.below hw1 hb) hlen)
  have HH := Lib.hid (h.later hw1)
  have HB := Lib.hid hw1
  have HL := Lib.hid hl
  have hCw := h.lt.1
  clear hw1 hl
  rcases hany : l.any (outs k.length) with _ | _
  · rw [hany] at HC
    have HA := Lib.hid hany
    clear hany
    go_enter Tryd.func23, Tryd.ntmps23
    go_wp2_with (go_at_call 24; refine HC.out.mono ?_; rintro e w1 ⟨rfl, rfl⟩)
    go_loopw [23] (fun i wr => ∃ n : Nat, n ≤ l.length ∧ i = .int .i64 n ∧ Hid (fits taken k (l.take n) = true) ∧ Hid (Holds C g cap (flips k (l.take n)) wr) ∧ Hid (Only [C, g] w wr)) (fun i _ => l.length - (intOf i).toNat)
    case atStart => exact ⟨0, Nat.zero_le _, rfl, Lib.hid rfl, HH.out, Only.of_below HB.out⟩
    case round =>
      obtain ⟨n, hn, rfl, hfit, hh, ho⟩ := hrel
      by_cases hlt : n < l.length
      · obtain ⟨x, hx⟩ : ∃ x, l[n]? = some x := ⟨_, List.getElem?_eq_getElem hlt⟩
        have f1 := (HL.out.only ho.out hb (by simp [hbC, hbg])) n x hx
        have hin : 0 ≤ x ∧ x < k.length := by
          have := List.any_eq_false.1 HA.out x (List.mem_of_getElem? hx)
          unfold outs at this
          simp at this
          omega
        obtain ⟨hx0, hx1⟩ := hin
        have HX := Lib.hid hx
        have HF := Lib.hid (fits_take taken l k n x hfit.out hx)
        have HI := Lib.hid (is_holds hh.out x)
        obtain ⟨ans, hans⟩ : ∃ ans, ans = isK (flips k (l.take n)) x := ⟨_, rfl⟩
        rw [← hans] at HI
        have HN := Lib.hid hans
        clear hans hx
        by_cases hq : ans = taken
        · subst hq
          have HFL := Lib.hid (flip_holds hh.out x hx0 (by rw [flips_length]; exact hx1))
          go_wp2_with (first | (go_at_call 14; refine HI.out.mono ?_; rintro e w1 ⟨rfl, rfl⟩) | (go_at_call 26; refine HFL.out.mono ?_; rintro e w1 ⟨rfl, hh1, ho1⟩))
          have efit : fits ans k (l.take (n + 1)) = true := by
            rw [HF.out]
            have := HN.out
            unfold isK at this
            rw [this]
            simp [hx0]
          refine ⟨⟨n + 1, by omega, by simp, Lib.hid efit, ?_, Lib.hid (ho.out.trans ho1)⟩, ?_⟩
          · rw [flips_snoc k l n x HX.out]
            exact hh1
          · simp [intOf]; omega
        · have ht : (ans == taken) = false := by simpa using hq
          have hno : fits taken k l = false := fits_no taken l k (n + 1) (by
            rw [HF.out]
            have := HN.out
            unfold isK at this
            simp [hx0] at this
            simp
            rw [← this]
            exact hq)
          have e1 : turnE k l taken = 13 := by unfold turnE; rw [HA.out, hno]; rfl
          have e2 : turnK k l taken = k := by unfold turnK; rw [HA.out, hno]; rfl
          have E1 := Lib.hid e1
          have E2 := Lib.hid e2
          have hncp : n ≤ cp := by omega
          have HO := Lib.hid ho.out
          have HK := Lib.hid hh.out
          have HNO := Lib.hid hno
          clear hno e1 e2 ho hh hfit hq
          go_wp2_with (go_at_call 14; refine HI.out.mono ?_; rintro e w1 ⟨rfl, rfl⟩)
          go_loopw [37] (fun i wq => ∃ j : Nat, j ≤ n ∧ i = .int .i64 j ∧ Hid (Holds C g cap (flips (flips k (l.take n)) ((l.take n).take j)) wq) ∧ Hid (Only [C, g] w wq)) (fun i _ => n - (intOf i).toNat)
          case atStart => exact ⟨0, Nat.zero_le _, rfl, HK.out, HO.out⟩
          case round =>
            obtain ⟨j, hj, rfl, hh, ho⟩ := hrel
            by_cases hjn : j < n
            · obtain ⟨y, hy⟩ : ∃ y, l[j]? = some y := ⟨_, List.getElem?_eq_getElem (by omega)⟩
              have f1 := (HL.out.only ho.out hb (by simp [hbC, hbg])) j y hy
              have hin : 0 ≤ y ∧ y < k.length := by
                have := List.any_eq_false.1 HA.out y (List.mem_of_getElem? hy)
                unfold outs at this
                simp at this
                omega
              obtain ⟨hy0, hy1⟩ := hin
              have HFL := Lib.hid (flip_holds hh.out y hy0 (by rw [flips_length, flips_length]; exact hy1))
              have HY := Lib.hid hy
              clear hy
              go_wp2_with (go_at_call 26; refine HFL.out.mono ?_; rintro e w1 ⟨rfl, hh1, ho1⟩)
              refine ⟨⟨j + 1, by omega, by simp, ?_, Lib.hid (ho.out.trans ho1)⟩, ?_⟩
              · rw [flips_snoc _ (l.take n) j y (by rw [List.getElem?_take, if_pos hjn]; exact HY.out)]
                exact hh1
              · simp [intOf]; omega
            · obtain rfl : j = n := by omega
              have hh2 := hh.out
              rw [show (l.take j).take j = l.take j by simp [List.take_take], flips_self] at hh2
              have HH2 := Lib.hid hh2
              clear hh2 hh
              go_wp2_with fail
              go_ret
              exact ⟨by rw [E1.out]; rfl, by rw [E2.out]; exact HH2.out, ho.out⟩
      · obtain rfl : n = l.length := by omega
        have hfit2 := hfit.out
        have hh2 := hh.out
        rw [List.take_of_length_le (Nat.le_refl _)] at hfit2 hh2
        have e1 : turnE k l taken = 0 := by unfold turnE; rw [HA.out, hfit2]; rfl
        have e2 : turnK k l taken = flips k l := by unfold turnK; rw [HA.out, hfit2]; rfl
        have E1 := Lib.hid e1
        have E2 := Lib.hid e2
        have HH2 := Lib.hid hh2
        clear hh2 hh hfit2 hfit e1 e2
        go_wp2_with fail
        go_ret
        exact ⟨by rw [E1.out]; rfl, by rw [E2.out]; exact HH2.out, ho.out⟩
  · rw [hany] at HC
    have e1 : turnE k l taken = 9 := by unfold turnE; rw [hany]; rfl
    have e2 : turnK k l taken = k := by unfold turnK; rw [hany]; rfl
    rw [e1, e2]
    clear e1 e2 hany
    go_enter Tryd.func23, Tryd.ntmps23
    go_wp2_with (go_at_call 24; refine HC.out.mono ?_; rintro e w1 ⟨rfl, rfl⟩)
    go_ret
    exact ⟨rfl, HH.out, Only.of_below HB.out⟩
end Go.Proofs.YtdpfhpecidmllaaDoor.Ext
