/- Layer 7: the reference's Turn. -/
import Derived.Test.YtdpfhpecidmllaaDoorRefs
namespace Go.Proofs.YtdpfhpecidmllaaDoor.Ext
open Go.RowKit Go.Shelf Go.Deep Mem

theorem infoB : (Tryd.prog.info? 4).map (fun i => (i.zero, i.size, i.bytes)) = some (some (.bool false), 1, 1) := by kernel_rfl
/-- Flags as the source of an append. -/
theorem flags_src {B g cp : Nat} {k : List Bool} {w : World} (h : BK B g cp k w) (o : Obj) : (∀ j u, (k.map Value.bool)[j]? = some u → (w.alloc o).cell? ((⟨g, 0, none⟩ : Addr).add j) = some u) := fun j u hu => by
  have e : (⟨g, 0, none⟩ : Addr).add j = ⟨g, j, none⟩ := by unfold Addr.add; split <;> simp_all
  have hx : ∃ x, k[j]? = some x ∧ u = .bool x := by
    rw [List.getElem?_map] at hu
    cases hk : k[j]? with
    | none => rw [hk] at hu; simp at hu
    | some x => rw [hk] at hu; exact ⟨x, rfl, by simpa using hu.symm⟩
  obtain ⟨x, hx, rfl⟩ := hx
  rw [e]
  have hB := (Below.refl w.heap.size w).alloc (Nat.le_refl _) o
  exact (hB.cell (p := ⟨g, j, none⟩) h.lt.2).trans (h.cell j x hx)
theorem flags_one (k : List Bool) : ∀ u ∈ k.map Value.bool, u.oneCell' = true := fun u hu => by
  obtain ⟨x, _, rfl⟩ := List.mem_map.1 hu
  rfl
theorem getD_set_of {k : List Bool} {x : Bool} {i : Nat} (h : k[i]? = some x) : k.getD i false = x := by
  rw [List.getD_eq_getElem?_getD, h]; rfl
theorem flipK_is {k : List Bool} {i : Nat} {t : Bool} (h : k[i]? = some t) : k.set i (!t) = flipK k i := by
  unfold flipK
  rw [getD_set_of h]

set_option maxHeartbeats 4000000 in
theorem ref_turn (B g cp cl : Nat) (a : Option Addr) (k : List Bool) (l : List Int) (taken : Bool) (w : World) (h : BK B g cp k w) (hl : Row w [] a cl l) (hk : k.length ≤ 65536) :
    Calls Tryd.prog 19 #[.slice (some ⟨g, 0, none⟩) k.length cp, .slice a l.length cl, .bool taken] w fun e w' => ∃ g' cp', e = .returned (.tuple #[.slice (some ⟨g', 0, none⟩) (turnK k l taken).length cp', .int .i64 (turnE k l taken)]) ∧ BK B g' cp' (turnK k l taken) w' ∧ Below w.heap.size w w' := by
  obtain ⟨i0, hi0, hz0, hz1, hz2⟩ := info_parts infoB
  have hlen := hl.len
  have hBw : B ≤ w.heap.size := Nat.le_trans h.lt.1 (Nat.le_of_lt h.lt.2)
  have hal := (Below.refl w.heap.size w).alloc (Nat.le_refl _) (.cells #[] 4)
  have hown : (w.alloc (.cells #[] 4)).ownsRow w.heap.size 4 1 (.slice (some ⟨w.heap.size, 0, none⟩) 0 0) 0 [] := World.ownsRow_lit w #[] 0 (Nat.le_refl _) (by decide) rfl
  have HS := Lib.hid (flags_src h (.cells #[] 4))
  have H1 := Lib.hid (flags_one k)
  have HH := Lib.hid h
  have HA := Lib.hid hal
  have hcell : ∀ n x, l[n]? = some x → ∃ b off, a = some ⟨b, off, none⟩ ∧ b < w.heap.size ∧ w.cell? ⟨b, off + n, none⟩ = some (.int .i64 x) := fun n x hx => by
    rcases hl.lies with rfl | ⟨b1, o1, e1, hb, _, i1⟩
    · simp at hx
    · exact ⟨b1, o1, e1, hb, i1 n x hx⟩
  have HC := Lib.hid hcell
  clear hal h hl hcell
  go_enter Tryd.func19, Tryd.ntmps19
  go_wp2_with (first | (at_builtin; refine wpList_append_own _ rfl _ _ 27 rfl w.heap.size 4 i0 (.bool false) 1 1 Tryd.underlying27 hi0 hz0 hz1 hz2 rfl (by decide) _ _ _ rfl hown ⟨g, 0, none⟩ k.length cp (k.map Value.bool) rfl ?c1 HS.out H1.out ?c3 ?c4 ?c5 ?_))
  case c1 => simp
  case c3 => unfold maxLen; omega
  case c4 => omega
  case c5 => simp
  intro v' w1 hown1 hgrow1 hv
  have hB1 : Below w.heap.size w w1 := HA.out.grown hgrow1 (by simp) (fun q hq => (hown.lt q hq).1)
  obtain ⟨g', cp', e⟩ : ∃ g' cap', v' = .slice (some ⟨g', 0, none⟩) k.length cap' := by
    rcases hown1.2 with ⟨h0, _⟩ | ⟨g', cap', cur, e, _⟩
    · exact absurd h0 hv
    · exact ⟨g', cap', e⟩
  subst e
  have HO := Lib.hid (show BK w.heap.size g' cp' k w1 from hown1)
  have HB := Lib.hid hB1
  clear hown1 hgrow1 hv hown HS H1 HA hB1
  go_wp2_with fail
  go_loopw [16] (fun i wr => ∃ n : Nat, n ≤ l.length ∧ i = .int .i64 n ∧ Hid (∀ j x, j < n → l[j]? = some x → outs k.length x = false) ∧ w1 = wr) (fun i _ => l.length - (intOf i).toNat)
  case atStart => exact ⟨0, Nat.zero_le _, rfl, Lib.hid (fun j x hj => by omega), rfl⟩
  case round =>
    obtain ⟨n, hn, rfl, hno, rfl⟩ := hrel
    by_cases hlt : n < l.length
    · obtain ⟨x, hx⟩ : ∃ x, l[n]? = some x := ⟨_, List.getElem?_eq_getElem hlt⟩
      obtain ⟨b, off, rfl, hb, hc0⟩ := HC.out n x hx
      have c0 := (HB.out.cell (p := ⟨b, off + n, none⟩) hb).trans hc0
      have HX := Lib.hid hx
      clear hx hc0
      have hbad : (outs k.length x = true) → turnE k l taken = 9 ∧ turnK k l taken = k := fun ho => by
        have e : l.any (outs k.length) = true := List.any_eq_true.2 ⟨x, List.mem_of_getElem? HX.out, ho⟩
        unfold turnE turnK
        rw [e]
        exact ⟨rfl, rfl⟩
      have HBD := Lib.hid hbad
      clear hbad
      by_cases h0 : x < 0
      · have d0 : decide (x < 0) = true := by simpa using h0
        go_wp2_with fail
        go_ret2
        obtain ⟨e1, e2⟩ := HBD.out (by simp [outs, h0])
        rw [e1, e2]
        exact ⟨g, cp, rfl, HH.out.later HB.out, HB.out⟩
      · have d0 : decide (x < 0) = false := by simpa using h0
        by_cases h2 : (k.length : Int) ≤ x
        · have d1 : decide ((k.length : Int) ≤ x) = true := by simpa using h2
          go_wp2_with fail
          go_ret2
          obtain ⟨e1, e2⟩ := HBD.out (by simp [outs, h2])
          rw [e1, e2]
          exact ⟨g, cp, rfl, HH.out.later HB.out, HB.out⟩
        · have d1 : decide ((k.length : Int) ≤ x) = false := by simpa using h2
          go_wp2_with fail
          refine ⟨⟨n + 1, by omega, by simp, Lib.hid (fun j y hj hy => ?_), trivial⟩, ?_⟩
          · by_cases e : j = n
            · subst e
              have := HX.out.symm.trans hy
              cases this
              unfold outs
              rw [d0, d1]
              rfl
            · exact hno.out j y (by omega) hy
          · simp [intOf]; omega
    · obtain rfl : n = l.length := by omega
      have hany : l.any (outs k.length) = false := by
        rw [List.any_eq_false]
        intro x hx
        obtain ⟨j, hj⟩ := List.getElem?_of_mem hx
        have := hno.out j x (List.getElem?_eq_some_iff.1 hj).1 hj
        simp [this]
      have HNY := Lib.hid hany
      clear hany hno
      go_wp2_with fail
      go_loopw [37] (fun i wr => ∃ n : Nat, n ≤ l.length ∧ i = .int .i64 n ∧ Hid (fits taken k (l.take n) = true) ∧ Hid (BK w.heap.size g' cp' (flips k (l.take n)) wr) ∧ Hid (Below w.heap.size w wr)) (fun i _ => l.length - (intOf i).toNat)
      case atStart => exact ⟨0, Nat.zero_le _, rfl, Lib.hid rfl, HO, HB⟩
      case round =>
        obtain ⟨n, hn, rfl, hfit, hh, hB⟩ := hrel
        by_cases hlt : n < l.length
        · obtain ⟨x, hx⟩ : ∃ x, l[n]? = some x := ⟨_, List.getElem?_eq_getElem hlt⟩
          obtain ⟨b, off, rfl, hb, hc0⟩ := HC.out n x hx
          have c0 := (hB.out.cell (p := ⟨b, off + n, none⟩) hb).trans hc0
          have hin : 0 ≤ x ∧ x < k.length := by
            have := List.any_eq_false.1 HNY.out x (List.mem_of_getElem? hx)
            unfold outs at this
            simp at this
            omega
          obtain ⟨hx0, hx1⟩ := hin
          obtain ⟨m, rfl⟩ : ∃ m : Nat, x = m := ⟨x.toNat, by omega⟩
          obtain ⟨y, hy⟩ : ∃ y, (flips k (l.take n))[m]? = some y := ⟨_, List.getElem?_eq_getElem (by rw [flips_length]; omega)⟩
          have c1 := hh.out.cell m y hy
          have c2 := hh.out.frozen m
          have hm : m < k.length := by omega
          have hg2 := hh.out.lt
          have hft := fits_take taken l k n m hfit.out hx
          rw [Int.toNat_natCast, getD_set_of hy] at hft
          have HX := Lib.hid hx
          have HY := Lib.hid hy
          have HFT := Lib.hid hft
          clear hx hc0 hy hft
          by_cases hq : y = taken
          · subst hq
            have hset := hh.out.set m (!y)
            rw [flipK_is HY.out, ← Int.toNat_natCast m, ← flips_snoc k l n m HX.out, Int.toNat_natCast] at hset
            have HSET := Lib.hid hset
            have hbw := hB.out.setCell (show w.heap.size ≤ (⟨g', m, none⟩ : Addr).block from hg2.1) (.bool (!y))
            have HBW := Lib.hid hbw
            clear hset hbw
            go_wp2_with fail
            refine ⟨⟨n + 1, by omega, by simp, Lib.hid (by rw [HFT.out]; simp), HSET, HBW⟩, ?_⟩
            simp [intOf]; omega
          · have hq2 : (y == taken) = false := by simpa using hq
            have hno : fits taken k l = false := fits_no taken l k (n + 1) (by rw [HFT.out]; exact hq2)
            have e1 : turnE k l taken = 13 := by unfold turnE; rw [HNY.out, hno]; rfl
            have e2 : turnK k l taken = k := by unfold turnK; rw [HNY.out, hno]; rfl
            have E1 := Lib.hid e1
            have E2 := Lib.hid e2
            clear hno e1 e2 hq
            go_wp2_with fail
            go_ret2
            rw [E1.out, E2.out]
            exact ⟨g, cp, rfl, HH.out.later hB.out, hB.out⟩
        · obtain rfl : n = l.length := by omega
          have hfit2 := hfit.out
          have hh2 := hh.out
          rw [List.take_of_length_le (Nat.le_refl _)] at hfit2 hh2
          have e1 : turnE k l taken = 0 := by unfold turnE; rw [HNY.out, hfit2]; rfl
          have e2 : turnK k l taken = flips k l := by unfold turnK; rw [HNY.out, hfit2]; rfl
          have E1 := Lib.hid e1
          have E2 := Lib.hid e2
          have HH2 := Lib.hid hh2
          clear hh2 hh hfit2 hfit e1 e2
          go_wp2_with fail
          go_ret2
          rw [E1.out, E2.out]
          refine ⟨g', cp', ?_, HH2.out.mono hBw, hB.out⟩
          rw [flips_length]
          rfl
end Go.Proofs.YtdpfhpecidmllaaDoor.Ext
