/- Layer 7: the law's own functions: Same at any two rows, does, awake, great. -/
import Derived.Test.YtdpfhpecidmllaaDoorRefTake
namespace Go.Proofs.YtdpfhpecidmllaaDoor.Ext
open Go.RowKit Go.Shelf Go.Deep Mem

theorem take_any (C g cap : Nat) (k : List Bool) (n : Int) (w : World) (h : Holds C g cap k w) (hT : Tab w) (hC0 : 0 < C) (hg0 : 0 < g) :
    Calls Tryd.prog 15 #[.pointer (some ⟨C, 0, none⟩), .int .i64 n] w fun e w' => Took C g cap k n w e w' := by
  by_cases hn : n < 0 ∨ (freeN k : Int) < n
  · exact take_no C g cap k n w h hn
  · obtain ⟨N, rfl⟩ : ∃ N : Nat, n = N := ⟨n.toNat, by omega⟩
    exact take_yes C g cap k N w h hT hC0 hg0 (by omega)
theorem rtake_any (B g cp : Nat) (k : List Bool) (n : Int) (w : World) (h : BK B g cp k w) (hk : k.length ≤ 65536) :
    Calls Tryd.prog 20 #[.slice (some ⟨g, 0, none⟩) k.length cp, .int .i64 n] w fun e w' => RTook B k n w e w' := by
  by_cases hn : n < 0 ∨ (freeN k : Int) < n
  · exact rtake_no B g cp k n w h hk hn
  · obtain ⟨N, rfl⟩ : ∃ N : Nat, n = N := ⟨n.toNat, by omega⟩
    exact rtake_yes B g cp k N w h hk (by omega)

set_option maxHeartbeats 1000000 in
theorem same_any (a b : Option Addr) (ca cb : Nat) (l m : List Int) (w : World) (h1 : Row w [] a ca l) (h2 : Row w [] b cb m) :
    Calls Tryd.prog 21 #[.slice a l.length ca, .slice b m.length cb] w fun e w' => (∃ x, e = .returned (.bool x) ∧ (l = m → x = true)) ∧ Below w.heap.size w w' := by
  by_cases hlm : l.length = m.length
  · have hlen := h1.len
    have hc : ∀ n, n < l.length → ∃ b1 o1 b2 o2 x y, a = some ⟨b1, o1, none⟩ ∧ b = some ⟨b2, o2, none⟩ ∧ w.cell? ⟨b1, o1 + n, none⟩ = some (.int .i64 x) ∧ w.cell? ⟨b2, o2 + n, none⟩ = some (.int .i64 y) ∧ (l = m → x = y) := fun n hn => by
      rcases h1.lies with rfl | ⟨b1, o1, e1, _, _, i1⟩
      · exact absurd hn (Nat.not_lt_zero _)
      · rcases h2.lies with rfl | ⟨b2, o2, e2, _, _, i2⟩
        · exact absurd hn (by rw [hlm]; exact Nat.not_lt_zero _)
        · exact ⟨b1, o1, b2, o2, l[n], m[n], e1, e2, i1 n _ (List.getElem?_eq_getElem hn), i2 n _ (List.getElem?_eq_getElem (by omega)), fun e => by subst e; rfl⟩
    have HC := Lib.hid hc
    clear hc h1 h2
    rw [← hlm]
    clear hlm
    go_enter Tryd.func21, Tryd.ntmps21
    go_wp2_with fail
    go_loopw [13] (fun i wr => ∃ n : Nat, n ≤ l.length ∧ i = .int .i64 n ∧ ∃ q, wr = w.drewN q) (fun i _ => l.length - (intOf i).toNat)
    case atStart => exact ⟨0, Nat.zero_le _, rfl, 0, rfl⟩
    case round =>
      obtain ⟨n, hn, rfl, q, rfl⟩ := hrel
      by_cases hlt : n < l.length
      · obtain ⟨b1, o1, b2, o2, x, y, rfl, rfl, c1, c2, hxy⟩ := HC.out n hlt
        have hp0 : (0 : Int) ≤ (n : Int) := by omega
        have hp1 : (n : Int) < (l.length : Int) := by omega
        have HXY := Lib.hid hxy
        clear HC hxy
        by_cases exy : x = y
        · subst exy
          go_wp2_with fail
          go_quiet (fail)
          go_wp2_with fail
          refine ⟨⟨n + 1, by omega, by simp, ⟨_, rfl⟩⟩, ?_⟩
          simp [intOf]; omega
        · have exy2 : (x == y) = false := by simpa using exy
          go_wp2_with fail
          go_quiet (fail)
          go_wp2_with fail
          go_ret
          exact ⟨⟨false, rfl, fun e => absurd (HXY.out e) exy⟩, below_drewN (below_drewN (Below.refl _ _) _) _⟩
      · obtain rfl : n = l.length := by omega
        go_wp2_with fail
        go_ret
        exact ⟨⟨true, rfl, fun _ => rfl⟩, below_drewN (Below.refl _ _) _⟩
  · have hne : ((l.length : Int) == (m.length : Int)) = false := by simp; omega
    have hne2 : ¬ l.length = m.length := hlm
    clear h1 h2 hlm
    go_enter Tryd.func21, Tryd.ntmps21
    go_wp2_with fail
    go_ret
    exact ⟨⟨false, rfl, fun e => absurd (by rw [e]) hne2⟩, Below.refl _ _⟩

/-- A row of numbers that came in: below B. -/
structure ARow (B : Nat) (w : World) (a : Option Addr) (cp : Nat) (l : List Int) : Prop where
  cap : l.length ≤ cp
  len : l.length ≤ 100000
  lies : l = [] ∨ ∃ b off, a = some ⟨b, off, none⟩ ∧ b < B ∧ Ints w b off l
theorem ARow.row {B : Nat} {w : World} {a : Option Addr} {cp : Nat} {l : List Int} (h : ARow B w a cp l) (hB : B ≤ w.heap.size) (bs : List Nat) (hb : ∀ g ∈ bs, B ≤ g) : Row w bs a cp l :=
  ⟨h.cap, h.len, h.lies.imp id (fun ⟨b, off, e, h1, h2⟩ => ⟨b, off, e, by omega, fun hm => by have := hb b hm; omega, h2⟩)⟩
theorem ARow.below {B : Nat} {w w' : World} {a : Option Addr} {cp : Nat} {l : List Int} (h : ARow B w a cp l) (hB : Below B w w') : ARow B w' a cp l :=
  ⟨h.cap, h.len, h.lies.imp id (fun ⟨b, off, e, h1, h2⟩ => ⟨b, off, e, h1, h2.below hB h1⟩)⟩
/-- A map of the call's own. -/
structure Own (B C g cap : Nat) (k : List Bool) (w : World) : Prop where
  map : Holds C g cap k w
  tab : Tab w
  pos : 0 < B
  bC : B ≤ C
  bg : B ≤ g
theorem Own.later {B C g cap : Nat} {k : List Bool} {w w' : World} (h : Own B C g cap k w) (hB : Below w.heap.size w w') : Own B C g cap k w' :=
  ⟨h.map.later hB, h.tab.below hB (by have := h.tab.lt; omega), h.pos, h.bC, h.bg⟩
theorem Own.step {B C g cap : Nat} {k k' : List Bool} {w w' : World} (h : Own B C g cap k w) (hh : Holds C g cap k' w') (ho : Only [C, g] w w') : Own B C g cap k' w' :=
  ⟨hh, h.tab.only ho (by have := h.bC; have := h.bg; have := h.pos; simp; omega), h.pos, h.bC, h.bg⟩
theorem Own.only {B C g cap : Nat} {k : List Bool} {w w' : World} (h : Own B C g cap k w) (ho : Only [C, g] w w') : Below B w w' :=
  Only.below ho (by have := h.map.lt.1; have := h.bC; omega) (by have := h.bC; have := h.bg; simp; omega)
theorem BK.ne {B C g cap gk cp : Nat} {k kk : List Bool} {w : World} (h : BK B gk cp kk w) (hm : Holds C g cap k w) : gk ∉ [C, g] := by
  rcases h.2 with ⟨e, _⟩ | ⟨q, c, cur, e, _, hb, _⟩
  · cases e
  · cases e
    obtain ⟨cs, hcs, _⟩ := hm.words
    have h1 := Blk.ne (w := w) hb hm.map (by decide)
    have h2 := Blk.ne (w := w) hb hcs (by decide)
    simp [h1, h2]
/-- The blocks behind an act. -/
def actK (k : List Bool) (kind n : Int) (l : List Int) : List Bool := if kind = 0 then turnK k l false else if kind = 1 then turnK k l true else takeK k n
theorem turnK_length (k : List Bool) (l : List Int) (t : Bool) : (turnK k l t).length = k.length := by
  unfold turnK
  split
  · rfl
  · split
    · exact flips_length _ _
    · rfl
theorem actK_length (k : List Bool) (kind n : Int) (l : List Int) : (actK k kind n l).length = k.length := by
  unfold actK
  split
  · exact turnK_length _ _ _
  · split
    · exact turnK_length _ _ _
    · exact flips_length _ _

set_option maxHeartbeats 4000000 in
theorem does_any (B C g cap gk cp cl : Nat) (a : Option Addr) (k kk : List Bool) (kind n : Int) (l : List Int) (w : World) (h : Own B C g cap k w) (hk : BK B gk cp kk w) (hkl : kk.length ≤ 65536) (hl : ARow B w a cl l) :
    Calls Tryd.prog 11 #[.pointer (some ⟨C, 0, none⟩), .slice (some ⟨gk, 0, none⟩) kk.length cp, .agg #[.int .i64 kind, .int .i64 n, .slice a l.length cl]] w fun e w' => ∃ x gk' cp', e = .returned (.tuple #[.bool x, .slice (some ⟨gk', 0, none⟩) (actK kk kind n l).length cp']) ∧ (k = kk → x = true) ∧ Own B C g cap (actK k kind n l) w' ∧ BK B gk' cp' (actK kk kind n l) w' ∧ Only [C, g] w w' := by
  have hBw : B ≤ w.heap.size := by have := h.map.lt.1; have := h.bC; omega
  have hal := (Below.refl w.heap.size w).alloc (Nat.le_refl _) (.cells #[.int .i64 kind, .int .i64 n, .slice a l.length cl] 34)
  have hbx := Blk.new w 34 #[.int .i64 kind, .int .i64 n, .slice a l.length cl]
  have c0 := hbx.cell 0
  have c1 := hbx.cell 1
  have c2 := hbx.cell 2
  obtain ⟨W, hW⟩ : ∃ W, W = w.alloc (.cells #[.int .i64 kind, .int .i64 n, .slice a l.length cl] 34) := ⟨_, rfl⟩
  rw [← hW] at hal hbx
  have hOW := h.later hal
  have hKW := hk.later hal
  have hLW := hl.below (hal.mono hBw)
  have hWs : W.heap.size = w.heap.size + 1 := by rw [hW]; simp
  have hrow : Row W [C, g] a cl l := hLW.row (by omega) _ (by have := h.bC; have := h.bg; simp; omega)
  have hlC : C < w.heap.size ∧ g < w.heap.size := h.map.lt
  have hnb : w.heap.size ∉ [C, g] := by simp; omega
  have HOW := Lib.hid hOW
  have HKW := Lib.hid hKW
  have HLW := Lib.hid hLW
  have HAL := Lib.hid hal
  have HBX := Lib.hid hbx
  have HW := Lib.hid hW
  have HNB := Lib.hid hnb
  by_cases k0 : kind = 0
  · have ea : ∀ q, actK q kind n l = turnK q l false := fun q => if_pos k0
    have HH := Lib.hid (hold_any C g cap cl a k l W hOW.map hrow)
    have q0 : (kind == 0) = true := by simpa using k0
    have q1 : (kind == 1) = false := by simp [k0]
    have HEA := Lib.hid ea
    clear hal hbx hOW hKW hLW h hk hl hrow hW ea hnb k0
    go_enter Tryd.func11, Tryd.ntmps11
    go_wp2_with fail
    rw [← HW.out]
    refine HH.out.mono ?_
    rintro e w1 ⟨rfl, hh, ho⟩
    have hO1 := HOW.out.step hh ho
    have hbx1 := HBX.out.only ho HNB.out
    have d0 := hbx1.cell 0
    have d2 := hbx1.cell 2
    simp at d0 d2
    have hB1 := HOW.out.only ho
    have hs1 := ho.size
    have hK1 := HKW.out.only ho (HKW.out.ne HOW.out.map)
    have HT := Lib.hid (ref_turn B gk cp cl a kk l false w1 hK1 ((HLW.out.below hB1).row (by omega) [] (by simp)) hkl)
    have HO1 := Lib.hid hO1
    have HB1 := Lib.hid ((HAL.out.mono hBw).trans hB1)
    have HOO := Lib.hid ((Only.of_below (bs := [C, g]) HAL.out).trans ho)
    clear hh ho hO1 hbx1 hB1 hK1
    go_wp2_with fail
    refine HT.out.mono ?_
    rintro e w2 ⟨gk', cp', rfl, hbk, hB2⟩
    have HK2 := Lib.hid hbk
    have HB2 := Lib.hid hB2
    clear hbk hB2
    go_wp2_with fail
    go_ret2
    refine ⟨turnE k l false == turnE kk l false, gk', cp', ?_, fun e => ?_, by rw [HEA.out]; exact HO1.out.later HB2.out, by rw [HEA.out]; exact HK2.out, HOO.out.trans (Only.of_below HB2.out)⟩
    · rw [HEA.out]
      rfl
    · subst e
      simp
  · by_cases k1 : kind = 1
    · have ea : ∀ q, actK q kind n l = turnK q l true := fun q => by unfold actK; rw [if_neg k0, if_pos k1]
      have HH := Lib.hid (give_any C g cap cl a k l W hOW.map hrow)
      have q0 : (kind == 0) = false := by simpa using k0
      have q1 : (kind == 1) = true := by simpa using k1
      have HEA := Lib.hid ea
      clear hal hbx hOW hKW hLW h hk hl hrow hW ea hnb k0 k1
      go_enter Tryd.func11, Tryd.ntmps11
      go_wp2_with fail
      rw [← HW.out]
      refine HH.out.mono ?_
      rintro e w1 ⟨rfl, hh, ho⟩
      have hO1 := HOW.out.step hh ho
      have hbx1 := HBX.out.only ho HNB.out
      have d0 := hbx1.cell 0
      have d2 := hbx1.cell 2
      simp at d0 d2
      have hB1 := HOW.out.only ho
      have hs1 := ho.size
      have hK1 := HKW.out.only ho (HKW.out.ne HOW.out.map)
      have HT := Lib.hid (ref_turn B gk cp cl a kk l true w1 hK1 ((HLW.out.below hB1).row (by omega) [] (by simp)) hkl)
      have HO1 := Lib.hid hO1
      have HB1 := Lib.hid ((HAL.out.mono hBw).trans hB1)
      have HOO := Lib.hid ((Only.of_below (bs := [C, g]) HAL.out).trans ho)
      clear hh ho hO1 hbx1 hB1 hK1
      go_wp2_with fail
      refine HT.out.mono ?_
      rintro e w2 ⟨gk', cp', rfl, hbk, hB2⟩
      have HK2 := Lib.hid hbk
      have HB2 := Lib.hid hB2
      clear hbk hB2
      go_wp2_with fail
      go_ret2
      refine ⟨turnE k l true == turnE kk l true, gk', cp', ?_, fun e => ?_, by rw [HEA.out]; exact HO1.out.later HB2.out, by rw [HEA.out]; exact HK2.out, HOO.out.trans (Only.of_below HB2.out)⟩
      · rw [HEA.out]
        rfl
      · subst e
        simp
    · have ea : ∀ q, actK q kind n l = takeK q n := fun q => by unfold actK; rw [if_neg k0, if_neg k1]
      have HH := Lib.hid (take_any C g cap k n W hOW.map hOW.tab (by have := h.bC; have := h.pos; omega) (by have := h.bg; have := h.pos; omega))
      have q0 : (kind == 0) = false := by simpa using k0
      have q1 : (kind == 1) = false := by simpa using k1
      have HEA := Lib.hid ea
      have HSM := Lib.hid h.map.small
      clear hal hbx hOW hKW hLW h hk hl hrow hW ea hnb k0 k1
      go_enter Tryd.func11, Tryd.ntmps11
      go_wp2_with fail
      rw [← HW.out]
      refine HH.out.mono ?_
      rintro e w1 ⟨⟨a1, cp1, rfl, hown1⟩, hh, ho⟩
      have hO1 := HOW.out.step hh ho
      have hbx1 := HBX.out.only ho HNB.out
      have d1 := hbx1.cell 1
      simp at d1
      have hB1 := HOW.out.only ho
      have hs1 := ho.size
      have hK1 := HKW.out.only ho (HKW.out.ne HOW.out.map)
      have HT := Lib.hid (rtake_any B gk cp kk n w1 hK1 hkl)
      have HO1 := Lib.hid hO1
      have HB1 := Lib.hid ((HAL.out.mono hBw).trans hB1)
      have HOWN := Lib.hid hown1
      have HOO := Lib.hid ((Only.of_below (bs := [C, g]) HAL.out).trans ho)
      clear hh ho hO1 hbx1 hB1 hK1 hown1
      go_wp2_with fail
      refine HT.out.mono ?_
      rintro e w2 ⟨⟨gk', cp', a2, cl2, rfl, hbk, hown2⟩, hB2⟩
      have hl1 : (takeL k n).length ≤ 100000 := by have := takeL_len k n; have := HSM.out; omega
      have hl2 : (takeL kk n).length ≤ 100000 := by have := takeL_len kk n; omega
      have hr1 : Row w2 [] a1 cp1 (takeL k n) := row_of_own (own_below HOWN.out hB2 (fun q hq => (HOWN.out.lt q hq).2)) (by simp) hl1
      have hr2 : Row w2 [] a2 cl2 (takeL kk n) := row_of_own hown2 (by simp) hl2
      have HS := Lib.hid (same_any a1 a2 cp1 cl2 (takeL k n) (takeL kk n) w2 hr1 hr2)
      have HK2 := Lib.hid hbk
      have HB2 := Lib.hid hB2
      have hs2 := hB2.size
      clear hbk hB2 hr1 hr2 hown2
      go_wp2_with fail
      refine HS.out.mono ?_
      rintro e w3 ⟨⟨x, rfl, hx⟩, hB3⟩
      have HX := Lib.hid hx
      have HB3 := Lib.hid hB3
      clear hx hB3
      cases x
      · go_wp2_with fail
        go_ret2
        refine ⟨false, gk', cp', ?_, fun e => ?_, by rw [HEA.out]; exact (HO1.out.later HB2.out).later HB3.out, by rw [HEA.out]; exact HK2.out.later HB3.out, HOO.out.trans ((Only.of_below HB2.out).trans (Only.of_below HB3.out))⟩
        · rw [HEA.out]
          rfl
        · subst e
          have := HX.out rfl
          cases this
      · go_wp2_with fail
        go_ret2
        refine ⟨takeEr k n == takeEr kk n, gk', cp', ?_, fun e => ?_, by rw [HEA.out]; exact (HO1.out.later HB2.out).later HB3.out, by rw [HEA.out]; exact HK2.out.later HB3.out, HOO.out.trans ((Only.of_below HB2.out).trans (Only.of_below HB3.out))⟩
        · rw [HEA.out]
          rfl
        · subst e
          simp
end Go.Proofs.YtdpfhpecidmllaaDoor.Ext
