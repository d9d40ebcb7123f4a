/- Layer 24: a pool on a store that is down, and a nil pool. -/
import Derived.Test.YtfgjnpbffppocaaGreatPoolRows
namespace Go.Proofs.YtfgjnpbffppocaaGreat.Pool
open Go.RowKit Go.Deep Go.Shelf Mem Crc Walk
open Go.Proofs.YtfgjnpbffppocaaGreat.Store (St Chg setC none')
open Go.Proofs.YtfgjnpbffppocaaGreat.Disk (Blank)

/-- The disk goes off: a store of whose files none has bytes. -/
theorem St.off {w w' : World} {Q : Nat → Prop} {s d g N cm : Nat} {C : Chg} (h : St w Q s d g N cm false C) (hC : ∀ nm, C nm = none ∨ C nm = some none) (hb : Blank w' d g N true) (ho : Only [d] w w') : St w' Q s d g N cm true C := by
  obtain ⟨f, h1, h2, h3⟩ := h.map
  have hds : s ≠ d := h.store.ne h.disk.disk (by decide)
  have hdm : cm ≠ d := map_ne_blk h1 h.disk.disk
  refine ⟨h.store.only ho (by simpa using hds), hb, ⟨f, h1.keep (ho.block _ h1.lt (by simpa using hdm)), h2, fun nm => ?_⟩, h.qs, h.qd, h.qg, h.qm, fun k hq => Nat.lt_of_lt_of_le (h.lt k hq) ho.size⟩
  have hx := h3 nm
  unfold Go.Proofs.YtfgjnpbffppocaaGreat.Store.isChg at hx ⊢
  rcases hC nm with e | e
  · rw [e] at hx ⊢
    exact hx
  · rw [e] at hx ⊢
    exact hx
theorem Pl.turnedOff {A : Pa} {w w' : World} {Qs : Nat → Prop} {hv : Nat → Option Value} {S Hd : Rows} (h : Pl A false w Qs hv S Hd) (hS : ∀ i, i < A.n → S i = []) (hb : Blank w' A.d A.g A.N true) (ho : Only [A.d] w w') : Pl A true w' Qs hv S Hd := by
  obtain ⟨C, hst, hfl⟩ := h.store
  obtain ⟨f, hm, hms, hf⟩ := h.spilled
  obtain ⟨f2, hm2, hms2, hf2⟩ := h.held
  have hd3 : ∀ k, own3 A k → k ≠ A.d := fun k hk e => h.qs A.d hst.qd (e ▸ hk)
  have hC : ∀ nm, C nm = none ∨ C nm = some none := fun nm => by
    cases hc : C nm with
    | none => exact .inl rfl
    | some c =>
      obtain ⟨i, hi, rfl⟩ := hfl.1 nm (by rw [hc]; exact fun h => by cases h)
      have := hfl.2 i hi
      rw [if_pos (hS i hi), hc] at this
      exact this
  have hk : ∀ k, own3 A k → w'.heap[k]? = w.heap[k]? := fun k hk => ho.block k (h.lt k (.inr (.inl hk))) (by simpa using hd3 k hk)
  refine ⟨(hk _ (.inl rfl)).trans h.pool, ⟨C, St.off hst hC hb ho, hfl⟩, ⟨f, hm.keep (hk _ (.inr (.inl rfl))), hms, hf⟩, ⟨f2, hm2.keep (hk _ (.inr (.inr rfl))), hms2, hf2⟩, fun i hi => ?_, h.apart, h.outside, h.qs, h.maps, h.okS, h.okH, h.top⟩
  have := h.rows i hi
  cases hc : hv i with
  | none => rw [hc] at this; exact this
  | some v =>
    rw [hc] at this
    refine own_only this ho (fun g hg hm => ?_)
    rw [List.mem_singleton.1 hm] at hg
    exact (h.outside i v A.d hi hc hg).1 hst.qd
set_option maxHeartbeats 1000000 in
set_option maxRecDepth 100000 in
theorem spill_off {A : Pa} {w : World} {Qs : Nat → Prop} {hv : Nat → Option Value} {S Hd : Rows} (h : Pl A true w Qs hv S Hd) (i : Nat) (hi : i < A.n) (he : S i = []) (hne : Hd i ≠ []) (hlen : (Hd i).length ≤ 30000) :
    Calls Tryz.prog 11 #[.pointer (some ⟨A.p, 0, none⟩), .int .i64 (i : Int)] w fun e w' => e = .returned (.int .i64 6) ∧ Below w.heap.size w w' := by
  have HT := Lib.hid (there_in h i hi)
  have HRD := Lib.hid (read_none h i hi he)
  obtain ⟨g, cap, hvi, hgl⟩ := h.heldSome i hi hne
  have hl := h.heldAt' i hi
  rw [hvi] at hl
  have hO : w.ownsRow 0 38 7 (.slice (some ⟨g, 0, none⟩) (Hd i).length cap) (Hd i).length (flatW (Hd i)) := by have := h.rows i hi; rw [hvi] at this; exact this
  have c4 := h.pool.cell 4
  simp at c4 hl
  have H := Lib.hid h
  obtain ⟨m, hm⟩ : ∃ m, m = (Hd i).length := ⟨_, rfl⟩
  have hm0 : 0 < m := by rw [hm]; exact List.length_pos_iff.2 hne
  have hnz : ((m : Int) == 0) = false := by
    have : ¬ (m : Int) = 0 := by omega
    simpa using this
  rw [← hm] at hl hO hlen
  have HO := Lib.hid hO
  have HM := Lib.hid hm
  have HNE := Lib.hid hne
  clear h hO hm hne hvi
  obtain ⟨i0, hi0, hz0, hz1, hz2⟩ := info_parts infoW7
  go_enter Tryz.func11, Tryz.ntmps11
  go_wp2_with fail
  refine HT.out.mono ?_
  rintro e w1 ⟨rfl, rfl⟩
  go_wp2_with fail
  refine HRD.out.mono ?_
  rintro e w2 ⟨rfl, hB2⟩
  have hO3 := own_later HO.out hB2
  have hL3 : Lies w2 (some ⟨g, 0, none⟩) (flatW (Hd i)) := by
    obtain ⟨a, c, e, _, hL, _, _⟩ := own_shape hO3
    injection e with e1
    subst e1
    exact hL
  have hBz := hB2.size
  have hown0 : w2.ownsRow w1.heap.size 38 7 (.slice none 0 0) 0 [] := World.ownsRow_nil _ _ _ _
  have HOS := Lib.hid hown0
  have hfn : (flatW (Hd i)).length = m * 7 := by rw [flatW_length _ (H.out.okH i hi), HM.out]
  have HFN := Lib.hid hfn
  have H1 := Lib.hid (oneCell_flatW (Hd i))
  have HC := Lib.hid (lies_add hL3)
  have HB2 := Lib.hid hB2
  clear hB2 hO3 hL3 hfn hown0
  go_wp2_with (first | (at_builtin; refine wpList_append_own _ rfl _ _ 22 rfl w1.heap.size 38 i0 (.agg #[.int .u32 0, .int .u32 0, .int .u32 0, .int .u32 0, .int .u32 0, .int .u32 0, .int .u32 0]) 7 28 Tryz.underlying22 hi0 hz0 hz1 hz2 rfl (by decide) _ _ _ rfl HOS.out ⟨g, 0, none⟩ m cap (flatW (Hd i)) rfl HFN.out HC.out H1.out ?c3 ?c4 ?c5 ?_))
  case c3 => unfold maxLen; omega
  case c4 => omega
  case c5 => exact hBz
  intro v3 w3 hown3 hgrow3 hv3
  have hB3 : Below w1.heap.size w1 w3 := HB2.out.grown hgrow3 hBz (fun q hq => (HOS.out.lt q hq).1)
  have hown3 : w3.ownsRow w1.heap.size 38 7 v3 m (flatW (Hd i)) := by simpa using hown3
  obtain ⟨va, vc, rfl, hvc, hL3, _, _⟩ := own_shape hown3
  have hw := write_off (H.out.later hB3) i hi va vc (Hd i) hL3 HNE.out (H.out.okH i hi) (by rw [← HM.out]; omega)
  rw [← HM.out] at hw
  have HW := Lib.hid hw
  have HB3 := Lib.hid hB3
  clear hw hB3 hown3 hgrow3 hv3 hL3 hvc
  go_wp2_with fail
  refine HW.out.mono ?_
  rintro e w4 ⟨rfl, hB4⟩
  have HB4 := Lib.hid (HB3.out.trans (hB4.mono HB3.out.size))
  clear hB4
  go_wp2_with fail
  go_ret
  exact ⟨rfl, HB4.out⟩
theorem makes_off {A : Pa} {w : World} {Qs : Nat → Prop} {hv : Nat → Option Value} {S Hd : Rows} (h : Pl A true w Qs hv S Hd) (hS : ∀ i, i < A.n → S i = []) (hroom : 1 ≤ A.room) (hr : A.room ≤ many Hd A.n) (hmany : many Hd A.n ≤ 30000) :
    Calls Tryz.prog 24 #[.pointer (some ⟨A.p, 0, none⟩)] w fun e w' => e = .returned (.int .i64 6) ∧ Below w.heap.size w w' := by
  obtain ⟨h1, h2⟩ := best_in (Hd := Hd) (n := A.n) (by omega)
  have h3 := len_le_many Hd _ A.n h1
  refine (makes_full h hr (by omega) (fun x W w' => x = 6 ∧ Below W.heap.size W w') (fun W hW => ?_) (fun x W w1 hW hR k hk1 hk2 => hR.2.block k hk2)).mono ?_
  · refine (spill_off (h.later hW) _ h1 (hS _ h1) h2 (by omega)).mono ?_
    rintro e w' ⟨rfl, hB⟩
    exact ⟨6, rfl, rfl, hB⟩
  · rintro e w' ⟨x, W, w1, D, rfl, hB, ⟨rfl, hB1⟩, hD1, hD2, hK, rfl⟩
    refine ⟨rfl, (hB.trans (hB1.mono hB.size)).trans ?_⟩
    have := hB1.size
    exact (Below.refl _ w1).grown (grownBy_putObj' w1 D _) (by have := hB.size; omega) (fun q e => by cases e; exact hD1)
set_option maxHeartbeats 400000 in
set_option maxRecDepth 100000 in
theorem put_off {A : Pa} {w : World} {Qs : Nat → Prop} {hv : Nat → Option Value} {S Hd : Rows} (h : Pl A true w Qs hv S Hd) (hS : ∀ i, i < A.n → S i = []) (hroom : 1 ≤ A.room) (hr : A.room ≤ many Hd A.n) (hmany : many Hd A.n ≤ 30000) (i : Nat) (hi : i < A.n) (x : List Nat) (hx : ok x) :
    Calls Tryz.prog 8 #[.pointer (some ⟨A.p, 0, none⟩), .int .i64 (i : Int), .agg (vals x).toArray] w fun e w' => e = .returned (.int .i64 6) ∧ Below w.heap.size w w' := by
  obtain ⟨a, b, c, d, e, f, g, rfl⟩ := ok_seven hx
  have hal := (Below.refl w.heap.size w).alloc (Nat.le_refl _) (.cells (vals [a, b, c, d, e, f, g]).toArray 38)
  have h1 := h.later hal
  have HT := Lib.hid (there_in h1 i hi)
  have HM := Lib.hid (makes_off h1 hS hroom hr hmany)
  have HAL := Lib.hid hal
  clear h hal h1 hx hS hmany hr
  simp only [vals, List.map] at HAL HM HT ⊢
  go_enter Tryz.func8, Tryz.ntmps8
  go_wp2_with fail
  refine HT.out.mono ?_
  rintro e1 w1 ⟨rfl, rfl⟩
  go_wp2_with fail
  refine HM.out.mono ?_
  rintro e2 w2 ⟨rfl, hB⟩
  have HB := Lib.hid (HAL.out.trans (hB.mono HAL.out.size))
  clear hB
  go_wp2_with fail
  go_ret
  exact ⟨rfl, HB.out⟩
set_option maxHeartbeats 400000 in
set_option maxRecDepth 100000 in
theorem put_nilp (i : Int) (x : List Nat) (hx : ok x) (w : World) :
    Calls Tryz.prog 8 #[.pointer none, .int .i64 i, .agg (vals x).toArray] w fun e w' => e = .returned (.int .i64 9) ∧ Below w.heap.size w w' := by
  obtain ⟨a, b, c, d, e, f, g, rfl⟩ := ok_seven hx
  clear hx
  simp only [vals, List.map]
  go_enter Tryz.func8, Tryz.ntmps8
  go_wp2_with fail
  refine (there_nil _ _).mono ?_
  rintro e1 w1 ⟨rfl, rfl⟩
  go_wp2_with fail
  go_ret
  exact ⟨rfl, (Below.refl _ w).alloc (Nat.le_refl _) _⟩
theorem take_nilp (i m : Int) (w : World) : Calls Tryz.prog 13 #[.pointer none, .int .i64 i, .int .i64 m] w fun e w' => e = .returned (.tuple #[.slice none 0 0, .int .i64 9]) ∧ w' = w := by
  go_enter Tryz.func13, Tryz.ntmps13
  go_wp2_with fail
  refine (there_nil _ _).mono ?_
  rintro e1 w1 ⟨rfl, rfl⟩
  go_wp2_with fail
  go_ret2
  exact ⟨rfl, rfl⟩
theorem spill_nilp (i : Int) (w : World) : Calls Tryz.prog 11 #[.pointer none, .int .i64 i] w fun e w' => e = .returned (.int .i64 9) ∧ w' = w := by
  go_enter Tryz.func11, Tryz.ntmps11
  go_wp2_with fail
  refine (there_nil _ _).mono ?_
  rintro e1 w1 ⟨rfl, rfl⟩
  go_wp2_with fail
  go_ret
  exact ⟨rfl, rfl⟩
theorem all_nilp (w : World) : Calls Tryz.prog 10 #[.pointer none] w fun e w' => e = .returned (.int .i64 0) ∧ w' = w := by
  go_enter Tryz.func10, Tryz.ntmps10
  go_wp2_with fail
  refine (held_nil _).mono ?_
  rintro e1 w1 ⟨rfl, rfl⟩
  go_wp2_with fail
  go_ret
  exact ⟨rfl, rfl⟩
end Go.Proofs.YtfgjnpbffppocaaGreat.Pool
