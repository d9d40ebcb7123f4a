/- palmerlaw24: begin, awake; palmerref20.Same. -/
import Derived.Test.YtfgjnpbffppocaaGreatPoolNew
namespace Go.Proofs.YtfgjnpbffppocaaGreat.Pool
open Go.RowKit Go.Deep Mem Crc Walk
open Go.Proofs.YtfgjnpbffppocaaGreat.Store (St Chg setC none')
open Go.Proofs.YtfgjnpbffppocaaGreat.Disk (Blank)

theorem new_at {B : Nat} {w : World} {Q : Nat → Prop} {s d g N cm : Nat} (h : St w Q s d g N cm false none') (hQ : ∀ k, Q k → B ≤ k) (hB : B ≤ w.heap.size) (n room : Nat) (hn : n ≤ 20) (hr1 : 1 ≤ room) (hr2 : room ≤ 65536) :
    Calls Tryz.prog 7 #[.pointer (some ⟨s, 0, none⟩), .int .i64 (n : Int), .int .i64 (room : Int)] w fun e w' => ∃ A : Pa, e = .returned (.tuple #[.pointer (some ⟨A.p, 0, none⟩), .int .i64 0]) ∧ Pl A false w' Q (fun _ => none) no no ∧ (∀ k, allQ A Q (fun _ => none) k → B ≤ k) ∧ A.n = n ∧ A.room = room ∧ A.s = s ∧ A.d = d ∧ A.g = g ∧ A.N = N ∧ A.cm = cm ∧ Below w.heap.size w w' := by
  refine (new_any h n room hn hr1 hr2).mono ?_
  rintro e w' ⟨p, sm, hm, rfl, hp, h1, h2, h3, hB'⟩
  refine ⟨_, rfl, hp, fun k hk => ?_, rfl, rfl, rfl, rfl, rfl, rfl, rfl, hB'⟩
  rcases hk with hk | hk | ⟨i, v, _, hv, _⟩
  · exact hQ k hk
  · rcases hk with hk | hk | hk <;> (simp only at hk; omega)
  · cases hv
set_option maxHeartbeats 400000 in
theorem begin_any (w : World) :
    Calls Tryz.prog 6 #[] w fun e w' => ∃ d s g cm Q, e = .returned (.tuple #[.pointer (some ⟨d, 0, none⟩), .pointer (some ⟨s, 0, none⟩), .bool true]) ∧ St w' Q s d g 400 cm false none' ∧ (∀ k, Q k → w.heap.size ≤ k) ∧ Below w.heap.size w w' := by
  have HN : Hid (Calls Tryz.prog 18 #[.int .i64 400] w fun e w' => ∃ d g, e = .returned (.tuple #[.pointer (some ⟨d, 0, none⟩), .int .i64 0]) ∧ Blank w' d g 400 false ∧ w.heap.size ≤ d ∧ w.heap.size ≤ g ∧ Below w.heap.size w w') := Lib.hid (Go.Proofs.YtfgjnpbffppocaaGreat.Disk.new_any 400 w (by decide) (by decide))
  go_enter Tryz.func6, Tryz.ntmps6
  go_wp2_with fail
  refine HN.out.mono ?_
  rintro e w1 ⟨d, g, rfl, hD, hd, hg, hB1⟩
  have HO := Lib.hid (Go.Proofs.YtfgjnpbffppocaaGreat.Store.open_any (N := 400) (by decide) hD)
  have HB1 := Lib.hid hB1
  clear hD hB1
  go_wp2_with fail
  refine HO.out.mono ?_
  rintro e w2 ⟨s, cm, rfl, hst, hs, hcm, hB2⟩
  have HST := Lib.hid hst
  have HB2 := Lib.hid hB2
  clear hst hB2
  go_wp2_with fail
  have := HB1.out.size
  refine bodyPost_ret (v := .tuple #[.pointer (some ⟨d, 0, none⟩), .pointer (some ⟨s, 0, none⟩), .bool true]) (by simp [results, Tryz.results6, go_sem]) rfl ⟨d, s, g, cm, _, rfl, HST.out, fun k hk => ?_, HB1.out.trans (HB2.out.mono this)⟩
  rcases hk with rfl | rfl | rfl | rfl <;> omega
set_option maxHeartbeats 1000000 in
set_option maxRecDepth 100000 in
theorem same_eq (a1 a2 : Option Addr) (c1 c2 : Nat) (l : List (List Nat)) (w : World) (h1 : Lies w a1 (flatW l)) (h2 : Lies w a2 (flatW l)) (hok : ∀ x ∈ l, ok x) (hm : l.length ≤ 1000000) :
    Calls Tryz.prog 14 #[.slice a1 l.length c1, .slice a2 l.length c2] w fun e w' => e = .returned (.bool true) ∧ Below w.heap.size w w' := by
  have H1 := Lib.hid h1
  have H2 := Lib.hid h2
  have HOK := Lib.hid hok
  obtain ⟨n, hn⟩ : ∃ n, n = l.length := ⟨_, rfl⟩
  rw [← hn] at hm ⊢
  have HN := Lib.hid hn
  clear h1 h2 hok hn
  go_enter Tryz.func14, Tryz.ntmps14
  go_wp2_with fail
  go_loopw [13] (fun i wr => ∃ k : Nat, k ≤ n ∧ i = .int .i64 (k : Int) ∧ Hid (Below w.heap.size w wr)) (fun i _ => n - (intOf i).toNat)
  case atStart => exact ⟨0, Nat.zero_le _, rfl, Lib.hid (Below.refl _ _)⟩
  case round =>
    obtain ⟨k, hk, rfl, hB⟩ := hrel
    by_cases hlt : k < n
    · have hx : l[k]? = some l[k] := List.getElem?_eq_getElem (by rw [← HN.out]; exact hlt)
      obtain ⟨x, hxe⟩ : ∃ x, x = l[k]'(by rw [← HN.out]; exact hlt) := ⟨_, rfl⟩
      rw [← hxe] at hx
      have hxo := HOK.out x (List.mem_of_getElem? hx)
      have hL1 := H1.out.later hB.out
      have hL2 := H2.out.later hB.out
      have hne : flatW l ≠ [] := fun e => by
        have := flatW_length l HOK.out
        rw [e] at this
        simp at this
        have := HN.out
        omega
      obtain ⟨g1, o1, rfl, hg1, hc1⟩ := hL1.resolve_left hne
      obtain ⟨g2, o2, rfl, hg2, hc2⟩ := hL2.resolve_left hne
      have hq1 : ∀ j u, (vals x)[j]? = some u → wr.cell? ⟨g1, o1 + (k * 7 + j), none⟩ = some u := fun j u hu => cells_at HOK.out (.inr ⟨g1, o1, rfl, hg1, hc1⟩) hx j u hu
      have hq2 : ∀ j u, (vals x)[j]? = some u → wr.cell? ⟨g2, o2 + (k * 7 + j), none⟩ = some u := fun j u hu => cells_at HOK.out (.inr ⟨g2, o2, rfl, hg2, hc2⟩) hx j u hu
      obtain ⟨a, b, c, d, e, f, g, rfl⟩ := ok_seven hxo
      have p10 := hq1 0 _ rfl
      have p11 := hq1 1 _ rfl
      have p12 := hq1 2 _ rfl
      have p13 := hq1 3 _ rfl
      have p14 := hq1 4 _ rfl
      have p15 := hq1 5 _ rfl
      have p16 := hq1 6 _ rfl
      have p20 := hq2 0 _ rfl
      have p21 := hq2 1 _ rfl
      have p22 := hq2 2 _ rfl
      have p23 := hq2 3 _ rfl
      have p24 := hq2 4 _ rfl
      have p25 := hq2 5 _ rfl
      have p26 := hq2 6 _ rfl
      simp only [Nat.add_zero, ← Nat.add_assoc] at p10 p11 p12 p13 p14 p15 p16 p20 p21 p22 p23 p24 p25 p26
      clear hq1 hq2 hc1 hc2 hL1 hL2 hne hx hxe hxo
      go_wp2_with fail
      go_quiet (fail)
      go_wp2_with fail
      go_roundw
      case rel => exact ⟨k + 1, by omega, by go_num, Lib.hid ⟨hB.out.os, hB.out.tape, hB.out.output, hB.out.size, hB.out.block⟩⟩
      case measure => simp [intOf]; omega
    · obtain rfl : k = n := by omega
      go_wp2_with fail
      go_ret
      exact ⟨rfl, hB.out⟩
/-- What has become, of a pool all of whose blocks lie from B on. -/
theorem Went.from {A : Pa} {off : Bool} {w w' : World} {Qs : Nat → Prop} {hv : Nat → Option Value} {S' Hd' : Rows} {X : Nat → Prop} {B : Nat} (h : Went A off (allQ A Qs hv) w w' S' Hd' X) (hQ : ∀ k, allQ A Qs hv k → B ≤ k) (hB : B ≤ w.heap.size) :
    ∃ Qs' hv', Pl A off w' Qs' hv' S' Hd' ∧ (∀ k, allQ A Qs' hv' k → B ≤ k) ∧ (∀ k, X k → ¬ allQ A Qs' hv' k) ∧ Below B w w' := by
  obtain ⟨Q', hv', hp, hq, hx, hu⟩ := h
  exact ⟨Q', hv', hp, fun k hk => (hq k hk).elim (hQ k) (fun h => by omega), hx, hu.below hB hQ⟩
theorem many_one (Hd : Rows) : many Hd 1 = (Hd 0).length := by simp [many]
theorem best_one (Hd : Rows) : (bestOf (holds Hd 1)).1 = 0 := by
  unfold holds
  split
  · show (better (0, 0) (0, (Hd 0).length)).1 = 0
    unfold better
    split <;> rfl
  · rfl
theorem made_oneS {A : Pa} (S Hd : Rows) (hn : A.n = 1) : madeS A S Hd 0 = if (Hd 0).length < A.room then S 0 else S 0 ++ Hd 0 := by
  unfold madeS
  rw [hn, many_one, best_one]
  split
  · rfl
  · rw [upd_same]
theorem made_oneH {A : Pa} (Hd : Rows) (hn : A.n = 1) : madeH A Hd 0 = if (Hd 0).length < A.room then Hd 0 else [] := by
  unfold madeH
  rw [hn, many_one, best_one]
  split
  · rfl
  · rw [upd_same]
theorem put_one {A : Pa} {w : World} {Qs : Nat → Prop} {hv : Nat → Option Value} {S Hd : Rows} {B : Nat} (h : Pl A false w Qs hv S Hd) (hQ : ∀ k, allQ A Qs hv k → B ≤ k) (hB : B ≤ w.heap.size) (hn : A.n = 1) (hr : A.room = 2) (a : Nat) (ha : a < 4294967296) (s l : List (List Nat)) (hs : S 0 = s) (hl : Hd 0 = l) (hlen : s.length + l.length ≤ 1000) :
    Calls Tryz.prog 8 #[.pointer (some ⟨A.p, 0, none⟩), .int .i64 0, .agg #[.int .u32 (a : Int), .int .u32 0, .int .u32 0, .int .u32 0, .int .u32 0, .int .u32 0, .int .u32 0]] w fun e w' => e = .returned (.int .i64 0) ∧ ∃ Qs' hv' S' Hd', Pl A false w' Qs' hv' S' Hd' ∧ (∀ k, allQ A Qs' hv' k → B ≤ k) ∧ S' 0 = (if l.length < 2 then s else s ++ l) ∧ Hd' 0 = (if l.length < 2 then l else []) ++ [[a, 0, 0, 0, 0, 0, 0]] ∧ Below B w w' := by
  subst hs
  subst hl
  have hlen' : ∀ j, j < A.n → (S j).length + (Hd j).length ≤ 30000 := fun j hj => by
    obtain rfl : j = 0 := by omega
    omega
  refine (put_any h 0 (by omega) [a, 0, 0, 0, 0, 0, 0] ⟨rfl, by simpa using ha⟩ (by omega) hlen' (by rw [hn, many_one]; omega)).mono ?_
  rintro e w' ⟨rfl, hw⟩
  obtain ⟨Q', hv', hp, hq, _, hB'⟩ := hw.from hQ hB
  refine ⟨rfl, Q', hv', _, _, hp, hq, ?_, ?_, hB'⟩
  · rw [made_oneS _ _ hn, hr]
  · rw [upd_same, made_oneH _ hn, hr]
set_option maxHeartbeats 1000000 in
set_option maxRecDepth 100000 in
theorem awake_any (w : World) : Calls Tryz.prog 5 #[] w fun e w' => e = .returned (.bool true) ∧ Below w.heap.size w w' := by
  have HBG := Lib.hid (begin_any w)
  go_enter Tryz.func5, Tryz.ntmps5
  go_wp2_with fail
  refine HBG.out.mono ?_
  rintro e w1 ⟨d, s, g, cm, Q, rfl, hst, hQ, hB1⟩
  have HN : Hid (Calls Tryz.prog 7 #[.pointer (some ⟨s, 0, none⟩), .int .i64 1, .int .i64 2] w1 fun e w' => ∃ A : Pa, e = .returned (.tuple #[.pointer (some ⟨A.p, 0, none⟩), .int .i64 0]) ∧ Pl A false w' Q (fun _ => none) no no ∧ (∀ k, allQ A Q (fun _ => none) k → w.heap.size ≤ k) ∧ A.n = 1 ∧ A.room = 2 ∧ A.s = s ∧ A.d = d ∧ A.g = g ∧ A.N = 400 ∧ A.cm = cm ∧ Below w1.heap.size w1 w') := Lib.hid (new_at hst hQ hB1.size 1 2 (by decide) (by decide) (by decide))
  have HB1 := Lib.hid hB1
  clear hst hQ hB1
  go_wp2_with fail
  refine HN.out.mono ?_
  rintro e w2 ⟨A, rfl, hp, hq, hAn, hAr, _, _, _, _, _, hB2⟩
  have HAN := Lib.hid hAn
  have HAR := Lib.hid hAr
  have HB2 := Lib.hid (HB1.out.trans (hB2.mono HB1.out.size))
  have HP1 := Lib.hid (put_one hp hq HB2.out.size hAn hAr 1 (by decide) [] [] rfl rfl (by simp))
  clear hp hq hB2 hAn hAr
  go_wp2_with fail
  refine HP1.out.mono ?_
  rintro e w3 ⟨rfl, Q3, hv3, S3, H3, hp3, hq3, es3, eh3, hB3⟩
  simp at es3 eh3
  have HB3 := Lib.hid (HB2.out.trans hB3)
  have HP2 := Lib.hid (put_one hp3 hq3 HB3.out.size HAN.out HAR.out 2 (by decide) _ _ es3 eh3 (by simp))
  clear hp3 hq3 es3 eh3 hB3
  go_wp2_with fail
  refine HP2.out.mono ?_
  rintro e w4 ⟨rfl, Q4, hv4, S4, H4, hp4, hq4, es4, eh4, hB4⟩
  simp at es4 eh4
  have HB4 := Lib.hid (HB3.out.trans hB4)
  have HP3 := Lib.hid (put_one hp4 hq4 HB4.out.size HAN.out HAR.out 3 (by decide) _ _ es4 eh4 (by simp))
  clear hp4 hq4 es4 eh4 hB4
  go_wp2_with fail
  refine HP3.out.mono ?_
  rintro e w5 ⟨rfl, Q5, hv5, S5, H5, hp5, hq5, es5, eh5, hB5⟩
  simp at es5 eh5
  have HB5 := Lib.hid (HB4.out.trans hB5)
  have hm5 : many H5 A.n = 1 := by rw [HAN.out, many_one, eh5]; rfl
  have hh5 := held_any hp5
  rw [hm5] at hh5
  have HH := Lib.hid hh5
  have h0 : (0 : Nat) < A.n := by rw [HAN.out]; decide
  have HT := Lib.hid (take_any hp5 0 h0 1 (by decide) (by decide) (by rw [es5, eh5]; decide) (by rw [hm5]; decide))
  have HP5 := Lib.hid hp5
  have HQ5 := Lib.hid hq5
  have HES := Lib.hid es5
  have HEH := Lib.hid eh5
  clear hp5 hq5 es5 eh5 hB5 hm5 hh5 h0
  go_wp2_with fail
  refine HH.out.mono ?_
  rintro e w6 ⟨rfl, rfl⟩
  go_wp2_with fail
  refine HT.out.mono ?_
  rintro e w7 ⟨v, rfl, hO7, hw7⟩
  obtain ⟨Q7, hv7, hp7, hq7, _, hB7⟩ := hw7.from HQ5.out HB5.out.size
  have hl7 : (S5 0 ++ H5 0).take 1 = [[1, 0, 0, 0, 0, 0, 0]] := by rw [HES.out, HEH.out]; rfl
  have hO7' : w7.ownsRow w6.heap.size 38 7 v 1 (flatW [[1, 0, 0, 0, 0, 0, 0]]) := by
    rw [hl7] at hO7
    exact hO7
  obtain ⟨va, vc, rfl, _, hL, _, _⟩ := own_shape hO7'
  obtain ⟨g7, o7, rfl, _, hc7⟩ := hL.resolve_left (by simp [flatW, vals])
  have k0 := hc7 0 (.int .u32 1) rfl
  rw [Nat.add_zero] at k0
  have hal := all_any hp7 (by rw [HAN.out, many_one, many_one, upd_same, upd_same, HES.out, HEH.out]; decide)
  have hnum : many (upd H5 0 ((H5 0).drop (1 - (S5 0).length))) A.n + many (upd S5 0 ((S5 0).drop 1)) A.n = 2 := by rw [HAN.out, many_one, many_one, upd_same, upd_same, HES.out, HEH.out]; rfl
  rw [hnum] at hal
  have HAL := Lib.hid hal
  have HP7 := Lib.hid hp7
  have HB7 := Lib.hid (HB5.out.trans hB7)
  have h0 : (0 : Nat) < A.n := by rw [HAN.out]; decide
  clear hO7 hO7' hL hc7 hl7 hal hp7 hq7 hB7 hnum hw7
  go_wp2_with fail
  refine HAL.out.mono ?_
  rintro e w8 ⟨rfl, hB8⟩
  have hw := waiting_any (HP7.out.later hB8) 0 h0 (by rw [upd_same, HES.out]; decide) (by rw [upd_same, HES.out, HEH.out]; decide)
  have hnum : (upd S5 0 ((S5 0).drop 1) 0).length + (upd H5 0 ((H5 0).drop (1 - (S5 0).length)) 0).length = 2 := by rw [upd_same, upd_same, HES.out, HEH.out]; rfl
  rw [hnum] at hw
  have HW := Lib.hid hw
  have HB8 := Lib.hid (HB7.out.trans (hB8.mono HB7.out.size))
  clear hw hnum hB8
  go_wp2_with fail
  refine HW.out.mono ?_
  rintro e w9 ⟨rfl, rfl⟩
  go_wp2_with fail
  go_ret
  exact ⟨rfl, HB8.out.drew⟩
end Go.Proofs.YtfgjnpbffppocaaGreat.Pool
