/- Law 25: does. -/
import Derived.Test.YtddjcamhhjkbfaaRefPut
import Derived.Deep.RegionHeld3
namespace Go.Proofs.Ytddjcamhhjkbfaa.Refs
open Go.RowKit Go.Shelf Mem Args
open CI (Th flat total putL getL evict Holds Fits FR)
open Laws (Uniq)

theorem Lies.fr {w w' : World} {B b off cap : Nat} {L : List TypeId} {ts : List Th} (h : Lies w b off cap ts) (f : Fr B L w w') (hn : 47 ∉ L) : Lies w' b off cap ts := by
  obtain ⟨cs, hc⟩ := h.blk
  have hc' := f.keep hc (.inr hn)
  refine ⟨fun i t ht => ?_, hc'.lt, cs, hc'⟩
  obtain ⟨h0, h1, h2⟩ := h.row i t ht
  rw [hc.cell] at h0 h1 h2
  rw [hc'.cell, hc'.cell, hc'.cell]
  exact ⟨h0, h1, h2⟩

/-- What holds between two acts: the cache and the reference's row hold the same things. -/
structure Same (B C : Nat) (R : Int) (v : Value) (used : Int) (b off cap : Nat) (ts : List Th) (w : World) : Prop where
  holds : Holds B C v R used ts w
  fits : Fits R used ts
  uniq : Uniq ts
  lies : Lies w b off cap ts
  big : B ≤ w.heap.size

set_option maxHeartbeats 4000000 in
set_option maxRecDepth 100000 in
theorem does_any (B C : Nat) (R : Int) (v : Value) (used : Int) (b off cap : Nat) (ts : List Th) (w : World) (a : Args.Act) (h : Same B C R v used b off cap ts w) (hl : ts.length ≤ 900) :
    Calls Try.prog 17 #[.pointer (some ⟨C, 0, none⟩), .slice (some ⟨b, off, none⟩) ts.length cap, .int .i64 R, .agg #[.int .i64 a.kind, .int .i64 a.key, .int .i64 a.size, .int .i64 a.x]] w fun e w' => ∃ v' used' b' off' cap' ts', e = .returned (.tuple #[.bool true, .slice (some ⟨b', off', none⟩) ts'.length cap']) ∧ Same B C R v' used' b' off' cap' ts' w' ∧ ts'.length ≤ ts.length + 1 ∧ Below B w w' := by
  obtain ⟨hh, hf, hu, hli, hbig⟩ := h
  have hal := (Below.refl w.heap.size w).alloc (Nat.le_refl _) (.cells #[.int .i64 a.kind, .int .i64 a.key, .int .i64 a.size, .int .i64 a.x] 29)
  have hl2 := hli.below hal
  obtain ⟨y, hy⟩ : ∃ y, y = (ts.find? (fun t => t.key == a.key)).getD Th.zero := ⟨_, rfl⟩
  obtain ⟨ok, hok⟩ : ∃ ok, ok = (ts.find? (fun t => t.key == a.key)).isSome := ⟨_, rfl⟩
  have hfi := find_any b off cap a.key ts _ hl2.row hl2.lt (by omega)
  rw [← hy, ← hok] at hfi
  unfold CI.Th.v at hfi
  have HF := Lib.hid hfi
  have HY := Lib.hid hy
  have HOK := Lib.hid hok
  clear hfi hy hok
  have HH := Lib.hid hh
  have HFI := Lib.hid hf
  have HU := Lib.hid hu
  have HL := Lib.hid hli
  have HAL := Lib.hid hal
  have HBA0 := Lib.hid (Blk.new w 29 #[.int .i64 a.kind, .int .i64 a.key, .int .i64 a.size, .int .i64 a.x])
  clear hh hf hu hli hal hl2
  go_enter Try.func17, Try.ntmps17
  go_wp2_with fail
  refine HF.out.mono ?_
  rintro e w1 ⟨rfl, hB1⟩
  have hba := HBA0.out.below hB1 HBA0.out.lt
  have hba2 := hba.alloc (.cells #[.int .i64 y.key, .int .i64 y.size, .int .i64 y.x] 47)
  have a0 := hba2.cell 0
  have a1 := hba2.cell 1
  have a2 := hba2.cell 2
  have a3 := hba2.cell 3
  simp at a0 a1 a2 a3
  have hlt1 := hba.lt
  have HB1 := Lib.hid (HAL.out.trans (hB1.mono HAL.out.size))
  have HBA := Lib.hid hba
  have hs1 := HB1.out.size
  have HBA2 := Lib.hid hba2
  clear hB1 hba hba2
  obtain ⟨W2, hW2⟩ : ∃ W2, W2 = w1.alloc (.cells #[.int .i64 y.key, .int .i64 y.size, .int .i64 y.x] 47) := ⟨_, rfl⟩
  have hal2 : Below w1.heap.size w1 W2 := by rw [hW2]; exact (Below.refl _ w1).alloc (Nat.le_refl _) _
  have HB2 := Lib.hid (HB1.out.trans (hal2.mono hs1))
  have HH2 := Lib.hid (HH.out.below HB2.out)
  have HL2 := Lib.hid (HL.out.below HB2.out)
  have HBX : Hid (Blk W2 w.heap.size 29 #[.int .i64 a.kind, .int .i64 a.key, .int .i64 a.size, .int .i64 a.x]) := by rw [hW2]; exact HBA2.out
  have HBY : Hid (Blk W2 w1.heap.size 47 #[.int .i64 y.key, .int .i64 y.size, .int .i64 y.x]) := by rw [hW2]; exact Blk.new _ _ _
  have hB2 : B ≤ W2.heap.size := Nat.le_trans hbig HB2.out.size
  by_cases hk0 : a.kind = 0
  · have k0 : (a.kind == 0) = true := by simpa using hk0
    have hg := CI.get_any B C v R used a.key ts W2 HH2.out HFI.out hB2 (by omega)
    rw [← HY.out, ← HOK.out] at hg
    have HG := Lib.hid hg
    have HW2 := Lib.hid hW2
    clear hg hW2 hal2
    go_wp2_with fail
    rw [← HW2.out]
    refine HG.out.mono ?_
    rintro e w3 ⟨rfl, ⟨v3, hh3⟩, hf3, hfr3⟩
    have hs3 := hfr3.size
    have hlt2 := HBY.out.lt
    have hlt3 := HBX.out.lt
    have HH3 := Lib.hid hh3
    have HF3 := Lib.hid hf3
    have hx3 := hfr3.keep HBX.out (.inr (by decide))
    have hy3 := hfr3.keep HBY.out (.inr (by decide))
    have HL3 := Lib.hid (HL2.out.fr hfr3 (by decide))
    have HB3 := Lib.hid ((HB2.out.mono hbig).trans (hfr3.below hB2))
    have x1 := hx3.cell 1
    have y2 := hy3.cell 2
    simp at x1 y2
    have HGR := Lib.hid (get_any b off cap a.key ts w3.drew (HL3.out.below (Below.refl _ w3).drew) (by omega) HU.out)
    clear hh3 hf3 hfr3 hx3 hy3
    go_wp2_with fail
    go_region_held3 (fun w' => w'.cell? ⟨w.heap.size, 1, none⟩ = some (.int .i64 a.key) ∧ w'.cell? ⟨w1.heap.size, 2, none⟩ = some (.int .i64 y.x)) (first | exact hk4 | exact ⟨x1, y2⟩) ((first | (go_at_call 31; refine HGR.out.mono ?_; rintro e w4 ⟨b4, off4, cap4, rfl, hl4, hB4⟩; have hk4 := And.intro ((hB4.cell (p := ⟨w.heap.size, 1, none⟩) (by show w.heap.size < w3.heap.size; omega)).trans x1) ((hB4.cell (p := ⟨w1.heap.size, 2, none⟩) (by show w1.heap.size < w3.heap.size; omega)).trans y2); have HL4 := Lib.hid hl4; have HB4 := Lib.hid hB4; clear hl4 hB4; dsimp only)))
    go_wp2_with fail
    go_ret2
    have hb34 : Below w3.heap.size w3 w4 := ((Below.refl _ w3).drew).trans HB4.out
    have hb3 : B ≤ w3.heap.size := HB3.out.size |> fun _ => by omega
    exact ⟨v3, used, b4, off4, cap4, getL a.key ts, rfl, ⟨HH3.out.below hb34, HF3.out, Laws.uniq_get HU.out, HL4.out, Nat.le_trans hb3 hb34.size⟩, by rw [Laws.get_length]; omega, HB3.out.trans (hb34.mono hb3)⟩
  have k0 : (a.kind == 0) = false := by simpa using hk0
  by_cases hk2 : a.kind = 2
  · have k1 : (a.kind == 1) = false := by simp [hk2]
    have k2 : (a.kind == 2) = true := by simpa using hk2
    have HW2 := Lib.hid hW2
    have hd := CI.drop_any B C v R used a.key ts W2.drew (HH2.out.below (Below.refl _ W2).drew) HFI.out (by omega)
    rw [← HOK.out] at hd
    have HD := Lib.hid hd
    have x1 := HBX.out.cell 1
    simp at x1
    have hlt3 := HBX.out.lt
    clear hW2 hal2 hd
    go_wp2_with fail
    rw [← HW2.out]
    go_region_held3 (fun w' => w'.cell? ⟨w.heap.size, 1, none⟩ = some (.int .i64 a.key)) (first | exact hk4 | exact hk3 | exact x1) ((first | (go_at_call 20; refine HD.out.mono ?_; rintro e w3 ⟨rfl, ⟨v3, u3, hh3, hf3⟩, hfr3⟩; have hk3 := (hfr3.keep HBX.out.drew (.inr (by decide))).cell 1; have hli3 := (HL2.out.below (Below.refl _ W2).drew).fr hfr3 (by decide); have HWO := Lib.hid (without_any b off cap a.key ts w3 hli3.row hli3.lt (by omega)); have HH3 := Lib.hid hh3; have HF3 := Lib.hid hf3; have HFR3 := Lib.hid hfr3; have hs3 := hfr3.size; simp at hs3; clear hh3 hf3 hfr3 hli3; dsimp only) | (go_at_call 33; refine HWO.out.mono ?_; rintro e w4 ⟨v4, rfl, ho4, ⟨g4, cap4, rfl⟩, hB4⟩; have hk4 := (hB4.cell (p := ⟨w.heap.size, 1, none⟩) (by show w.heap.size < w3.heap.size; omega)).trans hk3; have HO4 := Lib.hid ho4; have HB4 := Lib.hid hB4; clear ho4 hB4; dsimp only)))
    go_wp2_with fail
    go_ret2
    have hl4 := lies_own HO4.out
    have hb3 : B ≤ w3.heap.size := by omega
    have hb23 : Below B W2 w3 := ((Below.refl B W2).drew).trans (HFR3.out.below (by exact hB2))
    refine ⟨v3, u3, g4, 0, cap4, no a.key ts, rfl, ?_, ?_, ((HB2.out.mono hbig).trans hb23).trans (HB4.out.mono hb3)⟩
    · have e := no_erase (key := a.key) HU.out
      rw [e] at hl4 ⊢
      exact ⟨HH3.out.below HB4.out, HF3.out, Laws.uniq_sub HU.out List.eraseP_sublist, hl4, Nat.le_trans hb3 HB4.out.size⟩
    · have := List.length_filter_le (fun t : Th => t.key != a.key) ts
      unfold no
      omega
  have k2 : (a.kind == 2) = false := by simpa using hk2
  by_cases hk1 : a.kind = 1
  · have k1 : (a.kind == 1) = true := by simpa using hk1
    have HW2 := Lib.hid hW2
    have HP := Lib.hid (Laws.put_any B C v R used a.key a.size a.x ts W2 HH2.out HFI.out hB2 (by omega))
    clear hW2 hal2
    go_wp2_with fail
    rw [← HW2.out]
    refine HP.out.mono ?_
    rintro e w3 ⟨rfl, ⟨v3, u3, hh3, hf3⟩, hfr3⟩
    have hx3 := hfr3.keep HBX.out (.inr (by decide))
    have x1 := hx3.cell 1
    have x2 := hx3.cell 2
    have x3 := hx3.cell 3
    simp at x1 x2 x3
    have HL3 := Lib.hid (HL2.out.fr hfr3 (by decide))
    have HB3 := Lib.hid ((HB2.out.mono hbig).trans (hfr3.below hB2))
    have hs3 := hfr3.size
    have HH3 := Lib.hid hh3
    have HF3 := Lib.hid hf3
    have hb3 : B ≤ w3.heap.size := by omega
    clear hh3 hf3 hfr3 hx3
    by_cases hz : a.size < 0
    · have eR : Laws.putR R ⟨a.key, a.size, a.x⟩ ts = ts := if_neg (by show ¬ (0 ≤ a.size ∧ a.size ≤ R); omega)
      have eE : Laws.putE R a.size = 1 := if_pos hz
      rw [eR] at HH3 HF3
      rw [eE]
      have z1 : decide (a.size < 0) = true := by simpa using hz
      go_wp2_with fail
      go_ret2
      exact ⟨v3, u3, b, off, cap, ts, rfl, ⟨HH3.out, HF3.out, HU.out, HL3.out, hb3⟩, by omega, HB3.out⟩
    have z1 : decide (a.size < 0) = false := by simpa using hz
    by_cases hz2 : R < a.size
    · have eR : Laws.putR R ⟨a.key, a.size, a.x⟩ ts = ts := if_neg (by show ¬ (0 ≤ a.size ∧ a.size ≤ R); omega)
      have eE : Laws.putE R a.size = 11 := by unfold Laws.putE; rw [if_neg hz, if_pos hz2]
      rw [eR] at HH3 HF3
      rw [eE]
      have z2 : decide (R < a.size) = true := by simpa using hz2
      go_wp2_with fail
      go_ret2
      exact ⟨v3, u3, b, off, cap, ts, rfl, ⟨HH3.out, HF3.out, HU.out, HL3.out, hb3⟩, by omega, HB3.out⟩
    have z2 : decide (R < a.size) = false := by simpa using hz2
    have eR : Laws.putR R ⟨a.key, a.size, a.x⟩ ts = putL R ⟨a.key, a.size, a.x⟩ ts := if_pos (by show 0 ≤ a.size ∧ a.size ≤ R; omega)
    have eE : Laws.putE R a.size = 0 := by unfold Laws.putE; rw [if_neg hz, if_neg hz2]
    rw [eR] at HH3 HF3
    rw [eE]
    have htot : total ts ≤ 9223372036854775807 := by have := HFI.out.sum; have := HFI.out.le; have := HFI.out.top; omega
    have HRP := Lib.hid (put_any b off cap R ⟨a.key, a.size, a.x⟩ ts w3 HL3.out (by omega) HU.out HFI.out.pos htot (by show 0 ≤ a.size; omega) (by show a.size ≤ R; omega) HFI.out.top)
    go_wp2_with fail
    refine HRP.out.mono ?_
    rintro e w4 ⟨b4, off4, cap4, rfl, hl4, hB4⟩
    have HL4 := Lib.hid hl4
    have HB4 := Lib.hid hB4
    clear hl4 hB4
    go_wp2_with fail
    go_ret2
    exact ⟨v3, u3, b4, off4, cap4, _, rfl, ⟨HH3.out.below HB4.out, HF3.out, Laws.uniq_put HU.out, HL4.out, Nat.le_trans hb3 HB4.out.size⟩, Laws.put_length _ _ _, HB3.out.trans (HB4.out.mono hb3)⟩
  have k1 : (a.kind == 1) = false := by simpa using hk1
  have HC := Lib.hid (CI.clear_any B C v R used ts W2 HH2.out)
  have HW2 := Lib.hid hW2
  clear hW2 hal2
  go_wp2_with fail
  rw [← HW2.out]
  refine HC.out.mono ?_
  rintro e w3 ⟨rfl, hh3, hfr3⟩
  have HH3 := Lib.hid hh3
  have HFR3 := Lib.hid hfr3
  clear hh3 hfr3
  go_wp2_with fail
  go_ret2
  have hb3 : B ≤ w3.heap.size := Nat.le_trans hB2 HFR3.out.size
  have hab := (Below.refl w3.heap.size w3).alloc (Nat.le_refl _) (.cells #[] 47)
  have hR : 0 ≤ R := by have := CI.total_nonneg HFI.out.pos; have := HFI.out.sum; have := HFI.out.le; omega
  exact ⟨_, 0, w3.heap.size, 0, 0, [], rfl, ⟨HH3.out.below hab, Laws.fits_nil R hR HFI.out.top, List.nodup_nil, lies_own (World.ownsRow_lit w3 #[] 0 (Nat.le_refl _) (by decide) rfl), Nat.le_trans hb3 hab.size⟩, Nat.zero_le _, ((HB2.out.mono hbig).trans (HFR3.out.below hB2)).trans (hab.mono hb3)⟩
end Go.Proofs.Ytddjcamhhjkbfaa.Refs
