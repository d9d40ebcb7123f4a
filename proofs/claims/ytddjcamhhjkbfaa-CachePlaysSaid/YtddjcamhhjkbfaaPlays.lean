/- The law CachePlays. -/
import Derived.Test.YtddjcamhhjkbfaaDoes
namespace Go.Proofs.Ytddjcamhhjkbfaa.Laws
open Go.RowKit Go.Shelf Mem Args
open CI (Th Holds Fits total keysOf)
open Refs (Same Lies)

theorem Same.below {B C : Nat} {R : Int} {v : Value} {used : Int} {b off cap : Nat} {ts : List Th} {w w' : World} (h : Same B C R v used b off cap ts w) (hB : Below w.heap.size w w') : Same B C R v used b off cap ts w' :=
  ⟨h.holds.below hB, h.fits, h.uniq, h.lies.below hB, Nat.le_trans h.big hB.size⟩
theorem does_at {B C : Nat} {R : Int} {v : Value} {used : Int} {b off cap : Nat} {ts : List Th} {w : World} (a : Args.Act) (h : Same B C R v used b off cap ts w) (hl : ts.length ≤ 900) (m : Int) (hm : R = m) :
    Calls Try.prog 17 #[.pointer (some ⟨C, 0, none⟩), .slice (some ⟨b, off, none⟩) ts.length cap, .int .i64 m, .agg #[.int .i64 a.kind, .int .i64 a.key, .int .i64 a.size, .int .i64 a.x]] w fun e w' => ∃ v' used' b' off' cap' ts', e = .returned (.tuple #[.bool true, .slice (some ⟨b', off', none⟩) ts'.length cap']) ∧ Same B C R v' used' b' off' cap' ts' w' ∧ ts'.length ≤ ts.length + 1 ∧ Below B w w' := by
  subst hm
  exact Refs.does_any B C R v used b off cap ts w a h hl
theorem used_at {B C : Nat} {R : Int} {v : Value} {used : Int} {b off cap : Nat} {ts : List Th} {w : World} (h : Same B C R v used b off cap ts w) (hl : ts.length ≤ 1000) :
    Calls Try.prog 18 #[.slice (some ⟨b, off, none⟩) ts.length cap] w fun e w' => e = .returned (.int .i64 used) ∧ w = w' := by
  have hu := h.fits.sum
  rw [hu]
  exact Refs.used_any b off cap ts w h.lies.row hl h.fits.pos (by have := h.fits.le; have := h.fits.top; omega)

set_option maxHeartbeats 8000000 in
set_option maxRecDepth 100000 in
theorem plays_walk (room : Int) (a : Option Addr) (len cap : Nat) (l : List Args.Act) (w : World) (hr : In64 room) (ha : Acts w a len l) :
    Calls Try.prog 5 #[.int .i64 room, .slice a len cap] w fun e w' => e = .returned (.bool true) ∧ Below w.heap.size w w' := by
  obtain ⟨hr0, hr1⟩ := hr
  by_cases h1 : 100 < len
  · clear ha
    go_enter Try.func5, Try.ntmps5
    go_wp2_with (go_at_call 7; refine (awake_any _).mono ?_; rintro e w' ⟨rfl, hB⟩)
    go_ret
    exact ⟨rfl, hB⟩
  have HA := Lib.hid ha
  have h4 : len ≤ 100 := by omega
  clear ha
  go_enter Try.func5, Try.ntmps5
  go_wp2_with fail
  refine (CI.new_any room w).mono ?_
  rintro e w1 ⟨rfl, hH, hB1⟩
  have hs1 := hB1.size
  have HH1 := Lib.hid (hH w.heap.size (Nat.le_refl _))
  have HB1 := Lib.hid hB1
  clear hH hB1
  obtain ⟨R, hR⟩ : ∃ R, R = if 0 ≤ room then room else 0 := ⟨_, rfl⟩
  have hR0 : 0 ≤ R := by rw [hR]; split <;> omega
  have hR1 : R ≤ 9223372036854775807 := by rw [hR]; split <;> omega
  rw [← hR] at HH1
  have hRm : (0 ≤ room → R = room) ∧ (room < 0 → R = 0) := ⟨fun h => by rw [hR, if_pos h], fun h => by rw [hR, if_neg (by omega)]⟩
  clear hR
  go_wp2_with fail
  go_loopw [6, 7] (fun o i wr => ∃ (k : Nat) (v : Value) (used : Int) (b off cp : Nat) (ts : List Th), k ≤ len ∧ i = .int .i64 k ∧ o = .slice (some ⟨b, off, none⟩) ts.length cp ∧ ts.length ≤ k ∧ Hid (Same w.heap.size w.heap.size R v used b off cp ts wr) ∧ Hid (Below w.heap.size w wr)) (fun _ i _ => len - (intOf i).toNat)
  case atStart =>
    have hab := (Below.refl w1.heap.size w1).alloc (Nat.le_refl _) (.cells #[] 47)
    exact ⟨0, _, 0, w1.heap.size, 0, 0, [], Nat.zero_le _, rfl, rfl, Nat.le_refl _, ⟨HH1.out.below hab, fits_nil R hR0 hR1, List.nodup_nil, Refs.lies_own (World.ownsRow_lit w1 #[] 0 (Nat.le_refl _) (by decide) rfl), Nat.le_trans hs1 hab.size⟩, HB1.out.trans (hab.mono hs1)⟩
  case round =>
    obtain ⟨k, v, used, b, off, cp, ts, hk, rfl, rfl, htk, hsame, hB⟩ := hrel
    have hws := hB.out.size
    by_cases hlt : k < len
    · obtain ⟨t, ht⟩ : ∃ t, l[k]? = some t := ⟨_, List.getElem?_eq_getElem (by have := HA.out.len; omega)⟩
      obtain ⟨ab, aoff, hab, hb, a0, a1, a2, a3, _⟩ := HA.out.cells k t ht
      subst hab
      have c0 := (hB.out.cell (p := ⟨ab, aoff + k * 4, none⟩) hb).trans a0
      have c1 := (hB.out.cell (p := ⟨ab, aoff + k * 4 + 1, none⟩) hb).trans a1
      have c2 := (hB.out.cell (p := ⟨ab, aoff + k * 4 + 2, none⟩) hb).trans a2
      have c3 := (hB.out.cell (p := ⟨ab, aoff + k * 4 + 3, none⟩) hb).trans a3
      clear a0 a1 a2 a3 ht
      have HD := Lib.hid (does_at (R := R) t hsame.out (by omega))
      go_wp2_with fail
      all_goals
        refine (HD.out _ (by first | exact hRm.1 (by omega) | exact hRm.2 (by omega))).mono ?_
        rintro e w2 ⟨v2, used2, b2, off2, cp2, ts2, rfl, hsame2, hlen2, hB2⟩
        have HS2 := Lib.hid hsame2
        have HB2 := Lib.hid (hB.out.trans hB2)
        have hws2 := HB2.out.size
        have HK := Lib.hid (CI.keys_any _ _ v2 R used2 ts2 w2 hsame2.holds (by omega))
        clear hsame2 hB2 HD
        go_wp2_with fail
        refine HK.out.mono ?_
        rintro e w3 ⟨v3, rfl, ho3, hB3⟩
        obtain ⟨ka, kc, rfl, hka⟩ := own_form ho3
        have HS3 := Lib.hid (Same.below HS2.out hB3)
        have HB3 := Lib.hid (HB2.out.trans (hB3.mono hws2))
        have HKA := Lib.hid hka
        have HU1 := Lib.hid (CI.used_any _ _ v2 R used2 ts2 w3 HS3.out.holds)
        have HU2 := Lib.hid (used_at HS3.out (by omega))
        clear ho3 hB3 hka HK
        go_wp2_with (first | (go_at_call 14; refine HU1.out.mono ?_; rintro e w' ⟨rfl, rfl⟩) | (go_at_call 18; refine HU2.out.mono ?_; rintro e w' ⟨rfl, rfl⟩))
        go_loopw [11] (fun i wq => ∃ k2 : Nat, k2 ≤ ts2.length ∧ i = .int .i64 k2 ∧ Hid (Same w.heap.size w.heap.size R v2 used2 b2 off2 cp2 ts2 wq) ∧ Hid (Below w.heap.size w wq) ∧ Hid (0 < ts2.length → ∃ g, ka = some ⟨g, 0, none⟩ ∧ ∀ j u, (keysOf ts2)[j]? = some u → wq.cell? ⟨g, j, none⟩ = some u)) (fun i _ => ts2.length - (intOf i).toNat)
        case atStart => exact ⟨0, Nat.zero_le _, rfl, HS3, HB3, fun h => (by obtain ⟨g, e1, _, e2⟩ := HKA.out h; exact ⟨g, e1, e2⟩)⟩
        case round =>
          obtain ⟨k2, hk2, rfl, hsq, hBq, hkq⟩ := hrel
          by_cases hlt2 : k2 < ts2.length
          · obtain ⟨y, hy⟩ : ∃ y, ts2[k2]? = some y := ⟨_, List.getElem?_eq_getElem hlt2⟩
            obtain ⟨g, rfl, hcs⟩ := hkq.out (by omega)
            have f0 := hcs k2 (.int .i64 y.key) (by simp [CI.keysOf, hy])
            obtain ⟨f1, _, _⟩ := hsq.out.lies.row k2 y hy
            have hp0 : (0 : Int) ≤ (k2 : Int) := by omega
            have hp1 : (k2 : Int) < (ts2.length : Int) := by omega
            have HCS := Lib.hid hcs
            clear hcs hy hkq
            go_wp2_with fail
            go_quiet (fail)
            go_wp2_with fail
            refine ⟨⟨k2 + 1, by omega, by simp, ?_, ?_, ?_⟩, ?_⟩
            · exact Lib.hid (Same.below hsq.out (below_drewN (Below.refl _ _) _))
            · exact Lib.hid (below_drewN hBq.out _)
            · exact Lib.hid (fun _ => ⟨g, rfl, HCS.out⟩)
            · simp [intOf]; omega
          · obtain rfl : k2 = ts2.length := by omega
            go_wp2_with fail
            refine ⟨⟨k + 1, v2, used2, b2, off2, cp2, ts2, by omega, by simp, by simp, by omega, hsq, hBq⟩, ?_⟩
            simp [intOf]; omega
    · obtain rfl : k = len := by omega
      go_wp2_with (go_at_call 7; refine (awake_any _).mono ?_; rintro e w' ⟨rfl, hB3⟩)
      go_ret
      exact ⟨rfl, hB.out.trans (hB3.mono hws)⟩
end Go.Proofs.Ytddjcamhhjkbfaa.Laws
