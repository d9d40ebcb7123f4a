/- Layer 24: New, on a store of no files. -/
import Derived.Test.YtfgjnpbffppocaaGreatPoolAll
namespace Go.Proofs.YtfgjnpbffppocaaGreat.Pool
open Go.RowKit Go.Deep Mem Crc Walk Go.Maps
open Go.Proofs.YtfgjnpbffppocaaGreat.Store (St Chg setC none')

def no : Rows := fun _ => []
theorem many_no (n : Nat) : many no n = 0 := by
  induction n with
  | zero => rfl
  | succ n ih => unfold many at ih ⊢; rw [List.range_succ, List.map_append, List.sum_append, ih]; rfl
set_option maxHeartbeats 1000000 in
set_option maxRecDepth 100000 in
theorem new_any {w : World} {Q : Nat → Prop} {s d g N cm : Nat} (h : St w Q s d g N cm false none') (n room : Nat) (hn : n ≤ 20) (hr1 : 1 ≤ room) (hr2 : room ≤ 65536) :
    Calls Tryz.prog 7 #[.pointer (some ⟨s, 0, none⟩), .int .i64 (n : Int), .int .i64 (room : Int)] w fun e w' => ∃ p sm hm, e = .returned (.tuple #[.pointer (some ⟨p, 0, none⟩), .int .i64 0]) ∧ Pl ⟨p, s, d, g, N, cm, sm, hm, n, room⟩ false w' Q (fun _ => none) no no ∧ w.heap.size ≤ p ∧ w.heap.size ≤ sm ∧ w.heap.size ≤ hm ∧ Below w.heap.size w w' := by
  have t1 : decide ((n : Int) < 0) = false := by simp
  have t2 : decide (4096 < (n : Int)) = false := by simp; omega
  have t3 : decide ((room : Int) < 1) = false := by simp; omega
  have t4 : decide (65536 < (room : Int)) = false := by simp; omega
  have hmk1 := run_makeMap (P := Tryz.prog) 54 w
  have hmk2 := run_makeMap (P := Tryz.prog) 55 (w.alloc (.map #[] 0))
  obtain ⟨W, hW⟩ : ∃ W, W = (((w.alloc (.map #[] 0)).alloc (.map #[] 0)).alloc (.cells #[.pointer (some ⟨s, 0, none⟩), .int .i64 (n : Int), .int .i64 (room : Int), .map (some w.heap.size), .map (some (w.heap.size + 1)), .int .i64 0] 57)) := ⟨_, rfl⟩
  have hB : Below w.heap.size w W := by rw [hW]; exact (((Below.refl _ w).alloc (Nat.le_refl _) _).alloc (by simp) _).alloc (by simp; omega) _
  have hbp : Blk W (w.heap.size + 1 + 1) 57 #[.pointer (some ⟨s, 0, none⟩), .int .i64 (n : Int), .int .i64 (room : Int), .map (some w.heap.size), .map (some (w.heap.size + 1)), .int .i64 0] := by rw [hW]; exact Blk.at_ (by simp)
  have hm1 : MapIs W 3 w.heap.size (fun _ => none) := by
    rw [hW]
    exact (((MapIs.made w _).keep (Below.heap_alloc _ _ _ (by simp))).keep (Below.heap_alloc _ _ _ (by simp; omega)))
  have hm2 : MapIs W 3 (w.heap.size + 1) (fun _ => none) := by
    rw [hW]
    have := MapIs.made (w.alloc (.map #[] 0)) 3
    rw [show (w.alloc (.map #[] 0)).heap.size = w.heap.size + 1 by simp] at this
    exact this.keep (Below.heap_alloc _ _ _ (by simp))
  have hNM := Go.Proofs.YtfgjnpbffppocaaGreat.Store.names_any (h.later hB) [] (fun x hx => absurd rfl hx) (by simp) (by simp)
  have hpl : Pl ⟨w.heap.size + 1 + 1, s, d, g, N, cm, w.heap.size, w.heap.size + 1, n, room⟩ false W Q (fun _ => none) no no := by
    refine ⟨?_, ⟨none', h.later hB, fun nm hnm => absurd rfl hnm, fun i hi => ?_⟩, ⟨_, hm1, fun x hx => absurd rfl hx, fun i hi => rfl⟩, ⟨_, hm2, fun x hx => absurd rfl hx, fun i hi => rfl⟩, fun i hi => rfl, fun i j u v _ _ _ h1 => ?_, fun i v k _ h1 => ?_, fun k hk h3 => ?_, ?_, fun i hi x hx => ?_, fun i hi x hx => ?_, ⟨hn, hr2⟩⟩
    · rw [many_no]; exact hbp
    · rw [if_pos (show no i = [] from rfl)]; exact .inl rfl
    · cases h1
    · cases h1
    · have := h.lt k hk
      rcases h3 with h3 | h3 | h3 <;> (simp only at h3; omega)
    · show w.heap.size ≠ w.heap.size + 1
      omega
    · cases hx
    · cases hx
  have HPL := Lib.hid hpl
  have HNM := Lib.hid hNM
  have HB := Lib.hid hB
  rw [hW] at HNM
  have HW := Lib.hid hW
  clear hB hbp hm1 hm2 hNM hpl h hW
  go_enter Tryz.func7, Tryz.ntmps7
  go_wp2_with fail
  refine HNM.out.mono ?_
  rintro e w1 ⟨v, ss, rfl, hO, _, hle, hB1⟩
  rw [← HW.out] at hB1
  have hss : ss = [] := List.eq_nil_of_length_eq_zero (by simpa using hle)
  rw [hss] at hO
  obtain ⟨va, vc, rfl, _, _, _, _⟩ := own_shape hO
  have HB1 := Lib.hid hB1
  clear hO hss hle hB1
  go_wp2_with fail
  go_loopw [39] (fun i wr => ∃ k : Nat, k ≤ n ∧ i = .int .i64 (k : Int) ∧ Hid (Below w1.heap.size w1 wr)) (fun i _ => n - (intOf i).toNat)
  case atStart => exact ⟨0, Nat.zero_le _, rfl, Lib.hid (Below.refl _ _)⟩
  case round =>
    obtain ⟨k, hk, rfl, hB2⟩ := hrel
    by_cases hlt : k < n
    · have HN := Lib.hid (name_any k (by omega) wr)
      go_wp2_with fail
      refine HN.out.mono ?_
      rintro e w2 ⟨rfl, hB3⟩
      have HB3 := Lib.hid (hB2.out.trans (hB3.mono hB2.out.size))
      clear hB3
      go_wp2_with fail
      refine (search_empty _ _ _ _).mono ?_
      rintro e w3 ⟨rfl, rfl⟩
      go_wp2_with fail
      go_roundw
      case rel => exact ⟨k + 1, by omega, by go_num, HB3⟩
      case measure => simp [intOf]; omega
    · obtain rfl : k = n := by omega
      go_wp2_with fail
      go_ret2
      have hBW : Below W.heap.size W wr := HB1.out.trans (hB2.out.mono HB1.out.size)
      have := HB.out.size
      refine ⟨w.heap.size + 1 + 1, w.heap.size, w.heap.size + 1, rfl, HPL.out.later hBW, by omega, Nat.le_refl _, by omega, HB.out.trans (hBW.mono this)⟩
end Go.Proofs.YtfgjnpbffppocaaGreat.Pool
