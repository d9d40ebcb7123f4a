/- Layer 9: a slot of a blank disk. -/
import Derived.Test.YtfgjnpbffppocaaGreatDisk
import Derived.Test.YtfgjnpbffppocaaGreatFrameGet
namespace Go.Proofs.YtfgjnpbffppocaaGreat.Man
open Go.RowKit Go.Deep Mem Crc Disk Go.Proofs.YtfgjnpbffppocaaGreat.Frame

def zb (n : Nat) : List UInt8 := List.replicate n 0
theorem zb_length (n : Nat) : (zb n).length = n := List.length_replicate
theorem got_zero : got (zb 2048) = (0, [], 0, 5) := by
  have h1 : ¬ (zb 2048).length < 9 := by unfold zb; rw [List.length_replicate]; decide
  have h2 : (zb 2048).take 9 = zb 9 := by unfold zb; rw [List.take_replicate]; rfl
  have h3 : fitsE (zb 9) = 5 := by kernel_rfl
  unfold got
  rw [if_neg h1, h2, h3]
  rfl
theorem lies_read {w : World} {a : Option Addr} (h : Lies w a ((List.replicate 128 (0 : UInt8)).map bv)) : ∃ ad, a = some ad ∧ ∀ j u, ((zb 128).map bv)[j]? = some u → w.cell? (ad.add j) = some u := by
  rcases h with h | ⟨g, off, rfl, h1, h2⟩
  · rw [List.map_eq_nil_iff] at h
    cases h
  · exact ⟨_, rfl, lies_add (.inr ⟨g, off, rfl, h1, h2⟩)⟩
set_option maxHeartbeats 400000 in
set_option maxRecDepth 100000 in
theorem slot_any {d g N : Nat} (n : Nat) (hn : n < 2) (hN : 33 ≤ N) {w : World} (h : Blank w d g N false) :
    Calls Tryz.prog 49 #[.pointer (some ⟨d, 0, none⟩), .int .i64 (n : Int)] w fun e w' => ∃ v, e = .returned (.tuple #[v, .int .i64 0]) ∧ OwnB w' w.heap.size v (zb 2048) ∧ Below w.heap.size w w' := by
  obtain ⟨i0, hi0, hz0, hz1, hz2⟩ := info_parts infoB8
  have H := Lib.hid h
  clear h
  go_enter Tryz.func49, Tryz.ntmps49
  go_wp2_with fail
  go_loopw [10, 6] (fun i o wr => ∃ j : Nat, j ≤ 16 ∧ i = .int .i64 (j : Int) ∧ Hid (OwnB wr w.heap.size o (zb (j * 128))) ∧ Hid (Below w.heap.size w wr)) (fun i _ _ => 16 - (intOf i).toNat)
  case atStart => exact ⟨0, by omega, rfl, Lib.hid (World.ownsRow_nil _ _ _ _), Lib.hid (Below.refl _ _)⟩
  case round =>
    obtain ⟨j, hj, rfl, hO, hB⟩ := hrel
    by_cases hj16 : j < 16
    · have hd : decide ((j : Int) < 16) = true := by simp; omega
      have hR := Lib.hid (read_any (n * 16 + j) (H.out.later hB.out) (by omega))
      have hsz := hB.out.size
      have hcast : ((n * 16 + j : Nat) : Int) = (n : Int) * 16 + (j : Int) := by push_cast; rfl
      rw [hcast] at hR
      clear hcast
      go_wp2_with fail
      refine hR.out.mono ?_
      rintro e w1 ⟨a, rfl, hL, hB1⟩
      have hO1 := own_later hO.out hB1
      obtain ⟨ad, rfl, hL2⟩ := lies_read hL
      have hnil := fun X : World => Lib.run_eql_slice_nil (P := Tryz.prog) X 23 5 (some ad) 128 128 0 0 Tryz.underlying23
      have HL := Lib.hid hL2
      have HB1 := Lib.hid hB1
      have H1 := Lib.hid (oneCell_bytes (zb 128))
      clear hL hL2 hB1 hd
      go_wp2_with (first | (at_builtin; refine wpList_append_own _ rfl _ _ 23 rfl w.heap.size 5 i0 (.int .u8 0) 1 1 Tryz.underlying23 hi0 hz0 hz1 hz2 rfl (by decide) _ _ _ rfl hO1 ad 128 128 ((zb 128).map bv) rfl (by simp [zb]) HL.out H1.out ?c3 ?c4 ?c5 ?_))
      case c3 => rw [zb_length]; unfold maxLen; omega
      case c4 => rw [zb_length]; omega
      case c5 => have := HB1.out.size; omega
      intro v' w2 hown2 hgrow2 _
      have hB2 : Below w.heap.size w w2 := (hB.out.trans (HB1.out.mono hsz)).grown hgrow2 (by have := HB1.out.size; omega) (fun q hq => (hO1.lt q hq).1)
      have hO2 : OwnB w2 w.heap.size v' (zb ((j + 1) * 128)) := by
        have e : zb ((j + 1) * 128) = zb (j * 128) ++ zb 128 := by unfold zb; rw [List.replicate_append_replicate, Nat.succ_mul]
        rw [e]
        unfold OwnB
        rw [List.length_append, List.map_append, zb_length 128]
        exact hown2
      have HB2 := Lib.hid hB2
      have HO2 := Lib.hid hO2
      clear hown2 hgrow2 hB2 hO2 hO1
      go_wp2_with fail
      go_roundw
      case rel => exact ⟨j + 1, hj16, by simp, HO2, HB2⟩
      case measure => simp [intOf]; omega
    · obtain rfl : j = 16 := by omega
      have hd : decide ((16 : Int) < 16) = false := by decide
      go_wp2_with fail
      go_ret2
      exact ⟨_, rfl, hO.out, hB.out⟩
theorem isnt_zero (w : World) : Calls Tryz.prog 51 #[.int .u8 0] w fun e w' => e = .returned (.bool false) ∧ w' = w := by
  go_enter Tryz.func51, Tryz.ntmps51
  go_wp2_with fail
  go_ret
  exact ⟨rfl, rfl⟩
set_option maxHeartbeats 400000 in
theorem index_zero (a : Option Addr) (cp n : Nat) (w : World) (h : Lies w a ((zb n).map bv)) (hn : n ≤ 4000000) :
    Calls Tryz.prog 72 #[.slice a n cp, .func (.func 51) #[] #[]] w fun e w' => e = .returned (.int .i64 (-1)) ∧ w' = w := by
  have H := Lib.hid h
  clear h
  go_enter Tryz.func72, Tryz.ntmps72
  go_wp2_with fail
  go_loopw [8] (fun i wr => ∃ j : Nat, j ≤ n ∧ i = .int .i64 (j : Int) ∧ wr = w) (fun i _ => n - (intOf i).toNat)
  case atStart => exact ⟨0, by omega, rfl, rfl⟩
  case round =>
    obtain ⟨j, hj, rfl, rfl⟩ := hrel
    by_cases hjn : j < n
    · obtain ⟨g, off, rfl, _, hc⟩ := H.out.resolve_left (fun e => by
        rw [List.map_eq_nil_iff] at e
        have := congrArg List.length e
        rw [zb_length] at this
        simp at this
        omega)
      have c0 : wr.cell? ⟨g, off + j, none⟩ = some (.int .u8 0) := by
        have := hc j (bv 0) (by unfold zb; rw [List.map_replicate, List.getElem?_replicate, if_pos hjn])
        exact this
      clear hc
      go_wp2_with (first | (go_at_call 51; refine (isnt_zero _).mono ?_; rintro e w1 ⟨rfl, rfl⟩))
      go_roundw
      case rel => exact ⟨j + 1, hjn, by simp, trivial⟩
      case measure => simp [intOf]; omega
    · obtain rfl : j = n := by omega
      go_wp2_with fail
      go_ret
      exact ⟨rfl, rfl⟩
theorem contains_zero (a : Option Addr) (cp n : Nat) (w : World) (h : Lies w a ((zb n).map bv)) (hn : n ≤ 4000000) :
    Calls Tryz.prog 50 #[.slice a n cp, .func (.func 51) #[] #[]] w fun e w' => e = .returned (.bool false) ∧ w' = w := by
  have H := Lib.hid (index_zero a cp n w h hn)
  clear h
  go_enter Tryz.func50, Tryz.ntmps50
  go_wp2_with fail
  refine H.out.mono ?_
  rintro e w1 ⟨rfl, rfl⟩
  go_wp2_with fail
  go_ret
  exact ⟨rfl, rfl⟩
/-- Get on a blank slot. -/
theorem get_zero (a : Option Addr) (cp : Nat) (w : World) (h : Lies w a ((zb 2048).map bv)) (hc : 2048 ≤ cp) :
    Calls Tryz.prog 52 #[.slice a 2048 cp] w fun e w' => e = .returned (.tuple #[.agg #[.int .u64 0, .int .u32 0, .slice none 0 0], .int .i64 5]) ∧ Below w.heap.size w w' := by
  have hal := (Below.refl w.heap.size w).alloc (Nat.le_refl _) (Obj.cells #[Value.int .u64 0, Value.int .u32 0, Value.slice none 0 0] 69)
  have hg := get_any a cp (zb 2048) _ (h.later hal) (by rw [zb_length]; exact hc) (by rw [zb_length]; omega)
  have hb := Blk.new w 69 #[Value.int .u64 0, Value.int .u32 0, Value.slice none 0 0]
  rw [zb_length] at hg
  have H := Lib.hid hg
  have HA := Lib.hid hal
  have HB := Lib.hid hb
  clear h hg hal hb
  go_enter Tryz.func52, Tryz.ntmps52
  go_wp2_with fail
  refine H.out.mono ?_
  rintro e w1 ⟨⟨v, rfl, hO⟩, hB⟩
  obtain ⟨va, vc, ev, _, _, _, _⟩ := own_shape hO
  subst ev
  rw [got_zero]
  simp only [bv, UInt8.toNat_zero, List.length_nil]
  have hb0 := HB.out.below hB HB.out.lt
  have hb1 := hb0.alloc (.cells #[.int .u8 0, .slice va 0 vc] 104)
  have c0 := hb1.cell 0
  have c1 := hb1.cell 1
  have c2 := hb1.cell 2
  have f0 := hb1.frozen 0
  have f1 := hb1.frozen 1
  have f2 := hb1.frozen 2
  simp at c0 c1 c2
  have HB1 := Lib.hid hB
  have hs := hB.size
  simp at hs
  have HBB := Lib.hid hb1
  clear hO hb1 hB hb0
  go_wp2_with fail
  have hb3 := ((HBB.out.set 0 (.int .u64 0)).set 1 (.int .u32 0)).set 2 (.slice none 0 0)
  have q0 := hb3.cell 0
  have q1 := hb3.cell 1
  have q2 := hb3.cell 2
  simp at q0 q1 q2
  refine bodyPost_ret (v := .tuple #[.agg #[.int .u64 0, .int .u32 0, .slice none 0 0], .int .i64 5]) (by simp [results, Tryz.results52, go_sem, q0, q1, q2]) rfl ⟨rfl, ?_⟩
  have h9 : Below w.heap.size w (w1.alloc (.cells #[.int .u8 0, .slice va 0 vc] 104)) := ((HA.out.trans (HB1.out.mono (by simp)))).alloc (by omega) _
  exact ((h9.setCell (p := ⟨w.heap.size, 0, none⟩) (Nat.le_refl _) _).setCell (p := ⟨w.heap.size, 1, none⟩) (Nat.le_refl _) _).setCell (p := ⟨w.heap.size, 2, none⟩) (Nat.le_refl _) _
end Go.Proofs.YtfgjnpbffppocaaGreat.Man
