/- Layer 9: Read on a blank disk. -/
import Derived.Test.YtfgjnpbffppocaaGreatSlot
namespace Go.Proofs.YtfgjnpbffppocaaGreat.Man
open Go.RowKit Go.Deep Mem Crc Disk

set_option maxHeartbeats 400000 in
set_option maxRecDepth 100000 in
theorem read_blank {d g N : Nat} (hN : 33 ≤ N) {w : World} (h : Blank w d g N false) :
    Calls Tryz.prog 30 #[.pointer (some ⟨d, 0, none⟩)] w fun e w' => e = .returned (.tuple #[.agg #[.int .u64 0, .int .u32 0, .slice none 0 0], .int .i64 0]) ∧ Below w.heap.size w w' := by
  have hal := (Below.refl w.heap.size w).alloc (Nat.le_refl _) (Obj.cells #[Value.int .u64 0, Value.int .u32 0, Value.slice none 0 0] 69)
  have hC := Lib.hid (count_any (h.later hal))
  have H := Lib.hid h
  have HA := Lib.hid hal
  clear h hal
  have hd0 : decide ((N : Int) ≤ 32) = false := by simp; omega
  go_enter Tryz.func30, Tryz.ntmps30
  go_wp2_with fail
  refine hC.out.mono ?_
  rintro e w1 ⟨rfl, rfl⟩
  go_wp2_with fail
  obtain ⟨W, hW⟩ : ∃ W, W = (w.alloc (Obj.cells #[Value.int .u64 0, Value.int .u32 0, Value.slice none 0 0] 69)).alloc (Obj.cells #[Value.int .u64 0, Value.int .u32 0, Value.slice none 0 0] 69) := ⟨_, rfl⟩
  have hb0 : Blk W w.heap.size 69 #[Value.int .u64 0, Value.int .u32 0, Value.slice none 0 0] := by rw [hW]; exact (Blk.new w _ _).alloc _
  have hb1 : Blk W (w.heap.size + 1) 69 #[Value.int .u64 0, Value.int .u32 0, Value.slice none 0 0] := by rw [hW]; exact Blk.at_ (by simp)
  have hBW : Below w.heap.size w W := by rw [hW]; exact HA.out.alloc (by simp) _
  rw [← hW]
  have HB0 := Lib.hid hb0
  have HB1 := Lib.hid hb1
  have HBW := Lib.hid hBW
  clear hb0 hb1 hBW hW hC HA hd0
  go_loopw [5, 6, 15] (fun f b i wr => ∃ j : Nat, j ≤ 2 ∧ f = .bool false ∧ b = .bool (decide (0 < j)) ∧ i = .int .i64 (j : Int) ∧ Hid (Blk wr w.heap.size 69 #[Value.int .u64 0, Value.int .u32 0, Value.slice none 0 0]) ∧ Hid (Blk wr (w.heap.size + 1) 69 #[Value.int .u64 0, Value.int .u32 0, Value.slice none 0 0]) ∧ Hid (Below w.heap.size w wr)) (fun _ _ i _ => 2 - (intOf i).toNat)
  case atStart => exact ⟨0, by omega, rfl, rfl, rfl, HB0, HB1, HBW⟩
  case round =>
    obtain ⟨j, hj, rfl, rfl, rfl, hb0, hb1, hB⟩ := hrel
    by_cases hj2 : j < 2
    · have hd : decide ((j : Int) < 2) = true := by simp; omega
      have hS := Lib.hid (slot_any j hj2 hN (H.out.later hB.out))
      obtain ⟨bl, hbl⟩ : ∃ bl, bl = decide (0 < j) := ⟨_, rfl⟩
      rw [← hbl]
      have HBL := Lib.hid hbl
      have hsz := hB.out.size
      clear hbl
      go_wp2_with fail
      refine hS.out.mono ?_
      rintro e w1 ⟨v, rfl, hO, hB1⟩
      obtain ⟨va, vc, ev, hvc, hL, _, _⟩ := own_shape hO
      subst ev
      rw [zb_length] at hvc ⊢
      have hCZ := Lib.hid (contains_zero va vc 2048 w1 hL (by omega))
      have hGZ := Lib.hid (get_zero va vc w1 hL hvc)
      have hb01 := hb0.out.below hB1 hb0.out.lt
      have hb11 := hb1.out.below hB1 hb1.out.lt
      have hBB := hB.out.trans (hB1.mono hsz)
      have HB01 := Lib.hid hb01
      have HB11 := Lib.hid hb11
      have HBB := Lib.hid hBB
      clear hO hL hB1 hd hb01 hb11 hBB
      cases bl
      all_goals
        go_wp2_with (first | (go_at_call 50; refine hCZ.out.mono ?_; rintro e w2 ⟨rfl, rfl⟩))
        refine hGZ.out.mono ?_
        rintro e w3 ⟨rfl, hB3⟩
        have HB3 := Lib.hid hB3
        clear hB3
        go_wp2_with fail
        have hz3 := HB3.out.size
        have hz1 := HBB.out.size
        exact ⟨⟨j + 1, hj2, rfl, by simp, by simp, Lib.hid ((HB01.out.below HB3.out HB01.out.lt).alloc _), Lib.hid ((HB11.out.below HB3.out HB11.out.lt).alloc _), Lib.hid ((HBB.out.trans (HB3.out.mono hz1)).alloc (by omega) _)⟩, by simp [intOf]; omega⟩
    · obtain rfl : j = 2 := by omega
      have hd : decide ((2 : Int) < 2) = false := by decide
      have ht : decide (0 < 2) = true := by decide
      have q0 := hb1.out.cell 0
      have q1 := hb1.out.cell 1
      have q2 := hb1.out.cell 2
      have p0 := hb0.out.cell 0
      have p1 := hb0.out.cell 1
      have p2 := hb0.out.cell 2
      have f0 := hb0.out.frozen 0
      have f1 := hb0.out.frozen 1
      have f2 := hb0.out.frozen 2
      simp at q0 q1 q2 p0 p1 p2
      go_wp2_with fail
      have hb3 := ((hb0.out.set 0 (.int .u64 0)).set 1 (.int .u32 0)).set 2 (.slice none 0 0)
      have r0 := hb3.cell 0
      have r1 := hb3.cell 1
      have r2 := hb3.cell 2
      simp at r0 r1 r2
      refine bodyPost_ret (v := .tuple #[.agg #[.int .u64 0, .int .u32 0, .slice none 0 0], .int .i64 0]) (by simp [results, Tryz.results30, go_sem, r0, r1, r2]) rfl ⟨rfl, ?_⟩
      exact ((hB.out.setCell (p := ⟨w.heap.size, 0, none⟩) (Nat.le_refl _) _).setCell (p := ⟨w.heap.size, 1, none⟩) (Nat.le_refl _) _).setCell (p := ⟨w.heap.size, 2, none⟩) (Nat.le_refl _) _
end Go.Proofs.YtfgjnpbffppocaaGreat.Man
