/- Layer 8: a disk that nothing was written to. -/
import Derived.Test.YtfgjnpbffppocaaGreatMark
import Derived.Deep.RegionHeld3
import Derived.Outline
import Derived.Test.YtfgjnpbffppocaaGreatIter
import Derived.RangeFuncBound
import Derived.RangeFuncNested
namespace Go.Proofs.YtfgjnpbffppocaaGreat.Disk
open Go.RowKit Go.Deep Go.Shelf Mem Crc

def zs (n : Nat) : Array Value := Array.replicate n (.int .u8 0)
/-- A blank disk of n blocks at block d; its bytes lie in block g. -/
structure Blank (w : World) (d g n : Nat) (off : Bool) : Prop where
  disk : Blk w d 89 #[.slice (some ⟨g, 0, none⟩) n n, .slice none 0 0, .bool off, .int .i64 (-1)]
  row : Blk w g 143 (zs (n * 128))
theorem info128 : (Tryz.prog.info? 143).map (fun i => (i.zero, i.size, i.bytes)) = some (some (.agg (zs 128)), 128, 128) := by kernel_rfl
theorem made_zs (m : Nat) : madeCells (zs 128) m = zs m := by
  apply Array.ext
  · simp [madeCells, zs]
  · intro i h1 h2
    have h3 : i % 128 < 128 := Nat.mod_lt _ (by decide)
    simp only [madeCells, zs, Array.size_replicate, Array.getElem_map, Array.getElem_range, Array.getElem_replicate]
    rw [getElem!_pos _ _ (by simpa using h3), Array.getElem_replicate]
set_option maxHeartbeats 400000 in
set_option maxRecDepth 100000 in
theorem new_any (n : Nat) (w : World) (h : 1 ≤ n) (h2 : n ≤ 2000) :
    Calls Tryz.prog 18 #[.int .i64 (n : Int)] w fun e w' => ∃ d g, e = .returned (.tuple #[.pointer (some ⟨d, 0, none⟩), .int .i64 0]) ∧ Blank w' d g n false ∧ w.heap.size ≤ d ∧ w.heap.size ≤ g ∧ Below w.heap.size w w' := by
  have h1 : decide ((n : Int) < 1) = false := by simp; omega
  have h3 : decide (65536 < (n : Int)) = false := by simp; omega
  obtain ⟨i0, hi0, hz0, hz1, hz2⟩ := info_parts info128
  have hmk : (Instr.makeSlice 86 (.int .i64 (n : Int)) (.int .i64 (n : Int))).run Tryz.prog w = .ok (.slice (some ⟨w.heap.size, 0, none⟩) n n) (w.alloc (.cells (zs (n * 128)) 143)) := by
    have e := run_makeSlice w (P := Tryz.prog) 86 143 i0 (.agg (zs 128)) Tryz.underlying86 hi0 hz0 .i64 .i64 n n (by omega) (by omega) (by rw [hz1]; simp; omega) (by rw [hz2]; omega) (by omega)
    simp only [Value.cells, hz1, made_zs, Int.toNat_natCast] at e
    exact e
  go_enter Tryz.func18, Tryz.ntmps18
  go_wp2_with fail
  go_ret2
  exact ⟨_, w.heap.size, rfl, ⟨Blk.at_ (by simp), (Blk.new w _ _).alloc _⟩, by simp, Nat.le_refl _, ((Below.refl _ w).alloc (Nat.le_refl _) _).alloc (by simp) _⟩
theorem Blank.later {d g n : Nat} {off : Bool} {w w' : World} (h : Blank w d g n off) (hB : Below w.heap.size w w') : Blank w' d g n off := ⟨h.disk.below hB h.disk.lt, h.row.below hB h.row.lt⟩
theorem Blank.keep {d g n : Nat} {off : Bool} {w w' : World} (h : Blank w d g n off) (h1 : w'.heap[d]? = w.heap[d]?) (h2 : w'.heap[g]? = w.heap[g]?) : Blank w' d g n off := ⟨h1.trans h.disk, h2.trans h.row⟩

theorem count_any {d g n : Nat} {off : Bool} {w : World} (h : Blank w d g n off) :
    Calls Tryz.prog 33 #[.pointer (some ⟨d, 0, none⟩)] w fun e w' => e = .returned (.int .i64 (n : Int)) ∧ w' = w := by
  have c0 := h.disk.cell 0
  simp at c0
  clear h
  go_enter Tryz.func33, Tryz.ntmps33
  go_wp2_with fail
  go_ret
  exact ⟨rfl, rfl⟩
theorem on_any {d g n : Nat} {off : Bool} {w : World} (h : Blank w d g n off) :
    Calls Tryz.prog 79 #[.pointer (some ⟨d, 0, none⟩)] w fun e w' => e = .returned (.bool !off) ∧ w' = w := by
  have c2 := h.disk.cell 2
  simp at c2
  clear h
  go_enter Tryz.func79, Tryz.ntmps79
  cases off
  · go_wp2_with fail
    go_ret
    exact ⟨rfl, rfl⟩
  · go_wp2_with fail
    go_ret
    exact ⟨rfl, rfl⟩
theorem there_any {d g n : Nat} {off : Bool} (i : Nat) {w : World} (h : Blank w d g n off) (hi : i < n) :
    Calls Tryz.prog 106 #[.pointer (some ⟨d, 0, none⟩), .int .i64 (i : Int)] w fun e w' => e = .returned (.bool true) ∧ w' = w := by
  have hC := Lib.hid (count_any h)
  clear h
  have h0 : decide ((0 : Int) ≤ (i : Int)) = true := by simp
  have h1 : decide ((i : Int) < (n : Int)) = true := by simp; omega
  go_enter Tryz.func106, Tryz.ntmps106
  go_wp2_with fail
  refine hC.out.mono ?_
  rintro e w1 ⟨rfl, rfl⟩
  go_wp2_with fail
  go_ret
  exact ⟨rfl, rfl⟩
theorem may_on {d g n : Nat} (i : Nat) {w : World} (h : Blank w d g n false) (hi : i < n) :
    Calls Tryz.prog 77 #[.pointer (some ⟨d, 0, none⟩), .int .i64 (i : Int)] w fun e w' => e = .returned (.int .i64 0) ∧ w' = w := by
  have hC := Lib.hid (on_any h)
  have hT := Lib.hid (there_any i h hi)
  clear h
  go_enter Tryz.func77, Tryz.ntmps77
  go_wp2_with fail
  refine hC.out.mono ?_
  rintro e w1 ⟨rfl, rfl⟩
  go_wp2_with fail
  refine hT.out.mono ?_
  rintro e w1 ⟨rfl, rfl⟩
  go_wp2_with fail
  go_ret
  exact ⟨rfl, rfl⟩
theorem off_any {d g n : Nat} {off : Bool} {w : World} (h : Blank w d g n off) :
    Calls Tryz.prog 17 #[.pointer (some ⟨d, 0, none⟩)] w fun e w' => e = .returned (.tuple #[]) ∧ Blank w' d g n true ∧ Only [d] w w' := by
  have fz := h.disk.frozen 2
  have hne := h.disk.ne h.row (by decide)
  have hb : Blank (w.setCell ⟨d, 2, none⟩ (.bool true)) d g n true := ⟨h.disk.set 2 (.bool true), h.row.far (Ne.symm hne) _⟩
  have ho := (Only.refl [d] w).set (p := ⟨d, 2, none⟩) (.inl (by simp)) (.bool true)
  have HB := Lib.hid hb
  have c2 := h.disk.cell 2
  simp at c2
  clear h hb
  go_enter Tryz.func17, Tryz.ntmps17
  go_wp2_with fail
  go_end0
  exact ⟨rfl, HB.out, ho⟩
theorem infoB : (Tryz.prog.info? 143).map (·.size) = some 128 := by kernel_rfl
theorem zero128 : Tryz.zeroCells143 = zs 128 := by kernel_rfl
theorem row_range {w : World} {g n i : Nat} (h : Blk w g 143 (zs (n * 128))) (hi : i < n) : w.rangeAt g (i * 128) (List.replicate 128 (.int .u8 0)) := fun j v hv => by
  rw [h.cell]
  obtain ⟨hj, hv2⟩ := List.getElem?_eq_some_iff.1 hv
  rw [List.length_replicate] at hj
  rw [List.getElem_replicate] at hv2
  subst hv2
  unfold zs
  rw [Array.getElem?_replicate, if_pos (by omega)]
theorem new_there (w : World) (t : TypeId) (m : Nat) : (w.alloc (.cells (zs m) t)).there w.heap.size 0 m := fun j hj => by
  have h := Blk.new w t (zs m)
  refine ⟨?_, h.frozen _⟩
  rw [h.cell]
  unfold zs
  rw [Nat.zero_add, Array.getElem?_replicate, if_pos hj]
  rfl
theorem backward_nil (w : World) : Calls Tryz.prog 97 #[.slice none 0 0] w fun e w' => e = .returned (.func (.func 115) #[] #[.pointer (some ⟨w.heap.size, 0, none⟩)]) ∧ w' = w.alloc (.cells #[.slice none 0 0] 87) := by
  go_enter Tryz.func97, Tryz.ntmps97
  go_wp2_with fail
  go_ret
  exact ⟨rfl, rfl⟩
/-- Ranged over it gives nothing. -/
theorem backward_stops (m B : Nat) (w : World) (hB : B < w.heap.size) (hc : w.cell? ⟨B, 0, none⟩ = some (.slice none 0 0)) :
    SeqStopsK Fence.wide m Tryz.prog 115 #[.pointer (some ⟨B, 0, none⟩)] (fun _ : Empty => #[Value.int .i64 0, Value.int .i64 0]) (fun _ _ => True) (fun ys => ys = []) (fun _ => False) 0 w := fun l J Jx W hW _ _ _ h0 => by
  have hc' := (hW.cell (p := ⟨B, 0, none⟩) hB).trans hc
  refine callsIn_wide.2 ?_
  go_enter Tryz.func115, Tryz.ntmps115
  go_wp2_with fail
  go_loopw [3] (fun i wr => i = .int .i64 (-1) ∧ wr = W) (fun _ _ => 0)
  case atStart => exact ⟨rfl, rfl⟩
  case round =>
    obtain ⟨rfl, rfl⟩ := hrel
    go_wp2_with fail
    go_end0
    exact ⟨⟨_, rfl⟩, .inl ⟨[], rfl, h0⟩⟩
theorem len128 : Tryz.prog.arrayLen 143 = 128 := by kernel_rfl
theorem elem128 : Tryz.prog.elem 143 = 5 := by kernel_rfl
theorem und128 : Tryz.prog.underlying 143 = some (.array (Tryz.prog.arrayLen 143) (Tryz.prog.elem 143)) := by rw [len128, elem128]; exact Tryz.underlying143
theorem size8d (w : World) : (sizeOf 5).run Tryz.prog w = .ok 1 w := by kernel_rfl
theorem slice128 (g : Nat) (w : World) : (Instr.sliceAt 143 (.pointer (some ⟨g, 0, none⟩)) none none none).run Tryz.prog w = .ok (.slice (some ⟨g, 0, none⟩) 128 128) w := by
  rw [run_sliceAt_array_all w 143 ⟨g, 0, none⟩ und128, elem128, size8d, len128]
  simp [slicedAt, Addr.add, Result.andThen]
theorem Below.setCells_at {B g : Nat} (hg : B ≤ g) : ∀ (vs : List Value) (o : Nat) {a w : World}, Below B a w → Below B a (w.setCells g o vs)
  | [], _, _, _, h => h
  | v :: r, o, _, _, h => Below.setCells_at hg r (o + 1) (h.setCell (p := ⟨g, o, none⟩) hg v)
set_option maxHeartbeats 400000 in
set_option maxRecDepth 100000 in
theorem read_any {d g n : Nat} (i : Nat) {w : World} (h : Blank w d g n false) (hi : i < n) :
    Calls Tryz.prog 71 #[.pointer (some ⟨d, 0, none⟩), .int .i64 (i : Int)] w fun e w' => ∃ a, e = .returned (.tuple #[.slice a 128 128, .int .i64 0]) ∧ Lies w' a ((List.replicate 128 0).map bv) ∧ Below w.heap.size w w' := by
  have hal := (Below.refl w.heap.size w).alloc (Nat.le_refl _) (Obj.cells #[Value.int .i64 (i : Int)] 3)
  have h1 := h.later hal
  have hM := Lib.hid (may_on i h1 hi)
  have c0 := h1.disk.cell 0
  have c1 := h1.disk.cell 1
  have ci : (w.alloc (Obj.cells #[Value.int .i64 (i : Int)] 3)).cell? ⟨w.heap.size, 0, none⟩ = some (.int .i64 (i : Int)) := by rw [(Blk.new w 3 #[Value.int .i64 (i : Int)]).cell]; rfl
  simp at c0 c1
  obtain ⟨zl, hzl⟩ : ∃ zl : List Value, zl = List.replicate 128 (.int .u8 0) := ⟨_, rfl⟩
  have hrow := row_range h1.row hi
  rw [← hzl] at hrow
  have hzo : ∀ v ∈ zl, v.oneCell' = true := fun v hv => by rw [hzl, List.mem_replicate] at hv; rw [hv.2]; rfl
  have hzn : zl.length = 128 := by rw [hzl, List.length_replicate]
  have hu : Tryz.prog.underlying 143 = _ := Tryz.underlying143
  have hinf : (Tryz.prog.info? 143).map (·.size) = some zl.length := by rw [hzn]; exact infoB
  have hinf2 : (Tryz.prog.info? 143).map (·.size) = some zl.toArray.size := by simp only [List.size_toArray, hzn]; exact infoB
  obtain ⟨A, hA⟩ : ∃ A, A = w.alloc (Obj.cells #[Value.int .i64 (i : Int)] 3) := ⟨_, rfl⟩
  have hAs : A.heap.size = w.heap.size + 1 := by rw [hA]; simp
  rw [← hA] at h1 hM c0 c1 ci hrow hal
  have hth2 : (A.alloc (.cells Tryz.zeroCells143 143)).drew.there (w.heap.size + 1) 0 zl.toArray.size := by
    have e : zl.toArray.size = 128 := by simp [hzn]
    rw [e, zero128, ← hAs]
    exact new_there A 143 128
  have hS : ∀ W, Below A.heap.size A W → W.cell? ⟨d, 0, none⟩ = some (.slice (some ⟨g, 0, none⟩) n n) ∧ W.cell? ⟨w.heap.size, 0, none⟩ = some (.int .i64 (i : Int)) ∧ W.rangeAt g (i * 128) zl := fun W hW =>
    ⟨(hW.cell (p := ⟨d, 0, none⟩) h1.disk.lt).trans c0, (hW.cell (p := ⟨w.heap.size, 0, none⟩) (by show w.heap.size < _; omega)).trans ci, fun j v hv => (hW.cell (p := ⟨g, i * 128 + j, none⟩) h1.row.lt).trans (hrow j v hv)⟩
  have hS0 := hS A.drew ((Below.refl _ A).drew)
  have hB2 : Below A.heap.size A (A.alloc (.cells Tryz.zeroCells143 143)).drew := ((Below.refl _ A).alloc (Nat.le_refl _) _).drew
  have hS2 := hS _ hB2
  have hB3 := Below.setCells_at (g := w.heap.size + 1) (by omega) zl 0 hB2
  have hS3 := hS _ hB3
  have HB3 := Lib.hid hB3
  have HAA := Lib.hid hA
  have HZL := Lib.hid hzl
  have HZN := Lib.hid hzn
  have HA := Lib.hid hal
  have hin : (i : Int) < (n : Int) := by omega
  have HLT := Lib.hid (show d < w.heap.size + 1 from Nat.lt_succ_of_lt h.disk.lt)
  rw [hA] at hM hS0 hS2 hS3 c0 c1 hth2
  clear h h1 hal hzl hzn hrow ci hS hB2 hB3 hA
  refine (callsIn_wide (n := 5)).1 ?_
  refine callsIn_of_wp_marks Tryz.func71 rfl trivial ?_ rfl
  simp only [Tryz.ntmps71, List.size_toArray, List.length_cons, List.length_nil, Nat.reduceAdd, Nat.reduceSub, Array.replicate_succ, Array.replicate_zero, List.push_toArray, List.append_toArray, List.nil_append, List.cons_append]
  refine wpIn_wide.2 ?_
  go_wp2_with fail
  refine hM.out.mono ?_
  rintro e w1 ⟨rfl, rfl⟩
  go_wp2_with fail
  go_region_held3 (fun w' => w'.cell? ⟨d, 0, none⟩ = some (.slice (some ⟨g, 0, none⟩) n n) ∧ w'.cell? ⟨w.heap.size, 0, none⟩ = some (.int .i64 (i : Int)) ∧ w'.rangeAt g (i * 128) zl) (first | exact hS0 | exact hS2 | exact hS3) (skip)
  obtain ⟨W, hW⟩ : ∃ W, W = ((w.alloc (Obj.cells #[Value.int .i64 (i : Int)] 3)).alloc (Obj.cells Tryz.zeroCells143 143)).drew.setCells (w.heap.size + 1) 0 zl := ⟨_, rfl⟩
  have hBW : Below A.heap.size A W := by rw [hW, ← HAA.out]; exact HB3.out
  have d1 : W.cell? ⟨d, 1, none⟩ = some (.slice none 0 0) := (hBW.cell (p := ⟨d, 1, none⟩) (by rw [hAs]; exact HLT.out)).trans (by rw [HAA.out]; exact c1)
  have hBlk : Blk W (w.heap.size + 1) 143 zl.toArray := by
    have h0 : Blk ((w.alloc (Obj.cells #[Value.int .i64 (i : Int)] 3)).alloc (Obj.cells Tryz.zeroCells143 143)).drew (w.heap.size + 1) 143 (zs 128) := by rw [← zero128]; exact Blk.at_ (by simp)
    obtain ⟨cs', h1, h2⟩ := Blk.splice zl 0 _ _ h0 (by rw [HZN.out]; simp [zs])
    rw [hW]
    have e : cs' = zl.toArray := by
      apply Array.ext'
      rw [h2, Nat.zero_add, HZN.out]
      simp [zs]
    rw [← e]
    exact h1
  have hBw : Below w.heap.size w W := by
    have h1 : Below w.heap.size w A := by rw [HAA.out]; exact (Below.refl _ w).alloc (Nat.le_refl _) _
    exact h1.trans (hBW.mono (by omega))
  have hWs : w.heap.size + 1 < W.heap.size := hBlk.lt
  rw [← hW]
  have HBLK := Lib.hid hBlk
  have HBW := Lib.hid hBw
  clear hW hBW hBlk hBw c0 c1 hS0 hS2 hS3 hth2 HB3 HAA hM hu hinf hinf2
  go_wp2_with (go_at_call 97; refine (backward_nil _).mono ?_; rintro e w3 ⟨rfl, rfl⟩)
  refine (wpIn_wide (n := 4)).1 ?_
  refine wpIn_rangeFunc_ownG (α := Empty) (encs := fun _ => #[Value.int .i64 0, Value.int .i64 0]) (gf := 115) (lb := #[.pointer (some ⟨W.heap.size, 0, none⟩)]) rfl (by omega) rfl trivial (enters_of Tryz.func115 (by kernel_rfl) rfl)
    ((backward_stops _ W.heap.size (W.alloc (.cells #[.slice none 0 0] 87)) (by simp) (by rw [(Blk.new W 87 #[Value.slice none 0 0]).cell]; rfl))) (fun _ _ => trivial) (fun _ _ _ _ _ _ _ _ => trivial) (Below.refl _ _) (fun _ => rfl)
    (fun _ V => Below W.heap.size W V) (fun _ _ _ => False) (ownFrom_below (Nat.le_refl _) (by simp)) (fun _ _ _ _ _ hs _ _ => hs) ((Below.refl _ W).alloc (Nat.le_refl _) _) (fun _ => ⟨#[], []⟩) (fun _ x => nomatch x) (fun _ _ x => nomatch x) ?done (fun _ _ _ _ _ h _ _ => False.elim h)
  case done =>
    rintro D ys W1 hD rfl hB1 hK
    have hs1 := hB1.size
    dsimp only
    have HK := Lib.hid hK
    have HB1 := Lib.hid hB1
    have hrow := HBLK.out.below hB1 hWs
    have hslc := fun X : World => slice128 (w.heap.size + 1) X
    have HROW := Lib.hid hrow
    clear hK hB1 hrow
    go_wp2_with fail
    have hD' : w.heap.size + 1 < D := by simp at hD; omega
    have hBp : Below D W1 (W1.putObj D (.deferred none)) := (Below.refl D W1).grown (grownBy_putObj' W1 D _) (Nat.le_of_lt (Array.getElem?_eq_some_iff.1 HK.out).1) (fun k e => by cases e; exact Nat.le_refl _)
    have hrow2 := HROW.out.below hBp hD'
    refine ⟨by simp, .inl ⟨_, _, rfl, run_takeDeferred HK.out, ?_⟩⟩
    refine ⟨.tuple #[.slice (some ⟨w.heap.size + 1, 0, none⟩) 128 128, .int .i64 0], by simp [results, Tryz.results71, go_sem], _, rfl, ?_, (HBW.out.trans (HB1.out.mono (by omega))).trans (hBp.mono (by omega))⟩
    refine .inr ⟨_, _, rfl, hrow2.lt, fun j u hu => ?_⟩
    rw [hrow2.cell, Nat.zero_add, List.getElem?_toArray, HZL.out]
    rw [← hu]
    simp [bv]
end Go.Proofs.YtfgjnpbffppocaaGreat.Disk
