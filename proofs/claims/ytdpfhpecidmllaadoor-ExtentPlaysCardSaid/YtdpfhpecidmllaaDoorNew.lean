/- Layer 7: New. -/
import Derived.Test.YtdpfhpecidmllaaDoorNil
import Derived.Deep.OwnRows
namespace Go.Proofs.YtdpfhpecidmllaaDoor.Ext
open Go.RowKit Go.Shelf Mem
def cnt (n : Int) : Int := min (max n 0) 65536
theorem infoW : (Tryd.prog.info? 48).map (fun i => (i.zero, i.size, i.bytes)) = some (some (.int .u64 0), 1, 8) := by kernel_rfl
/-- A new map: its two blocks. -/
structure Fresh (n : Int) (w w' : World) : Prop where
  map : Blk w' (w.heap.size + 1) 46 #[.slice (some ⟨w.heap.size, 0, none⟩) ((cnt n + 63) / 64).toNat ((cnt n + 63) / 64).toNat, .int .i64 (cnt n), .int .i64 0]
  words : Blk w' w.heap.size 48 (madeCells #[.int .u64 0] ((cnt n + 63) / 64).toNat)
  below : Below w.heap.size w w'
set_option maxHeartbeats 1000000 in
theorem new_any (n : Int) (w : World) : Calls Tryd.prog 8 #[.int .i64 n] w fun e w' => e = .returned (.pointer (some ⟨w.heap.size + 1, 0, none⟩)) ∧ Fresh n w w' := by
  obtain ⟨c, hc⟩ : ∃ c, c = cnt n := ⟨_, rfl⟩
  have hc0 : 0 ≤ c ∧ c ≤ 65536 := by rw [hc]; unfold cnt; omega
  obtain ⟨m, hm⟩ : ∃ m : Nat, (c + 63) / 64 = (m : Int) := ⟨((c + 63) / 64).toNat, by omega⟩
  have hmk : ∀ w, (Instr.makeSlice 44 (.int .i64 ((c + 63) / 64)) (.int .i64 ((c + 63) / 64))).run Tryd.prog w = .ok (.slice (some ⟨w.heap.size, 0, none⟩) m m) (w.alloc (.cells (madeCells #[.int .u64 0] m) 48)) := fun w => by
    rw [hm]
    exact run_make_row' 44 48 (.int .u64 0) 8 Tryd.underlying44 infoW rfl .i64 .i64 m (by omega) (by omega) w
  have hw : IntKind.i64.wrap (c + 64) = c + 64 := IntWalk.i64_in _ (by omega)
  have hw2 : IntKind.i64.wrap (c + 64 - 1) = c + 63 := by rw [show c + 64 - 1 = c + 63 by omega]; exact IntWalk.i64_in _ (by omega)
  have fin : ∀ w', Blk w' (w.heap.size + 1) 46 #[.slice (some ⟨w.heap.size, 0, none⟩) m m, .int .i64 c, .int .i64 0] → Blk w' w.heap.size 48 (madeCells #[.int .u64 0] m) → Below w.heap.size w w' → Fresh n w w' := fun w' h1 h2 h3 => by
    have e : ((cnt n + 63) / 64).toNat = m := by rw [← hc, hm]; rfl
    exact ⟨by rw [e, ← hc]; exact h1, by rw [e]; exact h2, h3⟩
  have HF := Lib.hid fin
  clear fin
  have hcase : (n < 0 ∧ c = 0) ∨ (65536 < n ∧ c = 65536) ∨ (0 ≤ n ∧ n ≤ 65536 ∧ c = n) := by rw [hc]; unfold cnt; omega
  clear hc
  have fin2 : ∀ c : Int, (∀ w', Blk w' (w.heap.size + 1) 46 #[.slice (some ⟨w.heap.size, 0, none⟩) m m, .int .i64 c, .int .i64 0] → Blk w' w.heap.size 48 (madeCells #[.int .u64 0] m) → Below w.heap.size w w' → Fresh n w w') →
      Fresh n w ((w.alloc (.cells (madeCells #[.int .u64 0] m) 48)).alloc (.cells #[.slice (some ⟨w.heap.size, 0, none⟩) m m, .int .i64 c, .int .i64 0] 46)) := fun c h =>
    h _ (Blk.at_ (by rw [World.size_alloc])) ((Blk.new w _ _).alloc _) (((Below.refl _ w).alloc (Nat.le_refl _) _).alloc (by simp) _)
  have HF2 := Lib.hid (fin2 c HF.out)
  clear fin2 HF
  rcases hcase with ⟨h, rfl⟩ | ⟨h, rfl⟩ | ⟨h, h2, rfl⟩
  · obtain rfl : m = 0 := by omega
    simp at hmk
    go_enter Tryd.func8, Tryd.ntmps8
    go_wp2_with fail
    go_ret
    exact ⟨rfl, HF2.out⟩
  · obtain rfl : m = 1024 := by omega
    simp at hmk
    go_enter Tryd.func8, Tryd.ntmps8
    go_wp2_with fail
    go_ret
    exact ⟨rfl, HF2.out⟩
  · have HM := Lib.hid hm
    clear hm
    go_enter Tryd.func8, Tryd.ntmps8
    go_wp2_with fail
    go_ret
    exact ⟨rfl, HF2.out⟩
end Go.Proofs.YtdpfhpecidmllaaDoor.Ext
