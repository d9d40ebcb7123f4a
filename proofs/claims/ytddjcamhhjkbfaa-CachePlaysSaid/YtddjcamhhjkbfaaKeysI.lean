/- Keys and Clear of a cache of int. -/
import Derived.Test.YtddjcamhhjkbfaaPutI
namespace Go.Proofs.Ytddjcamhhjkbfaa.CI
open Go.RowKit Go.Shelf Mem

theorem clear_nil (w : World) :
    Calls Try.prog 19 #[.pointer none] w fun e w' => e = .returned (.tuple #[]) ∧ w = w' := by
  go_enter Try.func19, Try.ntmps19
  go_wp2
  go_end0
  exact ⟨rfl, rfl⟩
theorem keys_nil (w : World) :
    Calls Try.prog 16 #[.pointer none] w fun e w' => e = .returned (.slice none 0 0) ∧ w = w' := by
  go_enter Try.func16, Try.ntmps16
  go_wp2
  go_ret
  exact ⟨rfl, rfl⟩

theorem info3 : (Try.prog.info? 3).map (fun i => (i.zero, i.size, i.bytes)) = some (some (.int .i64 0), 1, 8) := by kernel_rfl

def keysOf (ts : List Th) : List Value := ts.map fun t => .int .i64 t.key

set_option maxHeartbeats 2000000 in
set_option maxRecDepth 100000 in
theorem keys_any (B C : Nat) (v : Value) (room used : Int) (ts : List Th) (w : World) (h : Holds B C v room used ts w) (hl : ts.length ≤ 1000) :
    Calls Try.prog 16 #[.pointer (some ⟨C, 0, none⟩)] w fun e w' => ∃ v', e = .returned v' ∧ w'.ownsRow w.heap.size 3 1 v' ts.length (keysOf ts) ∧ Below w.heap.size w w' := by
  obtain ⟨i0, hi, hz0, hz1, hz2⟩ := info_parts info3
  have c2 := h.blk.cell 2
  simp at c2
  have hrow : ∀ (b cap : Nat), v = .slice (some ⟨b, 0, none⟩) ts.length cap → Row w b ts ∧ b < w.heap.size := fun b cap e => by
    have ho := h.own
    rw [e] at ho
    exact ⟨Row.of_own ho, (ho.lt b rfl).2⟩
  have hv : (v = .slice none 0 0 ∧ ts = []) ∨ ∃ b cap, v = .slice (some ⟨b, 0, none⟩) ts.length cap := by
    rcases h.own.2 with ⟨e, h0⟩ | ⟨b, cap, cur, e, _⟩
    · exact .inl ⟨e, List.length_eq_zero_iff.1 h0⟩
    · exact .inr ⟨b, cap, e⟩
  clear h
  rcases hv with ⟨rfl, rfl⟩ | ⟨b, cap, rfl⟩
  · clear hrow
    go_enter Try.func16, Try.ntmps16
    go_wp2_with fail
    refine wp_loop_rounds 1 ?_
    rw [rounds_succ]
    go_wp2
    go_ret
    exact ⟨_, rfl, World.ownsRow_nil _ _ _ _, Below.refl _ _⟩
  · obtain ⟨hr, hb⟩ := hrow b cap rfl
    have HR := Lib.hid hr
    clear hr hrow
    go_enter Try.func16, Try.ntmps16
    go_wp2_with fail
    go_loopw [3, 13] (fun o i wr => ∃ k : Nat, k ≤ ts.length ∧ i = .int .i64 k ∧ wr.ownsRow w.heap.size 3 1 o k (keysOf (ts.take k)) ∧ Below w.heap.size w wr) (fun _ i _ => ts.length - (intOf i).toNat)
    case atStart => exact ⟨0, Nat.zero_le _, rfl, World.ownsRow_nil _ _ _ _, Below.refl _ _⟩
    case round =>
      obtain ⟨k, hk, rfl, hown, hB⟩ := hrel
      have hBs := hB.size
      by_cases hlt : k < ts.length
      · obtain ⟨t, ht⟩ : ∃ t, ts[k]? = some t := ⟨_, List.getElem?_eq_getElem hlt⟩
        obtain ⟨f1, f2, f3⟩ := (HR.out.below hB hb) k t ht
        have hsn : Hid (keysOf (ts.take (k + 1)) = keysOf (ts.take k) ++ [.int .i64 t.key]) := by
          show keysOf _ = _
          rw [List.take_add_one, ht]; simp [keysOf]
        have HN : Hid (∀ j u, [Value.int .i64 t.key][j]? = some u → ((wr.alloc (.cells #[.int .i64 t.key, .int .i64 t.size, .int .i64 t.x] 57)).alloc (.cells #[.int .i64 t.key] 3)).cell? ((⟨wr.heap.size + 1, 0, none⟩ : Addr).add j) = some u) := by
          have := cell_one_new (wr.alloc (.cells #[.int .i64 t.key, .int .i64 t.size, .int .i64 t.x] 57)) (.int .i64 t.key) 3
          rw [World.size_alloc] at this
          exact this
        have HO := Lib.hid hown
        clear ht hown
        go_wp2_with (at_builtin; refine wpList_append_own _ rfl _ _ 40 rfl w.heap.size 3 i0 (.int .i64 0) 1 8 Try.underlying40 hi hz0 hz1 hz2 rfl (by decide) _ _ _ rfl (by exact (HO.out.alloc _).alloc _) ⟨wr.heap.size + 1, 0, none⟩ 1 1 [.int .i64 t.key] rfl rfl HN.out (by simp [Value.oneCell']) (by unfold maxLen; omega) (by omega) (by simp; omega) ?_; intro v' w1 hown' hgrow _)
        go_roundw
        case rel =>
          refine ⟨k + 1, by omega, by go_num, by rw [hsn.out]; exact hown', ?_⟩
          exact ((hB.alloc hBs _).alloc (by simp; omega) _).grown hgrow (by simp; omega) (fun j hj => (HO.out.lt j hj).1)
        case measure => simp [intOf]; omega
      · obtain rfl : k = ts.length := by omega
        go_wp2_with fail
        go_ret
        exact ⟨_, rfl, by rw [List.take_length] at hown; exact hown, hB⟩

theorem zero_one (z : Array Value) (n : Nat) (h : ∀ v ∈ z.toList, v.oneCell' = true) (hz : 0 < z.size) : ∀ v ∈ (Builtin.zeroCells z n).toList, v.oneCell' = true := by
  intro v hv
  simp only [Builtin.zeroCells, Array.toList_map, List.mem_map] at hv
  obtain ⟨i, _, rfl⟩ := hv
  have hi : i % z.size < z.size := Nat.mod_lt _ hz
  rw [getElem!_pos z (i % z.size) hi]
  exact h _ (by rw [Array.mem_toList_iff]; exact Array.getElem_mem hi)

set_option maxHeartbeats 2000000 in
set_option maxRecDepth 100000 in
theorem clear_any (B C : Nat) (v : Value) (room used : Int) (ts : List Th) (w : World) (h : Holds B C v room used ts w) :
    Calls Try.prog 19 #[.pointer (some ⟨C, 0, none⟩)] w fun e w' => e = .returned (.tuple #[]) ∧ Holds B C (.slice none 0 0) room 0 [] w' ∧ FR B w w' := by
  have c2 := h.blk.cell 2
  simp at c2
  have hCs := h.blk.lt
  have hv : ∀ w, (zeroValue 57).run Try.prog w = .ok (.agg #[.int .i64 0, .int .i64 0, .int .i64 0]) w := fun w => by kernel_rfl
  obtain ⟨W1, hcl, hB1, hfr⟩ : ∃ W1, (∀ ty, (Builtin.clear_ #[50] ty #[v]).run Try.prog w = .ok (.tuple #[]) W1) ∧ Blk W1 C 52 #[.int .i64 room, .int .i64 used, v] ∧ FR B w W1 := by
    rcases h.own.2 with ⟨e, h0⟩ | ⟨b, cap, cur, e, hbb, hblk, hn, hm, hsz, htk⟩
    · subst e
      exact ⟨w, fun ty => by simp [Builtin.clear_, run_underlying Try.underlying50], h.blk, Fr.refl _ _ _⟩
    · subst e
      by_cases hz : ts.length = 0
      · rw [hz]
        refine ⟨w, fun ty => by simp [Builtin.clear_, run_underlying Try.underlying50], ?_, Fr.refl _ _ _⟩
        have := h.blk
        rwa [hz] at this
      · obtain ⟨vs, hvs⟩ : ∃ vs, (Builtin.zeroCells #[.int .i64 0, .int .i64 0, .int .i64 0] ts.length).toList = vs := ⟨_, rfl⟩
        have hl : vs.length = ts.length * 3 := by rw [← hvs]; simp [Builtin.zeroCells]
        have hone : ∀ u ∈ vs, u.oneCell' = true := by
          rw [← hvs]
          exact zero_one _ _ (by intro v hv; simp at hv; subst hv; rfl) (by simp)
        have hblk' : Blk w b 57 cur := hblk
        have hst := run_storeCells_cells (P := Try.prog) b 0 vs 0 w (fun j hj => by rw [hblk'.cell]; simp; omega) (fun j hj => hblk'.frozen _) hone
        have hne : C ≠ b := h.blk.ne (t' := 57) hblk (by decide)
        refine ⟨w.setCells b 0 vs, fun ty => ?_, ?_, ?_⟩
        · obtain ⟨m, hm⟩ : ∃ m, ts.length = m + 1 := ⟨ts.length - 1, by omega⟩
          simp only [Nat.add_zero] at hst
          rw [hm] at hvs ⊢
          simp [Builtin.clear_, run_underlying Try.underlying50, hv, hvs, hst, Result.andThen, Value.cells]
        · exact h.blk.only ((Only.refl [b] w).setCells vs 0 (.inl (by simp))) (by simpa using hne)
        · exact Fr.setCells hbb (by simp) _ _ cur (Fr.refl _ _ _) hblk
  obtain ⟨a, n, cap, rfl⟩ : ∃ a n cap, v = .slice a n cap := by
    rcases h.own.2 with ⟨e, _⟩ | ⟨g', cap', cur, e, _⟩
    · exact ⟨_, _, _, e⟩
    · exact ⟨_, _, _, e⟩
  have hbase := h.base
  have k1 := hB1.cell 1
  have k2 := hB1.cell 2
  have l1 := hB1.frozen 1
  have l2 := hB1.frozen 2
  simp at k1 k2
  have HB1 := Lib.hid hB1
  have HFR := Lib.hid hfr
  clear h hB1 hfr hv
  go_enter Try.func19, Try.ntmps19
  go_wp2_with fail
  go_end0
  refine ⟨rfl, ⟨hbase, ?_, World.ownsRow_nil _ _ _ _⟩, ?_⟩
  · have := (HB1.out.set 2 (.slice none 0 0)).set 1 (.int .i64 0)
    simpa using this
  · exact (HFR.out.set HB1.out hbase (by simp) _).set (HB1.out.set 2 (.slice none 0 0)) hbase (by simp) _
end Go.Proofs.Ytddjcamhhjkbfaa.CI
