/- in of a cache of int: a thing put in, as the youngest. -/
import Derived.Test.YtddjcamhhjkbfaaOutI
namespace Go.Proofs.Ytddjcamhhjkbfaa.CI
open Go.RowKit Mem

theorem new_cells (w : World) (t : Th) : ∀ j u, t.vs[j]? = some u → (w.alloc (.cells #[.int .i64 t.key, .int .i64 t.size, .int .i64 (t.x)] 57)).cell? ((⟨w.heap.size, 0, none⟩ : Addr).add j) = some u := by
  intro j u hu
  rw [addr_add, (Blk.new w _ _).cell]
  simpa [Th.vs] using hu

set_option maxHeartbeats 2000000 in
set_option maxRecDepth 100000 in
theorem in_any (B C : Nat) (room used : Int) (v : Value) (t : Th) (ts : List Th) (w : World) (hC : Blk w C 52 #[.int .i64 room, .int .i64 used, v])
    (hown : w.ownsRow B 57 3 v ts.length (flat ts)) (hB : B ≤ w.heap.size) (hl : ts.length ≤ 1000) (hu : -9223372036854775808 ≤ used + t.size ∧ used + t.size ≤ 9223372036854775807) :
    Calls Try.prog 23 #[.pointer (some ⟨C, 0, none⟩), t.v] w fun e w' => e = .returned (.tuple #[]) ∧ ∃ b cap, Blk w' C 52 #[.int .i64 room, .int .i64 (used + t.size), .slice (some ⟨b, 0, none⟩) (ts.length + 1) cap] ∧
      w'.ownsRow B 57 3 (.slice (some ⟨b, 0, none⟩) (ts.length + 1) cap) (ts.length + 1) (flat (ts ++ [t])) ∧ Only (C :: v.ownBlock.toList) w w' ∧ (v.ownBlock = some b ∨ w.heap.size ≤ b) := by
  obtain ⟨i0, hi0, hz0, hz1, hz2⟩ := info_parts info
  have hCs := hC.lt
  have hne : w.heap.size ≠ C := by omega
  have c1 := hC.cell 1
  have c2 := hC.cell 2
  have l1 := hC.frozen 1
  have l2 := hC.frozen 2
  simp at c1 c2
  have HC := Lib.hid hC
  have HO := Lib.hid hown
  have hvC : Hid (v.ownBlock ≠ some C) := fun e => by
    rcases hown.2 with ⟨e', _⟩ | ⟨g', cap', cur, e', _, h1, _⟩
    · subst e'; cases e
    · subst e'
      have e : g' = C := by simpa [Value.ownBlock] using e
      exact hC.ne (t' := 57) h1 (by decide) e.symm
  have hvX : Hid (v.ownBlock ≠ some w.heap.size) := fun e => by
    have := (hown.lt _ e).2
    omega
  have hwr : IntKind.i64.wrap (used + t.size) = used + t.size := IntWalk.i64_in _ (by omega)
  have hnews : ∀ j u, t.vs[j]? = some u → ((w.alloc (.cells #[.int .i64 t.key, .int .i64 t.size, .int .i64 (t.x)] 57)).alloc (.cells #[.int .i64 t.key, .int .i64 t.size, .int .i64 (t.x)] 57)).drew.cell? ((⟨w.heap.size + 1, 0, none⟩ : Addr).add j) = some u := fun j u h => by
    have := new_cells (w.alloc (.cells #[.int .i64 t.key, .int .i64 t.size, .int .i64 (t.x)] 57)) t j u h
    rwa [World.size_alloc] at this
  have HN := Lib.hid hnews
  have hone : Hid (∀ u ∈ t.vs, u.oneCell' = true) := by
    intro u hu
    simp only [Th.vs, List.mem_cons, List.not_mem_nil, or_false] at hu
    rcases hu with rfl | rfl | rfl <;> rfl
  have HX : Hid (Blk ((w.alloc (.cells #[.int .i64 t.key, .int .i64 t.size, .int .i64 (t.x)] 57)).alloc (.cells #[.int .i64 t.key, .int .i64 t.size, .int .i64 (t.x)] 57)) w.heap.size 57 #[.int .i64 t.key, .int .i64 t.size, .int .i64 (t.x)]) := (Blk.new w _ _).alloc _
  have HC2 : Hid (Blk ((w.alloc (.cells #[.int .i64 t.key, .int .i64 t.size, .int .i64 (t.x)] 57)).alloc (.cells #[.int .i64 t.key, .int .i64 t.size, .int .i64 (t.x)] 57)) C 52 #[.int .i64 room, .int .i64 used, v]) := (hC.alloc _).alloc _
  have HO2 : Hid (((w.alloc (.cells #[.int .i64 t.key, .int .i64 t.size, .int .i64 (t.x)] 57)).alloc (.cells #[.int .i64 t.key, .int .i64 t.size, .int .i64 (t.x)] 57)).drew.ownsRow B 57 3 v ts.length (flat ts)) := (hown.alloc _).alloc _
  have hsz : Hid (B ≤ ((w.alloc (.cells #[.int .i64 t.key, .int .i64 t.size, .int .i64 (t.x)] 57)).alloc (.cells #[.int .i64 t.key, .int .i64 t.size, .int .i64 (t.x)] 57)).drew.heap.size) := by show B ≤ ((w.alloc _).alloc _).heap.size; simp; omega
  clear hC hown hnews
  unfold Th.v
  go_enter Try.func23, Try.ntmps23
  go_wp2_with fail
  go_region_law (refine step_append_lies _ rfl (.tmp 8) (.tmp 10) 50 rfl B 57 i0 (.agg #[.int .i64 0, .int .i64 0, .int .i64 0]) 3 24 Try.underlying50 hi0 hz0 hz1 hz2 rfl (by decide) v ts.length (flat ts) (by simp [Act.eval]) HO2.out ⟨w.heap.size + 1, 0, none⟩ 1 1 t.vs (by simp [Act.eval]) rfl HN.out hone.out (by decide) (by unfold maxLen; omega) (by omega) hsz.out _ rfl ?_; intro g cap w1 hown1 hgrow hat hlt; have hC1 := HC2.out.drew.grown hgrow (fun e => hvC.out e.symm); have hX1 := HX.out.drew.grown hgrow (fun e => hvX.out e.symm); have hs1 := hgrow.size; have HC1 := Lib.hid hC1; have k1 := hC1.cell 1; have k2 := hC1.cell 2; have j1 := hC1.frozen 1; have j2 := hC1.frozen 2; have x1 := hX1.cell 1; simp at k1 k2 x1 hs1; have HO1 := Lib.hid hown1; have HG := Lib.hid hgrow; have HA := Lib.hid hat; clear hC1 hX1 hown1 hgrow hat)
  all_goals go_wp2_with fail
  all_goals (go_region; go_wp2)
  all_goals
    go_end0
    refine ⟨rfl, g, cap, ?_, ?_, ?_, ?_⟩
    · have := ((HC1.out.set 2 (.slice (some ⟨g, 0, none⟩) (ts.length + 1) cap)).set 1 (.int .i64 (used + t.size))).drew
      simpa using this
    · have hgC : g ≠ C := by
        rcases HA.out with e | e
        · intro e'; subst e'; exact hvC.out e
        · have : ((w.alloc (.cells #[.int .i64 t.key, .int .i64 t.size, .int .i64 (t.x)] 57)).alloc (.cells #[.int .i64 t.key, .int .i64 t.size, .int .i64 (t.x)] 57)).heap.size = g := e.symm
          simp at this
          omega
      have h1 : ∀ q, (Value.slice (some ⟨g, 0, none⟩) (ts.length + 1) cap).ownBlock ≠ some (⟨C, q, none⟩ : Addr).block := fun q e => hgC (by simpa [Value.ownBlock] using e)
      have e1 : flat (ts ++ [t]) = flat ts ++ t.vs := by rw [flat_append]; simp [flat]
      rw [e1]
      exact own_far (own_far HO1.out (h1 2) _) (h1 1) _
    · have o1 : Only (C :: v.ownBlock.toList) w w1 := (((Only.refl _ w).alloc _).alloc _).drew.later (Only.of_grown (bs := v.ownBlock.toList) HG.out (fun g hg => .inl (by simp [hg]))) (fun g hg => .inl (by simp [hg]))
      exact ((o1.set (p := ⟨C, 2, none⟩) (.inl (by simp)) _).set (p := ⟨C, 1, none⟩) (.inl (by simp)) _).drew
    · rcases HA.out with e | e
      · exact .inl e
      · have : ((w.alloc (.cells #[.int .i64 t.key, .int .i64 t.size, .int .i64 (t.x)] 57)).alloc (.cells #[.int .i64 t.key, .int .i64 t.size, .int .i64 (t.x)] 57)).heap.size = g := e.symm
        simp at this
        exact .inr (by omega)
end Go.Proofs.Ytddjcamhhjkbfaa.CI
