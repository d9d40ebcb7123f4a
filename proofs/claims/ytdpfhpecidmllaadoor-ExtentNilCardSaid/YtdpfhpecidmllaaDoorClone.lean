/- Layer 7: Clone. -/
import Derived.Test.YtdpfhpecidmllaaDoorTakeW
import Derived.StillTailTactics
import Derived.WalkSpells
namespace Go.Proofs.YtdpfhpecidmllaaDoor.Ext
open Go.RowKit Go.Shelf Go.Deep Mem

/-- The words of a map as they lie. -/
theorem words_list {C g cap : Nat} {k : List Bool} {w : World} (h : Holds C g cap k w) : ∃ ws : List Value, ws.length = nw k ∧ (∀ j u, ws[j]? = some u → w.cell? ⟨g, j, none⟩ = some u) ∧ (∀ u ∈ ws, u.oneCell' = true) ∧
    ∀ j, j < nw k → ∃ x : Nat, x < 2 ^ 64 ∧ ws[j]? = some (.int .u64 x) ∧ ∀ b, b < 64 → j * 64 + b < k.length → k[j * 64 + b]? = some (x.testBit b) := by
  obtain ⟨cs, hcs, hb⟩ := h.words
  obtain ⟨X, hX⟩ := choose_lt (α := Nat) hb
  refine ⟨(List.range (nw k)).map (fun j => Value.int .u64 (X j)), by simp, fun j u hu => ?_, fun u hu => ?_, fun j hj => ⟨X j, (hX j hj).1, by simp [hj], (hX j hj).2.2⟩⟩
  · have hj : j < nw k := by have := (List.getElem?_eq_some_iff.1 hu).1; simpa using this
    obtain rfl : Value.int .u64 (X j) = u := by simpa [hj] using hu
    exact (hcs.cell j).trans (hX j hj).2.1
  · obtain ⟨j, _, rfl⟩ := List.mem_map.1 hu
    rfl
theorem infoU : (Tryd.prog.info? 48).map (fun i => (i.zero, i.size, i.bytes)) = some (some (.int .u64 0), 1, 8) := by kernel_rfl
set_option maxHeartbeats 1000000 in
theorem sclone_any (g n cap : Nat) (ws : List Value) (w : World) (hn : ws.length = n) (hc : ∀ j u, ws[j]? = some u → w.cell? ⟨g, j, none⟩ = some u) (h1 : ∀ u ∈ ws, u.oneCell' = true) (hm : n ≤ 2000) :
    Calls Tryd.prog 18 #[.slice (some ⟨g, 0, none⟩) n cap] w fun e w' => ∃ g' cap' , e = .returned (.slice (some ⟨g', 0, none⟩) n cap') ∧ w'.ownsRow w.heap.size 48 1 (.slice (some ⟨g', 0, none⟩) n cap') n ws ∧ Below w.heap.size w w' := by
  obtain ⟨i0, hi0, hz0, hz1, hz2⟩ := info_parts infoU
  have hne := fun w => Lib.run_eql_slice_nil (P := Tryd.prog) w 44 48 (some ⟨g, 0, none⟩) n cap 0 0 Tryd.underlying44
  have hal := (Below.refl w.heap.size w).alloc (Nat.le_refl _) (.cells #[] 48)
  have hown : (w.alloc (.cells #[] 48)).ownsRow w.heap.size 48 1 (.slice (some ⟨w.heap.size, 0, none⟩) 0 0) 0 [] := World.ownsRow_lit w #[] 0 (Nat.le_refl _) (by decide) rfl
  have hcells : ∀ j u, ws[j]? = some u → (w.alloc (.cells #[] 48)).cell? ((⟨g, 0, none⟩ : Addr).add j) = some u := fun j u hu => by
    have e : (⟨g, 0, none⟩ : Addr).add j = ⟨g, j, none⟩ := by unfold Addr.add; split <;> simp_all
    have hcw := hc j u hu
    rw [e]
    exact (hal.cell (p := ⟨g, j, none⟩) (World.block_lt_of_cell? w _ hcw)).trans hcw
  have HC := Lib.hid hcells
  have H1 := Lib.hid h1
  have HA := Lib.hid hal
  have HN := Lib.hid hn
  clear hcells h1 hc hal hn
  go_enter Tryd.func18, Tryd.ntmps18
  go_wp2_with (first | (at_builtin; refine wpList_append_own _ rfl _ _ 44 rfl w.heap.size 48 i0 (.int .u64 0) 1 8 Tryd.underlying44 hi0 hz0 hz1 hz2 rfl (by decide) _ _ _ rfl hown ⟨g, 0, none⟩ n cap ws rfl ?c1 HC.out H1.out ?c3 ?c4 ?c5 ?_))
  case c1 => rw [HN.out]; simp
  case c3 => unfold maxLen; omega
  case c4 => omega
  case c5 => simp
  intro v' w1 hown1 hgrow1 hv
  have hB1 : Below w.heap.size w w1 := HA.out.grown hgrow1 (by simp) (fun q hq => (hown.lt q hq).1)
  have hv' : ¬ v' = .slice none 0 0 := hv
  obtain ⟨g', cap', e⟩ : ∃ g' cap', v' = .slice (some ⟨g', 0, none⟩) n cap' := by
    rcases hown1.2 with ⟨h0, _⟩ | ⟨g', cap', cur, e, _⟩
    · exact absurd h0 hv'
    · exact ⟨g', cap', e⟩
  subst e
  have HO := Lib.hid hown1
  clear hown1 hgrow1 hv hv'
  go_wp2_with fail
  go_ret
  exact ⟨g', cap', rfl, HO.out, hB1⟩
set_option maxHeartbeats 1000000 in
theorem clone_any (C g cap : Nat) (k : List Bool) (w : World) (h : Holds C g cap k w) :
    Calls Tryd.prog 10 #[.pointer (some ⟨C, 0, none⟩)] w fun e w' => ∃ C' g' cap', e = .returned (.pointer (some ⟨C', 0, none⟩)) ∧ Holds C' g' cap' k w' ∧ w.heap.size ≤ C' ∧ w.heap.size ≤ g' ∧ Below w.heap.size w w' := by
  obtain ⟨ws, hn, hc, h1, hb⟩ := words_list h
  have hsm := h.small
  have hal := (Below.refl w.heap.size w).alloc (Nat.le_refl _) (.cells #[.slice (some ⟨g, 0, none⟩) (nw k) cap, .int .i64 k.length, .int .i64 (tak k)] 46)
  have HC := fun w2 hb => Lib.hid (sclone_any g (nw k) cap ws w2 hn (fun j u hu => (Below.cell (B := w.heap.size) (w := w) (w' := w2) hb (p := ⟨g, j, none⟩) (World.block_lt_of_cell? w _ (hc j u hu))).trans (hc j u hu)) h1 (by unfold nw; omega))
  have c0 := h.map.cell 0
  have c1 := h.map.cell 1
  have c2 := h.map.cell 2
  simp at c0 c1 c2
  have hCw := h.lt.1
  go_enter Tryd.func10, Tryd.ntmps10
  go_wp2_with fail
  refine (HC _ hal).out.mono ?_
  rintro e w1 ⟨g', cap', rfl, ho, hB⟩
  have hm1 := (Blk.new w 46 #[.slice (some ⟨g, 0, none⟩) (nw k) cap, .int .i64 k.length, .int .i64 (tak k)]).below hB (by simp)
  have hlt := hm1.lt
  have hf := hm1.frozen 0
  have d0 := hm1.cell 0
  simp at d0
  have hb1 := hal.trans (hB.mono (by simp))
  have hge := (ho.lt g' rfl).1
  have hge1 : w.heap.size < g' := by simp at hge; omega
  have HM := Lib.hid hm1
  have HO := Lib.hid ho
  have HBB := Lib.hid hb1
  have HBW := Lib.hid hb
  clear hm1 ho hb1 hB hge hb HC
  go_wp2_with fail
  go_ret
  refine ⟨w.heap.size, g', cap', rfl, ⟨hsm, HM.out.set 0 _, ?_⟩, Nat.le_refl _, by omega, HBB.out.setCell (Nat.le_refl _) _⟩
  have hok := HO.out
  rcases hok.2 with ⟨e, _⟩ | ⟨g2, cp2, cur, e, _, hcur, r1, r2, r3, r4⟩
  · cases e
  · cases e
    refine ⟨cur, Blk.far hcur (by show g' ≠ w.heap.size; omega) _, fun j hj => ?_⟩
    obtain ⟨x, hx, hwx, hbx⟩ := HBW.out j hj
    refine ⟨x, hx, ?_, hbx⟩
    rw [← r4, List.getElem?_take] at hwx
    rw [if_pos (by omega)] at hwx
    simpa using hwx
end Go.Proofs.YtdpfhpecidmllaaDoor.Ext
