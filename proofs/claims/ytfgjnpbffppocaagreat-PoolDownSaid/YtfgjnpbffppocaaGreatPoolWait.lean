/- Layer 24: Waiting; the pool kept. -/
import Derived.Test.YtfgjnpbffppocaaGreatPoolSmall
import Derived.StillTactics
namespace Go.Proofs.YtfgjnpbffppocaaGreat.Pool
open Go.RowKit Go.Deep Mem Crc Walk
open Go.Proofs.YtfgjnpbffppocaaGreat.Store (St Chg)

theorem int_zero (w : World) : (zeroValue 3).run Tryz.prog w = .ok (.int .i64 0) w := by kernel_rfl
theorem row_zero (w : World) : (zeroValue 22).run Tryz.prog w = .ok (.slice none 0 0) w := by kernel_rfl
theorem Pl.drew {A : Pa} {off : Bool} {w : World} {Qs : Nat → Prop} {hv : Nat → Option Value} {S Hd : Rows} (h : Pl A off w Qs hv S Hd) : Pl A off w.drew Qs hv S Hd := by
  obtain ⟨h1, ⟨C, h2, h3⟩, h4, h5, h6, h7, h8, h9, h10, h11, h12, h13⟩ := h
  exact ⟨h1, ⟨C, h2.later ((Below.refl _ w).drew), h3⟩, h4, h5, h6, h7, h8, h9, h10, h11, h12, h13⟩
theorem Pl.spilledAt {A : Pa} {off : Bool} {w : World} {Qs : Nat → Prop} {hv : Nat → Option Value} {S Hd : Rows} (h : Pl A off w Qs hv S Hd) (i : Nat) (hi : i < A.n) :
    (Instr.lookup 54 (.map (some A.sm)) (.int .i64 (i : Int)) false).run Tryz.prog w = .ok (.int .i64 ((S i).length : Int)) w := by
  obtain ⟨f, hm, _, hf⟩ := h.spilled
  have := hm.look intKeyed Tryz.underlying54 int_zero (key_of (i := i) (by have := h.top.1; omega))
  rw [this, hf i hi]
  by_cases e : S i = []
  · rw [if_pos e, e]; rfl
  · rw [if_neg e]; rfl
/-- The held row's slice. -/
theorem Pl.heldAt {A : Pa} {off : Bool} {w : World} {Qs : Nat → Prop} {hv : Nat → Option Value} {S Hd : Rows} (h : Pl A off w Qs hv S Hd) (i : Nat) (hi : i < A.n) :
    ∃ v, (hv i).getD (.slice none 0 0) = v ∧ OwnW w 0 v (Hd i) ∧ (Instr.lookup 55 (.map (some A.hm)) (.int .i64 (i : Int)) false).run Tryz.prog w = .ok v w := by
  obtain ⟨f, hm, _, hf⟩ := h.held
  have hl := hm.look intKeyed Tryz.underlying55 row_zero (key_of (i := i) (by have := h.top.1; omega))
  rw [hf i hi] at hl
  refine ⟨_, rfl, ?_, hl⟩
  have hr := h.rows i hi
  cases hc : hv i with
  | none =>
    rw [hc] at hr
    rw [show Hd i = [] from hr]
    exact World.ownsRow_nil _ _ _ _
  | some v =>
    rw [hc] at hr
    exact hr
set_option maxHeartbeats 400000 in
set_option maxRecDepth 100000 in
theorem waiting_any {A : Pa} {off : Bool} {w : World} {Qs : Nat → Prop} {hv : Nat → Option Value} {S Hd : Rows} (h : Pl A off w Qs hv S Hd) (i : Nat) (hi : i < A.n) (h1 : (S i).length ≤ 1000000) (h2 : (Hd i).length ≤ 1000000) :
    Calls Tryz.prog 12 #[.pointer (some ⟨A.p, 0, none⟩), .int .i64 (i : Int)] w fun e w' => e = .returned (.int .i64 (((S i).length + (Hd i).length : Nat) : Int)) ∧ w' = w.drew := by
  have HT := Lib.hid (there_in h i hi)
  have hs := h.drew.spilledAt i hi
  obtain ⟨v, _, hO, hl⟩ := h.drew.heldAt i hi
  obtain ⟨va, vc, rfl, _, _, _, _⟩ := own_shape hO
  have c3 := h.pool.cell 3
  have c4 := h.pool.cell 4
  simp at c3 c4
  clear h hO
  obtain ⟨a, ha⟩ : ∃ a, a = (S i).length := ⟨_, rfl⟩
  obtain ⟨b, hb⟩ : ∃ b, b = (Hd i).length := ⟨_, rfl⟩
  rw [← ha] at hs h1 ⊢
  rw [← hb] at hl h2 ⊢
  have hw : IntKind.i64.wrap ((a : Int) + (b : Int)) = (a : Int) + b := IntWalk.i64_in _ (by omega)
  clear ha hb
  go_enter Tryz.func12, Tryz.ntmps12
  go_wp2_with fail
  refine HT.out.mono ?_
  rintro e w1 ⟨rfl, rfl⟩
  go_wp2_with fail
  go_still (by kernel_rfl)
  change Exit.then _ _ _ _ w1.drew
  go_wp2_with fail
  go_ret
  exact ⟨by push_cast; rfl, rfl⟩
end Go.Proofs.YtfgjnpbffppocaaGreat.Pool
