/- slices.Clone on walkers. -/
import Derived.Test.YtfgjnpbffppocaaGreatWalkerAllW
namespace Go.Proofs.YtfgjnpbffppocaaGreat.Walk
open Go.RowKit Go.Deep Mem Crc

/-- A row of walkers of one's own. -/
abbrev OwnW (w : World) (base : Nat) (v : Value) (l : List (List Nat)) : Prop := w.ownsRow base 38 7 v l.length (flatW l)
theorem flatW_nil {l : List (List Nat)} (hok : ∀ x ∈ l, ok x) (h : flatW l = []) : l = [] := by
  have := flatW_length l hok
  rw [h] at this
  exact List.eq_nil_of_length_eq_zero (by simp at this; omega)
theorem oneCell_flatW (l : List (List Nat)) : ∀ u ∈ flatW l, u.oneCell' = true := fun u hu => by
  obtain ⟨x, _, hx⟩ := List.mem_flatMap.1 hu
  obtain ⟨n, _, rfl⟩ := List.mem_map.1 hx
  rfl
set_option maxHeartbeats 1000000 in
theorem clone_walkers (a : Option Addr) (cp : Nat) (l : List (List Nat)) (w : World) (h : Lies w a (flatW l)) (hok : ∀ x ∈ l, ok x) (hm : l.length ≤ 1000000) :
    Calls Tryz.prog 26 #[.slice a l.length cp] w fun e w' => ∃ v, e = .returned v ∧ OwnW w' w.heap.size v l ∧ Below w.heap.size w w' := by
  cases a with
  | none =>
    have hb : l = [] := flatW_nil hok (by simpa using lies_none h)
    subst hb
    have hne := fun w => Lib.run_eql_slice_nil (P := Tryz.prog) w 22 38 none 0 cp 0 0 Tryz.underlying22
    clear h hm
    go_enter Tryz.func26, Tryz.ntmps26
    go_wp2_with fail
    go_ret
    exact ⟨_, rfl, World.ownsRow_nil _ _ _ _, Below.refl _ _⟩
  | some ad =>
    obtain ⟨i0, hi0, hz0, hz1, hz2⟩ := info_parts infoW7
    have hne := fun w => Lib.run_eql_slice_nil (P := Tryz.prog) w 22 38 (some ad) l.length cp 0 0 Tryz.underlying22
    have hal := (Below.refl w.heap.size w).alloc (Nat.le_refl _) (.cells #[] 38)
    have hown := own_empty w 38 7
    have HC := Lib.hid (lies_add (h.later hal))
    have H1 := Lib.hid (oneCell_flatW l)
    have HA := Lib.hid hal
    have HLN := Lib.hid (flatW_length l hok)
    clear h hal hok
    go_enter Tryz.func26, Tryz.ntmps26
    go_wp2_with (first | (at_builtin; refine wpList_append_own _ rfl _ _ 22 rfl w.heap.size 38 i0 (.agg #[.int .u32 0, .int .u32 0, .int .u32 0, .int .u32 0, .int .u32 0, .int .u32 0, .int .u32 0]) 7 28 Tryz.underlying22 hi0 hz0 hz1 hz2 rfl (by decide) _ _ _ rfl hown ad l.length cp (flatW l) rfl ?c1 HC.out H1.out ?c3 ?c4 ?c5 ?_))
    case c1 => exact HLN.out
    case c3 => unfold maxLen; omega
    case c4 => omega
    case c5 => simp
    intro v' w1 hown1 hgrow1 hv
    have hB1 : Below w.heap.size w w1 := HA.out.grown hgrow1 (by simp) (fun q hq => (hown.lt q hq).1)
    have HO := Lib.hid (show OwnW w1 w.heap.size v' l by simpa using hown1)
    clear hown1 hgrow1 hv
    go_wp2_with fail
    go_ret
    exact ⟨v', rfl, HO.out, hB1⟩
end Go.Proofs.YtfgjnpbffppocaaGreat.Walk
