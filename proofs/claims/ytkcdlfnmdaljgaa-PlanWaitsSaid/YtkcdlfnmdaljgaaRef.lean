/- palmerref26.Pick: what the document's answer picks, at any slice of ints. -/
import Derived.Test.YtkcdlfnmdaljgaaPick
import Derived.Deep.QuietTactic
import Derived.BigQuiet
import Derived.IntWalk
import Derived.OwnWalk
import Derived.WalkSmall
import Derived.Maps.AppendAt
namespace Go.Proofs.Ytkcdlfnmdaljgaa.Ref
open Go.RowKit
open Iter (upto upto_yes upto_no upto_length pickOf pickOf_nil pickOf_best pickOf_at bestOf bestOf_snoc better better_yes better_no Ints)

theorem info3 : (Try.prog.info? 3).map (fun i => (i.zero, i.size, i.bytes)) = some (some (.int .i64 0), 1, 8) := by kernel_rfl

theorem upto_mem (zs : List Int) (k : Nat) (x : Nat × Int) (hx : x ∈ upto zs k) : x.1 < k ∧ zs[x.1]?.getD 0 = x.2 ∧ 0 < x.2 := by
  induction k with
  | zero => simp [upto] at hx
  | succ k ih =>
    by_cases h : 0 < zs[k]?.getD 0
    · rw [upto_yes zs k h] at hx
      rcases List.mem_append.1 hx with h1 | h1
      · have := ih h1; exact ⟨by omega, this.2⟩
      · obtain rfl : x = (k, zs[k]?.getD 0) := by simpa using h1
        exact ⟨by simp, rfl, h⟩
    · rw [upto_no zs k h] at hx
      have := ih hx
      exact ⟨by omega, this.2⟩

theorem best_one {ys : List (Nat × Int)} {x : Nat × Int} (h : ys[0]? = some x) (hp : 0 < x.2) : bestOf (ys.take (max 0 1)) = x := by
  cases ys with
  | nil => simp at h
  | cons y r =>
    obtain rfl : y = x := by simpa using h
    simp [bestOf, better, hp]
theorem best_next {ys : List (Nat × Int)} {m : Nat} {b x : Nat × Int} (hb : bestOf (ys.take (max m 1)) = b) (h : ys[m]? = some x) (hp : m = 0 → b = x) : bestOf (ys.take (max (m + 1) 1)) = better b x := by
  by_cases h0 : m = 0
  · subst h0
    obtain rfl := hp rfl
    rw [better_no (by omega)]
    exact hb
  · have e1 : max m 1 = m := by omega
    have e2 : max (m + 1) 1 = m + 1 := by omega
    rw [e1] at hb
    rw [e2, List.take_add_one, h, ← hb]
    exact bestOf_snoc _ _

theorem addr_add (g j : Nat) : (⟨g, 0, none⟩ : Addr).add j = ⟨g, j, none⟩ := by
  unfold Addr.add
  split <;> simp_all

def fsts (ys : List (Nat × Int)) : List Value := ys.map fun x => .int .i64 (x.1 : Int)

set_option maxRecDepth 100000 in
set_option maxHeartbeats 2000000 in
theorem ref_any (b off len cap : Nat) (zs : List Int) (order : Int) (ho : 0 ≤ order ∧ order ≤ 255) (w : World) (hreach : len * 8 ≤ 140737488351232) (hz : len = zs.length) (hb : b < w.heap.size)
    (hc : ∀ j, j < zs.length → w.cell? ⟨b, off + j, none⟩ = some (.int .i64 (zs[j]?.getD 0))) :
    Calls Try.prog 8 #[.slice (some ⟨b, off, none⟩) len cap, .int .u8 order] w fun e w' => e = .returned (.tuple #[.int .i64 (pickOf (upto zs len) order).1, .bool (pickOf (upto zs len) order).2]) ∧ Below w.heap.size w w' := by
  obtain ⟨i0, hi, hz0, hz1, hz2⟩ := info_parts info3
  have HZ := Lib.hid hz
  clear hz
  obtain ⟨ho0, ho1⟩ := ho
  go_enter Try.func8, Try.ntmps8
  go_wp2_with fail
  go_loopw [6, 14] (fun v i wr => ∃ k : Nat, k ≤ len ∧ i = .int .i64 k ∧ (∃ g cp, v = .slice (some ⟨g, 0, none⟩) (upto zs k).length cp) ∧ wr.ownsRow w.heap.size 3 1 v (upto zs k).length (fsts (upto zs k)) ∧ Below w.heap.size w wr) (fun _ i _ => len - (intOf i).toNat)
  case atStart => exact ⟨0, Nat.zero_le _, rfl, ⟨_, _, rfl⟩, World.ownsRow_made w _ 0 (Nat.le_refl _) (by decide) rfl, (Below.refl _ w).alloc (Nat.le_refl _) _⟩
  case round =>
    obtain ⟨k, hk, rfl, ⟨g, cp, rfl⟩, hown, hB⟩ := hrel
    have hBs := hB.size
    have hul := upto_length zs k
    by_cases hlt : k < len
    · have hcx : wr.cell? ⟨b, off + k, none⟩ = some (.int .i64 (zs[k]?.getD 0)) := (hB.cell (p := ⟨b, off + k, none⟩) hb).trans (hc k (by rw [← HZ.out]; exact hlt))
      by_cases hp : 0 < zs[k]?.getD 0
      · go_wp2_with (at_builtin; refine wpList_append_own _ rfl _ _ 22 rfl w.heap.size 3 i0 (.int .i64 0) 1 8 Try.underlying22 hi hz0 hz1 hz2 rfl (by decide) _ _ _ rfl (hown.alloc _) ⟨wr.heap.size, 0, none⟩ 1 1 [.int .i64 (k : Int)] rfl rfl (cell_one_new _ _ _) (by simp [Value.oneCell']) (by unfold maxLen; omega) (by omega) (by simp; omega) ?_; intro v' w1 hown' hgrow _)
        go_roundw
        case rel =>
          have e : upto zs (k + 1) = upto zs k ++ [(k, zs[k]?.getD 0)] := upto_yes _ _ (by omega)
          refine ⟨k + 1, by omega, by go_num, ?_, ?_, ?_⟩
          · obtain ⟨g', cap', hv⟩ := ownsRow_succ hown'
            exact ⟨g', cap', by rw [hv, e]; simp⟩
          · rw [e]; simpa [fsts] using hown'
          · exact (hB.alloc hBs _).grown hgrow (by simp; omega) (fun j hj => (hown.lt j hj).1)
        case measure => simp [intOf]; omega
      · go_wp2
        go_roundw
        case rel =>
          have e : upto zs (k + 1) = upto zs k := upto_no _ _ (by omega)
          exact ⟨k + 1, by omega, by go_num, ⟨g, cp, by rw [e]⟩, by rw [e]; exact hown, hB⟩
        case measure => simp [intOf]; omega
    · obtain rfl : k = len := by omega
      clear hlt
      obtain ⟨ys, hys⟩ : ∃ ys, upto zs k = ys := ⟨_, rfl⟩
      have hmem : ∀ x ∈ ys, x.1 < k ∧ zs[x.1]?.getD 0 = x.2 ∧ 0 < x.2 := by rw [← hys]; exact fun x hx => upto_mem zs k x hx
      have HY := Lib.hid hys
      rw [hys] at hown hul ⊢
      clear hys
      have hcells := hown.cells (g := g) rfl
      have HC : Hid (∀ j x, ys[j]? = some x → wr.cell? ⟨g, j, none⟩ = some (.int .i64 (x.1 : Int))) := fun j x hx => by
        have := hcells j (.int .i64 (x.1 : Int)) (by simp [fsts, hx])
        rw [addr_add g j] at this
        exact this
      have HZ2 := Lib.hid (fun (x : Nat × Int) (hx : x ∈ ys) => (show wr.cell? ⟨b, off + x.1, none⟩ = some (.int .i64 x.2) from (hB.cell (p := ⟨b, off + x.1, none⟩) hb).trans ((hc x.1 (by rw [← HZ.out]; exact (hmem x hx).1)).trans (by rw [(hmem x hx).2.1]))))
      have HM := Lib.hid hmem
      clear hmem hcells
      by_cases hnil : ys = []
      · subst hnil
        go_wp2_with fail
        go_ret2
        exact ⟨by rw [HY.out]; rfl, hB⟩
      have hpos : 1 ≤ ys.length := List.length_pos_iff.2 hnil
      have hposI : (1 : Int) ≤ (ys.length : Int) := by omega
      have hne0 : ((ys.length : Int) == 0) = false := by simpa using hnil
      have HN := Lib.hid hnil
      clear hnil
      by_cases h0 : order % 16 = 0
      · have H0 := Lib.hid h0
        have hd : decide (0 < order % 16) = false := by simp; omega
        clear h0
        obtain ⟨x0, hx0⟩ : ∃ x, ys[0]? = some x := ⟨_, List.getElem?_eq_getElem (by omega)⟩
        have c0 := HC.out 0 x0 hx0
        have HX0 := Lib.hid hx0
        clear hx0
        go_wp2_with fail
        go_loopw [9, 48] (fun v i wr2 => ∃ m : Nat, ∃ x : Nat × Int, m ≤ ys.length ∧ i = .int .i64 m ∧ v = .int .i64 (x.1 : Int) ∧ x ∈ ys ∧ Hid (bestOf (ys.take (max m 1)) = x) ∧ ∃ nd, wr2 = wr.drewN nd) (fun _ i _ => ys.length - (intOf i).toNat)
        case atStart => exact ⟨0, x0, Nat.zero_le _, rfl, rfl, List.mem_of_getElem? HX0.out, best_one HX0.out (HM.out x0 (List.mem_of_getElem? HX0.out)).2.2, 0, rfl⟩
        case round =>
          obtain ⟨m, bx, hm, rfl, rfl, hbx, hbest, nd, rfl⟩ := hrel
          have hb1 := (HM.out bx hbx).1
          have cb := HZ2.out bx hbx
          by_cases hlt : m < ys.length
          · obtain ⟨x, hx⟩ : ∃ x, ys[m]? = some x := ⟨_, List.getElem?_eq_getElem hlt⟩
            have hxm := List.mem_of_getElem? hx
            have cx := HC.out m x hx
            have cv := HZ2.out x hxm
            have hx1 := (HM.out x hxm).1
            have hnext := best_next hbest.out hx (fun e => by subst e; exact hbest.out.symm.trans (best_one hx (HM.out x hxm).2.2))
            have HX := Lib.hid hx
            clear hx
            have HBN := Lib.hid hnext
            clear hnext
            have HBo : Hid (Below w.heap.size w wr) := hB
            rcases hdb : decide (bx.2 < x.2) with _ | _
            · have HD := Lib.hid (of_decide_eq_false hdb)
              go_wp2
              go_quiet (fail)
              go_wp2
              go_roundw
              case rel => exact ⟨m + 1, bx, by omega, by go_num, rfl, hbx, by rw [HBN.out, better_no (by have := HD.out; omega)]; exact rfl, _, rfl⟩
              case measure => simp [intOf]; omega
            · have HD := Lib.hid (of_decide_eq_true hdb)
              go_wp2
              go_quiet (fail)
              go_wp2
              go_roundw
              case rel => exact ⟨m + 1, x, by omega, by go_num, rfl, hxm, by rw [HBN.out, better_yes (by have := HD.out; omega)]; exact rfl, _, rfl⟩
              case measure => simp [intOf]; omega
          · obtain rfl : m = ys.length := by omega
            go_wp2
            go_ret2
            refine ⟨?_, below_drewN hB _⟩
            have e := hbest.out
            rw [show max ys.length 1 = ys.length by omega, List.take_length] at e
            rw [HY.out, pickOf_best HN.out H0.out, e]
            rfl
      · have H0 := Lib.hid h0
        have hd : decide (0 < order % 16) = true := by simp; omega
        have hd1 : 1 ≤ order % 16 := by omega
        clear h0
        obtain ⟨q, hq, hql⟩ : ∃ q : Nat, (order % 16 - 1) % (ys.length : Int) = (q : Int) ∧ q < ys.length :=
          ⟨((order % 16 - 1) % (ys.length : Int)).toNat, (Int.toNat_of_nonneg (Int.emod_nonneg _ (by omega))).symm, by have := Int.emod_lt_of_pos (order % 16 - 1) (show (0 : Int) < ys.length by omega); omega⟩
        obtain ⟨x, hx⟩ : ∃ x, ys[q]? = some x := ⟨_, List.getElem?_eq_getElem hql⟩
        have c0 := HC.out q x hx
        have HX := Lib.hid hx
        clear hx
        go_wp2_with fail
        go_ret2
        refine ⟨?_, hB⟩
        rw [HY.out, pickOf_at HN.out H0.out, hq]
        simp [HX.out]

set_option maxHeartbeats 1000000 in
theorem ref_nil (a : Option Addr) (cap : Nat) (order : Int) (w : World) :
    Calls Try.prog 8 #[.slice a 0 cap, .int .u8 order] w fun e w' => e = .returned (.tuple #[.int .i64 0, .bool false]) ∧ Below w.heap.size w w' := by
  go_enter Try.func8, Try.ntmps8
  go_wp2_with fail
  refine wp_loop_rounds 1 ?_
  rw [rounds_succ]
  go_wp2
  go_ret2
  exact ⟨rfl, (Below.refl _ w).alloc (Nat.le_refl _) _⟩

theorem ref_calls (a : Option Addr) (len cap : Nat) (zs : List Int) (order : Int) (ho : 0 ≤ order ∧ order ≤ 255) (w : World) (hreach : len * 8 ≤ 140737488351232) (hI : Ints w.heap.size w a len zs) :
    Calls Try.prog 8 #[.slice a len cap, .int .u8 order] w fun e w' => e = .returned (.tuple #[.int .i64 (pickOf (upto zs len) order).1, .bool (pickOf (upto zs len) order).2]) ∧ Below w.heap.size w w' := by
  rcases hI with ⟨rfl, rfl⟩ | ⟨b, off, rfl, hl, hb, hc⟩
  · exact ref_nil a cap order w
  · exact ref_any b off len cap zs order ho w hreach hl hb hc

theorem pick_calls (a : Option Addr) (len cap : Nat) (zs : List Int) (order : Int) (ho : 0 ≤ order ∧ order ≤ 255) (w : World) (hreach : len * 8 ≤ 140737488351232) (hI : Ints w.heap.size w a len zs) :
    Calls Try.prog 7 #[.slice a len cap, .int .u8 order] w fun e w' => e = .returned (.tuple #[.int .i64 (pickOf (upto zs len) order).1, .bool (pickOf (upto zs len) order).2]) ∧ Below w.heap.size w w' :=
  callsIn_wide.1 (Iter.Pick_in Fence.wide 3 trivial trivial trivial rfl (Nat.le_refl _) a len cap zs order ho hreach w hI)

set_option maxHeartbeats 1000000 in
theorem awake_any (w : World) :
    Calls Try.prog 6 #[] w fun e w' => e = .returned (.bool true) ∧ Below w.heap.size w w' := by
  have HI : ∀ W : World, Below (w.heap.size + 1) (w.alloc (.cells #[.int .i64 0, .int .i64 3, .int .i64 5, .int .i64 5] 3)) W → Ints W.heap.size W (some ⟨w.heap.size, 0, none⟩) 4 [0, 3, 5, 5] := fun W hW => by
    refine .inr ⟨_, _, rfl, rfl, by have := hW.size; simp at this; omega, fun j hj => ?_⟩
    rw [hW.cell (by simp)]
    have hj : j < 4 := hj
    obtain rfl | rfl | rfl | rfl : j = 0 ∨ j = 1 ∨ j = 2 ∨ j = 3 := by omega
    all_goals simp [World.cell?_alloc_at]
  have hp : ∀ (order r : Int) (b : Bool), pickOf (upto [0, 3, 5, 5] 4) order = (r, b) → 0 ≤ order ∧ order ≤ 255 → ∀ W, Below (w.heap.size + 1) (w.alloc (.cells #[.int .i64 0, .int .i64 3, .int .i64 5, .int .i64 5] 3)) W →
      Calls Try.prog 7 #[.slice (some ⟨w.heap.size, 0, none⟩) 4 4, .int .u8 order] W fun e w' => e = .returned (.tuple #[.int .i64 r, .bool b]) ∧ Below (w.heap.size + 1) (w.alloc (.cells #[.int .i64 0, .int .i64 3, .int .i64 5, .int .i64 5] 3)) w' := fun order r b h ho W hW =>
    (pick_calls _ 4 4 [0, 3, 5, 5] order ho W (by decide) (HI W hW)).mono fun e w' ⟨he, hb⟩ => ⟨by rw [he, h], hW.trans (hb.mono (by have := hW.size; simp at this; omega))⟩
  have HP := Lib.hid hp
  clear hp HI
  have hend : ∀ W, Below (w.heap.size + 1) (w.alloc (.cells #[.int .i64 0, .int .i64 3, .int .i64 5, .int .i64 5] 3)) W → Below w.heap.size w W := fun W hW => ((Below.refl _ w).alloc (Nat.le_refl _) _).trans (hW.mono (by omega))
  have HE := Lib.hid hend
  clear hend
  go_enter Try.func6, Try.ntmps6
  go_wp2_with fail
  refine (HP.out 0 2 true rfl (by decide) _ (Below.refl _ _)).mono ?_
  rintro e w1 ⟨rfl, hB1⟩
  go_wp2_with fail
  refine (HP.out 1 1 true rfl (by decide) _ hB1).mono ?_
  rintro e w2 ⟨rfl, hB2⟩
  go_wp2_with fail
  refine (HP.out 4 1 true rfl (by decide) _ hB2).mono ?_
  rintro e w3 ⟨rfl, hB3⟩
  go_wp2
  go_ret
  exact ⟨rfl, HE.out _ hB3⟩
end Go.Proofs.Ytkcdlfnmdaljgaa.Ref
