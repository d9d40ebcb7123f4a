/- The walk of the law PlanWaits. -/
import Derived.Test.YtkcdlfnmdaljgaaLaws
namespace Go.Proofs.Ytkcdlfnmdaljgaa.Laws
open Go.RowKit
open Iter (upto upto_yes upto_no upto_length pickOf pickOf_nil pickOf_best pickOf_at bestOf bestOf_snoc better better_yes better_no Ints)
open Ref

theorem pickOf_mod (ys : List (Nat × Int)) {o o' : Int} (h : o % 16 = o' % 16) : pickOf ys o = pickOf ys o' := by unfold pickOf; rw [h]

theorem upto_in (zs : List Int) (k j : Nat) (h : j < k) (hp : 0 < zs[j]?.getD 0) : (j, zs[j]?.getD 0) ∈ upto zs k := by
  induction k with
  | zero => omega
  | succ k ih =>
    by_cases e : j = k
    · subst e; rw [upto_yes zs j hp]; simp
    · have := ih (by omega)
      by_cases hk : 0 < zs[k]?.getD 0
      · rw [upto_yes zs k hk]; simp [this]
      · rw [upto_no zs k hk]; exact this

theorem best_ge : ∀ (ys : List (Nat × Int)) (b : Nat × Int), (ys.foldl better b = b ∨ ys.foldl better b ∈ ys) ∧ b.2 ≤ (ys.foldl better b).2 ∧ ∀ x ∈ ys, x.2 ≤ (ys.foldl better b).2 := by
  intro ys
  induction ys with
  | nil => intro b; exact ⟨.inl rfl, Int.le_refl _, fun x hx => by cases hx⟩
  | cons y r ih =>
    intro b
    obtain ⟨h1, h2, h3⟩ := ih (better b y)
    have hb : b.2 ≤ (better b y).2 ∧ y.2 ≤ (better b y).2 ∧ (better b y = b ∨ better b y = y) := by
      by_cases h : b.2 < y.2
      · rw [better_yes h]; exact ⟨by omega, by omega, .inr rfl⟩
      · rw [better_no h]; exact ⟨by omega, by omega, .inl rfl⟩
    simp only [List.foldl_cons]
    refine ⟨?_, by omega, fun x hx => ?_⟩
    · rcases h1 with h1 | h1
      · rcases hb.2.2 with e | e
        · rw [h1]; exact .inl e
        · rw [h1, e]; exact .inr (List.mem_cons_self ..)
      · exact .inr (List.mem_cons_of_mem _ h1)
    · rcases List.mem_cons.1 hx with e | hx
      · subst e; omega
      · exact h3 x hx

/-- What is picked, where some wait: one of them; by the choice 0 none for which more wait. -/
theorem pick_fact (zs : List Int) (len : Nat) (order : Int) (h : ¬ upto zs len = []) :
    ∃ x : Nat × Int, pickOf (upto zs len) order = ((x.1 : Int), true) ∧ x ∈ upto zs len ∧ (order % 16 = 0 → ∀ j, j < len → zs[j]?.getD 0 ≤ x.2) := by
  by_cases h0 : order % 16 = 0
  · obtain ⟨h1, h2, h3⟩ := best_ge (upto zs len) (0, 0)
    obtain ⟨y, hy⟩ : ∃ y, y ∈ upto zs len := by
      cases hc : upto zs len with
      | nil => exact absurd hc h
      | cons y r => exact ⟨y, List.mem_cons_self ..⟩
    have hpos := (upto_mem zs len y hy).2.2
    have hge := h3 y hy
    refine ⟨bestOf (upto zs len), pickOf_best h h0, ?_, fun _ j hj => ?_⟩
    · rcases h1 with e | e
      · exfalso
        have : (List.foldl better (0, 0) (upto zs len)).2 = 0 := by rw [e]
        omega
      · exact e
    · by_cases hp : 0 < zs[j]?.getD 0
      · exact h3 _ (upto_in zs len j hj hp)
      · have : (bestOf (upto zs len)).2 = (List.foldl better (0, 0) (upto zs len)).2 := rfl
        omega
  · have hp : 1 ≤ (upto zs len).length := List.length_pos_iff.2 h
    have hq : ((order % 16 - 1) % ((upto zs len).length : Int)).toNat < (upto zs len).length := by
      have h1 := Int.emod_lt_of_pos (order % 16 - 1) (show (0 : Int) < ((upto zs len).length : Int) by omega)
      have h2 := Int.emod_nonneg (order % 16 - 1) (show ((upto zs len).length : Int) ≠ 0 by omega)
      omega
    refine ⟨(upto zs len)[((order % 16 - 1) % ((upto zs len).length : Int)).toNat], ?_, List.getElem_mem _, fun e => absurd e h0⟩
    rw [pickOf_at h h0, List.getElem?_eq_getElem hq]
    rfl

set_option maxHeartbeats 2000000 in
set_option maxRecDepth 100000 in
theorem waits_some (b off cap : Nat) (zs : List Int) (order wishes : Int) (w : World) (hl : ¬ 100 < zs.length) (hb : b < w.heap.size) (hc : ∀ j, j < zs.length → w.cell? ⟨b, off + j, none⟩ = some (.int .i64 (zs[j]?.getD 0))) (ho : 0 ≤ order ∧ order ≤ 255) (hw : 0 ≤ wishes ∧ wishes ≤ 255) :
    Calls Try.prog 4 #[.slice (some ⟨b, off, none⟩) zs.length cap, .int .u8 order, .int .u8 wishes] w fun e w' => e = .returned (.bool true) ∧ Below w.heap.size w w' := by
  obtain ⟨len, hlen⟩ : ∃ len, zs.length = len := ⟨_, rfl⟩
  have hpick : ∀ (o : Int) (W : World), 0 ≤ o ∧ o ≤ 255 → o % 16 = order % 16 → Below w.heap.size w W → Calls Try.prog 7 #[.slice (some ⟨b, off, none⟩) len cap, .int .u8 o] W fun e w' => e = .returned (.tuple #[.int .i64 (pickOf (upto zs len) order).1, .bool (pickOf (upto zs len) order).2]) ∧ Below w.heap.size w w' := fun o W h1 h2 hB =>
    (pick_calls _ len cap zs o h1 W (by omega) (.inr ⟨b, off, rfl, hlen.symm, Nat.lt_of_lt_of_le hb hB.size, fun j hj => (hB.cell (p := ⟨b, off + j, none⟩) hb).trans (hc j hj)⟩)).mono fun e w' ⟨he, hb'⟩ => ⟨by rw [he, pickOf_mod _ h2], hB.trans (hb'.mono hB.size)⟩
  have HP := Lib.hid hpick
  clear hpick
  have HC : Hid (∀ j, j < len → w.cell? ⟨b, off + j, none⟩ = some (.int .i64 (zs[j]?.getD 0))) := fun j hj => hc j (by omega)
  rw [hlen]
  rw [hlen] at hl
  clear hc hlen
  have HO := Lib.hid ho
  obtain ⟨ho0, ho1⟩ := ho
  obtain ⟨hw0, hw1⟩ := hw
  have hl' : len ≤ 100 := by omega
  go_enter Try.func4, Try.ntmps4
  go_wp2_with fail
  go_loop [7, 8] (fun s i => ∃ (k : Nat) (sb : Bool), k ≤ len ∧ i = .int .i64 k ∧ s = .bool sb ∧ Hid (sb = !(upto zs k).isEmpty)) (fun _ i => len - (intOf i).toNat)
  case atStart => exact ⟨0, false, Nat.zero_le _, rfl, rfl, rfl⟩
  case round =>
    obtain ⟨k, sb, hk, rfl, rfl, hsb⟩ := hrel
    by_cases hlt : k < len
    · have hcx := HC.out k hlt
      cases sb
      · by_cases hp : 0 < zs[k]?.getD 0
        · have hn : Hid (true = !(upto zs (k + 1)).isEmpty) := by rw [upto_yes zs k hp]; simp [Hid]
          go_wp2
          go_round
          case rel => exact ⟨k + 1, true, by omega, by go_num, rfl, hn⟩
          case measure => simp [intOf]; omega
        · have hn : Hid (false = !(upto zs (k + 1)).isEmpty) := by rw [upto_no zs k hp]; exact hsb
          go_wp2
          go_round
          case rel => exact ⟨k + 1, false, by omega, by go_num, rfl, hn⟩
          case measure => simp [intOf]; omega
      · have hn : Hid (true = !(upto zs (k + 1)).isEmpty) := by
          by_cases hp : 0 < zs[k]?.getD 0
          · rw [upto_yes zs k hp]; simp [Hid]
          · rw [upto_no zs k hp]; exact hsb
        go_wp2
        go_round
        case rel => exact ⟨k + 1, true, by omega, by go_num, rfl, hn⟩
        case measure => simp [intOf]; omega
    · obtain rfl : k = len := by omega
      clear hlt
      by_cases hnil : upto zs k = []
      · obtain rfl : sb = false := by rw [hsb.out, hnil]; rfl
        have hpo : pickOf (upto zs k) order = (0, false) := by rw [hnil]; rfl
        rw [hpo] at HP
        clear hnil hpo hsb
        go_wp2_with fail
        refine (HP.out order w HO.out rfl (Below.refl _ _)).mono ?_
        rintro e w1 ⟨rfl, hB1⟩
        go_wp2_with fail
        refine (HP.out _ w1 (by omega) (by omega) hB1).mono ?_
        rintro e w2 ⟨rfl, hB2⟩
        have HB := Lib.hid hB2
        clear hB1 hB2
        go_wp2_with (go_at_call 6; refine (awake_any _).mono ?_; rintro e w3 ⟨rfl, hB3⟩)
        go_ret
        exact ⟨rfl, HB.out.trans (hB3.mono HB.out.size)⟩
      · obtain ⟨x, hx1, hx2, hx3⟩ := pick_fact zs k order hnil
        obtain rfl : sb = true := by
          rw [hsb.out]
          cases hu : upto zs k with
          | nil => exact absurd hu hnil
          | cons y r => rfl
        have hm := upto_mem zs k x hx2
        obtain ⟨hm1, hm2, hm3⟩ := hm
        rw [hx1] at HP
        have HX3 := Lib.hid hx3
        have HM2 := Lib.hid hm2
        clear hnil hsb hx1 hx2 hx3 hm2
        go_wp2_with fail
        refine (HP.out order w HO.out rfl (Below.refl _ _)).mono ?_
        rintro e w1 ⟨rfl, hB1⟩
        go_wp2_with fail
        refine (HP.out _ w1 (by omega) (by omega) hB1).mono ?_
        rintro e w2 ⟨rfl, hB2⟩
        have HB := Lib.hid hB2
        clear hB1 hB2
        have cx : w2.cell? ⟨b, off + x.1, none⟩ = some (.int .i64 x.2) := (HB.out.cell (p := ⟨b, off + x.1, none⟩) hb).trans ((HC.out x.1 hm1).trans (by rw [HM2.out]))
        go_wp2_with fail
        go_loopw [13] (fun n wr => ∃ (m : Nat), m ≤ k ∧ n = .int .i64 m ∧ ∃ nd, wr = w2.drewN nd) (fun n _ => k - (intOf n).toNat)
        case atStart => exact ⟨0, Nat.zero_le _, rfl, 0, rfl⟩
        case round =>
          obtain ⟨m, hmk, rfl, nd, rfl⟩ := hrel
          by_cases hlt : m < k
          · have cm : w2.cell? ⟨b, off + m, none⟩ = some (.int .i64 (zs[m]?.getD 0)) := (HB.out.cell (p := ⟨b, off + m, none⟩) hb).trans (HC.out m hlt)
            by_cases h0 : order % 16 = 0
            · have hge := HX3.out h0 m hlt
              have e0 : (order % 16 == 0) = true := beq_iff_eq.2 h0
              clear h0
              go_wp2
              go_quiet (fail)
              go_wp2
              go_roundw
              case rel => exact ⟨m + 1, by omega, by go_num, _, rfl⟩
              case measure => simp [intOf]; omega
            · have e0 : (order % 16 == 0) = false := beq_eq_false_iff_ne.2 h0
              clear h0
              go_wp2
              go_quiet (fail)
              go_wp2
              go_roundw
              case rel => exact ⟨m + 1, by omega, by go_num, _, rfl⟩
              case measure => simp [intOf]; omega
          · obtain rfl : m = k := by omega
            go_wp2_with (go_at_call 6; refine (awake_any _).mono ?_; rintro e w3 ⟨rfl, hB3⟩)
            go_ret
            exact ⟨rfl, (below_drewN HB.out nd).trans (hB3.mono (below_drewN HB.out nd).size)⟩

set_option maxHeartbeats 1000000 in
theorem waits_none (a : Option Addr) (cap : Nat) (order wishes : Int) (w : World) (ho : 0 ≤ order ∧ order ≤ 255) (hw : 0 ≤ wishes ∧ wishes ≤ 255) :
    Calls Try.prog 4 #[.slice a 0 cap, .int .u8 order, .int .u8 wishes] w fun e w' => e = .returned (.bool true) ∧ Below w.heap.size w w' := by
  have hpick : ∀ (o : Int) (W : World), 0 ≤ o ∧ o ≤ 255 → Calls Try.prog 7 #[.slice a 0 cap, .int .u8 o] W fun e w' => e = .returned (.tuple #[.int .i64 0, .bool false]) ∧ Below W.heap.size W w' := fun o W h1 =>
    (pick_calls a 0 cap [] o h1 W (by omega) (.inl ⟨rfl, rfl⟩)).mono fun e w' ⟨he, hb'⟩ => ⟨by rw [he]; rfl, hb'⟩
  have HP := Lib.hid hpick
  clear hpick
  have HO := Lib.hid ho
  obtain ⟨ho0, ho1⟩ := ho
  obtain ⟨hw0, hw1⟩ := hw
  go_enter Try.func4, Try.ntmps4
  go_wp2_with fail
  refine wp_loop_rounds 1 ?_
  rw [rounds_succ]
  go_wp2_with fail
  refine (HP.out order w HO.out).mono ?_
  rintro e w1 ⟨rfl, hB1⟩
  go_wp2_with fail
  refine (HP.out _ w1 (by omega)).mono ?_
  rintro e w2 ⟨rfl, hB2⟩
  have HB : Hid (Below w.heap.size w w2) := hB1.trans (hB2.mono hB1.size)
  clear hB1 hB2
  go_wp2_with (go_at_call 6; refine (awake_any _).mono ?_; rintro e w3 ⟨rfl, hB3⟩)
  go_ret
  exact ⟨rfl, HB.out.trans (hB3.mono HB.out.size)⟩

theorem waits_great (a : Option Addr) (len cap : Nat) (order wishes : Int) (w : World) (hl : 100 < len) :
    Calls Try.prog 4 #[.slice a len cap, .int .u8 order, .int .u8 wishes] w fun e w' => e = .returned (.bool true) ∧ Below w.heap.size w w' := by
  go_enter Try.func4, Try.ntmps4
  go_wp2_with (go_at_call 6; refine (awake_any _).mono ?_; rintro e w' ⟨rfl, hB⟩)
  go_ret
  exact ⟨rfl, hB⟩

theorem waits_walk (a : Option Addr) (len cap : Nat) (zs : List Int) (order wishes : Int) (w : World) (h0 : Row .i64 w a len cap zs) (ho : 0 ≤ order ∧ order ≤ 255) (hw : 0 ≤ wishes ∧ wishes ≤ 255) :
    Calls Try.prog 4 #[.slice a len cap, .int .u8 order, .int .u8 wishes] w fun e w' => e = .returned (.bool true) ∧ Below w.heap.size w w' := by
  by_cases hl : 100 < len
  · exact waits_great a len cap order wishes w hl
  · rcases ints_of_row h0 with ⟨rfl, _⟩ | ⟨b, off, rfl, h2, h3, h4⟩
    · exact waits_none a cap order wishes w ho hw
    · have := waits_some b off cap (zs.take len) order wishes w (by omega) h3 h4 ho hw
      rwa [← h2] at this
end Go.Proofs.Ytkcdlfnmdaljgaa.Laws
