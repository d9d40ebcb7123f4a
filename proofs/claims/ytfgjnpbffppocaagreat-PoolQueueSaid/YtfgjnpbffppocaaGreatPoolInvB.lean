/- palmerlaw24.PoolQueue: what holds while the rows are taken. -/
import Derived.Test.YtfgjnpbffppocaaGreatPoolInv
namespace Go.Proofs.YtfgjnpbffppocaaGreat.Pool
open Go.RowKit Go.Deep Mem Crc Walk

/-- The rows below j are taken; N walkers at most. -/
structure Inv2 (A : Pa) (B RB N j : Nat) (w0 w : World) : Prop where
  all : ∃ Qs hv S Hd rv R, Pl A false w Qs hv S Hd ∧ (∀ q, allQ A Qs hv q → B ≤ q) ∧ Rws w RB rv R ∧ (∀ q, Rblk RB rv q → B ≤ q ∧ ¬ allQ A Qs hv q) ∧ (∀ q, q < 20 → j ≤ q → S q ++ Hd q = R q) ∧ (∀ q, q < j → S q = [] ∧ Hd q = []) ∧ many S 20 + many Hd 20 ≤ N
  below : Below B w0 w
/-- The row j is being taken: T of it lie in got. -/
def Inv3d (A : Pa) (B RB N j : Nat) (T : List (List Nat)) (got : Value) (w0 w : World) (Qs : Nat → Prop) (hv : Nat → Option Value) (S Hd : Rows) (rv : Nat → Value) (R : Rows) : Prop :=
  Pl A false w Qs hv S Hd ∧ (∀ q, allQ A Qs hv q → B ≤ q) ∧ Rws w RB rv R ∧ (∀ q, Rblk RB rv q → B ≤ q ∧ ¬ allQ A Qs hv q) ∧ T ++ (S j ++ Hd j) = R j ∧ (∀ q, q < 20 → j < q → S q ++ Hd q = R q) ∧ (∀ q, q < j → S q = [] ∧ Hd q = []) ∧ many S 20 + many Hd 20 + T.length ≤ N ∧
  OwnW w B got T ∧ (∀ k, got.ownBlock = some k → ¬ allQ A Qs hv k ∧ ¬ Rblk RB rv k) ∧ Below B w0 w ∧ (∀ x ∈ T, ok x)
/-- .. and X has come out of the pool, and lies in v. -/
def Inv4d (A : Pa) (B RB N j : Nat) (T X : List (List Nat)) (got v : Value) (w0 w : World) (Qs : Nat → Prop) (hv : Nat → Option Value) (S Hd : Rows) (rv : Nat → Value) (R : Rows) : Prop :=
  Pl A false w Qs hv S Hd ∧ (∀ q, allQ A Qs hv q → B ≤ q) ∧ Rws w RB rv R ∧ (∀ q, Rblk RB rv q → B ≤ q ∧ ¬ allQ A Qs hv q) ∧ (T ++ X) ++ (S j ++ Hd j) = R j ∧ (∀ q, q < 20 → j < q → S q ++ Hd q = R q) ∧ (∀ q, q < j → S q = [] ∧ Hd q = []) ∧ many S 20 + many Hd 20 + (T ++ X).length ≤ N ∧
  OwnW w B got T ∧ OwnW w 0 v X ∧ (∀ k, got.ownBlock = some k → ¬ allQ A Qs hv k ∧ ¬ Rblk RB rv k) ∧ Below B w0 w ∧ (∀ x ∈ T ++ X, ok x)
structure Inv3 (A : Pa) (B RB N j : Nat) (T : List (List Nat)) (got : Value) (w0 w : World) : Prop where
  all : ∃ Qs hv S Hd rv R, Inv3d A B RB N j T got w0 w Qs hv S Hd rv R
theorem Inv3d.drew {A : Pa} {B RB N j : Nat} {T : List (List Nat)} {got : Value} {w0 w : World} {Qs : Nat → Prop} {hv : Nat → Option Value} {S Hd : Rows} {rv : Nat → Value} {R : Rows} (h : Inv3d A B RB N j T got w0 w Qs hv S Hd rv R) : Inv3d A B RB N j T got w0 w.drew Qs hv S Hd rv R := by
  obtain ⟨hp, hQ, hrw, hd, hrow, hrest, hdone, htot, hown, hgot, hBel, hokT⟩ := h
  exact ⟨hp.drew, hQ, ⟨hrw.blk, hrw.rows, hrw.apart⟩, hd, hrow, hrest, hdone, htot, hown, hgot, hBel.drew, hokT⟩
theorem inv2_start {A : Pa} {B RB room N : Nat} {w0 w : World} (h : Inv A B RB room N w0 w) : Inv2 A B RB N 0 w0 w := by
  obtain ⟨⟨Qs, hv, S, Hd, rv, R, h1, h2, h3, h4, h5, h6, h7⟩, hB⟩ := h
  exact ⟨⟨Qs, hv, S, Hd, rv, R, h1, h2, h3, h4, fun q hq _ => h5 q hq, fun q hq => absurd hq (by omega), by omega⟩, hB⟩
theorem inv3_start {A : Pa} {B RB N j : Nat} {w0 w : World} (h : Inv2 A B RB N j w0 w) (hB : B ≤ w0.heap.size) (hj : j < 20) : Inv3 A B RB N j [] (.slice (some ⟨w.heap.size, 0, none⟩) 0 0) w0 (w.alloc (.cells #[] 38)) := by
  obtain ⟨⟨Qs, hv, S, Hd, rv, R, h1, h2, h3, h4, h5, h6, h7⟩, hBel⟩ := h
  have hs := hBel.size
  have hal := (Below.refl w.heap.size w).alloc (Nat.le_refl _) (.cells #[] 38)
  refine ⟨Qs, hv, S, Hd, rv, R, h1.later hal, h2, h3.below (B := 0) hal, h4, ?_, fun q hq hjq => h5 q hq (by omega), h6, by simpa using h7, own_mono (own_empty w 38 7) (by omega), fun k hk => ?_, hBel.trans (hal.mono (by omega)), fun x hx => absurd hx (by simp)⟩
  · rw [List.nil_append]
    exact h5 j hj (Nat.le_refl _)
  · have : w.heap.size = k := by simpa [Value.ownBlock] using hk
    subst this
    exact ⟨fun hq => Nat.lt_irrefl _ (h1.lt _ hq), fun hr => Nat.lt_irrefl _ (h3.lt _ hr)⟩
theorem inv3_take {A : Pa} {B RB N j : Nat} {T : List (List Nat)} {got : Value} {w0 w : World} {Qs : Nat → Prop} {hv : Nat → Option Value} {S Hd : Rows} {rv : Nat → Value} {R : Rows} (h : Inv3d A B RB N j T got w0 w Qs hv S Hd rv R) (hB : B ≤ w0.heap.size) (hn : A.n = 20) (hj : j < 20) (hN : N ≤ 100) (m : Nat) (hm : m < 9) (hne : 0 < (S j).length + (Hd j).length) :
    Calls Tryz.prog 13 #[.pointer (some ⟨A.p, 0, none⟩), .int .i64 (j : Int), .int .i64 ((m : Int) + 1)] w fun e w' => ∃ v X, e = .returned (.tuple #[v, .int .i64 0]) ∧ 0 < X.length ∧ X.length ≤ m + 1 ∧ ∃ Qs hv S Hd, Inv4d A B RB N j T X got v w0 w' Qs hv S Hd rv R := by
  obtain ⟨hp, hQ, hrw, hd, hrow, hrest, hdone, htot, hown, hgot, hBel, hokT⟩ := h
  have h1 := len_le_many S j 20 hj
  have h2 := len_le_many Hd j 20 hj
  have ht := take_any hp j (by omega) (m + 1) (by omega) (by omega) (by omega) (by rw [hn]; omega)
  rw [show ((m + 1 : Nat) : Int) = (m : Int) + 1 from rfl] at ht
  refine ht.mono ?_
  rintro e w' ⟨v, rfl, hO, hw⟩
  have hs := hBel.size
  obtain ⟨Q', hv', hp', hQ', hrw', hd', hB', hx, hqq⟩ := beside hp hQ hrw hd (by omega) hw
  have hlX : ((S j ++ Hd j).take (m + 1)).length = min (m + 1) ((S j).length + (Hd j).length) := by rw [List.length_take, List.length_append]
  have hsplit : (S j ++ Hd j).take (m + 1) ++ ((S j).drop (m + 1) ++ (Hd j).drop (m + 1 - (S j).length)) = S j ++ Hd j := by
    rw [← List.drop_append, List.take_append_drop]
  have hsl := congrArg List.length hsplit
  simp only [List.length_append] at hsl
  have h3 := many_upd S j ((S j).drop (m + 1)) 20 hj
  have h4 := many_upd Hd j ((Hd j).drop (m + 1 - (S j).length)) 20 hj
  obtain ⟨X, hX⟩ : ∃ X, X = (S j ++ Hd j).take (m + 1) := ⟨_, rfl⟩
  rw [← hX] at hO hlX hsplit hsl
  refine ⟨v, X, rfl, by omega, by omega, Q', hv', _, _, hp', hQ', hrw', hd', ?_, fun q hq hjq => ?_, fun q hq => ?_, ?_, ?_, own_mono hO (Nat.zero_le _), fun k hk => ?_, hBel.trans hB', fun y hy => ?_⟩
  · rw [upd_same, upd_same, List.append_assoc, hsplit]
    exact hrow
  · rw [upd_other _ (by omega), upd_other _ (by omega)]
    exact hrest q hq hjq
  · rw [upd_other _ (by omega), upd_other _ (by omega)]
    exact hdone q hq
  · rw [List.length_append]
    omega
  · obtain ⟨_, _, _, _, _, hu⟩ := hw
    exact own_upon hown hu (fun k hk => (hgot k hk).1)
  · refine ⟨fun hq => ?_, (hgot k hk).2⟩
    rcases hqq k hq with h5 | h5
    · exact (hgot k hk).1 h5
    · have := (World.ownsRow.lt hown k hk).2
      omega
  · rcases List.mem_append.1 hy with hy | hy
    · exact hokT y hy
    · rw [hX] at hy
      have := List.mem_of_mem_take hy
      rcases List.mem_append.1 this with h5 | h5
      · exact hp.okS j (by omega) y h5
      · exact hp.okH j (by omega) y h5
/-- Behind the append to what was got. -/
theorem inv4_end {A : Pa} {B RB N j : Nat} {T X : List (List Nat)} {got v : Value} {w0 w w' : World} {Qs : Nat → Prop} {hv : Nat → Option Value} {S Hd : Rows} {rv : Nat → Value} {R : Rows} (h : Inv4d A B RB N j T X got v w0 w Qs hv S Hd rv R) (hB : B ≤ w0.heap.size) {g cap : Nat}
    (hown : w'.ownsRow B 38 7 (.slice (some ⟨g, 0, none⟩) (T.length + X.length) cap) (T.length + X.length) (flatW T ++ flatW X)) (hg : w.grownBy w' got.ownBlock) (hat : got.ownBlock = some g ∨ g = w.heap.size) :
    Inv3 A B RB N j (T ++ X) (.slice (some ⟨g, 0, none⟩) (T.length + X.length) cap) w0 w' := by
  obtain ⟨hp, hQ, hrw, hd, hrow, hrest, hdone, htot, hgo, hvo, hgot, hBel, hokX⟩ := h
  have hs := hBel.size
  refine ⟨Qs, hv, S, Hd, rv, R, hp.keep hg.size (fun k hk => hg.block k (hp.lt k hk) (fun e => (hgot k e.symm).1 hk)), hQ, hrw.keep (fun k hk => hg.block k (hrw.lt k hk) (fun e => (hgot k e.symm).2 hk)), hd, hrow, hrest, hdone, htot, ?_, fun k hk => ?_, hBel.grown hg (by omega) (fun k hk => (World.ownsRow.lt hgo k hk).1), hokX⟩
  · show _ = _ ∧ _
    rw [List.length_append, flatW_append]
    exact hown
  · have : g = k := by simpa [Value.ownBlock] using hk
    subst this
    rcases hat with e | e
    · exact hgot g e
    · subst e
      exact ⟨fun hq => Nat.lt_irrefl _ (hp.lt _ hq), fun hr => Nat.lt_irrefl _ (hrw.lt _ hr)⟩
theorem inv3_end {A : Pa} {B RB N j : Nat} {T : List (List Nat)} {got : Value} {w0 w w' : World} {Qs : Nat → Prop} {hv : Nat → Option Value} {S Hd : Rows} {rv : Nat → Value} {R : Rows} (h : Inv3d A B RB N j T got w0 w Qs hv S Hd rv R) (hB : B ≤ w0.heap.size) (h0 : (S j).length + (Hd j).length = 0) (hb : Below w.heap.size w w') : Inv2 A B RB N (j + 1) w0 w' := by
  obtain ⟨hp, hQ, hrw, hd, hrow, hrest, hdone, htot, hgo, hgot, hBel, _⟩ := h
  have hs := hBel.size
  refine ⟨⟨Qs, hv, S, Hd, rv, R, hp.later hb, hQ, hrw.below (B := 0) hb, hd, fun q hq hjq => hrest q hq (by omega), fun q hq => ?_, by omega⟩, hBel.trans (hb.mono (by omega))⟩
  by_cases e : q = j
  · subst e
    exact ⟨List.eq_nil_of_length_eq_zero (by omega), List.eq_nil_of_length_eq_zero (by omega)⟩
  · exact hdone q (by omega)
theorem many_zero {S : Rows} : ∀ n, (∀ q, q < n → S q = []) → many S n = 0 := by
  intro n
  induction n with
  | zero => intro _; rfl
  | succ n ih =>
    intro h
    have e : many S (n + 1) = many S n + (S n).length := by unfold many; simp [List.range_succ]
    rw [e, ih (fun q hq => h q (by omega)), h n (Nat.lt_succ_self n)]
    rfl
/-- All are taken: nothing is left, and no file. -/
theorem inv2_end {A : Pa} {B RB N : Nat} {w0 w : World} (h : Inv2 A B RB N 20 w0 w) (hn : A.n = 20) : ∃ Qs hv S Hd, Pl A false w Qs hv S Hd ∧ many S A.n = 0 ∧ many Hd A.n = 0 ∧ (∀ q, q < 20 → S q = []) := by
  obtain ⟨⟨Qs, hv, S, Hd, rv, R, h1, _, _, _, _, h6, _⟩, _⟩ := h
  exact ⟨Qs, hv, S, Hd, h1, by rw [hn]; exact many_zero 20 (fun q hq => (h6 q hq).1), by rw [hn]; exact many_zero 20 (fun q hq => (h6 q hq).2), fun q hq => (h6 q hq).1⟩
theorem no_names {A : Pa} {off : Bool} {w : World} {Qs : Nat → Prop} {hv : Nat → Option Value} {S Hd : Rows} (h : Pl A off w Qs hv S Hd) (hS : ∀ q, q < A.n → S q = []) :
    Calls Tryz.prog 15 #[.pointer (some ⟨A.s, 0, none⟩)] w fun e w' => ∃ a c, e = .returned (.slice a 0 c) ∧ Below w.heap.size w w' := by
  obtain ⟨C, hst, hfl⟩ := h.store
  have htop := h.top.1
  refine (Go.Proofs.YtfgjnpbffppocaaGreat.Store.names_any hst (plist A.n) (plist_has hfl) (by rw [plist_len]; omega) (plist_name _)).mono ?_
  rintro e w' ⟨v, ss, rfl, hO, hmem, _, hB⟩
  have hss : ss = [] := by
    cases ss with
    | nil => rfl
    | cons x r =>
      have hx := (hmem x).1 (by simp)
      have hC : C x ≠ none := fun e => by unfold Go.Proofs.YtfgjnpbffppocaaGreat.Store.isFile at hx; rw [e] at hx; cases hx
      obtain ⟨i, hi, rfl⟩ := hfl.1 x hC
      have := hfl.2 i hi
      rw [if_pos (hS i hi)] at this
      unfold Go.Proofs.YtfgjnpbffppocaaGreat.Store.isFile at hx
      rcases this with e | e <;> (rw [e] at hx; cases hx)
  subst hss
  obtain ⟨a, c, rfl, _⟩ := own_shape hO
  exact ⟨a, c, rfl, hB⟩
end Go.Proofs.YtfgjnpbffppocaaGreat.Pool
