/- palmerlaw24.PoolQueue: what holds of the pool and the rows. -/
import Derived.Test.YtfgjnpbffppocaaGreatPoolRows
import Derived.Deep.RegionLaw
namespace Go.Proofs.YtfgjnpbffppocaaGreat.Pool
open Go.RowKit Go.Deep Mem Crc Walk
open Go.Proofs.YtfgjnpbffppocaaGreat.Store (St Chg setC none')

set_option maxHeartbeats 400000 in
set_option maxRecDepth 100000 in
theorem queue_out (room : Int) (a : Option Addr) (n cap : Nat) (v2 v3 v4 : Value) (W : World) (h : 100 < n ∨ room < 1 ∨ 65536 < room) :
    Calls Tryz.prog 3 #[.int .i64 room, .slice a n cap, v2, v3, v4] W fun e w' => e = .returned (.bool true) ∧ Below W.heap.size W w' := by
  have HA := Lib.hid (awake_any W)
  by_cases h1 : 100 < n
  · have t1 : decide (100 < (n : Int)) = true := by simp; omega
    clear h
    go_enter Tryz.func3, Tryz.ntmps3
    go_wp2_with fail
    refine HA.out.mono ?_
    rintro e w1 ⟨rfl, hB⟩
    go_wp2_with fail
    go_ret
    exact ⟨rfl, hB⟩
  · have t1 : decide (100 < (n : Int)) = false := by simp; omega
    by_cases h2 : room < 1
    · have t2 : decide (room < 1) = true := by simpa using h2
      clear h h1
      go_enter Tryz.func3, Tryz.ntmps3
      go_wp2_with fail
      refine HA.out.mono ?_
      rintro e w1 ⟨rfl, hB⟩
      go_wp2_with fail
      go_ret
      exact ⟨rfl, hB⟩
    · have t2 : decide (room < 1) = false := by simpa using h2
      have t3 : decide (65536 < room) = true := by simp; omega
      clear h h1
      go_enter Tryz.func3, Tryz.ntmps3
      go_wp2_with fail
      refine HA.out.mono ?_
      rintro e w1 ⟨rfl, hB⟩
      go_wp2_with fail
      go_ret
      exact ⟨rfl, hB⟩
/-- What holds of the pool and the rows behind k walkers. -/
structure Inv (A : Pa) (B RB room k : Nat) (w0 w : World) : Prop where
  all : ∃ Qs hv S Hd rv R, Pl A false w Qs hv S Hd ∧ (∀ q, allQ A Qs hv q → B ≤ q) ∧ Rws w RB rv R ∧ (∀ q, Rblk RB rv q → B ≤ q ∧ ¬ allQ A Qs hv q) ∧ (∀ j, j < 20 → S j ++ Hd j = R j) ∧ many Hd 20 ≤ room ∧ many S 20 + many Hd 20 = k
  below : Below B w0 w
theorem nil_rows (w : World) : OwnW w 0 (.slice none 0 0) [] := World.ownsRow_nil _ _ _ _
theorem inv_start {A : Pa} {B room : Nat} {w0 w1 w : World} {Q : Nat → Prop} (hp : Pl A false w1 Q (fun _ => none) no no) (hq : ∀ k, allQ A Q (fun _ => none) k → B ≤ k) (hB : Below B w0 w1) (hB1 : B ≤ w1.heap.size) (hw : w = w1.alloc (.cells (rcells (fun _ => .slice none 0 0)) 22)) : Inv A B w1.heap.size room 0 w0 w := by
  subst hw
  have hal := (Below.refl w1.heap.size w1).alloc (Nat.le_refl _) (.cells (rcells (fun _ => .slice none 0 0)) 22)
  refine ⟨⟨Q, _, no, no, fun _ => .slice none 0 0, no, hp.later hal, hq, ⟨Blk.new w1 _ _, fun j hj => nil_rows _, fun i j _ _ _ => .inl rfl⟩, ?_, fun j hj => rfl, by rw [many_no]; exact Nat.zero_le _, by rw [many_no]⟩, hB.alloc hB1 _⟩
  rintro q (rfl | ⟨j, _, hk⟩)
  · exact ⟨hB1, fun hk => Nat.lt_irrefl _ (hp.lt _ hk)⟩
  · cases hk
/-- .. when a walker x was put into the row q of the pool, and not yet into that of the rows. -/
structure Half (A : Pa) (B RB room k q : Nat) (x : List Nat) (w0 w : World) : Prop where
  all : ∃ Qs hv S Hd rv R, Pl A false w Qs hv S Hd ∧ (∀ q, allQ A Qs hv q → B ≤ q) ∧ Rws w RB rv R ∧ (∀ q, Rblk RB rv q → B ≤ q ∧ ¬ allQ A Qs hv q) ∧ (∀ j, j < 20 → S j ++ Hd j = upd R q (R q ++ [x]) j) ∧ many Hd 20 ≤ room ∧ many S 20 + many Hd 20 = k + 1 ∧ Hd q ≠ []
  below : Below B w0 w
/-- .. and into that of the rows too. -/
structure Inv' (A : Pa) (B RB room k q : Nat) (w0 w : World) : Prop where
  all : ∃ Qs hv S Hd rv R, Pl A false w Qs hv S Hd ∧ (∀ q, allQ A Qs hv q → B ≤ q) ∧ Rws w RB rv R ∧ (∀ q, Rblk RB rv q → B ≤ q ∧ ¬ allQ A Qs hv q) ∧ (∀ j, j < 20 → S j ++ Hd j = R j) ∧ many Hd 20 ≤ room ∧ many S 20 + many Hd 20 = k ∧ Hd q ≠ []
  below : Below B w0 w
theorem Inv'.inv {A : Pa} {B RB room k q : Nat} {w0 w : World} (h : Inv' A B RB room k q w0 w) : Inv A B RB room k w0 w := by
  obtain ⟨⟨Qs, hv, S, Hd, rv, R, h1, h2, h3, h4, h5, h6, h7, _⟩, hB⟩ := h
  exact ⟨⟨Qs, hv, S, Hd, rv, R, h1, h2, h3, h4, h5, h6, h7⟩, hB⟩
/-- The rows beside a pool that has gone on. -/
theorem beside {A : Pa} {off off' : Bool} {B RB : Nat} {w w' : World} {Qs : Nat → Prop} {hv : Nat → Option Value} {S Hd S' Hd' : Rows} {rv : Nat → Value} {R : Rows} {X : Nat → Prop} (hp : Pl A off w Qs hv S Hd) (hQ : ∀ q, allQ A Qs hv q → B ≤ q) (hr : Rws w RB rv R) (hd : ∀ q, Rblk RB rv q → B ≤ q ∧ ¬ allQ A Qs hv q) (hB : B ≤ w.heap.size) (hw : Went A off' (allQ A Qs hv) w w' S' Hd' X) :
    ∃ Q' hv', Pl A off' w' Q' hv' S' Hd' ∧ (∀ q, allQ A Q' hv' q → B ≤ q) ∧ Rws w' RB rv R ∧ (∀ q, Rblk RB rv q → B ≤ q ∧ ¬ allQ A Q' hv' q) ∧ Below B w w' ∧ (∀ k, X k → ¬ allQ A Q' hv' k) ∧ (∀ k, allQ A Q' hv' k → allQ A Qs hv k ∨ w.heap.size ≤ k) := by
  obtain ⟨Q', hv', hp', hq, hx, hu⟩ := hw
  refine ⟨Q', hv', hp', fun k hk => (hq k hk).elim (hQ k) (fun h => by omega), hr.upon hu (fun k hk => (hd k hk).2), fun k hk => ⟨(hd k hk).1, fun hq' => ?_⟩, hu.below hB hQ, hx, hq⟩
  rcases hq k hq' with h1 | h1
  · exact (hd k hk).2 h1
  · have := hr.lt k hk
    omega
theorem put_inv {A : Pa} {B RB room k q : Nat} {w0 w : World} (h : Inv A B RB room k w0 w) (hB : B ≤ w0.heap.size) (hn : A.n = 20) (hr : A.room = room) (hr1 : 1 ≤ room) (hk : k < 100) (hq : q < 20) (x : List Nat) (hx : ok x) :
    Calls Tryz.prog 8 #[.pointer (some ⟨A.p, 0, none⟩), .int .i64 (q : Int), .agg (vals x).toArray] w fun e w' => e = .returned (.int .i64 0) ∧ Half A B RB room k q x w0 w' := by
  obtain ⟨⟨Qs, hv, S, Hd, rv, R, hp, hQ, hrw, hd, hrow, hmy, htot⟩, hBel⟩ := h
  have hlen : ∀ j, j < 20 → (S j).length + (Hd j).length ≤ k := fun j hj => by
    have h1 := len_le_many S j 20 hj
    have h2 := len_le_many Hd j 20 hj
    omega
  refine (put_any hp q (by omega) x hx (by omega) (fun j hj => by have := hlen j (by omega); omega) (by rw [hn]; omega)).mono ?_
  rintro e w' ⟨rfl, hw⟩
  obtain ⟨Q', hv', hp', hQ', hrw', hd', hB', _⟩ := beside hp hQ hrw hd (by have := hBel.size; omega) hw
  have hmm := made_many A Hd
  rw [hn] at hmm
  have h1 := hmm.2 (by omega) (by omega)
  have h2 := many_upd (madeH A Hd) q (madeH A Hd q ++ [x]) 20 hq
  rw [List.length_append] at h2
  simp only [List.length_singleton] at h2
  have h3 := many_two (a := madeS A S Hd) (b := madeH A Hd) (c := S) (d := Hd) (made_len A S Hd) 20
  refine ⟨rfl, ⟨Q', hv', _, _, rv, R, hp', hQ', hrw', hd', fun j hj => ?_, by omega, by omega, by rw [upd_same]; simp⟩, hBel.trans hB'⟩
  by_cases e : j = q
  · subst e
    rw [upd_same, upd_same, ← List.append_assoc, made_row, hrow j hj]
  · rw [upd_other _ e, upd_other _ e, made_row, hrow j hj]
theorem Half.below' {A : Pa} {B RB room k q : Nat} {x : List Nat} {w0 w w' : World} (h : Half A B RB room k q x w0 w) (hB : B ≤ w0.heap.size) (hb : Below w.heap.size w w') : Half A B RB room k q x w0 w' := by
  obtain ⟨⟨Qs, hv, S, Hd, rv, R, h1, h2, h3, h4, h5, h6, h7, h8⟩, hBel⟩ := h
  have := hBel.size
  exact ⟨⟨Qs, hv, S, Hd, rv, R, h1.later hb, h2, h3.below (B := 0) hb, h4, h5, h6, h7, h8⟩, hBel.trans (hb.mono (by omega))⟩
theorem half_held {A : Pa} {B RB room k q : Nat} {x : List Nat} {w0 w : World} (h : Half A B RB room k q x w0 w) (hn : A.n = 20) : ∃ m : Nat, m ≤ room ∧ Calls Tryz.prog 9 #[.pointer (some ⟨A.p, 0, none⟩)] w fun e w' => e = .returned (.int .i64 (m : Int)) ∧ w' = w := by
  obtain ⟨⟨Qs, hv, S, Hd, rv, R, h1, h2, h3, h4, h5, h6, h7, h8⟩, hBel⟩ := h
  have := held_any h1
  rw [hn] at this
  exact ⟨_, h6, this⟩
theorem half_all {A : Pa} {B RB room k q : Nat} {x : List Nat} {w0 w : World} (h : Half A B RB room k q x w0 w) (hB : B ≤ w0.heap.size) (hn : A.n = 20) (hk : k < 100) : Calls Tryz.prog 10 #[.pointer (some ⟨A.p, 0, none⟩)] w fun e w' => e = .returned (.int .i64 ((k : Int) + 1)) ∧ Half A B RB room k q x w0 w' := by
  obtain ⟨⟨Qs, hv, S, Hd, rv, R, h1, h2, h3, h4, h5, h6, h7, h8⟩, hBel⟩ := id h
  have e1 : many Hd 20 + many S 20 = k + 1 := by omega
  refine (all_any h1 (by rw [hn]; omega)).mono ?_
  rintro e w' ⟨rfl, hb⟩
  refine ⟨?_, h.below' hB hb⟩
  rw [hn, e1]
  rfl
theorem spill_inv {A : Pa} {B RB room k q : Nat} {w0 w : World} (h : Inv' A B RB room k q w0 w) (hB : B ≤ w0.heap.size) (hn : A.n = 20) (hk : k ≤ 100) (hq : q < 20) : Calls Tryz.prog 11 #[.pointer (some ⟨A.p, 0, none⟩), .int .i64 (q : Int)] w fun e w' => e = .returned (.int .i64 0) ∧ Inv A B RB room k w0 w' := by
  obtain ⟨⟨Qs, hv, S, Hd, rv, R, hp, hQ, hrw, hd, hrow, hmy, htot, hne⟩, hBel⟩ := h
  have h1 := len_le_many S q 20 hq
  have h2 := len_le_many Hd q 20 hq
  refine (spill_some hp q (by omega) hne (by omega) (by rw [hn]; omega)).mono ?_
  rintro e w' ⟨rfl, hw⟩
  obtain ⟨Q', hv', hp', hQ', hrw', hd', hB', _⟩ := beside hp hQ hrw hd (by have := hBel.size; omega) hw
  have h3 := many_upd Hd q [] 20 hq
  have h4 := many_upd S q (S q ++ Hd q) 20 hq
  rw [List.length_append] at h4
  simp only [List.length_nil] at h3
  refine ⟨rfl, ⟨Q', hv', _, _, rv, R, hp', hQ', hrw', hd', fun j hj => ?_, by omega, by omega⟩, hBel.trans hB'⟩
  by_cases e : j = q
  · subst e
    rw [upd_same, upd_same, List.append_nil, hrow j hj]
  · rw [upd_other _ e, upd_other _ e, hrow j hj]
/-- Behind the append to the rows. -/
theorem push_end {A : Pa} {B RB room k q : Nat} {x : List Nat} {w0 w wA w3 : World} {Qs : Nat → Prop} {hv : Nat → Option Value} {S Hd : Rows} {rv : Nat → Value} {R : Rows} (hq : q < 20) (hp : Pl A false w Qs hv S Hd) (hQ : ∀ q, allQ A Qs hv q → B ≤ q) (hrw : Rws w RB rv R) (hd : ∀ q, Rblk RB rv q → B ≤ q ∧ ¬ allQ A Qs hv q)
    (hrow : ∀ j, j < 20 → S j ++ Hd j = upd R q (R q ++ [x]) j) (hmy : many Hd 20 ≤ room) (htot : many S 20 + many Hd 20 = k + 1) (hne : Hd q ≠ []) (hBel : Below B w0 w) (hB : B ≤ w0.heap.size)
    (hBA : Below w.heap.size w wA) {g3 cap3 : Nat} (hown3 : w3.ownsRow 0 38 7 (.slice (some ⟨g3, 0, none⟩) ((R q).length + 1) cap3) ((R q).length + 1) (flatW (R q) ++ vals x)) (hg3 : wA.grownBy w3 (rv q).ownBlock) (hat3 : (rv q).ownBlock = some g3 ∨ g3 = wA.heap.size) :
    Inv' A B RB room (k + 1) q w0 (w3.setCell ⟨RB, q, none⟩ (.slice (some ⟨g3, 0, none⟩) ((R q).length + 1) cap3)) := by
  have hs0 := hBel.size
  have hsA := hBA.size
  have hRB := hrw.blk
  have hbk : ∀ j, (rv q).ownBlock = some j → Rblk RB rv j := fun j hj => .inr ⟨q, hq, hj⟩
  have ho3 : Only ((rv q).ownBlock.toList) w w3 := (Only.of_below hBA).trans (Only.of_grown hg3 (fun j hj => .inl (by rw [hj]; simp)))
  have hnRB : RB ∉ (rv q).ownBlock.toList := fun hm => own_ne_blk (hrw.rows q hq) hRB (by decide) (by simpa using hm)
  have hb3 := hRB.only ho3 hnRB
  have hb4 := hb3.set q (.slice (some ⟨g3, 0, none⟩) ((R q).length + 1) cap3)
  rw [rcells_set _ _ _ hq] at hb4
  have ho4 : Only (RB :: (rv q).ownBlock.toList) w (w3.setCell ⟨RB, q, none⟩ (.slice (some ⟨g3, 0, none⟩) ((R q).length + 1) cap3)) := (ho3.mono (by intro g hg; exact List.mem_cons_of_mem _ hg)).set (.inl (by simp)) _
  have hF : ∀ j ∈ RB :: (rv q).ownBlock.toList, j = RB ∨ (rv q).ownBlock = some j ∨ w.heap.size ≤ j := fun j hj => by
    rcases List.mem_cons.1 hj with e | hj
    · exact .inl e
    · exact .inr (.inl (by simpa using hj))
  have hFR : ∀ j ∈ RB :: (rv q).ownBlock.toList, Rblk RB rv j := fun j hj => by
    rcases List.mem_cons.1 hj with e | hj
    · exact .inl e
    · exact hbk j (by simpa using hj)
  have hub : ∀ j, (Value.slice (some ⟨g3, 0, none⟩) ((R q).length + 1) cap3).ownBlock = some j → (rv q).ownBlock = some j ∨ w.heap.size ≤ j := fun j hj => by
    have : g3 = j := by simpa [Value.ownBlock] using hj
    subst this
    rcases hat3 with e | e
    · exact .inl e
    · exact .inr (by omega)
  have hown4 := own_past hown3 hb3 (by decide) q (.slice (some ⟨g3, 0, none⟩) ((R q).length + 1) cap3)
  have hrw4 := hrw.push hq ho4 hF (.slice (some ⟨g3, 0, none⟩) ((R q).length + 1) cap3) (R q ++ [x]) hb4 (by
    show _ = _ ∧ _
    have e1 : (R q ++ [x]).length = (R q).length + 1 := by simp
    have e2 : flatW (R q ++ [x]) = flatW (R q) ++ vals x := by rw [flatW_append]; simp [flatW]
    rw [e1, e2]
    exact hown4) hub
  have hp4 : Pl A false (w3.setCell ⟨RB, q, none⟩ (.slice (some ⟨g3, 0, none⟩) ((R q).length + 1) cap3)) Qs hv S Hd := hp.keep ho4.size (fun j hj => ho4.block j (hp.lt j hj) (fun hm => (hd j (hFR j hm)).2 hj))
  refine ⟨⟨Qs, hv, S, Hd, _, _, hp4, hQ, hrw4, fun j hj => ?_, hrow, hmy, htot, hne⟩, hBel.trans (ho4.below (by omega) (fun j hj => (hd j (hFR j hj)).1))⟩
  rcases Rblk_push hq hub j hj with h1 | h1
  · exact hd j h1
  · exact ⟨by omega, fun hj' => by have := hp.lt j hj'; omega⟩
end Go.Proofs.YtfgjnpbffppocaaGreat.Pool
