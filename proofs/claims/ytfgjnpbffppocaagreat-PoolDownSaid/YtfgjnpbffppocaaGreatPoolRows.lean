/- palmerlaw24: twenty rows of walkers beside the pool. -/
import Derived.Test.YtfgjnpbffppocaaGreatPoolLaw
import Derived.Test.YtfgjnpbffppocaaGreatOpen
namespace Go.Proofs.YtfgjnpbffppocaaGreat.Pool
open Go.RowKit Go.Deep Mem Crc Walk

abbrev rcells (rv : Nat → Value) : Array Value := ((List.range 20).map rv).toArray
/-- The rows' block and their slices. -/
structure Rws (w : World) (RB : Nat) (rv : Nat → Value) (R : Rows) : Prop where
  blk : Blk w RB 22 (rcells rv)
  rows : ∀ j, j < 20 → OwnW w 0 (rv j) (R j)
  apart : ∀ i j, i < 20 → j < 20 → i ≠ j → (rv i).ownBlock = none ∨ (rv i).ownBlock ≠ (rv j).ownBlock
def Rblk (RB : Nat) (rv : Nat → Value) (k : Nat) : Prop := k = RB ∨ ∃ j, j < 20 ∧ (rv j).ownBlock = some k
def updr (rv : Nat → Value) (i : Nat) (u : Value) : Nat → Value := fun j => if j = i then u else rv j
theorem updr_same (rv : Nat → Value) (i : Nat) (u : Value) : updr rv i u i = u := if_pos rfl
theorem updr_other {rv : Nat → Value} {i j : Nat} (u : Value) (h : j ≠ i) : updr rv i u j = rv j := if_neg h
theorem rcells_at (rv : Nat → Value) (i : Nat) (h : i < 20) : (rcells rv)[i]? = some (rv i) := by simp [rcells, h]
theorem rcells_set (rv : Nat → Value) (i : Nat) (u : Value) (h : i < 20) : (rcells rv).setIfInBounds i u = rcells (updr rv i u) := by
  apply Array.ext'
  rw [Array.toList_setIfInBounds]
  apply List.ext_getElem?
  intro j
  rw [List.getElem?_set]
  by_cases e : i = j
  · subst e
    simp [rcells, updr, h]
  · by_cases hj : j < 20
    · simp [rcells, hj, e, updr_other u (Ne.symm e)]
    · simp [rcells, hj, e]
theorem Rws.lt {w : World} {RB : Nat} {rv : Nat → Value} {R : Rows} (h : Rws w RB rv R) : ∀ k, Rblk RB rv k → k < w.heap.size := by
  rintro k (rfl | ⟨j, hj, hk⟩)
  · exact h.blk.lt
  · exact (World.ownsRow.lt (h.rows j hj) k hk).2
theorem Rws.keep {w w' : World} {RB : Nat} {rv : Nat → Value} {R : Rows} (h : Rws w RB rv R) (hk : ∀ k, Rblk RB rv k → w'.heap[k]? = w.heap[k]?) : Rws w' RB rv R :=
  ⟨(hk RB (.inl rfl)).trans h.blk, fun j hj => own_keep (h.rows j hj) (fun g hg => hk g (.inr ⟨j, hj, hg⟩)), h.apart⟩
theorem Rws.below {B : Nat} {w w' : World} {RB : Nat} {rv : Nat → Value} {R : Rows} (h : Rws w RB rv R) (hB : Below w.heap.size w w') : Rws w' RB rv R := h.keep (fun k hk => hB.block k (h.lt k hk))
theorem Rws.upon {P : Nat → Prop} {w w' : World} {RB : Nat} {rv : Nat → Value} {R : Rows} (h : Rws w RB rv R) (hu : Upon P w w') (hP : ∀ k, Rblk RB rv k → ¬ P k) : Rws w' RB rv R := h.keep (fun k hk => hu.block k (h.lt k hk) (hP k hk))
/-- A row anew. -/
theorem Rws.push {w w' : World} {RB : Nat} {rv : Nat → Value} {R : Rows} (h : Rws w RB rv R) {i : Nat} (hi : i < 20) {F : List Nat} (ho : Only F w w') (hF : ∀ k ∈ F, k = RB ∨ (rv i).ownBlock = some k ∨ w.heap.size ≤ k) (v' : Value) (l' : List (List Nat))
    (hb : Blk w' RB 22 (rcells (updr rv i v'))) (hO : OwnW w' 0 v' l') (hub : ∀ k, v'.ownBlock = some k → (rv i).ownBlock = some k ∨ w.heap.size ≤ k) : Rws w' RB (updr rv i v') (upd R i l') := by
  have hlt : ∀ j k, j < 20 → (rv j).ownBlock = some k → k < w.heap.size := fun j k hj hk => h.lt k (.inr ⟨j, hj, hk⟩)
  refine ⟨hb, fun j hj => ?_, fun a b ha hb' hab => ?_⟩
  · by_cases e : j = i
    · subst e; rw [updr_same, upd_same]; exact hO
    · rw [updr_other _ e, upd_other _ e]
      refine own_only (h.rows j hj) ho (fun k hk hm => ?_)
      rcases hF k hm with rfl | h1 | h1
      · exact own_ne_blk (h.rows j hj) h.blk (by decide) hk
      · rcases h.apart j i hj hi e with h2 | h2
        · rw [h2] at hk; cases hk
        · exact h2 (hk.trans h1.symm)
      · have := hlt j k hj hk
        omega
  · by_cases e1 : a = i
    · subst e1
      rw [updr_same, updr_other _ (Ne.symm hab)]
      cases hc : v'.ownBlock with
      | none => exact .inl rfl
      | some k =>
        refine .inr (fun e2 => ?_)
        rcases hub k hc with h1 | h1
        · rcases h.apart a b ha hb' hab with h2 | h2
          · rw [h2] at h1; cases h1
          · exact h2 (h1.trans e2)
        · have := hlt b k hb' e2.symm
          omega
    · rw [updr_other _ e1]
      by_cases e2 : b = i
      · subst e2
        rw [updr_same]
        cases hc : (rv a).ownBlock with
        | none => exact .inl rfl
        | some k =>
          refine .inr (fun e3 => ?_)
          rcases hub k e3.symm with h1 | h1
          · rcases h.apart a b ha hb' hab with h2 | h2
            · rw [h2] at hc; cases hc
            · exact h2 (hc.trans h1.symm)
          · have := hlt a k ha hc
            omega
      · rw [updr_other _ e2]
        exact h.apart a b ha hb' hab
theorem Rblk_push {RB : Nat} {rv : Nat → Value} {i N : Nat} {v' : Value} (hi : i < 20) (hub : ∀ k, v'.ownBlock = some k → (rv i).ownBlock = some k ∨ N ≤ k) : ∀ k, Rblk RB (updr rv i v') k → Rblk RB rv k ∨ N ≤ k := by
  rintro k (rfl | ⟨j, hj, hk⟩)
  · exact .inl (.inl rfl)
  · by_cases e : j = i
    · subst e
      rw [updr_same] at hk
      rcases hub k hk with h1 | h1
      · exact .inl (.inr ⟨j, hj, h1⟩)
      · exact .inr h1
    · rw [updr_other _ e] at hk
      exact .inl (.inr ⟨j, hj, hk⟩)
theorem many_two {a b c d : Rows} (h : ∀ i, (a i).length + (b i).length = (c i).length + (d i).length) : ∀ n, many a n + many b n = many c n + many d n := by
  intro n
  induction n with
  | zero => rfl
  | succ n ih =>
    have e : ∀ G : Rows, many G (n + 1) = many G n + (G n).length := fun G => by unfold many; simp [List.range_succ]
    rw [e, e, e, e]
    have := h n
    omega
set_option maxRecDepth 100000 in
/-- The walkers that came in. -/
theorem walkers_open {H : Type} {enc : TypeId × Value → H} {base : Nat} {v : Value} {d : DataW H} {p : List MemPlace} {W : World} (q : Value.okWide Tryz.prog W .any base 22 v) (h : DataW.Trod enc Tryz.prog W 0 (fun _ => true) true 22 v d p) :
    ∃ (a : Option Addr) (cap : Nat) (l : List (List Nat)), v = .slice a l.length cap ∧ l.length ≤ cap ∧ cap ≤ maxLen ∧ (∀ x ∈ l, ok x) ∧ Lies W a (flatW l) := by
  have hcu : Tryz.prog.cellsOf 36 = 1 := by kernel_rfl
  have hfield : ∀ (n : Nat) (c : Value) (o : Option (DataW H × List MemPlace)), DataW.trod enc Tryz.prog W 0 (fun _ => true) true n 36 [c] = o → o ≠ none → ∃ k : Nat, c = .int .u32 (k : Int) ∧ k < 4294967296 := fun n c o g ho => by
    cases o with
    | none => exact absurd rfl ho
    | some y =>
      obtain ⟨k, hk, _, hw⟩ := DataW.trod_int Tryz.underlying36 g
      have hb := Go.bounds_u32 hw
      exact ⟨k.toNat, by rw [show c = .int .u32 k by simpa using hk, Int.toNat_of_nonneg hb.1], by omega⟩
  obtain ⟨a, len, cap, l, rfl, h1, h2, rfl, h3, h4⟩ := Args.slice_open (α := List Nat) vals ok Tryz.underlying22 (show Tryz.prog.cellsOf 38 = 7 by kernel_rfl) (by decide) (fun fuel cs y hl hy => by
    obtain ⟨ys, n', _, _, _, hyl, hfld⟩ := DataW.trod_struct Tryz.underlying38 hy
    match cs, hl with
    | [c0, c1, c2, c3, c4, c5, c6], _ =>
      have g0 := hfld 0 _ rfl
      have g1 := hfld 1 _ rfl
      have g2 := hfld 2 _ rfl
      have g3 := hfld 3 _ rfl
      have g4 := hfld 4 _ rfl
      have g5 := hfld 5 _ rfl
      have g6 := hfld 6 _ rfl
      simp [hcu] at g0 g1 g2 g3 g4 g5 g6
      have hyl : ys.length = 7 := hyl
      obtain ⟨k0, rfl, b0⟩ := hfield _ _ _ g0 (by simp [hyl])
      obtain ⟨k1, rfl, b1⟩ := hfield _ _ _ g1 (by simp [hyl])
      obtain ⟨k2, rfl, b2⟩ := hfield _ _ _ g2 (by simp [hyl])
      obtain ⟨k3, rfl, b3⟩ := hfield _ _ _ g3 (by simp [hyl])
      obtain ⟨k4, rfl, b4⟩ := hfield _ _ _ g4 (by simp [hyl])
      obtain ⟨k5, rfl, b5⟩ := hfield _ _ _ g5 (by simp [hyl])
      obtain ⟨k6, rfl, b6⟩ := hfield _ _ _ g6 (by simp [hyl])
      refine ⟨[k0, k1, k2, k3, k4, k5, k6], rfl, rfl, fun n hn => ?_⟩
      simp only [List.mem_cons, List.not_mem_nil, or_false] at hn
      rcases hn with rfl | rfl | rfl | rfl | rfl | rfl | rfl <;> assumption) q h
  exact ⟨a, cap, l, rfl, h1, h2, h3, h4⟩
end Go.Proofs.YtfgjnpbffppocaaGreat.Pool
