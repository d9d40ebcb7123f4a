/- Layer 24: what a call may have done to the pool; a held row anew; clear on a row of walkers. -/
import Derived.Test.YtfgjnpbffppocaaGreatPoolWriteB
import Derived.Laws.CopyRow
namespace Go.Proofs.YtfgjnpbffppocaaGreat.Pool
open Go.RowKit Go.Deep Mem Crc Walk
open Go.Proofs.YtfgjnpbffppocaaGreat.Store (St Chg setC)

/-- What a call may have done: new blocks; writes to blocks of P. -/
structure Upon (P : Nat → Prop) (w w' : World) : Prop where
  os : w'.os = w.os
  tape : w'.tape = w.tape
  output : w'.output = w.output
  size : w.heap.size ≤ w'.heap.size
  block : ∀ k, k < w.heap.size → ¬ P k → w'.heap[k]? = w.heap[k]?
theorem Upon.refl (P : Nat → Prop) (w : World) : Upon P w w := ⟨rfl, rfl, rfl, Nat.le_refl _, fun _ _ _ => rfl⟩
theorem Upon.trans {P Q : Nat → Prop} {a b c : World} (h : Upon P a b) (k : Upon Q b c) (hs : ∀ g, Q g → P g ∨ a.heap.size ≤ g) : Upon P a c :=
  ⟨k.os.trans h.os, k.tape.trans h.tape, k.output.trans h.output, Nat.le_trans h.size k.size, fun i hi hn => (k.block i (Nat.lt_of_lt_of_le hi h.size) (fun hq => (hs i hq).elim hn (fun hg => by omega))).trans (h.block i hi hn)⟩
theorem Upon.of_only {P : Nat → Prop} {F : List Nat} {w w' : World} (h : Only F w w') (hF : ∀ g ∈ F, P g ∨ w.heap.size ≤ g) : Upon P w w' :=
  ⟨h.os, h.tape, h.output, h.size, fun k hk hn => h.block k hk (fun hm => (hF k hm).elim hn (fun hg => by omega))⟩
theorem Upon.of_below {P : Nat → Prop} {w w' : World} (h : Below w.heap.size w w') : Upon P w w' := ⟨h.os, h.tape, h.output, h.size, fun k hk _ => h.block k hk⟩
theorem Upon.below {P : Nat → Prop} {B : Nat} {w w' : World} (h : Upon P w w') (hB : B ≤ w.heap.size) (hs : ∀ g, P g → B ≤ g) : Below B w w' :=
  ⟨h.os, h.tape, h.output, h.size, fun k hk => h.block k (by omega) (fun hm => by have := hs k hm; omega)⟩
theorem Upon.drew {P : Nat → Prop} {a w : World} (h : Upon P a w) : Upon P a w.drew := ⟨h.os, h.tape, h.output, h.size, h.block⟩
theorem own_upon {P : Nat → Prop} {w w' : World} {base : Nat} {e : TypeId} {size : Nat} {v : Value} {n : Nat} {xs : List Value} (h : w.ownsRow base e size v n xs) (hb : Upon P w w') (hv : ∀ g, v.ownBlock = some g → ¬ P g) : w'.ownsRow base e size v n xs := by
  refine ⟨h.1, ?_⟩
  rcases h.2 with h0 | ⟨g, cap, cur, rfl, hg, hgg, r⟩
  · exact .inl h0
  · exact .inr ⟨g, cap, cur, rfl, hg, (hb.block g (h.lt g rfl).2 (hv g rfl)).trans hgg, r⟩
/-- What has become of the pool, whose blocks were P. -/
def Went (A : Pa) (off : Bool) (P : Nat → Prop) (w w' : World) (S Hd : Rows) (X : Nat → Prop) : Prop :=
  ∃ Qs hv, Pl A off w' Qs hv S Hd ∧ (∀ k, allQ A Qs hv k → P k ∨ w.heap.size ≤ k) ∧ (∀ k, X k → ¬ allQ A Qs hv k) ∧ Upon P w w'
/-- A held entry anew. -/
def updv (hv : Nat → Option Value) (i : Nat) (u : Option Value) : Nat → Option Value := fun j => if j = i then u else hv j
theorem updv_same (hv : Nat → Option Value) (i : Nat) (u : Option Value) : updv hv i u i = u := if_pos rfl
theorem updv_other {hv : Nat → Option Value} {i j : Nat} (u : Option Value) (h : j ≠ i) : updv hv i u j = hv j := if_neg h
theorem many_upd (Hd : Rows) (i : Nat) (l : List (List Nat)) : ∀ n, i < n → many (upd Hd i l) n + (Hd i).length = many Hd n + l.length := by
  have h0 : ∀ n, n ≤ i → many (upd Hd i l) n = many Hd n := by
    intro n hn
    unfold many
    congr 1
    refine List.map_congr_left (fun j hj => ?_)
    rw [upd_other _ (by have := List.mem_range.1 hj; omega)]
  intro n
  induction n with
  | zero => intro h; omega
  | succ n ih =>
    intro h
    have e : ∀ G : Rows, many G (n + 1) = many G n + (G n).length := fun G => by unfold many; simp [List.range_succ]
    rw [e, e]
    by_cases hn : n = i
    · subst hn
      rw [h0 n (Nat.le_refl _), upd_same]
      omega
    · have := ih (by omega)
      rw [upd_other _ hn]
      omega
theorem len_le_many (Hd : Rows) (i : Nat) : ∀ n, i < n → (Hd i).length ≤ many Hd n := fun n h => by
  have := many_upd Hd i [] n h
  simp at this
  omega
/-- A held row anew; the rest is kept. -/
theorem Pl.holding {A : Pa} {off : Bool} {w w' : World} {Qs : Nat → Prop} {hv : Nat → Option Value} {S Hd : Rows} (h : Pl A off w Qs hv S Hd) {i : Nat} (hi : i < A.n) {F : List Nat} (ho : Only F w w')
    (hF : ∀ k ∈ F, k = A.p ∨ k = A.hm ∨ (∃ v, hv i = some v ∧ v.ownBlock = some k) ∨ w.heap.size ≤ k) (l : List (List Nat))
    (hp : Blk w' A.p 57 #[.pointer (some ⟨A.s, 0, none⟩), .int .i64 (A.n : Int), .int .i64 (A.room : Int), .map (some A.sm), .map (some A.hm), .int .i64 (many (upd Hd i l) A.n : Int)])
    {f' : Lit → Option Value} (hm : MapIs w' 3 A.hm f') (hsup : ∀ x, f' x ≠ none → ∃ i, i < A.n ∧ x = sK i) (u : Option Value) (hu : match u with | none => l = [] | some v => OwnW w' 0 v l) (hfi : f' (sK i) = u) (hfo : ∀ j, j < A.n → j ≠ i → f' (sK j) = hv j)
    (hub : ∀ v k, u = some v → v.ownBlock = some k → (∃ v0, hv i = some v0 ∧ v0.ownBlock = some k) ∨ w.heap.size ≤ k) (hok : ∀ x ∈ l, ok x) : Pl A off w' Qs (updv hv i u) S (upd Hd i l) := by
  obtain ⟨f, hmf, hfs, hff⟩ := h.spilled
  obtain ⟨C, hst, hfl⟩ := h.store
  have hsmF : A.sm ∉ F := fun hmm => by
    rcases hF _ hmm with e | e | ⟨v, hv1, hv2⟩ | e
    · exact map_ne_blk hmf h.pool e
    · exact h.maps e
    · exact (h.outside i v A.sm hi hv1 hv2).2 (.inr (.inl rfl))
    · have := hmf.lt
      omega
  have hQF : ∀ k ∈ F, ¬ Qs k := fun k hk hq => by
    rcases hF _ hk with e | e | ⟨v, hv1, hv2⟩ | e
    · exact h.qs k hq (.inl e)
    · exact h.qs k hq (.inr (.inr e))
    · exact (h.outside i v k hi hv1 hv2).1 hq
    · have := hst.lt k hq
      omega
  have hblt : ∀ j v k, j < A.n → hv j = some v → v.ownBlock = some k → k < w.heap.size := fun j v k hj hvj hk => h.lt k (.inr (.inr ⟨j, v, hj, hvj, hk⟩))
  refine ⟨hp, ⟨C, hst.only ho hQF, hfl⟩, ⟨f, hmf.keep (ho.block _ hmf.lt hsmF), hfs, hff⟩, ⟨f', hm, hsup, fun j hj => ?_⟩, fun j hj => ?_, fun j k u1 v1 hj hk hjk h1 h2 => ?_, fun j v k hj hvj hk => ?_, h.qs, h.maps, h.okS, fun j hj x hx => ?_, h.top⟩
  · by_cases e : j = i
    · subst e; rw [updv_same]; exact hfi
    · rw [updv_other _ e]; exact hfo j hj e
  · by_cases e : j = i
    · subst e; rw [updv_same, upd_same]; exact hu
    · rw [updv_other _ e, upd_other _ e]
      have hr := h.rows j hj
      cases hc : hv j with
      | none => rw [hc] at hr; exact hr
      | some v =>
        rw [hc] at hr
        refine own_only hr ho (fun k hk hmm => ?_)
        rcases hF _ hmm with e1 | e1 | ⟨v0, hv1, hv2⟩ | e1
        · exact (h.outside j v k hj hc hk).2 (.inl e1)
        · exact (h.outside j v k hj hc hk).2 (.inr (.inr e1))
        · rcases h.apart i j v0 v hi hj (Ne.symm e) hv1 hc with e2 | e2
          · rw [e2] at hv2; cases hv2
          · exact e2 (hv2.trans hk.symm)
        · have := hblt j v k hj hc hk
          omega
  · by_cases e1 : j = i
    · subst e1
      rw [updv_same] at h1
      rw [updv_other _ (Ne.symm hjk)] at h2
      cases hb : u1.ownBlock with
      | none => exact .inl rfl
      | some q =>
        refine .inr (fun e2 => ?_)
        rcases hub u1 q h1 hb with ⟨v0, hv1, hv2⟩ | hn
        · rcases h.apart j k v0 v1 hj hk hjk hv1 h2 with e3 | e3
          · rw [e3] at hv2; cases hv2
          · exact e3 (hv2.trans e2)
        · have := hblt k v1 q hk h2 e2.symm
          omega
    · rw [updv_other _ e1] at h1
      by_cases e2 : k = i
      · subst e2
        rw [updv_same] at h2
        cases hb : u1.ownBlock with
        | none => exact .inl rfl
        | some q =>
          refine .inr (fun e3 => ?_)
          rcases hub v1 q h2 e3.symm with ⟨v0, hv1, hv2⟩ | hn
          · rcases h.apart j k u1 v0 hj hk hjk h1 hv1 with e4 | e4
            · rw [e4] at hb; cases hb
            · exact e4 (hb.trans hv2.symm)
          · have := hblt j u1 q hj h1 hb
            omega
      · rw [updv_other _ e2] at h2
        exact h.apart j k u1 v1 hj hk hjk h1 h2
  · by_cases e : j = i
    · subst e
      rw [updv_same] at hvj
      rcases hub v k hvj hk with ⟨v0, hv1, hv2⟩ | hn
      · exact h.outside j v0 k hj hv1 hv2
      · refine ⟨fun hq => ?_, fun hq => ?_⟩
        · have := hst.lt k hq
          omega
        · have := h.lt k (.inr (.inl hq))
          omega
    · rw [updv_other _ e] at hvj
      exact h.outside j v k hj hvj hk
  · by_cases e : j = i
    · subst e; rw [upd_same] at hx; exact hok x hx
    · rw [upd_other _ e] at hx; exact h.okH j hj x hx
/-- The blocks of a pool with another held row. -/
theorem allQ_holding {A : Pa} {Qs : Nat → Prop} {hv : Nat → Option Value} {i : Nat} {u : Option Value} {N : Nat} (hub : ∀ v k, u = some v → v.ownBlock = some k → (∃ v0, hv i = some v0 ∧ v0.ownBlock = some k) ∨ N ≤ k) (hi : i < A.n) : ∀ k, allQ A Qs (updv hv i u) k → allQ A Qs hv k ∨ N ≤ k := by
  rintro k (hk | hk | ⟨j, v, hj, hvj, hk⟩)
  · exact .inl (.inl hk)
  · exact .inl (.inr (.inl hk))
  · by_cases e : j = i
    · subst e
      rw [updv_same] at hvj
      rcases hub v k hvj hk with ⟨v0, h1, h2⟩ | h1
      · exact .inl (.inr (.inr ⟨j, v0, hj, h1, h2⟩))
      · exact .inr h1
    · rw [updv_other _ e] at hvj
      exact .inl (.inr (.inr ⟨j, v, hj, hvj, hk⟩))
/-- The held map behind a store into it. -/
theorem Pl.hold {A : Pa} {off : Bool} {w w1 : World} {Qs : Nat → Prop} {hv : Nat → Option Value} {S Hd : Rows} (h : Pl A off w Qs hv S Hd) (hk : w1.heap[A.hm]? = w.heap[A.hm]?) (i : Nat) (hi : i < A.n) (v : Value) :
    ∃ w2 f', (Instr.mapUpdate 55 (.map (some A.hm)) (.int .i64 (i : Int)) v).run Tryz.prog w1 = .ok () w2 ∧ MapIs w2 3 A.hm f' ∧ (∀ x, f' x ≠ none → ∃ i, i < A.n ∧ x = sK i) ∧ f' (sK i) = some v ∧ (∀ j, j < A.n → j ≠ i → f' (sK j) = hv j) ∧ Only [A.hm] w1 w2 ∧ w2.heap.size = w1.heap.size := by
  obtain ⟨f, hm, hs, hf⟩ := h.held
  have hn := h.top.1
  obtain ⟨w2, hrun, hm2, hg, hsz⟩ := (hm.keep hk).update intKeyed Tryz.underlying55 ((List.range A.n).map sK) (fun x hx => by
    obtain ⟨j, hj, rfl⟩ := hs x hx
    exact List.mem_map.2 ⟨j, List.mem_range.2 hj, rfl⟩) (by simp [maxLen]; omega) (key_of (i := i) (by omega)) v
  refine ⟨w2, _, hrun, hm2, fun x hx => ?_, setK_same _ _ _, fun j hj hji => ?_, Only.of_grown hg (fun g hg => by cases hg; exact .inl (by simp)), hsz⟩
  · by_cases e : x = sK i
    · exact ⟨i, hi, e⟩
    · rw [setK_other _ e] at hx
      exact hs x hx
  · rw [setK_other _ (fun e => hji (sK_inj e))]
    exact hf j hj
theorem Pl.unhold {A : Pa} {off : Bool} {w w1 : World} {Qs : Nat → Prop} {hv : Nat → Option Value} {S Hd : Rows} (h : Pl A off w Qs hv S Hd) (hk : w1.heap[A.hm]? = w.heap[A.hm]?) (i : Nat) (hi : i < A.n) (ty : TypeId) :
    ∃ w2 f', (Builtin.delete_ #[55, 3] ty #[.map (some A.hm), .int .i64 (i : Int)]).run Tryz.prog w1 = .ok (.tuple #[]) w2 ∧ MapIs w2 3 A.hm f' ∧ (∀ x, f' x ≠ none → ∃ i, i < A.n ∧ x = sK i) ∧ f' (sK i) = none ∧ (∀ j, j < A.n → j ≠ i → f' (sK j) = hv j) ∧ Only [A.hm] w1 w2 ∧ w2.heap.size = w1.heap.size := by
  obtain ⟨f, hm, hs, hf⟩ := h.held
  have hn := h.top.1
  obtain ⟨w2, hrun, hm2, hg, hsz⟩ := (hm.keep hk).drop intKeyed Tryz.underlying55 (key_of (i := i) (by omega)) ty
  refine ⟨w2, _, hrun, hm2, fun x hx => ?_, setK_same _ _ _, fun j hj hji => ?_, Only.of_grown hg (fun g hg => by cases hg; exact .inl (by simp)), hsz⟩
  · by_cases e : x = sK i
    · exact ⟨i, hi, e⟩
    · rw [setK_other _ e] at hx
      exact hs x hx
  · rw [setK_other _ (fun e => hji (sK_inj e))]
    exact hf j hj
theorem zero_walker (w : World) : (zeroValue 38).run Tryz.prog w = .ok (.agg #[.int .u32 0, .int .u32 0, .int .u32 0, .int .u32 0, .int .u32 0, .int .u32 0, .int .u32 0]) w := by kernel_rfl
/-- clear on a row of walkers of one's own. -/
theorem run_clear {w : World} {base : Nat} {v : Value} {l : List (List Nat)} (h : OwnW w base v l) (hne : l ≠ []) (ty : TypeId) :
    ∃ g w', v.ownBlock = some g ∧ (Builtin.clear_ #[22] ty #[v]).run Tryz.prog w = .ok (.tuple #[]) w' ∧ Only [g] w w' ∧ w'.heap.size = w.heap.size := by
  have hl0 : 0 < l.length := List.length_pos_iff.2 hne
  rcases h.2 with ⟨_, h0⟩ | ⟨g, cap, cur, rfl, _, hb, hle, _, hsz, _⟩
  · omega
  obtain ⟨n, hn⟩ : ∃ n, l.length = n := ⟨_, rfl⟩
  rw [hn] at hl0 hle ⊢
  have hz : (Builtin.zeroCells #[.int .u32 0, .int .u32 0, .int .u32 0, .int .u32 0, .int .u32 0, .int .u32 0, .int .u32 0] n).toList.length = n * 7 := by
    rw [Array.length_toList, size_zeroCells]
    rfl
  have hone : ∀ u ∈ (Builtin.zeroCells #[.int .u32 0, .int .u32 0, .int .u32 0, .int .u32 0, .int .u32 0, .int .u32 0, .int .u32 0] n).toList, u.oneCell' = true := fun u hu => by
    unfold Builtin.zeroCells at hu
    simp only [Array.toList_map, List.mem_map] at hu
    obtain ⟨j, _, rfl⟩ := hu
    have : ∀ q, q < 7 → (#[Value.int .u32 0, .int .u32 0, .int .u32 0, .int .u32 0, .int .u32 0, .int .u32 0, .int .u32 0][q]!).oneCell' = true := by decide
    exact this _ (Nat.mod_lt _ (by decide))
  have hst := run_storeCells_at (P := Tryz.prog) g 0 38 _ 0 cur w hb (by rw [hz, hsz]; omega) hone
  obtain ⟨Z, hZ⟩ : ∃ Z, Z = (Builtin.zeroCells #[.int .u32 0, .int .u32 0, .int .u32 0, .int .u32 0, .int .u32 0, .int .u32 0, .int .u32 0] n).toList := ⟨_, rfl⟩
  rw [← hZ] at hst
  obtain ⟨R, hR⟩ : ∃ R, R = (cur.toList.take (0 + 0) ++ Z ++ cur.toList.drop (0 + 0 + Z.length)).toArray := ⟨_, rfl⟩
  rw [← hR] at hst
  refine ⟨g, w.setRow g R, rfl, ?_, ⟨rfl, rfl, rfl, by simp [World.setRow], fun k hk hn => ?_⟩, by simp [World.setRow]⟩
  · obtain ⟨m, rfl⟩ : ∃ m, n = m + 1 := ⟨n - 1, by omega⟩
    simp [Builtin.clear_, run_underlying Tryz.underlying22, Result.andThen, zero_walker, Value.cells, ← hZ, hst]
  · have : k ≠ g := by simpa using hn
    simp [World.setRow, Array.getElem?_modify, this.symm]
end Go.Proofs.YtfgjnpbffppocaaGreat.Pool
