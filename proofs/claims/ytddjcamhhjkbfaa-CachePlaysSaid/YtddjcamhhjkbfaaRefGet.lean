/- The reference of law 25: Get. -/
import Derived.Test.YtddjcamhhjkbfaaWithout
import Derived.Test.YtddjcamhhjkbfaaRoom
import Derived.Deep.AppendLies
import Derived.Deep.RegionLaw
namespace Go.Proofs.Ytddjcamhhjkbfaa.Refs
open Go.RowKit Go.Shelf Mem Args
open CI (Th flat total putL getL evict)
open Laws (Uniq)

/-- A reference's row: it lies still. -/
structure Lies (w : World) (b off cap : Nat) (ts : List Th) : Prop where
  row : RowO w b off ts
  lt : b < w.heap.size
  blk : ∃ cs, Blk w b 47 cs
theorem lies_own {w : World} {B g cap n : Nat} {ts : List Th} (h : w.ownsRow B 47 3 (.slice (some ⟨g, 0, none⟩) n cap) n (flat ts)) : Lies w g 0 cap ts := by
  refine ⟨fun i t ht => ?_, (h.lt g rfl).2, ?_⟩
  · obtain ⟨e0, e1, e2⟩ := CI.flat_at ts i t ht
    have c0 := h.cells (g := g) rfl _ _ e0
    have c1 := h.cells (g := g) rfl _ _ e1
    have c2 := h.cells (g := g) rfl _ _ e2
    rw [CI.addr_add] at c0 c1 c2
    rw [Nat.zero_add]
    exact ⟨c0, c1, c2⟩
  · rcases h.2 with ⟨e, _⟩ | ⟨g', cap', cur, e, _, hb, _⟩
    · cases e
    · cases e
      exact ⟨cur, hb⟩
theorem Lies.below {w w' : World} {b off cap : Nat} {ts : List Th} (h : Lies w b off cap ts) (hB : Below w.heap.size w w') : Lies w' b off cap ts := by
  obtain ⟨cs, hc⟩ := h.blk
  exact ⟨h.row.below hB h.lt, Nat.lt_of_lt_of_le h.lt hB.size, cs, hc.below hB h.lt⟩

theorem no_all {key : Int} {ts : List Th} (h : ∀ t ∈ ts, t.key ≠ key) : no key ts = ts := by
  unfold no
  rw [List.filter_eq_self]
  intro t ht
  simpa using h t ht
theorem no_erase {key : Int} : ∀ {ts : List Th}, Uniq ts → no key ts = ts.eraseP (fun t => t.key == key)
  | [], _ => rfl
  | y :: r, h => by
    have hn : (∀ a ∈ r, a.key ≠ y.key) ∧ Uniq r := by
      unfold Uniq at h ⊢
      simp only [List.map_cons, List.nodup_cons, List.mem_map, not_exists, not_and] at h
      exact ⟨h.1, h.2⟩
    by_cases e : (y.key == key) = true
    · rw [List.eraseP_cons_of_pos (by simpa using e)]
      have e' : y.key = key := by simpa using e
      have : no key (y :: r) = no key r := by unfold no; rw [List.filter_cons_of_neg (by simpa using e')]
      rw [this]
      exact no_all (fun t ht => e' ▸ hn.1 t ht)
    · rw [List.eraseP_cons_of_neg (by simpa using e)]
      have : no key (y :: r) = y :: no key r := by unfold no; rw [List.filter_cons_of_pos (by simpa using e)]
      rw [this, no_erase hn.2]

theorem news_next (w : World) (t : Th) : ∀ j u, t.vs[j]? = some u → (w.alloc (.cells #[.int .i64 t.key, .int .i64 t.size, .int .i64 t.x] 47)).cell? ((⟨w.heap.size, 0, none⟩ : Addr).add j) = some u := fun j u h => by
  rw [CI.addr_add, (Blk.new w _ _).cell]
  simpa [CI.Th.vs] using h
theorem news_kept {w w' : World} {g : Nat} {t : Th} (hb : Blk w g 47 #[.int .i64 t.key, .int .i64 t.size, .int .i64 t.x]) (hB : Below w.heap.size w w') : ∀ j u, t.vs[j]? = some u → w'.cell? ((⟨g, 0, none⟩ : Addr).add j) = some u := fun j u h => by
  rw [CI.addr_add, (hb.below hB hb.lt).cell]
  simpa [CI.Th.vs] using h
theorem size_next {B : Nat} {w : World} (o : Obj) (h : B ≤ w.heap.size) : B ≤ (w.alloc o).heap.size := by simp; omega
theorem own_lower {w : World} {base base' size n : Nat} {e : TypeId} {v : Value} {xs : List Value} (hb : base' ≤ base) (h : w.ownsRow base e size v n xs) : w.ownsRow base' e size v n xs :=
  ⟨h.1, h.2.elim Or.inl (fun ⟨g, cap, cur, hv, hg, r⟩ => Or.inr ⟨g, cap, cur, hv, Nat.le_trans hb hg, r⟩)⟩

theorem lies_snoc {w : World} {B g n cap : Nat} {ts : List Th} {t : Th} (h : w.ownsRow B 47 3 (.slice (some ⟨g, 0, none⟩) n cap) n (flat ts ++ t.vs)) : Lies w g 0 cap (ts ++ [t]) := by
  have ef : flat (ts ++ [t]) = flat ts ++ t.vs := by simp [flat]
  exact lies_own (by rw [ef]; exact h)
theorem get_below_a {W2 w3 w4 : World} {o : Obj} {e : TypeId} {v : Value} {n : Nat} {xs : List Value} (h : Below W2.drew.heap.size W2.drew w3) (ho : (w3.alloc o).ownsRow W2.heap.size e 3 v n xs) (hg : (w3.alloc o).grownBy w4 v.ownBlock) : Below W2.heap.size W2 w4 := by
  have h1 : Below W2.heap.size W2 w3 := ((Below.refl _ W2).drew).trans h
  exact (h1.alloc h1.size o).grown hg (by have := h1.size; simp; omega) (fun j hj => (ho.lt j hj).1)
theorem get_below_b {W2 w3 w4 : World} {o : Obj} {e : TypeId} {v : Value} {n : Nat} {xs : List Value} (h : Below (W2.alloc o).drew.heap.size (W2.alloc o).drew w3) (ho : w3.ownsRow W2.heap.size e 3 v n xs) (hg : w3.grownBy w4 v.ownBlock) : Below W2.heap.size W2 w4 := by
  have h0 : Below W2.heap.size W2 (W2.alloc o).drew := ((Below.refl _ W2).alloc (Nat.le_refl _) o).drew
  have h1 : Below W2.heap.size W2 w3 := h0.trans (h.mono h0.size)
  exact h1.grown hg h1.size (fun j hj => (ho.lt j hj).1)

set_option maxHeartbeats 1000000 in
theorem get_any (b off cap : Nat) (key : Int) (ts : List Th) (w : World) (h : Lies w b off cap ts) (hl : ts.length ≤ 1000) (hu : Uniq ts) :
    Calls Try.prog 31 #[.slice (some ⟨b, off, none⟩) ts.length cap, .int .i64 key] w fun e w' => ∃ b' off' cap', e = .returned (.slice (some ⟨b', off', none⟩) (getL key ts).length cap') ∧ Lies w' b' off' cap' (getL key ts) ∧ Below w.heap.size w w' := by
  have hf := find_any b off cap key ts w h.row h.lt hl
  obtain ⟨i0, hi, hz0, hz1, hz2⟩ := info_parts infoT
  cases hfd : ts.find? (fun t => t.key == key) with
  | none =>
    have eg : getL key ts = ts := by unfold getL; rw [hfd]
    rw [eg]
    rw [hfd] at hf
    have HF := Lib.hid hf
    have HL := Lib.hid h
    have hy : ((none : Option Th).getD Th.zero).v = .agg #[.int .i64 0, .int .i64 0, .int .i64 0] := rfl
    have hy2 : (none : Option Th).isSome = false := rfl
    rw [hy, hy2] at HF
    clear hf h hy hy2
    go_enter Try.func31, Try.ntmps31
    go_wp2_with fail
    refine HF.out.mono ?_
    rintro e w1 ⟨rfl, hB1⟩
    have HB1 := Lib.hid hB1
    clear hB1
    go_wp2_with fail
    go_ret
    refine ⟨b, off, cap, rfl, ?_, ?_⟩
    · exact HL.out.below (HB1.out.trans ((Below.refl _ w1).alloc HB1.out.size _))
    · exact HB1.out.trans ((Below.refl _ w1).alloc HB1.out.size _)
  | some t =>
    have eg : getL key ts = ts.eraseP (fun t => t.key == key) ++ [t] := by unfold getL; rw [hfd]
    rw [eg, ← no_erase hu]
    rw [hfd] at hf
    have hy : ((some t).getD Th.zero).v = .agg #[.int .i64 t.key, .int .i64 t.size, .int .i64 t.x] := rfl
    have hy2 : (some t).isSome = true := rfl
    rw [hy, hy2] at hf
    have HF := Lib.hid hf
    have HL := Lib.hid h
    clear hf h hy hy2 eg hfd
    go_enter Try.func31, Try.ntmps31
    go_wp2_with fail
    refine HF.out.mono ?_
    rintro e w1 ⟨rfl, hB1⟩
    have HB1 := Lib.hid hB1
    clear hB1
    have hrow2 : Lies w1 b off cap ts := HL.out.below HB1.out
    obtain ⟨W2, hW2⟩ : ∃ W2, W2 = w1.alloc (.cells #[.int .i64 t.key, .int .i64 t.size, .int .i64 t.x] 47) := ⟨_, rfl⟩
    have hal : Below w1.heap.size w1 W2 := by rw [hW2]; exact (Below.refl _ w1).alloc (Nat.le_refl _) _
    have hbt : Blk W2 w1.heap.size 47 #[.int .i64 t.key, .int .i64 t.size, .int .i64 t.x] := by rw [hW2]; exact Blk.new _ _ _
    have hl2 : Lies W2 b off cap ts := hrow2.below hal
    have HB2 := Lib.hid (HB1.out.trans (hal.mono HB1.out.size))
    have HA := Lib.hid (without_any b off cap key ts W2.drew hl2.row hl2.lt hl)
    have hl3 := hl2.below ((Below.refl W2.heap.size W2).alloc (Nat.le_refl _) (.cells #[.int .i64 t.key, .int .i64 t.size, .int .i64 t.x] 47))
    have HC := Lib.hid (without_any b off cap key ts (W2.alloc (.cells #[.int .i64 t.key, .int .i64 t.size, .int .i64 t.x] 47)).drew hl3.row hl3.lt hl)
    have HBT := Lib.hid hbt
    have HW2 := Lib.hid hW2
    have d0 := hbt.cell 0
    have d1 := hbt.cell 1
    have d2 := hbt.cell 2
    simp at d0 d1 d2
    have hnl : (no key ts).length ≤ ts.length := List.length_filter_le _ _
    have hone : Hid (∀ u ∈ t.vs, u.oneCell' = true) := by
      intro u hu
      simp only [CI.Th.vs, List.mem_cons, List.not_mem_nil, or_false] at hu
      rcases hu with rfl | rfl | rfl <;> rfl
    clear hW2 hal hbt hl2 hl3 hrow2 hu
    go_wp2_with fail
    rw [← HW2.out]
    go_region_law (first | (refine step_append_lies _ rfl (.tmp 18) (.tmp 20) 42 rfl W2.heap.size 47 i0 (.agg #[.int .i64 0, .int .i64 0, .int .i64 0]) 3 24 Try.underlying42 hi hz0 hz1 hz2 rfl (by decide) (.slice (some ⟨g3, 0, none⟩) (no key ts).length cap3) (no key ts).length (flat (no key ts)) (by simp [Act.eval]) HO.out ⟨w3.heap.size, 0, none⟩ 1 1 t.vs (by simp [Act.eval]) rfl HN.out hone.out (by decide) (by unfold maxLen; omega) (by omega) HSZ.out _ rfl ?_; intro g cap4 w4 hown4 hgrow hat hlt; have HO4 := Lib.hid hown4; have HG4 := Lib.hid hgrow; clear hown4 hgrow) | (refine step_append_lies _ rfl (.tmp 18) (.tmp 20) 42 rfl W2.heap.size 47 i0 (.agg #[.int .i64 0, .int .i64 0, .int .i64 0]) 3 24 Try.underlying42 hi hz0 hz1 hz2 rfl (by decide) (.slice (some ⟨g3, 0, none⟩) (no key ts).length cap3) (no key ts).length (flat (no key ts)) (by simp [Act.eval]) HO.out ⟨W2.heap.size, 0, none⟩ 1 1 t.vs (by simp [Act.eval]) rfl HN.out hone.out (by decide) (by unfold maxLen; omega) (by omega) HSZ.out _ rfl ?_; intro g cap4 w4 hown4 hgrow hat hlt; have HO4 := Lib.hid hown4; have HG4 := Lib.hid hgrow; clear hown4 hgrow) | (go_simp; go_at_call 33; refine HA.out.mono ?_; rintro e w3 ⟨v3, rfl, ho3, ⟨g3, cap3, rfl⟩, hB3⟩; have hs3 := hB3.size; have hbt3 := HBT.out.drew.below hB3 HBT.out.lt; have e0 := hbt3.cell 0; have e1 := hbt3.cell 1; have e2 := hbt3.cell 2; simp at e0 e1 e2; have HO := Lib.hid (ho3.alloc (.cells #[.int .i64 t.key, .int .i64 t.size, .int .i64 t.x] 47)); have HN := Lib.hid (news_next w3 t); have HSZ := Lib.hid (size_next (.cells #[.int .i64 t.key, .int .i64 t.size, .int .i64 t.x] 47) hs3); have HB3 := Lib.hid hB3; clear ho3 hB3 hbt3; dsimp only) | (go_simp; go_at_call 33; refine HC.out.mono ?_; rintro e w3 ⟨v3, rfl, ho3, ⟨g3, cap3, rfl⟩, hB3⟩; have hs3 := hB3.size; have hbt3 := (HBT.out.alloc (.cells #[.int .i64 t.key, .int .i64 t.size, .int .i64 t.x] 47)).drew.below hB3 (HBT.out.alloc (.cells #[.int .i64 t.key, .int .i64 t.size, .int .i64 t.x] 47)).lt; have e0 := hbt3.cell 0; have e1 := hbt3.cell 1; have e2 := hbt3.cell 2; simp at e0 e1 e2; have HO := Lib.hid (own_lower (base' := W2.heap.size) (by simp) ho3); have HN := Lib.hid (news_kept (t := t) (w := (W2.alloc (.cells #[.int .i64 t.key, .int .i64 t.size, .int .i64 t.x] 47)).drew) (Blk.new W2 _ _) hB3); have HSZ := Lib.hid (show W2.heap.size ≤ w3.heap.size by simp at hs3; omega); have HB3 := Lib.hid hB3; clear ho3 hB3 hbt3; dsimp only))
    all_goals
      go_wp2
      go_ret
      refine ⟨g, 0, cap4, by rw [List.length_append]; rfl, lies_snoc HO4.out, HB2.out.trans (Below.mono ?_ HB2.out.size)⟩
    · exact get_below_a HB3.out HO.out HG4.out
    · exact get_below_a HB3.out HO.out HG4.out
    · exact get_below_b HB3.out HO.out HG4.out
end Go.Proofs.Ytddjcamhhjkbfaa.Refs
