/- Layer 24: write: a spill that is written. -/
import Derived.Test.YtfgjnpbffppocaaGreatPoolRead
namespace Go.Proofs.YtfgjnpbffppocaaGreat.Pool
open Go.RowKit Go.Deep Mem Crc Walk
open Go.Proofs.YtfgjnpbffppocaaGreat.Store (St Chg setC)

/-- One row anew. -/
def upd (S : Rows) (i : Nat) (l : List (List Nat)) : Rows := fun j => if j = i then l else S j
theorem upd_same (S : Rows) (i : Nat) (l : List (List Nat)) : upd S i l i = l := if_pos rfl
theorem upd_other {S : Rows} {i j : Nat} (l : List (List Nat)) (h : j ≠ i) : upd S i l j = S j := if_neg h
theorem upd_id (S : Rows) (i : Nat) : upd S i (S i) = S := by
  funext j
  unfold upd
  split
  · next h => rw [h]
  · rfl
theorem files_upd {C : Chg} {S : Rows} {n i : Nat} (h : Files C S n) (hi : i < n) (hn : n ≤ 20) (l : List (List Nat)) : Files (setC C (pname i) (some (if l = [] then none else some (Go.Proofs.YtfgjnpbffppocaaGreat.Frame.frameL 80 (all l))))) (upd S i l) n := by
  refine ⟨fun nm hnm => ?_, fun j hj => ?_⟩
  · by_cases e : nm = pname i
    · exact ⟨i, hi, e⟩
    · rw [Go.Proofs.YtfgjnpbffppocaaGreat.Store.setC_other _ e] at hnm
      exact h.1 nm hnm
  · by_cases e : j = i
    · subst e
      rw [upd_same, Go.Proofs.YtfgjnpbffppocaaGreat.Store.setC_same]
      by_cases hl : l = []
      · rw [if_pos hl, if_pos hl]; exact .inr rfl
      · rw [if_neg hl, if_neg hl]
    · rw [upd_other _ e, Go.Proofs.YtfgjnpbffppocaaGreat.Store.setC_other _ (fun h => e (pname_inj j (by omega) i (by omega) h))]
      exact h.2 j hj
theorem sK_inj {i j : Nat} (h : sK i = sK j) : i = j := by
  unfold sK at h
  injection h with _ h
  omega
/-- The list of all names. -/
def plist (n : Nat) : List (List UInt8) := (List.range n).map pname
theorem plist_has {C : Chg} {S : Rows} {n : Nat} (h : Files C S n) : ∀ x, C x ≠ none → x ∈ plist n := fun x hx => by
  obtain ⟨i, hi, rfl⟩ := h.1 x hx
  exact List.mem_map.2 ⟨i, List.mem_range.2 hi, rfl⟩
theorem plist_len (n : Nat) : (plist n).length = n := by simp [plist]
theorem plist_name (n : Nat) : ∀ x ∈ plist n, x.length ≤ 1000000 := fun x hx => by
  obtain ⟨i, _, rfl⟩ := List.mem_map.1 hx
  have := pname_len i
  omega
/-- All its blocks are there. -/
theorem Pl.lt {A : Pa} {off : Bool} {w : World} {Qs : Nat → Prop} {hv : Nat → Option Value} {S Hd : Rows} (h : Pl A off w Qs hv S Hd) : ∀ k, allQ A Qs hv k → k < w.heap.size := by
  rintro k (hk | hk | ⟨i, v, hi, hv', hk⟩)
  · obtain ⟨C, hst, _⟩ := h.store
    exact hst.lt k hk
  · obtain ⟨f, hm, _⟩ := h.spilled
    obtain ⟨g, hm2, _⟩ := h.held
    rcases hk with rfl | rfl | rfl
    · exact h.pool.lt
    · exact hm.lt
    · exact hm2.lt
  · have := h.rows i hi
    rw [hv'] at this
    exact (World.ownsRow.lt this k hk).2
theorem Pl.cm {A : Pa} {off : Bool} {w : World} {Qs : Nat → Prop} {hv : Nat → Option Value} {S Hd : Rows} (h : Pl A off w Qs hv S Hd) : Qs A.cm := by
  obtain ⟨C, hst, _⟩ := h.store
  exact hst.qm
theorem map_ne_blk {w : World} {k : TypeId} {b g : Nat} {f : Lit → Option Value} {t : TypeId} {cs : Array Value} (h : MapIs w k b f) (h2 : Blk w g t cs) : b ≠ g := by
  rintro rfl
  obtain ⟨D, n, ⟨es, cl, hb, _⟩, _⟩ := h
  unfold Blk at h2
  rw [hb] at h2
  cases h2
/-- Another spill, another store; the rest is kept. -/
theorem Pl.wrote {A : Pa} {off off' : Bool} {w w' : World} {Qs Q' : Nat → Prop} {hv : Nat → Option Value} {S S' Hd : Rows} (h : Pl A off w Qs hv S Hd) (ho : Only [A.cm, A.sm] w w') {C' : Chg} (hs : St w' Q' A.s A.d A.g A.N A.cm off' C') (hC : Files C' S' A.n)
    (hQ : ∀ k, Q' k → Qs k ∨ w.heap.size ≤ k) {f' : Lit → Option Value} (hm : MapIs w' 3 A.sm f') (hsup : ∀ x, f' x ≠ none → ∃ i, i < A.n ∧ x = sK i) (hf : ∀ i, i < A.n → f' (sK i) = if S' i = [] then none else some (.int .i64 ((S' i).length : Int)))
    (hok : ∀ i, i < A.n → ∀ x ∈ S' i, ok x) : Pl A off' w' Q' hv S' Hd := by
  have hcm := h.cm
  obtain ⟨f, hmf, hfs, hff⟩ := h.spilled
  obtain ⟨g, hmg, hgs, hgg⟩ := h.held
  have hp1 : A.p ≠ A.cm := fun e => h.qs A.cm hcm (.inl e.symm)
  have hp2 : A.p ≠ A.sm := (map_ne_blk hmf h.pool).symm
  have hm1 : A.hm ≠ A.cm := fun e => h.qs A.cm hcm (.inr (.inr e.symm))
  have hQ3 : ∀ k, Q' k → ¬ own3 A k := fun k hk hk3 => by
    rcases hQ k hk with h1 | h1
    · exact h.qs k h1 hk3
    · have := h.lt k (.inr (.inl hk3))
      omega
  have hvo : ∀ i v k, i < A.n → hv i = some v → v.ownBlock = some k → k ∉ [A.cm, A.sm] := fun i v k hi hvi hk hmem => by
    obtain ⟨h1, h2⟩ := h.outside i v k hi hvi hk
    rcases List.mem_cons.1 hmem with rfl | hmem
    · exact h1 hcm
    · rw [List.mem_singleton.1 hmem] at h2
      exact h2 (.inr (.inl rfl))
  refine ⟨h.pool.only ho (by simp [hp1, hp2]), ⟨C', hs, hC⟩, ⟨f', hm, hsup, hf⟩, ⟨g, hmg.keep (ho.block _ hmg.lt (by simp [hm1, h.maps.symm])), hgs, hgg⟩, fun i hi => ?_, h.apart, fun i v k hi hvi hk => ⟨fun hq => ?_, (h.outside i v k hi hvi hk).2⟩, hQ3, h.maps, hok, h.okH, h.top⟩
  · have := h.rows i hi
    cases hc : hv i with
    | none => rw [hc] at this; exact this
    | some v =>
      rw [hc] at this
      exact own_only this ho (fun k hk => hvo i v k hi hc hk)
  · rcases hQ k hq with h1 | h1
    · exact (h.outside i v k hi hvi hk).1 h1
    · have := h.lt k (.inr (.inr ⟨i, v, hi, hvi, hk⟩))
      omega
theorem Pl.later {A : Pa} {off : Bool} {w w' : World} {Qs : Nat → Prop} {hv : Nat → Option Value} {S Hd : Rows} (h : Pl A off w Qs hv S Hd) (hB : Below w.heap.size w w') : Pl A off w' Qs hv S Hd := by
  obtain ⟨C, hst, hfl⟩ := h.store
  obtain ⟨f, hm, hs, hf⟩ := h.spilled
  exact h.wrote (Only.of_below hB) (hst.later hB) hfl (fun k hk => .inl hk) (hm.keep (hB.block _ hm.lt)) hs hf h.okS
/-- The spilled map behind a store into it. -/
theorem Pl.count {A : Pa} {off : Bool} {w w1 : World} {Qs : Nat → Prop} {hv : Nat → Option Value} {S Hd : Rows} (h : Pl A off w Qs hv S Hd) (hk : w1.heap[A.sm]? = w.heap[A.sm]?) (i : Nat) (hi : i < A.n) (v : Value) :
    ∃ w2 f', (Instr.mapUpdate 54 (.map (some A.sm)) (.int .i64 (i : Int)) v).run Tryz.prog w1 = .ok () w2 ∧ MapIs w2 3 A.sm f' ∧ (∀ x, f' x ≠ none → ∃ i, i < A.n ∧ x = sK i) ∧ f' (sK i) = some v ∧ (∀ j, j < A.n → j ≠ i → f' (sK j) = if S j = [] then none else some (.int .i64 ((S j).length : Int))) ∧ Only [A.sm] w1 w2 ∧ w2.heap.size = w1.heap.size := by
  obtain ⟨f, hm, hs, hf⟩ := h.spilled
  have hn := h.top.1
  obtain ⟨w2, hrun, hm2, hg, hsz⟩ := (hm.keep hk).update intKeyed Tryz.underlying54 ((List.range A.n).map sK) (fun x hx => by
    obtain ⟨j, hj, rfl⟩ := hs x hx
    exact List.mem_map.2 ⟨j, List.mem_range.2 hj, rfl⟩) (by simp [maxLen]; omega) (key_of (i := i) (by omega)) v
  refine ⟨w2, _, hrun, hm2, fun x hx => ?_, setK_same _ _ _, fun j hj hji => ?_, Only.of_grown hg (fun g hg => by cases hg; exact .inl (by simp)), hsz⟩
  · by_cases e : x = sK i
    · exact ⟨i, hi, e⟩
    · rw [setK_other _ e] at hx
      exact hs x hx
  · rw [setK_other _ (fun e => hji (sK_inj e))]
    exact hf j hj
set_option maxHeartbeats 1000000 in
set_option maxRecDepth 100000 in
theorem write_some {A : Pa} {w : World} {Qs : Nat → Prop} {hv : Nat → Option Value} {S Hd : Rows} (h : Pl A false w Qs hv S Hd) (i : Nat) (hi : i < A.n) (a : Option Addr) (cp : Nat) (l : List (List Nat)) (hL : Lies w a (flatW l)) (hne : l ≠ []) (hok : ∀ x ∈ l, ok x) (hm : l.length ≤ 30000) :
    Calls Tryz.prog 25 #[.pointer (some ⟨A.p, 0, none⟩), .int .i64 (i : Int), .slice a l.length cp] w fun e w' => e = .returned (.int .i64 0) ∧ ∃ Q', Pl A false w' Q' hv (upd S i l) Hd ∧ (∀ k, Q' k → Qs k ∨ w.heap.size ≤ k) ∧ Only [A.cm, A.sm] w w' := by
  have c0 := h.pool.cell 0
  have c3 := h.pool.cell 3
  simp at c0 c3
  have hal := all_length l hok
  have hin := h.top.1
  have H := Lib.hid h
  have HLP := Lib.hid h.pool.lt
  have HPUT := Lib.hid (Go.Proofs.YtfgjnpbffppocaaGreat.Walk.put_nil a cp l w hL hok (by omega))
  obtain ⟨m, hmm⟩ : ∃ m, m = l.length := ⟨_, rfl⟩
  have hm0 : 0 < m := by rw [hmm]; exact List.length_pos_iff.2 hne
  have hnz : ((m : Int) == 0) = false := by
    have : ¬ (m : Int) = 0 := by omega
    simpa using this
  rw [← hmm] at HPUT ⊢
  have HM := Lib.hid hmm
  have HAL := Lib.hid hal
  have HNE := Lib.hid hne
  have HOK := Lib.hid hok
  clear h hL hmm hal hne hok
  go_enter Tryz.func25, Tryz.ntmps25
  go_wp2_with fail
  refine HPUT.out.mono ?_
  rintro e w1 ⟨v1, rfl, hO1, hB1⟩
  obtain ⟨va, vc, rfl, hvc, hL1, _, _⟩ := own_shape hO1
  have HF := Lib.hid (Go.Proofs.YtfgjnpbffppocaaGreat.Frame.put_nil 80 va vc (all l) w1 hL1 (by rw [HAL.out]; omega))
  have HB1 := Lib.hid hB1
  clear hO1 hB1 hL1 hvc
  go_wp2_with fail
  refine HF.out.mono ?_
  rintro e w2 ⟨v2, rfl, hO2, hB2⟩
  obtain ⟨fa, fc, rfl, hfc, hL2, _, _⟩ := own_shape hO2
  have hB12 := HB1.out.trans (hB2.mono HB1.out.size)
  have k0 := (hB12.cell (p := ⟨A.p, 0, none⟩) HLP.out).trans c0
  have k3 := (hB12.cell (p := ⟨A.p, 3, none⟩) HLP.out).trans c3
  have HL2 := Lib.hid hL2
  have HB2 := Lib.hid hB12
  have HP2 := Lib.hid (H.out.later hB12)
  have HN := Lib.hid (name_any i (by omega) w2.drew)
  obtain ⟨C, hst, hfl⟩ := H.out.store
  have hwr : ∀ W, Below w2.heap.size w2 W → Calls Tryz.prog 44 #[.pointer (some ⟨A.s, 0, none⟩), .string ⟨(pname i).toArray⟩, .slice fa (Go.Proofs.YtfgjnpbffppocaaGreat.Frame.frameL 80 (all l)).length fc] W fun e w' => e = .returned (.int .i64 0) ∧ ∃ Q', St w' Q' A.s A.d A.g A.N A.cm false (setC C (pname i) (some (some (Go.Proofs.YtfgjnpbffppocaaGreat.Frame.frameL 80 (all l))))) ∧ (∀ k, Q' k → Qs k ∨ W.heap.size ≤ k) ∧ (∀ k, Qs k → Q' k) ∧ Only [A.cm] W w' := fun W hW => Go.Proofs.YtfgjnpbffppocaaGreat.Store.write_any (hst.later (hB12.trans (hW.mono hB12.size))) (plist A.n) (plist_has hfl) (by rw [plist_len]; omega) (pname i) (by have := pname_len i; omega) (by have := pname_len i; omega) fa fc _ (hL2.later hW) (by rw [Go.Proofs.YtfgjnpbffppocaaGreat.Frame.frameL_length, HAL.out]; omega)
  have HW := Lib.hid hwr
  have HFL := Lib.hid hfl
  have HNE4 := Lib.hid (show A.p ∉ [A.cm] from fun hm => H.out.qs A.cm H.out.cm (.inl (List.mem_singleton.1 hm).symm))
  clear hO2 hB2 hB12 hL2 hfc c0 c3 hst hfl hwr
  go_wp2_with fail
  go_region_held3 (fun w' => w'.cell? ⟨A.p, 0, none⟩ = some (.pointer (some ⟨A.s, 0, none⟩))) (first | exact k0 | exact hk3 | exact hk4) ((first | (go_at_call 21; refine HN.out.mono ?_; rintro e w3 ⟨rfl, hB3⟩; have hBd := ((Below.refl w2.heap.size w2).drew).trans hB3; have hk3 := (hBd.cell (p := ⟨A.p, 0, none⟩) HP2.out.pool.lt).trans k0; dsimp only) | (go_at_call 44; refine (HW.out _ hBd).mono ?_; rintro e w4 ⟨rfl, Q4, hst4, hQ4, hQ4', ho4⟩; have hp4 := (HP2.out.pool.below hBd HP2.out.pool.lt).only ho4 HNE4.out; have hk4 := hp4.cell 0; simp at hk4; dsimp only)))
  have hBE := HB2.out.trans (hBd.mono HB2.out.size)
  have ho := (Only.of_below (bs := [A.cm]) hBE).trans ho4
  have hcs : A.sm ≠ A.cm := fun e => H.out.qs A.cm H.out.cm (.inr (.inl e.symm))
  have hsl : A.sm < w.heap.size := H.out.lt _ (.inr (.inl (.inr (.inl rfl))))
  obtain ⟨w5, f5, hrun, hm5, hs5, hf1, hf2, ho5, hz5⟩ := H.out.count (w1 := w4) (ho.block A.sm hsl (by simp [hcs])) i hi (.int .i64 (m : Int))
  have hk5 := hp4.cell 3
  simp at hk5
  have hQ4w : ∀ k, Q4 k → Qs k ∨ w.heap.size ≤ k := fun k hk => (hQ4 k hk).imp id (fun h => Nat.le_trans hBE.size h)
  have hst5 := hst4.only ho5 (fun k hk hq => by
    rw [List.mem_singleton.1 hk] at hq
    rcases hQ4w _ hq with h1 | h1
    · exact H.out.qs A.sm h1 (.inr (.inl rfl))
    · omega)
  have ho6 : Only [A.cm, A.sm] w w5 := (ho.mono (by simp)).trans (ho5.mono (by simp))
  have hfin : Pl A false w5 Q4 hv (upd S i l) Hd := H.out.wrote ho6 hst5 (by have := files_upd HFL.out hi H.out.top.1 l; rwa [if_neg HNE.out] at this) hQ4w hm5 hs5 (fun j hj => by
    by_cases e : j = i
    · subst e
      rw [upd_same, if_neg HNE.out, ← HM.out]
      exact hf1
    · rw [upd_other _ e]
      exact hf2 j hj e) (fun j hj x hx => by
    by_cases e : j = i
    · subst e
      rw [upd_same] at hx
      exact HOK.out x hx
    · rw [upd_other _ e] at hx
      exact H.out.okS j hj x hx)
  have HFIN := Lib.hid hfin
  have HQ := Lib.hid hQ4w
  have HO6 := Lib.hid ho6
  clear hfin hQ4w ho6 hst5 hm5 hs5 hf1 hf2 ho5 hz5 hp4 hst4 hQ4 hQ4' ho4 hB3 hBd hBE ho hk3 hk4
  go_wp2_with fail
  go_ret
  exact ⟨rfl, _, HFIN.out, HQ.out, HO6.out⟩
end Go.Proofs.YtfgjnpbffppocaaGreat.Pool
