/- Layer 24: write: nothing left of a spill; a store that is down. -/
import Derived.Test.YtfgjnpbffppocaaGreatPoolWrite
namespace Go.Proofs.YtfgjnpbffppocaaGreat.Pool
open Go.RowKit Go.Deep Mem Crc Walk
open Go.Proofs.YtfgjnpbffppocaaGreat.Store (St Chg setC)

/-- The spilled map behind a delete. -/
theorem Pl.uncount {A : Pa} {off : Bool} {w w1 : World} {Qs : Nat → Prop} {hv : Nat → Option Value} {S Hd : Rows} (h : Pl A off w Qs hv S Hd) (hk : w1.heap[A.sm]? = w.heap[A.sm]?) (i : Nat) (hi : i < A.n) (ty : TypeId) :
    ∃ w2 f', (Builtin.delete_ #[54, 3] ty #[.map (some A.sm), .int .i64 (i : Int)]).run Tryz.prog w1 = .ok (.tuple #[]) w2 ∧ MapIs w2 3 A.sm f' ∧ (∀ x, f' x ≠ none → ∃ i, i < A.n ∧ x = sK i) ∧ f' (sK i) = none ∧ (∀ j, j < A.n → j ≠ i → f' (sK j) = if S j = [] then none else some (.int .i64 ((S j).length : Int))) ∧ Only [A.sm] w1 w2 ∧ w2.heap.size = w1.heap.size := by
  obtain ⟨f, hm, hs, hf⟩ := h.spilled
  have hn := h.top.1
  obtain ⟨w2, hrun, hm2, hg, hsz⟩ := (hm.keep hk).drop intKeyed Tryz.underlying54 (key_of (i := i) (by omega)) ty
  refine ⟨w2, _, hrun, hm2, fun x hx => ?_, setK_same _ _ _, fun j hj hji => ?_, Only.of_grown hg (fun g hg => by cases hg; exact .inl (by simp)), hsz⟩
  · by_cases e : x = sK i
    · exact ⟨i, hi, e⟩
    · rw [setK_other _ e] at hx
      exact hs x hx
  · rw [setK_other _ (fun e => hji (sK_inj e))]
    exact hf j hj
set_option maxHeartbeats 1000000 in
set_option maxRecDepth 100000 in
theorem write_nil {A : Pa} {w : World} {Qs : Nat → Prop} {hv : Nat → Option Value} {S Hd : Rows} (h : Pl A false w Qs hv S Hd) (i : Nat) (hi : i < A.n) (a : Option Addr) (cp : Nat) (he : S i ≠ []) :
    Calls Tryz.prog 25 #[.pointer (some ⟨A.p, 0, none⟩), .int .i64 (i : Int), .slice a 0 cp] w fun e w' => e = .returned (.int .i64 0) ∧ ∃ Q', Pl A false w' Q' hv (upd S i []) Hd ∧ (∀ k, Q' k → Qs k ∨ w.heap.size ≤ k) ∧ Only [A.cm, A.sm] w w' := by
  have k0 := h.pool.cell 0
  simp at k0
  have hin := h.top.1
  have H := Lib.hid h
  have HN := Lib.hid (name_any i (by omega) w.drew)
  obtain ⟨C, hst, hfl⟩ := H.out.store
  have hfile : Go.Proofs.YtfgjnpbffppocaaGreat.Store.isFile C (pname i) = true := by
    have := hfl.2 i hi
    rw [if_neg he] at this
    unfold Go.Proofs.YtfgjnpbffppocaaGreat.Store.isFile
    rw [this]
  have hwr : ∀ W, Below w.heap.size w W → Calls Tryz.prog 41 #[.pointer (some ⟨A.s, 0, none⟩), .string ⟨(pname i).toArray⟩] W fun e w' => e = .returned (.int .i64 0) ∧ ∃ Q', St w' Q' A.s A.d A.g A.N A.cm false (setC C (pname i) (some none)) ∧ (∀ k, Q' k → Qs k ∨ W.heap.size ≤ k) ∧ (∀ k, Qs k → Q' k) ∧ Only [A.cm] W w' := fun W hW => Go.Proofs.YtfgjnpbffppocaaGreat.Store.remove_any (hst.later hW) (plist A.n) (plist_has hfl) (by rw [plist_len]; omega) (plist_name _) (pname i) hfile
  have HW := Lib.hid hwr
  have HFL := Lib.hid hfl
  have HNE4 := Lib.hid (show A.p ∉ [A.cm] from fun hm => H.out.qs A.cm H.out.cm (.inl (List.mem_singleton.1 hm).symm))
  clear hst hfl hwr h hfile he
  go_enter Tryz.func25, Tryz.ntmps25
  go_wp2_with fail
  go_region_held3 (fun w' => w'.cell? ⟨A.p, 0, none⟩ = some (.pointer (some ⟨A.s, 0, none⟩))) (first | exact k0 | exact hk3 | exact hk4) ((first | (go_at_call 21; refine HN.out.mono ?_; rintro e w3 ⟨rfl, hB3⟩; have hBd := ((Below.refl w.heap.size w).drew).trans hB3; have hk3 := (hBd.cell (p := ⟨A.p, 0, none⟩) H.out.pool.lt).trans k0; dsimp only) | (go_at_call 41; refine (HW.out _ hBd).mono ?_; rintro e w4 ⟨rfl, Q4, hst4, hQ4, hQ4', ho4⟩; have hp4 := (H.out.pool.below hBd H.out.pool.lt).only ho4 HNE4.out; have hk4 := hp4.cell 0; simp at hk4; dsimp only)))
  have ho := (Only.of_below (bs := [A.cm]) hBd).trans ho4
  have hcs : A.sm ≠ A.cm := fun e => H.out.qs A.cm H.out.cm (.inr (.inl e.symm))
  have hsl : A.sm < w.heap.size := H.out.lt _ (.inr (.inl (.inr (.inl rfl))))
  obtain ⟨w5, f5, hrun, hm5, hs5, hf1, hf2, ho5, hz5⟩ := H.out.uncount (w1 := w4) (ho.block A.sm hsl (by simp [hcs])) i hi 0
  have hk5 := hp4.cell 3
  simp at hk5
  have hQ4w : ∀ k, Q4 k → Qs k ∨ w.heap.size ≤ k := fun k hk => (hQ4 k hk).imp id (fun h => Nat.le_trans hBd.size h)
  have hst5 := hst4.only ho5 (fun k hk hq => by
    rw [List.mem_singleton.1 hk] at hq
    rcases hQ4w _ hq with h1 | h1
    · exact H.out.qs A.sm h1 (.inr (.inl rfl))
    · omega)
  have ho6 : Only [A.cm, A.sm] w w5 := (ho.mono (by simp)).trans (ho5.mono (by simp))
  have hfin : Pl A false w5 Q4 hv (upd S i []) Hd := H.out.wrote ho6 hst5 (by have := files_upd HFL.out hi H.out.top.1 []; rwa [if_pos rfl] at this) hQ4w hm5 hs5 (fun j hj => by
    by_cases e : j = i
    · subst e
      rw [upd_same, if_pos rfl]
      exact hf1
    · rw [upd_other _ e]
      exact hf2 j hj e) (fun j hj x hx => by
    by_cases e : j = i
    · subst e
      rw [upd_same] at hx
      cases hx
    · rw [upd_other _ e] at hx
      exact H.out.okS j hj x hx)
  have HFIN := Lib.hid hfin
  have HQ := Lib.hid hQ4w
  have HO6 := Lib.hid ho6
  clear hfin hQ4w ho6 hst5 hm5 hs5 hf1 hf2 ho5 hz5 hp4 hst4 hQ4 hQ4' ho4 hB3 hBd ho hk3 hk4
  go_wp2_with fail
  go_ret
  exact ⟨rfl, _, HFIN.out, HQ.out, HO6.out⟩
set_option maxHeartbeats 1000000 in
set_option maxRecDepth 100000 in
theorem write_off {A : Pa} {w : World} {Qs : Nat → Prop} {hv : Nat → Option Value} {S Hd : Rows} (h : Pl A true w Qs hv S Hd) (i : Nat) (hi : i < A.n) (a : Option Addr) (cp : Nat) (l : List (List Nat)) (hL : Lies w a (flatW l)) (hne : l ≠ []) (hok : ∀ x ∈ l, ok x) (hm : l.length ≤ 30000) :
    Calls Tryz.prog 25 #[.pointer (some ⟨A.p, 0, none⟩), .int .i64 (i : Int), .slice a l.length cp] w fun e w' => e = .returned (.int .i64 6) ∧ Below w.heap.size w w' := by
  have c0 := h.pool.cell 0
  simp at c0
  have hal := all_length l hok
  have hin := h.top.1
  have H := Lib.hid h
  have HPUT := Lib.hid (Go.Proofs.YtfgjnpbffppocaaGreat.Walk.put_nil a cp l w hL hok (by omega))
  obtain ⟨m, hmm⟩ : ∃ m, m = l.length := ⟨_, rfl⟩
  have hm0 : 0 < m := by rw [hmm]; exact List.length_pos_iff.2 hne
  have hnz : ((m : Int) == 0) = false := by
    have : ¬ (m : Int) = 0 := by omega
    simpa using this
  rw [← hmm] at HPUT ⊢
  have HAL := Lib.hid hal
  have HM := Lib.hid hmm
  clear h hL hmm hal hne hok
  go_enter Tryz.func25, Tryz.ntmps25
  go_wp2_with fail
  refine HPUT.out.mono ?_
  rintro e w1 ⟨v1, rfl, hO1, hB1⟩
  obtain ⟨va, vc, rfl, hvc, hL1, _, _⟩ := own_shape hO1
  have HF := Lib.hid (Go.Proofs.YtfgjnpbffppocaaGreat.Frame.put_nil 80 va vc (all l) w1 hL1 (by rw [HAL.out]; omega))
  have HB1 := Lib.hid hB1
  clear hO1 hB1 hL1 hvc
  go_wp2_with fail
  refine HF.out.mono ?_
  rintro e w2 ⟨v2, rfl, hO2, hB2⟩
  obtain ⟨fa, fc, rfl, hfc, hL2, _, _⟩ := own_shape hO2
  have hB12 := HB1.out.trans (hB2.mono HB1.out.size)
  have k0 := (hB12.cell (p := ⟨A.p, 0, none⟩) H.out.pool.lt).trans c0
  have HB2 := Lib.hid hB12
  have HP2 := Lib.hid (H.out.later hB12)
  have HN := Lib.hid (name_any i (by omega) w2.drew)
  obtain ⟨C, hst, hfl⟩ := H.out.store
  have hwr : ∀ W, Below w2.heap.size w2 W → Calls Tryz.prog 44 #[.pointer (some ⟨A.s, 0, none⟩), .string ⟨(pname i).toArray⟩, .slice fa (Go.Proofs.YtfgjnpbffppocaaGreat.Frame.frameL 80 (all l)).length fc] W fun e w' => e = .returned (.int .i64 6) ∧ w' = W := fun W hW => Go.Proofs.YtfgjnpbffppocaaGreat.Store.write_off (hst.later (hB12.trans (hW.mono hB12.size))) _ _ _ _
  have HW := Lib.hid hwr
  clear hO2 hB2 hB12 hL2 hfc c0 hst hfl hwr
  go_wp2_with fail
  go_region_held3 (fun w' => w'.cell? ⟨A.p, 0, none⟩ = some (.pointer (some ⟨A.s, 0, none⟩))) (first | exact k0 | exact hk3) ((first | (go_at_call 21; refine HN.out.mono ?_; rintro e w3 ⟨rfl, hB3⟩; have hBd := ((Below.refl w2.heap.size w2).drew).trans hB3; have hk3 := (hBd.cell (p := ⟨A.p, 0, none⟩) HP2.out.pool.lt).trans k0; dsimp only) | (go_at_call 44; refine (HW.out _ hBd).mono ?_; rintro e w4 ⟨rfl, rfl⟩; dsimp only)))
  have HBE := Lib.hid (HB2.out.trans (hBd.mono HB2.out.size))
  clear hBd hB3
  go_wp2_with fail
  go_ret
  exact ⟨rfl, HBE.out⟩
end Go.Proofs.YtfgjnpbffppocaaGreat.Pool
