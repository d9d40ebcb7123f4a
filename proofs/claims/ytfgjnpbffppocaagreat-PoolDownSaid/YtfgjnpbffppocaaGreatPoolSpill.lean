/- Layer 24: Spill. -/
import Derived.Test.YtfgjnpbffppocaaGreatPoolHold
namespace Go.Proofs.YtfgjnpbffppocaaGreat.Pool
open Go.RowKit Go.Deep Mem Crc Walk
open Go.Proofs.YtfgjnpbffppocaaGreat.Store (St Chg setC)

theorem read_any {A : Pa} {w : World} {Qs : Nat → Prop} {hv : Nat → Option Value} {S Hd : Rows} (h : Pl A false w Qs hv S Hd) (i : Nat) (hi : i < A.n) (hm : (S i).length ≤ 30000) :
    Calls Tryz.prog 22 #[.pointer (some ⟨A.p, 0, none⟩), .int .i64 (i : Int)] w fun e w' => ∃ v, e = .returned (.tuple #[v, .int .i64 0]) ∧ OwnW w' w.heap.size v (S i) ∧ Below w.heap.size w w' := by
  by_cases he : S i = []
  · refine (read_none h i hi he).mono ?_
    rintro e w' ⟨rfl, hB⟩
    refine ⟨_, rfl, ?_, hB⟩
    rw [he]
    exact World.ownsRow_nil _ _ _ _
  · exact read_some h i hi he hm
theorem flatW_append (a b : List (List Nat)) : flatW (a ++ b) = flatW a ++ flatW b := by simp [flatW]
/-- The held row's slice, as it lies. -/
theorem Pl.heldSome {A : Pa} {off : Bool} {w : World} {Qs : Nat → Prop} {hv : Nat → Option Value} {S Hd : Rows} (h : Pl A off w Qs hv S Hd) (i : Nat) (hi : i < A.n) (hne : Hd i ≠ []) : ∃ g cap, hv i = some (.slice (some ⟨g, 0, none⟩) (Hd i).length cap) ∧ g < w.heap.size := by
  have hr := h.rows i hi
  cases hc : hv i with
  | none => rw [hc] at hr; exact absurd hr hne
  | some v =>
    rw [hc] at hr
    rcases (show OwnW w 0 v (Hd i) from hr).2 with ⟨_, h0⟩ | ⟨g, cap, cur, rfl, r⟩
    · exact absurd (List.eq_nil_of_length_eq_zero h0) hne
    · exact ⟨g, cap, rfl, (World.ownsRow.lt hr g rfl).2⟩
theorem Pl.heldAt' {A : Pa} {off : Bool} {w : World} {Qs : Nat → Prop} {hv : Nat → Option Value} {S Hd : Rows} (h : Pl A off w Qs hv S Hd) (i : Nat) (hi : i < A.n) : (Instr.lookup 55 (.map (some A.hm)) (.int .i64 (i : Int)) false).run Tryz.prog w = .ok ((hv i).getD (.slice none 0 0)) w := by
  obtain ⟨v, rfl, _, hl⟩ := h.heldAt i hi
  exact hl
set_option maxHeartbeats 400000 in
set_option maxRecDepth 100000 in
theorem spill_nil {A : Pa} {off : Bool} {w : World} {Qs : Nat → Prop} {hv : Nat → Option Value} {S Hd : Rows} (h : Pl A off w Qs hv S Hd) (i : Nat) (hi : i < A.n) (he : Hd i = []) :
    Calls Tryz.prog 11 #[.pointer (some ⟨A.p, 0, none⟩), .int .i64 (i : Int)] w fun e w' => e = .returned (.int .i64 0) ∧ w' = w := by
  have HT := Lib.hid (there_in h i hi)
  obtain ⟨v, _, hO, hl⟩ := h.heldAt i hi
  rw [he] at hO
  obtain ⟨va, vc, rfl, _, _, _, _⟩ := own_shape hO
  have c4 := h.pool.cell 4
  simp at c4 hl
  clear h hO he
  go_enter Tryz.func11, Tryz.ntmps11
  go_wp2_with fail
  refine HT.out.mono ?_
  rintro e w1 ⟨rfl, rfl⟩
  go_wp2_with fail
  go_ret
  exact ⟨rfl, rfl⟩
set_option maxHeartbeats 1000000 in
set_option maxRecDepth 100000 in
theorem spill_some {A : Pa} {w : World} {Qs : Nat → Prop} {hv : Nat → Option Value} {S Hd : Rows} (h : Pl A false w Qs hv S Hd) (i : Nat) (hi : i < A.n) (hne : Hd i ≠ []) (hlen : (S i).length + (Hd i).length ≤ 30000) (hmany : many Hd A.n ≤ 1000000) :
    Calls Tryz.prog 11 #[.pointer (some ⟨A.p, 0, none⟩), .int .i64 (i : Int)] w fun e w' => e = .returned (.int .i64 0) ∧ Went A false (allQ A Qs hv) w w' (upd S i (S i ++ Hd i)) (upd Hd i []) (fun _ => False) := by
  have HT := Lib.hid (there_in h i hi)
  have HRD := Lib.hid (read_any h i hi (by omega))
  obtain ⟨g, cap, hvi, hgl⟩ := h.heldSome i hi hne
  have hl := h.heldAt' i hi
  rw [hvi] at hl
  have hO : w.ownsRow 0 38 7 (.slice (some ⟨g, 0, none⟩) (Hd i).length cap) (Hd i).length (flatW (Hd i)) := by have := h.rows i hi; rw [hvi] at this; exact this
  have c4 := h.pool.cell 4
  simp at c4 hl
  have H := Lib.hid h
  obtain ⟨m, hm⟩ : ∃ m, m = (Hd i).length := ⟨_, rfl⟩
  have hm0 : 0 < m := by rw [hm]; exact List.length_pos_iff.2 hne
  have hnz : ((m : Int) == 0) = false := by
    have : ¬ (m : Int) = 0 := by omega
    simpa using this
  rw [← hm] at hl hO hlen
  have HO := Lib.hid hO
  have HM := Lib.hid hm
  have HNE := Lib.hid hne
  have HVI := Lib.hid hvi
  clear h hO hm hne hvi
  obtain ⟨i0, hi0, hz0, hz1, hz2⟩ := info_parts infoW7
  go_enter Tryz.func11, Tryz.ntmps11
  go_wp2_with fail
  refine HT.out.mono ?_
  rintro e w1 ⟨rfl, rfl⟩
  go_wp2_with fail
  refine HRD.out.mono ?_
  rintro e w2 ⟨v2, rfl, hO2, hB2⟩
  have HP2 := Lib.hid (H.out.later hB2)
  have hO3 := own_later HO.out hB2
  have hL3 : Lies w2 (some ⟨g, 0, none⟩) (flatW (Hd i)) := by
    obtain ⟨a, c, e, _, hL, _, _⟩ := own_shape hO3
    injection e with e1
    subst e1
    exact hL
  have hBz := hB2.size
  obtain ⟨l, hle⟩ : ∃ l, l = S i ++ Hd i := ⟨_, rfl⟩
  have hll : l.length = (S i).length + m := by rw [hle, List.length_append, HM.out]
  have hok : ∀ x ∈ l, ok x := fun x hx => by
    rw [hle] at hx
    rcases List.mem_append.1 hx with hx | hx
    · exact H.out.okS i hi x hx
    · exact H.out.okH i hi x hx
  have hfl : flatW (S i) ++ flatW (Hd i) = flatW l := by rw [hle, flatW_append]
  have hlne : l ≠ [] := fun e => by
    rw [e] at hll
    simp at hll
    omega
  have hfn : (flatW (Hd i)).length = m * 7 := by rw [flatW_length _ (H.out.okH i hi), HM.out]
  have HLL := Lib.hid hll
  have HOK := Lib.hid hok
  have HFL := Lib.hid hfl
  have HLN := Lib.hid hlne
  have HLE := Lib.hid hle
  have HFN := Lib.hid hfn
  have H1 := Lib.hid (oneCell_flatW (Hd i))
  have HC := Lib.hid (lies_add hL3)
  have HO2 := Lib.hid hO2
  have HB2 := Lib.hid hB2
  obtain ⟨sl, hsl⟩ : ∃ sl, sl = (S i).length := ⟨_, rfl⟩
  rw [← hsl] at hlen HLL
  have HOS : Hid (w2.ownsRow w1.heap.size 38 7 v2 sl (flatW (S i))) := Lib.hid (by rw [hsl]; exact HO2.out)
  clear hO2 hB2 hO3 hL3 hll hok hfl hlne hle hfn hsl
  go_wp2_with (first | (at_builtin; refine wpList_append_own _ rfl _ _ 22 rfl w1.heap.size 38 i0 (.agg #[.int .u32 0, .int .u32 0, .int .u32 0, .int .u32 0, .int .u32 0, .int .u32 0, .int .u32 0]) 7 28 Tryz.underlying22 hi0 hz0 hz1 hz2 rfl (by decide) _ _ _ rfl HOS.out ⟨g, 0, none⟩ m cap (flatW (Hd i)) rfl HFN.out HC.out H1.out ?c3 ?c4 ?c5 ?_))
  case c3 => unfold maxLen; omega
  case c4 => omega
  case c5 => exact hBz
  intro v3 w3 hown3 hgrow3 hv3
  have hB3 : Below w1.heap.size w1 w3 := HB2.out.grown hgrow3 hBz (fun q hq => (HOS.out.lt q hq).1)
  rw [HFL.out] at hown3
  obtain ⟨va, vc, rfl, hvc, hL3, _, _⟩ := own_shape hown3
  have hw := write_some (H.out.later hB3) i hi va vc l hL3 HLN.out HOK.out (by rw [HLL.out]; omega)
  rw [HLL.out] at hw
  have HW := Lib.hid hw
  have HB3 := Lib.hid hB3
  clear hw hB3 hown3 hgrow3 hv3 hL3 hvc
  go_wp2_with fail
  refine HW.out.mono ?_
  rintro e w4 ⟨rfl, Q4, hp4, hQ4, ho4⟩
  obtain ⟨M, hM⟩ : ∃ M, M = many Hd A.n := ⟨_, rfl⟩
  have hmM : m ≤ M := by rw [hM, HM.out]; exact len_le_many Hd i A.n hi
  have hsub : IntKind.i64.wrap ((M : Int) - (m : Int)) = (M : Int) - m := IntWalk.i64_in _ (by omega)
  have k5 := hp4.pool.cell 5
  have k4 := hp4.pool.cell 4
  have f5 := hp4.pool.frozen 5
  simp at k5 k4
  rw [← hM] at k5 hmany
  have hr4 : w4.ownsRow 0 38 7 (.slice (some ⟨g, 0, none⟩) m cap) m (flatW (Hd i)) := by
    have := hp4.rows i hi
    rw [HVI.out] at this
    rw [HM.out]
    exact this
  have hr5 := own_past hr4 hp4.pool (by decide) 5 (.int .i64 ((M : Int) - m))
  obtain ⟨g', w6, hg', hclr, ho6, hz6⟩ := run_clear (w := w4.setCell ⟨A.p, 5, none⟩ (.int .i64 ((M : Int) - m))) (v := .slice (some ⟨g, 0, none⟩) m cap) (l := Hd i) (base := 0) (by rw [HM.out] at hr5 ⊢; exact hr5) HNE.out 0
  obtain rfl : g = g' := by simpa [Value.ownBlock] using hg'
  have hb5 := hp4.pool.set 5 (.int .i64 ((M : Int) - m))
  have hgp : A.p ≠ g := fun e => (own_ne_blk hr4 hp4.pool (by decide)) (by rw [e]; rfl)
  have hb6 := hb5.only ho6 (by simpa using hgp)
  have k46 := hb6.cell 4
  simp at k46
  obtain ⟨f0, hmh, _, _⟩ := hp4.held
  have hhp : A.hm ≠ A.p := map_ne_blk hmh hp4.pool
  have hhg : A.hm ≠ g := fun e => (hp4.outside i _ g hi HVI.out rfl).2 (.inr (.inr e.symm))
  have hk6 : w6.heap[A.hm]? = w4.heap[A.hm]? := (ho6.block _ (by simp [World.setCell]; exact hmh.lt) (by simpa using hhg)).trans (Below.heap_setCell _ _ _ _ hhp)
  obtain ⟨w7, f7, hdel, hm7, hs7, hf7, hfo7, ho7, hz7⟩ := hp4.unhold (w1 := w6) hk6 i hi 0
  have ho57 : Only [A.p, g, A.hm] w4 w7 := (((Only.refl _ w4).set (p := ⟨A.p, 5, none⟩) (.inl (by simp)) (.int .i64 ((M : Int) - m))).trans (ho6.mono (by simp))).trans (ho7.mono (by simp))
  have hb7 := hb6.only ho7 (by simpa using hhp.symm)
  have hmu := many_upd Hd i [] A.n hi
  rw [← hM, ← HM.out] at hmu
  simp at hmu
  have hfin := hp4.holding hi ho57 (fun k hk => by
    simp only [List.mem_cons, List.not_mem_nil, or_false] at hk
    rcases hk with rfl | rfl | rfl
    · exact .inl rfl
    · exact .inr (.inr (.inl ⟨_, HVI.out, rfl⟩))
    · exact .inr (.inl rfl)) [] (by
      have e : ((M : Int) - m) = (many (upd Hd i []) A.n : Int) := by omega
      rw [← e]
      simpa using hb7) hm7 hs7 none rfl hf7 hfo7 (fun v k h => by cases h) (fun x hx => by cases hx)
  have hall : ∀ k, allQ A Q4 (updv hv i none) k → allQ A Qs hv k ∨ w1.heap.size ≤ k := fun k hk => by
    rcases allQ_holding (N := w1.heap.size) (u := none) (fun v k h => by cases h) hi k hk with h1 | h1
    · rcases h1 with h1 | h1 | h1
      · rcases hQ4 k h1 with h2 | h2
        · exact .inl (.inl h2)
        · exact .inr (Nat.le_trans HB3.out.size h2)
      · exact .inl (.inr (.inl h1))
      · exact .inl (.inr (.inr h1))
    · exact .inr h1
  have hup : Upon (allQ A Qs hv) w1 w7 := by
    refine (Upon.of_below (P := allQ A Qs hv) HB3.out).trans (Q := allQ A Qs hv) ((Upon.of_only ho4 (fun k hk => ?_)).trans (Q := allQ A Qs hv) (Upon.of_only ho57 (fun k hk => ?_)) (fun k hk => .inl hk)) (fun k hk => .inl hk)
    · simp only [List.mem_cons, List.not_mem_nil, or_false] at hk
      rcases hk with rfl | rfl
      · exact .inl (.inl H.out.cm)
      · exact .inl (.inr (.inl (.inr (.inl rfl))))
    · simp only [List.mem_cons, List.not_mem_nil, or_false] at hk
      rcases hk with rfl | rfl | rfl
      · exact .inl (.inr (.inl (.inl rfl)))
      · exact .inl (.inr (.inr ⟨i, _, hi, HVI.out, rfl⟩))
      · exact .inl (.inr (.inl (.inr (.inr rfl))))
  rw [HLE.out] at hfin
  have HFIN := Lib.hid hfin
  have HALL := Lib.hid hall
  have HUP := Lib.hid hup
  clear hfin hall hup hmu hb7 ho57 hm7 hs7 hf7 hfo7 ho7 hz7 hk6 hhg hhp hmh hb6 hgp hb5 hg' ho6 hz6 hr5 hr4 hM hp4 hQ4 ho4
  go_wp2_with fail
  go_ret
  exact ⟨rfl, _, _, HFIN.out, HALL.out, fun k h => h.elim, HUP.out⟩
end Go.Proofs.YtfgjnpbffppocaaGreat.Pool
