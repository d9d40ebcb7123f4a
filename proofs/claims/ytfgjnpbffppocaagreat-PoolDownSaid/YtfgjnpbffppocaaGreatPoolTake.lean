/- Layer 24: Take. -/
import Derived.Test.YtfgjnpbffppocaaGreatPoolPut
namespace Go.Proofs.YtfgjnpbffppocaaGreat.Pool
open Go.RowKit Go.Deep Mem Crc Walk
open Go.Proofs.YtfgjnpbffppocaaGreat.Store (St Chg setC)

theorem run_append_zero (w : World) (ty : TypeId) (a b : Option Addr) (n cap c : Nat) (hle : n ≤ cap) : (Builtin.append_ #[22, 22] ty #[.slice a n cap, .slice b 0 c]).run Tryz.prog w = .ok (.slice a n cap) w := by
  obtain ⟨i0, hi0, hz0, hz1, hz2⟩ := info_parts infoW7
  cases a <;> cases b <;> simp [Builtin.append_, run_underlying Tryz.underlying22, sizeOf, typeInfo, hi0, Builtin.lenOf, hle, Builtin.firstCells, loadCells, loadCellsFrom, storeCells, Result.andThen]
/-- append of walkers that lie anywhere, or of none, to a row of one's own. -/
theorem step_append_any {ops : Array Oper} {o : Oper} {a : Act} {w : World} {K : Act → World → Prop} {Q : Exit → Act → World → Prop} {E : Prop} (hgd : o.guard = none) (s x : Operand)
    (ho : o.op = .call { callee := .builtin .append, args := #[s, x], argTypes := #[22, 22] })
    (base : Nat) (v : Value) (n : Nat) (xs : List Value) (hs : a.eval s = v) (hown : w.ownsRow base 38 7 v n xs)
    (ax : Option Addr) (m c : Nat) (news : List Value) (hx : a.eval x = .slice ax m c) (hl : news.length = m * 7) (hL : Lies w ax news) (h1 : ∀ u ∈ news, u.oneCell' = true)
    (h63 : n + m ≤ 1000000) (hbase : base ≤ w.heap.size)
    (h : ∀ v' w', w'.ownsRow base 38 7 v' (n + m) (xs ++ news) → w.grownBy w' v.ownBlock → (∀ k, v'.ownBlock = some k → v.ownBlock = some k ∨ w.heap.size ≤ k) → K (a.put o.dst v') w') :
    if Region.wanted o (yielded ops a.tmps) = true then Oper.wp Tryz.prog o a w K Q else E := by
  obtain ⟨i0, hi0, hz0, hz1, hz2⟩ := info_parts infoW7
  by_cases hm : m = 0
  · subst hm
    obtain ⟨sa, sc, rfl, hle, _, _, _⟩ := own_shape hown
    have hn : news = [] := List.eq_nil_of_length_eq_zero (by omega)
    subst hn
    have hw : Region.wanted o (yielded ops a.tmps) = true := by simp [Region.wanted, hgd]
    rw [if_pos hw]
    have hrun := run_append_zero w o.type sa ax n sc c hle
    unfold Oper.wp
    simp [execOp, ho, resolve, invoke, builtin, hs, hx, hrun, Result.andThen]
    exact h _ _ (by simpa using hown) (World.grownBy.refl w _) (fun k hk => .inl hk)
  · obtain ⟨g, off, rfl, _, _⟩ := hL.resolve_left (fun e => by rw [e] at hl; simp at hl; omega)
    refine step_append_lies _ hgd s x 22 ho base 38 i0 (.agg #[.int .u32 0, .int .u32 0, .int .u32 0, .int .u32 0, .int .u32 0, .int .u32 0, .int .u32 0]) 7 28 Tryz.underlying22 hi0 hz0 hz1 hz2 rfl (by decide) v n xs hs hown ⟨g, off, none⟩ m c news hx hl (lies_add hL) h1 (by omega) (by unfold maxLen; omega) (by omega) hbase _ rfl ?_
    intro g3 cap3 w3 hown3 hgrow3 hat3 _
    refine h _ _ hown3 hgrow3 (fun k hk => ?_)
    have : g3 = k := by simpa [Value.ownBlock] using hk
    subst this
    rcases hat3 with e | e
    · exact .inl e
    · exact .inr (by omega)
theorem flatW_drop : ∀ (l : List (List Nat)) (n : Nat), (∀ x ∈ l, ok x) → (flatW l).drop (n * 7) = flatW (l.drop n)
  | l, 0, _ => by simp
  | [], n + 1, _ => by simp [flatW]
  | x :: l, n + 1, h => by
    have hx : (vals x).length = 7 := by rw [vals_length]; exact (h x (by simp)).1
    have e : flatW (x :: l) = vals x ++ flatW l := rfl
    rw [e, List.drop_append, List.drop_of_length_le (by rw [hx]; omega), hx, List.nil_append, show (n + 1) * 7 - 7 = n * 7 by omega, flatW_drop l n (fun y hy => h y (by simp [hy]))]
    rfl
theorem flatW_take : ∀ (l : List (List Nat)) (n : Nat), (∀ x ∈ l, ok x) → (flatW l).take (n * 7) = flatW (l.take n)
  | l, 0, _ => by simp [flatW]
  | [], n + 1, _ => by simp [flatW]
  | x :: l, n + 1, h => by
    have hx : (vals x).length = 7 := by rw [vals_length]; exact (h x (by simp)).1
    have e : flatW (x :: l) = vals x ++ flatW l := rfl
    rw [e, List.take_append, List.take_of_length_le (by rw [hx]; omega), hx, show (n + 1) * 7 - 7 = n * 7 by omega, flatW_take l n (fun y hy => h y (by simp [hy]))]
    rfl
theorem sub_ok {l : List (List Nat)} (h : ∀ x ∈ l, ok x) (n : Nat) : (∀ x ∈ l.take n, ok x) ∧ ∀ x ∈ l.drop n, ok x := ⟨fun x hx => h x (List.mem_of_mem_take hx), fun x hx => h x (List.mem_of_mem_drop hx)⟩
/-- A row's end, sliced. -/
theorem slice_low (a : Option Addr) (len cap m : Nat) (h1 : m ≤ len) (h2 : len ≤ cap) : ∃ a', (∀ W : World, (Instr.sliceAt 22 (.slice a len cap) (some (.int .i64 (m : Int))) none none).run Tryz.prog W = .ok (.slice a' (len - m) (cap - m)) W) ∧
    ∀ (W : World) (l : List (List Nat)), (∀ x ∈ l, ok x) → l.length = len → Lies W a (flatW l) → Lies W a' (flatW (l.drop m)) := by
  have hel : Tryz.prog.elem 22 = 38 := by kernel_rfl
  have hu : Tryz.prog.underlying 22 = some (.slice (Tryz.prog.elem 22)) := by rw [hel]; exact Tryz.underlying22
  have hsz : ∀ W : World, (sizeOf 38).run Tryz.prog W = .ok 7 W := fun W => by kernel_rfl
  refine ⟨if cap = m then a else a.map (·.add (m * 7)), fun W => ?_, fun W l hok hl hL => ?_⟩
  · rw [run_sliceAt_slice W _ _ _ _ _ hu, run_slice_l W _ _ _ _ hu .i64 (m : Int) (by omega) (by omega), hel, hsz]
    simp [Result.andThen, sliced]
  · by_cases hm : m = len
    · rw [List.drop_of_length_le (by omega)]
      exact .inl rfl
    · rw [if_neg (by omega)]
      by_cases hl0 : flatW l = []
      · have := flatW_length l hok
        rw [hl0] at this
        simp at this
        rw [show l = [] from List.eq_nil_of_length_eq_zero (by omega)]
        exact .inl (by simp [flatW])
      · obtain ⟨g, off, rfl, _, _⟩ := hL.resolve_left hl0
        have := hL.drop (m * 7)
        rw [flatW_drop l m hok] at this
        have e : (⟨g, off, none⟩ : Addr).add (m * 7) = ⟨g, off + m * 7, none⟩ := by unfold Addr.add; split <;> simp_all
        simp only [Option.map_some, e]
        exact this
/-- A row's head, sliced. -/
theorem slice_high (a : Option Addr) (len cap m : Nat) (h1 : m ≤ cap) (W : World) : (Instr.sliceAt 22 (.slice a len cap) none (some (.int .i64 (m : Int))) none).run Tryz.prog W = .ok (.slice a m cap) W := by
  have hel : Tryz.prog.elem 22 = 38 := by kernel_rfl
  have hu : Tryz.prog.underlying 22 = some (.slice (Tryz.prog.elem 22)) := by rw [hel]; exact Tryz.underlying22
  have hsz : ∀ W : World, (sizeOf 38).run Tryz.prog W = .ok 7 W := fun W => by kernel_rfl
  rw [run_sliceAt_slice W _ _ _ _ _ hu, run_slice_h W _ _ _ _ hu .i64 (m : Int) (by omega) (by omega), hel, hsz]
  cases a with
  | none => simp [Result.andThen, sliced]
  | some p =>
    have : p.add 0 = p := by unfold Addr.add; cases p; split <;> simp_all
    simp [Result.andThen, sliced, this]
theorem take_two {α : Type} (l k : List α) (most : Nat) : (l ++ k).take most = l.take (min most l.length) ++ k.take (min (most - min most l.length) k.length) := by
  rw [List.take_append]
  by_cases h : most ≤ l.length
  · rw [Nat.min_eq_left h, show most - l.length = 0 by omega, show most - most = 0 by omega]
    simp
  · rw [Nat.min_eq_right (by omega), List.take_of_length_le (l := l) (by omega), List.take_of_length_le (l := l) (Nat.le_refl _)]
    by_cases h2 : most - l.length ≤ k.length
    · rw [Nat.min_eq_left h2]
    · rw [Nat.min_eq_right (by omega), List.take_of_length_le (l := k) (by omega), List.take_of_length_le (l := k) (Nat.le_refl _)]
theorem drop_min {α : Type} (l : List α) (most : Nat) : l.drop (min most l.length) = l.drop most := by
  by_cases h : most ≤ l.length
  · rw [Nat.min_eq_left h]
  · rw [Nat.min_eq_right (by omega), List.drop_of_length_le (Nat.le_refl _), List.drop_of_length_le (by omega)]
theorem read_nil_any {A : Pa} {off : Bool} {w : World} {Qs : Nat → Prop} {hv : Nat → Option Value} {S Hd : Rows} (h : Pl A off w Qs hv S Hd) (i : Nat) (hi : i < A.n) (he : S i = []) :
    Calls Tryz.prog 22 #[.pointer (some ⟨A.p, 0, none⟩), .int .i64 (i : Int)] w fun e w' => ∃ v, e = .returned (.tuple #[v, .int .i64 0]) ∧ OwnW w' w.heap.size v (S i) ∧ Below w.heap.size w w' := by
  refine (read_none h i hi he).mono ?_
  rintro e w' ⟨rfl, hB⟩
  refine ⟨_, rfl, ?_, hB⟩
  rw [he]
  exact World.ownsRow_nil _ _ _ _
set_option maxHeartbeats 1000000 in
set_option maxRecDepth 100000 in
theorem take_none {A : Pa} {off : Bool} {w : World} {Qs : Nat → Prop} {hv : Nat → Option Value} {S Hd : Rows} (h : Pl A off w Qs hv S Hd) (i : Nat) (hi : i < A.n) (most : Nat) (hm1 : 1 ≤ most) (hm2 : most ≤ 100000) (hlen : (S i).length + (Hd i).length ≤ 30000) (hmany : many Hd A.n ≤ 1000000) (ccond : (S i).length = 0) :
    Calls Tryz.prog 13 #[.pointer (some ⟨A.p, 0, none⟩), .int .i64 (i : Int), .int .i64 (most : Int)] w fun e w' => ∃ v, e = .returned (.tuple #[v, .int .i64 0]) ∧ OwnW w' w.heap.size v ((S i ++ Hd i).take most) ∧ Went A off (allQ A Qs hv) w w' (upd S i ((S i).drop most)) (upd Hd i ((Hd i).drop (most - (S i).length))) (fun k => v.ownBlock = some k) := by
  have HT := Lib.hid (there_in h i hi)
  have HR := Lib.hid (read_nil_any h i hi (List.eq_nil_of_length_eq_zero ccond))
  have H := Lib.hid h
  have hmz : ((most : Int) == 0) = false := by
    have : ¬ (most : Int) = 0 := by omega
    simpa using this
  have hmn : decide ((most : Int) < 0) = false := by
    simp
  have HMY := Lib.hid hmany
  obtain ⟨N, hN⟩ : ∃ N, N = (S i).length := ⟨_, rfl⟩
  obtain ⟨hn, hnn⟩ : ∃ hn, hn = (Hd i).length := ⟨_, rfl⟩
  obtain ⟨n, hne⟩ : ∃ n, n = min most N := ⟨_, rfl⟩
  obtain ⟨m, hme⟩ : ∃ m, m = min (most - n) hn := ⟨_, rfl⟩
  have hmin1 : min (most : Int) (N : Int) = (n : Int) := by omega
  have hmin2 : min ((most : Int) - (n : Int)) (hn : Int) = (m : Int) := by omega
  have hnN : n ≤ N := by omega
  have hnM : n ≤ most := by omega
  have hmH : m ≤ hn := by omega
  have hsub1 : IntKind.i64.wrap ((most : Int) - (n : Int)) = (most : Int) - n := IntWalk.i64_in _ (by omega)
  obtain ⟨va, vc, hgv, hlv⟩ : ∃ va vc, (hv i).getD (.slice none 0 0) = .slice va hn vc ∧ hn ≤ vc := by
    obtain ⟨v, hve, hO, _⟩ := h.heldAt i hi
    obtain ⟨a, c, e, hc, _⟩ := own_shape hO
    exact ⟨a, c, by rw [hve, e, hnn], by rw [hnn]; exact hc⟩
  rw [← hN] at hlen ccond
  rw [← hnn] at hlen
  have hn0 : n = 0 := by omega
  obtain rfl : n = 0 := by omega
  replace hmin1 : min (most : Int) (N : Int) = 0 := by omega
  replace hmin2 : min (most : Int) (hn : Int) = (m : Int) := by omega
  clear hn0 hsub1
  have HVL : Hid (∀ (W : World) (Q : Nat → Prop) (S3 : Rows), Pl A off W Q hv S3 Hd → Lies W va (flatW (Hd i))) := Lib.hid (fun W Q S3 hp => by
    obtain ⟨v, hve, hO, _⟩ := hp.heldAt i hi
    obtain ⟨a, c, e, _, hL, _, _⟩ := own_shape hO
    rw [hgv, e] at hve
    injection hve with e1
    rw [e1]
    exact hL)
  have HGV := Lib.hid hgv
  have HNN := Lib.hid hnn
  have HN := Lib.hid hN
  have HNE := Lib.hid hne
  have HME := Lib.hid hme
  clear h hmany hgv hnn hN hne hme ccond
  go_enter Tryz.func13, Tryz.ntmps13
  go_wp2_with fail
  refine HT.out.mono ?_
  rintro e1 w1 ⟨rfl, rfl⟩
  go_wp2_with fail
  refine HR.out.mono ?_
  rintro e2 w2 ⟨v2, rfl, hO2, hB2⟩
  obtain ⟨oa, oc, rfl, hoc, hL2, hob2, _⟩ := own_shape hO2
  rw [← HN.out] at hoc ⊢
  have HL2 := Lib.hid hL2
  have HB2 := Lib.hid hB2
  have HOB2 := Lib.hid hob2
  have H2 := Lib.hid (H.out.later hB2)
  have HO2 := Lib.hid hO2
  clear hL2 hB2 hob2 hO2
  obtain ⟨a2, hslo, hslL⟩ := slice_low oa N oc 0 hnN hoc
  have HSLL := Lib.hid hslL
  obtain ⟨a3, hslh, hslM⟩ := slice_low va hn vc m hmH hlv
  have HSLM := Lib.hid hslM
  clear hslL hslM
  have HSE : Hid (upd S i ((S i).drop most) = S) := Lib.hid (by
    have : S i = [] := List.eq_nil_of_length_eq_zero (by have := HN.out; have := HNE.out; omega)
    rw [this]
    conv => rhs; rw [← upd_id S i, this]
    simp)
  have HL3 := HL2
  have HQ3 : Hid (∀ k, Qs k → Qs k ∨ w2.heap.size ≤ k) := Lib.hid (fun k hk => .inl hk)
  have HB3 : Hid (Only [A.cm, A.sm] w2 w2) := Lib.hid (Only.refl _ _)
  have H3 := H2
  obtain ⟨Q3, hQ3e⟩ : ∃ Q3, Q3 = Qs := ⟨_, rfl⟩
  obtain ⟨w3, hw3⟩ : ∃ w3, w3 = w2 := ⟨_, rfl⟩
  obtain ⟨S3, hS3⟩ : ∃ S3, S3 = S := ⟨_, rfl⟩
  have HSE3 : Hid (upd S i ((S i).drop most) = S3) := Lib.hid (by rw [hS3]; exact HSE.out)
  have HQ4 : Hid (∀ k, Q3 k → Qs k ∨ w2.heap.size ≤ k) := Lib.hid (by rw [hQ3e]; exact HQ3.out)
  have HB4 : Hid (Only [A.cm, A.sm] w2 w3) := Lib.hid (by rw [hw3]; exact HB3.out)
  have HP3 : Hid (Pl A off w3 Q3 hv S3 Hd) := Lib.hid (by rw [hw3, hQ3e, hS3]; exact H3.out)
  have HL4 : Hid (Lies w3 oa (flatW (S i))) := Lib.hid (by rw [hw3]; exact HL3.out)
  rw [← hw3]
  clear hw3 hQ3e hS3 H3 HB3 HQ3 HL3 HSE
  obtain ⟨n, hnz⟩ : ∃ n, n = 0 := ⟨_, rfl⟩
  have hl3 := HP3.out.heldAt' i hi
  rw [HGV.out] at hl3
  have k4 := HP3.out.pool.cell 4
  simp at k4
  go_wp2_with fail
  have htl : ((S i).take 0).length = 0 := by rw [List.length_take, ← HN.out]; omega
  have hC1 := clone_walkers oa oc ((S i).take 0) w3.drew (by have := HL4.out.take (0 * 7); rw [flatW_take _ _ (H.out.okS i hi)] at this; exact this) (sub_ok (H.out.okS i hi) 0).1 (by rw [htl]; omega)
  rw [htl] at hC1
  have HC1 := Lib.hid hC1
  have HTL := Lib.hid htl
  have hsh1 := fun W => slice_high oa N oc 0 (by omega) W
  have hsh2 := fun W => slice_high va hn vc m (by omega) W
  have hmlen : (flatW ((Hd i).take m)).length = m * 7 := by rw [flatW_length _ (sub_ok (H.out.okH i hi) m).1, List.length_take, ← HNN.out, Nat.min_eq_left hmH]
  have HML := Lib.hid hmlen
  have H1m := Lib.hid (oneCell_flatW ((Hd i).take m))
  have hpl := HP3.out.pool.lt
  have hl3d := HP3.out.drew.heldAt' i hi
  rw [HGV.out] at hl3d
  have hk3 : w3.drew.cell? ⟨A.p, 4, none⟩ = some (.map (some A.hm)) := k4
  have hcap : 30000 ≤ 1000000 := by decide
  clear hC1 htl hmlen hmin1 hmin2 hl3 k4
  go_region_held3 (fun w' => w'.cell? ⟨A.p, 4, none⟩ = some (.map (some A.hm))) (first | exact hk3 | exact hk4 | exact hk5) ((first | (go_at_call 26; refine HC1.out.mono ?_; rintro e4 w4 ⟨v4, rfl, hO4, hB4⟩; have hB34 : Below w3.heap.size w3 w4 := ((Below.refl _ w3).drew).trans hB4; have hk4 := (hB34.cell (p := ⟨A.p, 4, none⟩) hpl).trans hk3; have hl4 := (HP3.out.later hB34).heldAt' i hi; rw [HGV.out] at hl4; dsimp only) | (refine step_append_any rfl (.tmp 62) (.tmp 70) rfl w3.heap.size v4 0 (flatW ((S i).take 0)) (by simp [Act.eval]) (by have := HTL.out; rw [OwnW, this] at hO4; exact hO4) va m vc (flatW ((Hd i).take m)) (by simp [Act.eval]) HML.out (by have := (HVL.out w4 _ _ (HP3.out.later hB34)).take (m * 7); rw [flatW_take _ _ (H.out.okH i hi)] at this; exact this) H1m.out (by omega) hB34.size ?_; intro v5 w5 hown5 hg5 hb5; have hB35 : Below w3.heap.size w3 w5 := hB34.grown hg5 hB34.size (fun q hq => (World.ownsRow.lt hO4 q hq).1); have hk5 := (hB35.cell (p := ⟨A.p, 4, none⟩) hpl).trans hk3)))
  all_goals
    have HOW5 := Lib.hid hown5
    have HB35 := Lib.hid hB35
    have HLV5 := Lib.hid (World.ownsRow.lt hown5)
    have hhd : ((Hd i).drop m).length = hn - m := by rw [List.length_drop, ← HNN.out]
    have hP5 := HP3.out.later hB35
    have hC2 := clone_walkers a3 (vc - m) ((Hd i).drop m) w5.drew (HSLM.out w5 (Hd i) (H.out.okH i hi) HNN.out.symm (HVL.out w5 _ _ hP5)) (sub_ok (H.out.okH i hi) m).2 (by rw [hhd]; omega)
    rw [hhd] at hC2
    have HC2 := Lib.hid hC2
    have hl5 := hP5.drew.heldAt' i hi
    rw [HGV.out] at hl5
    have hk5d : w5.drew.cell? ⟨A.p, 4, none⟩ = some (.map (some A.hm)) := hk5
    have hhm : A.hm < w3.heap.size := HP3.out.lt _ (.inr (.inl (.inr (.inr rfl))))
    have hphm : A.p ∉ [A.hm] := by
      obtain ⟨_, hmh, _, _⟩ := HP3.out.held
      have := map_ne_blk hmh HP3.out.pool
      simpa using this.symm
    have HPH := Lib.hid hphm
    clear hC2 hhd hP5 hphm hown5 hg5 hb5 hB35 hB34 hO4 hB4 hk4 hk3 hl3d hsh1 hsh2 hslo
    go_wp2_with fail
    go_region_held3 (fun w' => w'.cell? ⟨A.p, 4, none⟩ = some (.map (some A.hm))) (first | exact hk5d | exact hk6 | exact hk7) ((go_at_call 26; refine HC2.out.mono ?_; rintro e6 w6 ⟨v6, rfl, hO6, hB6⟩; have hB56 : Below w5.heap.size w5 w6 := ((Below.refl _ w5).drew).trans hB6; have hB36 := HB35.out.trans (hB56.mono HB35.out.size); have hk6 := (hB36.cell (p := ⟨A.p, 4, none⟩) hpl).trans (HP3.out.pool.cell 4); obtain ⟨w7, f7, hrun7, hm7, hs7, hf7, hfo7, ho7, hz7⟩ := HP3.out.hold (w1 := w6) (hB36.block _ hhm) i hi v6; have hb7 := (HP3.out.pool.below hB36 hpl).only ho7 HPH.out; have hk7 := hb7.cell 4; simp at hk7; simp at hk6; dsimp only))
    obtain ⟨M, hM⟩ : ∃ M, M = many Hd A.n := ⟨_, rfl⟩
    have hM1 : M ≤ 1000000 := by rw [hM]; exact HMY.out
    have hmM : m ≤ M := by
      have := len_le_many Hd i A.n hi
      rw [← hM, ← HNN.out] at this
      omega
    rw [← hM] at hb7
    have k5 := hb7.cell 5
    have f5 := hb7.frozen 5
    simp at k5
    have hsub : IntKind.i64.wrap ((M : Int) - (m : Int)) = (M : Int) - m := IntWalk.i64_in _ (by omega)
    have hb8 := hb7.set 5 (.int .i64 ((M : Int) - m))
    have hz5 := HB35.out.size
    have hz56 := hB56.size
    have hnot7 : ∀ (u : Value) (q : Nat), w3.heap.size ≤ q → q ∉ [A.hm] := fun u q hq hmm => by
      rw [List.mem_singleton.1 hmm] at hq
      omega
    have hown7 := own_only hO6 ho7 (fun q hq => hnot7 v6 q (by have := (World.ownsRow.lt hO6 q hq).1; simp at this; omega))
    have hown8 := own_past hown7 hb7 (by decide) 5 (.int .i64 ((M : Int) - m))
    have hres6 := own_later HOW5.out hB56
    have hres7 := own_only hres6 ho7 (fun q hq => hnot7 v5 q (HLV5.out q hq).1)
    have hres8 := own_past hres7 hb7 (by decide) 5 (.int .i64 ((M : Int) - m))
    have ho8 : Only [A.p, A.hm] w3 (w7.setCell ⟨A.p, 5, none⟩ (.int .i64 ((M : Int) - m))) := ((Only.of_below hB36).trans (ho7.mono (by simp))).set (.inl (by simp)) _
    have hub : ∀ u k, some v6 = some u → u.ownBlock = some k → (∃ v0, hv i = some v0 ∧ v0.ownBlock = some k) ∨ w3.heap.size ≤ k := fun u k hu hk => by
      injection hu with hu
      rw [← hu] at hk
      have := (World.ownsRow.lt hO6 k hk).1
      simp at this
      exact .inr (by omega)
    have hmu := many_upd Hd i ((Hd i).drop m) A.n hi
    rw [← hM, List.length_drop, ← HNN.out] at hmu
    have hdm : (Hd i).drop m = (Hd i).drop (most - (S i).length) := by
      have h1 := HME.out
      have h2 := HNE.out
      have h3 := HN.out
      by_cases hc : most - (S i).length ≤ (Hd i).length
      · congr 1
        have := HNN.out
        omega
      · have := HNN.out
        rw [List.drop_of_length_le (by omega), List.drop_of_length_le (by omega)]
    have hlist : (S i).take 0 ++ (Hd i).take m = (S i ++ Hd i).take most := by
      rw [take_two, ← HN.out, ← HNN.out, ← HNE.out, ← HME.out]
    have hfin := HP3.out.holding hi ho8 (fun k hk => by
      simp only [List.mem_cons, List.not_mem_nil, or_false] at hk
      rcases hk with e1 | e1
      · exact .inl e1
      · exact .inr (.inl e1)) ((Hd i).drop m) (by
        have e1 : ((many (upd Hd i ((Hd i).drop m)) A.n : Nat) : Int) = (M : Int) - m := by omega
        rw [e1]
        simpa using hb8) (hm7.keep (Below.heap_setCell _ _ _ _ (map_ne_blk hm7 hb7))) hs7 (some v6) (own_mono hown8 (Nat.zero_le _)) hf7 hfo7 hub (sub_ok (H.out.okH i hi) m).2
    have hall := allQ_holding (A := A) (Qs := Q3) hub hi
    have hw2 := HB2.out.size
    have hw3 := HB4.out.size
    have hQall : ∀ k, allQ A Q3 hv k → allQ A Qs hv k ∨ w1.heap.size ≤ k := fun k hk => by
      rcases hk with hk | hk | hk
      · rcases HQ4.out k hk with h1 | h1
        · exact .inl (.inl h1)
        · exact .inr (by omega)
      · exact .inl (.inr (.inl hk))
      · exact .inl (.inr (.inr hk))
    have hwent : Went A off (allQ A Qs hv) w1 (w7.setCell ⟨A.p, 5, none⟩ (.int .i64 ((M : Int) - m))) (upd S i ((S i).drop most)) (upd Hd i ((Hd i).drop (most - (S i).length))) (fun k => v5.ownBlock = some k) := by
      rw [hdm, ← HSE3.out] at hfin
      refine ⟨_, _, hfin, fun k hk => ?_, fun k hk hq => ?_, ?_⟩
      · rcases hall k hk with h3 | h3
        · exact hQall k h3
        · exact .inr (by omega)
      · have hlt5 := HLV5.out k hk
        rcases hq with hq | hq | ⟨j, u, hj, hu, hq⟩
        · have := HP3.out.lt k (.inl hq)
          omega
        · have := HP3.out.lt k (.inr (.inl hq))
          omega
        · by_cases e : j = i
          · subst e
            rw [updv_same] at hu
            injection hu with hu
            rw [← hu] at hq
            have := (World.ownsRow.lt hO6 k hq).1
            simp at this
            omega
          · rw [updv_other _ e] at hu
            have := HP3.out.lt k (.inr (.inr ⟨j, u, hj, hu, hq⟩))
            omega
      · refine ((Upon.of_below (P := allQ A Qs hv) HB2.out).trans (Q := allQ A Qs hv) (Upon.of_only HB4.out (fun k hk => ?_)) (fun k hk => .inl hk)).trans (Q := allQ A Qs hv) (Upon.of_only ho8 (fun k hk => ?_)) (fun k hk => .inl hk)
        · simp only [List.mem_cons, List.not_mem_nil, or_false] at hk
          rcases hk with rfl | rfl
          · exact .inl (.inl H.out.cm)
          · exact .inl (.inr (.inl (.inr (.inl rfl))))
        · simp only [List.mem_cons, List.not_mem_nil, or_false] at hk
          rcases hk with rfl | rfl
          · exact .inl (.inr (.inl (.inl rfl)))
          · exact .inl (.inr (.inl (.inr (.inr rfl))))
    have hres : OwnW (w7.setCell ⟨A.p, 5, none⟩ (.int .i64 ((M : Int) - m))) w1.heap.size v5 ((S i ++ Hd i).take most) := by
      rw [← flatW_append, hlist] at hres8
      have e1 : 0 + m = ((S i ++ Hd i).take most).length := by rw [← hlist, List.length_append, HTL.out, List.length_take, ← HNN.out, Nat.min_eq_left hmH]
      show _ = _ ∧ _
      rw [← e1]
      exact own_mono hres8 (by omega)
    have HW := Lib.hid hwent
    have HRS := Lib.hid hres
    clear hwent hres hQall hall hfin hlist hdm hmu hub ho8 hres8 hres7 hres6 hown8 hown7 hnot7 hb8 hM hM1 hO6 hB6 hB56 hB36 hm7 hs7 hf7 hfo7 ho7 hz7 hb7 hrun7 hk7 hk6 hk5d hk5 hl5
    go_wp2_with fail
    go_ret2
    exact ⟨_, rfl, HRS.out, HW.out⟩
set_option maxHeartbeats 1000000 in
set_option maxRecDepth 100000 in
theorem take_some {A : Pa} {w : World} {Qs : Nat → Prop} {hv : Nat → Option Value} {S Hd : Rows} (h : Pl A false w Qs hv S Hd) (i : Nat) (hi : i < A.n) (most : Nat) (hm1 : 1 ≤ most) (hm2 : most ≤ 100000) (hlen : (S i).length + (Hd i).length ≤ 30000) (hmany : many Hd A.n ≤ 1000000) (ccond : most < (S i).length) :
    Calls Tryz.prog 13 #[.pointer (some ⟨A.p, 0, none⟩), .int .i64 (i : Int), .int .i64 (most : Int)] w fun e w' => ∃ v, e = .returned (.tuple #[v, .int .i64 0]) ∧ OwnW w' w.heap.size v ((S i ++ Hd i).take most) ∧ Went A false (allQ A Qs hv) w w' (upd S i ((S i).drop most)) (upd Hd i ((Hd i).drop (most - (S i).length))) (fun k => v.ownBlock = some k) := by
  have HT := Lib.hid (there_in h i hi)
  have HR := Lib.hid (read_any h i hi (by omega))
  have H := Lib.hid h
  have hmz : ((most : Int) == 0) = false := by
    have : ¬ (most : Int) = 0 := by omega
    simpa using this
  have hmn : decide ((most : Int) < 0) = false := by
    simp
  have HMY := Lib.hid hmany
  obtain ⟨N, hN⟩ : ∃ N, N = (S i).length := ⟨_, rfl⟩
  obtain ⟨hn, hnn⟩ : ∃ hn, hn = (Hd i).length := ⟨_, rfl⟩
  obtain ⟨n, hne⟩ : ∃ n, n = min most N := ⟨_, rfl⟩
  obtain ⟨m, hme⟩ : ∃ m, m = min (most - n) hn := ⟨_, rfl⟩
  have hmin1 : min (most : Int) (N : Int) = (n : Int) := by omega
  have hmin2 : min ((most : Int) - (n : Int)) (hn : Int) = (m : Int) := by omega
  have hnN : n ≤ N := by omega
  have hnM : n ≤ most := by omega
  have hmH : m ≤ hn := by omega
  have hsub1 : IntKind.i64.wrap ((most : Int) - (n : Int)) = (most : Int) - n := IntWalk.i64_in _ (by omega)
  obtain ⟨va, vc, hgv, hlv⟩ : ∃ va vc, (hv i).getD (.slice none 0 0) = .slice va hn vc ∧ hn ≤ vc := by
    obtain ⟨v, hve, hO, _⟩ := h.heldAt i hi
    obtain ⟨a, c, e, hc, _⟩ := own_shape hO
    exact ⟨a, c, by rw [hve, e, hnn], by rw [hnn]; exact hc⟩
  rw [← hN] at hlen ccond
  rw [← hnn] at hlen
  have hn0 : 0 < n ∧ n < N := by omega
  have hdec : decide (0 < n) = true := by simpa using hn0.1
  have hnlt : n < N := hn0.2
  clear hn0
  have HVL : Hid (∀ (W : World) (Q : Nat → Prop) (S3 : Rows), Pl A false W Q hv S3 Hd → Lies W va (flatW (Hd i))) := Lib.hid (fun W Q S3 hp => by
    obtain ⟨v, hve, hO, _⟩ := hp.heldAt i hi
    obtain ⟨a, c, e, _, hL, _, _⟩ := own_shape hO
    rw [hgv, e] at hve
    injection hve with e1
    rw [e1]
    exact hL)
  have HGV := Lib.hid hgv
  have HNN := Lib.hid hnn
  have HN := Lib.hid hN
  have HNE := Lib.hid hne
  have HME := Lib.hid hme
  clear h hmany hgv hnn hN hne hme ccond
  go_enter Tryz.func13, Tryz.ntmps13
  go_wp2_with fail
  refine HT.out.mono ?_
  rintro e1 w1 ⟨rfl, rfl⟩
  go_wp2_with fail
  refine HR.out.mono ?_
  rintro e2 w2 ⟨v2, rfl, hO2, hB2⟩
  obtain ⟨oa, oc, rfl, hoc, hL2, hob2, _⟩ := own_shape hO2
  rw [← HN.out] at hoc ⊢
  have HL2 := Lib.hid hL2
  have HB2 := Lib.hid hB2
  have HOB2 := Lib.hid hob2
  have H2 := Lib.hid (H.out.later hB2)
  have HO2 := Lib.hid hO2
  clear hL2 hB2 hob2 hO2
  obtain ⟨a2, hslo, hslL⟩ := slice_low oa N oc n hnN hoc
  have HSLL := Lib.hid hslL
  obtain ⟨a3, hslh, hslM⟩ := slice_low va hn vc m hmH hlv
  have HSLM := Lib.hid hslM
  clear hslL hslM
  go_wp2_with fail
  have hw := write_some H2.out i hi a2 (oc - n) ((S i).drop n) (HSLL.out w2 (S i) (H.out.okS i hi) HN.out.symm HL2.out) (fun e => by
    have := congrArg List.length e
    rw [List.length_drop, ← HN.out] at this
    simp at this
    omega) (sub_ok (H.out.okS i hi) n).2 (by rw [List.length_drop, ← HN.out]; omega)
  have hdn : (S i).drop n = (S i).drop most := by rw [HNE.out, HN.out]; exact drop_min _ _
  rw [List.length_drop, ← HN.out, hdn] at hw
  clear hdn
  refine hw.mono ?_
  rintro e3 w3 ⟨rfl, Q3, hp3, hQ3, ho3⟩
  have HQ4 := Lib.hid hQ3
  have HB4 := Lib.hid ho3
  obtain ⟨S3, hS3⟩ : ∃ S3, S3 = upd S i ((S i).drop most) := ⟨_, rfl⟩
  have HSE3 : Hid (upd S i ((S i).drop most) = S3) := Lib.hid hS3.symm
  rw [← hS3] at hp3
  have HP3 := Lib.hid hp3
  have HL4 := Lib.hid (HL2.out.only ho3 (fun g hg hm => by
    have h1 := (HOB2.out g hg).1
    simp only [List.mem_cons, List.not_mem_nil, or_false] at hm
    rcases hm with rfl | rfl
    · have := H.out.lt _ (.inl H.out.cm)
      omega
    · have := H.out.lt A.sm (.inr (.inl (.inr (.inl rfl))))
      omega))
  clear hp3 hQ3 ho3 hS3
  have hl3 := HP3.out.heldAt' i hi
  rw [HGV.out] at hl3
  have k4 := HP3.out.pool.cell 4
  simp at k4
  go_wp2_with fail
  have htl : ((S i).take n).length = n := by rw [List.length_take, ← HN.out]; omega
  have hC1 := clone_walkers oa oc ((S i).take n) w3.drew (by have := HL4.out.take (n * 7); rw [flatW_take _ _ (H.out.okS i hi)] at this; exact this) (sub_ok (H.out.okS i hi) n).1 (by rw [htl]; omega)
  rw [htl] at hC1
  have HC1 := Lib.hid hC1
  have HTL := Lib.hid htl
  have hsh1 := fun W => slice_high oa N oc n (by omega) W
  have hsh2 := fun W => slice_high va hn vc m (by omega) W
  have hmlen : (flatW ((Hd i).take m)).length = m * 7 := by rw [flatW_length _ (sub_ok (H.out.okH i hi) m).1, List.length_take, ← HNN.out, Nat.min_eq_left hmH]
  have HML := Lib.hid hmlen
  have H1m := Lib.hid (oneCell_flatW ((Hd i).take m))
  have hpl := HP3.out.pool.lt
  have hl3d := HP3.out.drew.heldAt' i hi
  rw [HGV.out] at hl3d
  have hk3 : w3.drew.cell? ⟨A.p, 4, none⟩ = some (.map (some A.hm)) := k4
  have hcap : 30000 ≤ 1000000 := by decide
  clear hC1 htl hmlen hmin1 hmin2 hl3 k4
  go_region_held3 (fun w' => w'.cell? ⟨A.p, 4, none⟩ = some (.map (some A.hm))) (first | exact hk3 | exact hk4 | exact hk5) ((first | (go_at_call 26; refine HC1.out.mono ?_; rintro e4 w4 ⟨v4, rfl, hO4, hB4⟩; have hB34 : Below w3.heap.size w3 w4 := ((Below.refl _ w3).drew).trans hB4; have hk4 := (hB34.cell (p := ⟨A.p, 4, none⟩) hpl).trans hk3; have hl4 := (HP3.out.later hB34).heldAt' i hi; rw [HGV.out] at hl4; dsimp only) | (refine step_append_any rfl (.tmp 62) (.tmp 70) rfl w3.heap.size v4 n (flatW ((S i).take n)) (by simp [Act.eval]) (by have := HTL.out; rw [OwnW, this] at hO4; exact hO4) va m vc (flatW ((Hd i).take m)) (by simp [Act.eval]) HML.out (by have := (HVL.out w4 _ _ (HP3.out.later hB34)).take (m * 7); rw [flatW_take _ _ (H.out.okH i hi)] at this; exact this) H1m.out (by omega) hB34.size ?_; intro v5 w5 hown5 hg5 hb5; have hB35 : Below w3.heap.size w3 w5 := hB34.grown hg5 hB34.size (fun q hq => (World.ownsRow.lt hO4 q hq).1); have hk5 := (hB35.cell (p := ⟨A.p, 4, none⟩) hpl).trans hk3)))
  all_goals
    have HOW5 := Lib.hid hown5
    have HB35 := Lib.hid hB35
    have HLV5 := Lib.hid (World.ownsRow.lt hown5)
    have hhd : ((Hd i).drop m).length = hn - m := by rw [List.length_drop, ← HNN.out]
    have hP5 := HP3.out.later hB35
    have hC2 := clone_walkers a3 (vc - m) ((Hd i).drop m) w5.drew (HSLM.out w5 (Hd i) (H.out.okH i hi) HNN.out.symm (HVL.out w5 _ _ hP5)) (sub_ok (H.out.okH i hi) m).2 (by rw [hhd]; omega)
    rw [hhd] at hC2
    have HC2 := Lib.hid hC2
    have hl5 := hP5.drew.heldAt' i hi
    rw [HGV.out] at hl5
    have hk5d : w5.drew.cell? ⟨A.p, 4, none⟩ = some (.map (some A.hm)) := hk5
    have hhm : A.hm < w3.heap.size := HP3.out.lt _ (.inr (.inl (.inr (.inr rfl))))
    have hphm : A.p ∉ [A.hm] := by
      obtain ⟨_, hmh, _, _⟩ := HP3.out.held
      have := map_ne_blk hmh HP3.out.pool
      simpa using this.symm
    have HPH := Lib.hid hphm
    clear hC2 hhd hP5 hphm hown5 hg5 hb5 hB35 hB34 hO4 hB4 hk4 hk3 hl3d hsh1 hsh2 hslo
    go_wp2_with fail
    go_region_held3 (fun w' => w'.cell? ⟨A.p, 4, none⟩ = some (.map (some A.hm))) (first | exact hk5d | exact hk6 | exact hk7) ((go_at_call 26; refine HC2.out.mono ?_; rintro e6 w6 ⟨v6, rfl, hO6, hB6⟩; have hB56 : Below w5.heap.size w5 w6 := ((Below.refl _ w5).drew).trans hB6; have hB36 := HB35.out.trans (hB56.mono HB35.out.size); have hk6 := (hB36.cell (p := ⟨A.p, 4, none⟩) hpl).trans (HP3.out.pool.cell 4); obtain ⟨w7, f7, hrun7, hm7, hs7, hf7, hfo7, ho7, hz7⟩ := HP3.out.hold (w1 := w6) (hB36.block _ hhm) i hi v6; have hb7 := (HP3.out.pool.below hB36 hpl).only ho7 HPH.out; have hk7 := hb7.cell 4; simp at hk7; simp at hk6; dsimp only))
    obtain ⟨M, hM⟩ : ∃ M, M = many Hd A.n := ⟨_, rfl⟩
    have hM1 : M ≤ 1000000 := by rw [hM]; exact HMY.out
    have hmM : m ≤ M := by
      have := len_le_many Hd i A.n hi
      rw [← hM, ← HNN.out] at this
      omega
    rw [← hM] at hb7
    have k5 := hb7.cell 5
    have f5 := hb7.frozen 5
    simp at k5
    have hsub : IntKind.i64.wrap ((M : Int) - (m : Int)) = (M : Int) - m := IntWalk.i64_in _ (by omega)
    have hb8 := hb7.set 5 (.int .i64 ((M : Int) - m))
    have hz5 := HB35.out.size
    have hz56 := hB56.size
    have hnot7 : ∀ (u : Value) (q : Nat), w3.heap.size ≤ q → q ∉ [A.hm] := fun u q hq hmm => by
      rw [List.mem_singleton.1 hmm] at hq
      omega
    have hown7 := own_only hO6 ho7 (fun q hq => hnot7 v6 q (by have := (World.ownsRow.lt hO6 q hq).1; simp at this; omega))
    have hown8 := own_past hown7 hb7 (by decide) 5 (.int .i64 ((M : Int) - m))
    have hres6 := own_later HOW5.out hB56
    have hres7 := own_only hres6 ho7 (fun q hq => hnot7 v5 q (HLV5.out q hq).1)
    have hres8 := own_past hres7 hb7 (by decide) 5 (.int .i64 ((M : Int) - m))
    have ho8 : Only [A.p, A.hm] w3 (w7.setCell ⟨A.p, 5, none⟩ (.int .i64 ((M : Int) - m))) := ((Only.of_below hB36).trans (ho7.mono (by simp))).set (.inl (by simp)) _
    have hub : ∀ u k, some v6 = some u → u.ownBlock = some k → (∃ v0, hv i = some v0 ∧ v0.ownBlock = some k) ∨ w3.heap.size ≤ k := fun u k hu hk => by
      injection hu with hu
      rw [← hu] at hk
      have := (World.ownsRow.lt hO6 k hk).1
      simp at this
      exact .inr (by omega)
    have hmu := many_upd Hd i ((Hd i).drop m) A.n hi
    rw [← hM, List.length_drop, ← HNN.out] at hmu
    have hdm : (Hd i).drop m = (Hd i).drop (most - (S i).length) := by
      have h1 := HME.out
      have h2 := HNE.out
      have h3 := HN.out
      by_cases hc : most - (S i).length ≤ (Hd i).length
      · congr 1
        have := HNN.out
        omega
      · have := HNN.out
        rw [List.drop_of_length_le (by omega), List.drop_of_length_le (by omega)]
    have hlist : (S i).take n ++ (Hd i).take m = (S i ++ Hd i).take most := by
      rw [take_two, ← HN.out, ← HNN.out, ← HNE.out, ← HME.out]
    have hfin := HP3.out.holding hi ho8 (fun k hk => by
      simp only [List.mem_cons, List.not_mem_nil, or_false] at hk
      rcases hk with e1 | e1
      · exact .inl e1
      · exact .inr (.inl e1)) ((Hd i).drop m) (by
        have e1 : ((many (upd Hd i ((Hd i).drop m)) A.n : Nat) : Int) = (M : Int) - m := by omega
        rw [e1]
        simpa using hb8) (hm7.keep (Below.heap_setCell _ _ _ _ (map_ne_blk hm7 hb7))) hs7 (some v6) (own_mono hown8 (Nat.zero_le _)) hf7 hfo7 hub (sub_ok (H.out.okH i hi) m).2
    have hall := allQ_holding (A := A) (Qs := Q3) hub hi
    have hw2 := HB2.out.size
    have hw3 := HB4.out.size
    have hQall : ∀ k, allQ A Q3 hv k → allQ A Qs hv k ∨ w1.heap.size ≤ k := fun k hk => by
      rcases hk with hk | hk | hk
      · rcases HQ4.out k hk with h1 | h1
        · exact .inl (.inl h1)
        · exact .inr (by omega)
      · exact .inl (.inr (.inl hk))
      · exact .inl (.inr (.inr hk))
    have hwent : Went A false (allQ A Qs hv) w1 (w7.setCell ⟨A.p, 5, none⟩ (.int .i64 ((M : Int) - m))) (upd S i ((S i).drop most)) (upd Hd i ((Hd i).drop (most - (S i).length))) (fun k => v5.ownBlock = some k) := by
      rw [hdm, ← HSE3.out] at hfin
      refine ⟨_, _, hfin, fun k hk => ?_, fun k hk hq => ?_, ?_⟩
      · rcases hall k hk with h3 | h3
        · exact hQall k h3
        · exact .inr (by omega)
      · have hlt5 := HLV5.out k hk
        rcases hq with hq | hq | ⟨j, u, hj, hu, hq⟩
        · have := HP3.out.lt k (.inl hq)
          omega
        · have := HP3.out.lt k (.inr (.inl hq))
          omega
        · by_cases e : j = i
          · subst e
            rw [updv_same] at hu
            injection hu with hu
            rw [← hu] at hq
            have := (World.ownsRow.lt hO6 k hq).1
            simp at this
            omega
          · rw [updv_other _ e] at hu
            have := HP3.out.lt k (.inr (.inr ⟨j, u, hj, hu, hq⟩))
            omega
      · refine ((Upon.of_below (P := allQ A Qs hv) HB2.out).trans (Q := allQ A Qs hv) (Upon.of_only HB4.out (fun k hk => ?_)) (fun k hk => .inl hk)).trans (Q := allQ A Qs hv) (Upon.of_only ho8 (fun k hk => ?_)) (fun k hk => .inl hk)
        · simp only [List.mem_cons, List.not_mem_nil, or_false] at hk
          rcases hk with rfl | rfl
          · exact .inl (.inl H.out.cm)
          · exact .inl (.inr (.inl (.inr (.inl rfl))))
        · simp only [List.mem_cons, List.not_mem_nil, or_false] at hk
          rcases hk with rfl | rfl
          · exact .inl (.inr (.inl (.inl rfl)))
          · exact .inl (.inr (.inl (.inr (.inr rfl))))
    have hres : OwnW (w7.setCell ⟨A.p, 5, none⟩ (.int .i64 ((M : Int) - m))) w1.heap.size v5 ((S i ++ Hd i).take most) := by
      rw [← flatW_append, hlist] at hres8
      have e1 : n + m = ((S i ++ Hd i).take most).length := by rw [← hlist, List.length_append, HTL.out, List.length_take, ← HNN.out, Nat.min_eq_left hmH]
      show _ = _ ∧ _
      rw [← e1]
      exact own_mono hres8 (by omega)
    have HW := Lib.hid hwent
    have HRS := Lib.hid hres
    clear hwent hres hQall hall hfin hlist hdm hmu hub ho8 hres8 hres7 hres6 hown8 hown7 hnot7 hb8 hM hM1 hO6 hB6 hB56 hB36 hm7 hs7 hf7 hfo7 ho7 hz7 hb7 hrun7 hk7 hk6 hk5d hk5 hl5
    go_wp2_with fail
    go_ret2
    exact ⟨_, rfl, HRS.out, HW.out⟩
set_option maxHeartbeats 1000000 in
set_option maxRecDepth 100000 in
theorem take_all {A : Pa} {w : World} {Qs : Nat → Prop} {hv : Nat → Option Value} {S Hd : Rows} (h : Pl A false w Qs hv S Hd) (i : Nat) (hi : i < A.n) (most : Nat) (hm1 : 1 ≤ most) (hm2 : most ≤ 100000) (hlen : (S i).length + (Hd i).length ≤ 30000) (hmany : many Hd A.n ≤ 1000000) (ccond : 0 < (S i).length ∧ (S i).length ≤ most) :
    Calls Tryz.prog 13 #[.pointer (some ⟨A.p, 0, none⟩), .int .i64 (i : Int), .int .i64 (most : Int)] w fun e w' => ∃ v, e = .returned (.tuple #[v, .int .i64 0]) ∧ OwnW w' w.heap.size v ((S i ++ Hd i).take most) ∧ Went A false (allQ A Qs hv) w w' (upd S i ((S i).drop most)) (upd Hd i ((Hd i).drop (most - (S i).length))) (fun k => v.ownBlock = some k) := by
  have HT := Lib.hid (there_in h i hi)
  have HR := Lib.hid (read_any h i hi (by omega))
  have H := Lib.hid h
  have hmz : ((most : Int) == 0) = false := by
    have : ¬ (most : Int) = 0 := by omega
    simpa using this
  have hmn : decide ((most : Int) < 0) = false := by
    simp
  have HMY := Lib.hid hmany
  obtain ⟨N, hN⟩ : ∃ N, N = (S i).length := ⟨_, rfl⟩
  obtain ⟨hn, hnn⟩ : ∃ hn, hn = (Hd i).length := ⟨_, rfl⟩
  obtain ⟨n, hne⟩ : ∃ n, n = min most N := ⟨_, rfl⟩
  obtain ⟨m, hme⟩ : ∃ m, m = min (most - n) hn := ⟨_, rfl⟩
  have hmin1 : min (most : Int) (N : Int) = (n : Int) := by omega
  have hmin2 : min ((most : Int) - (n : Int)) (hn : Int) = (m : Int) := by omega
  have hnN : n ≤ N := by omega
  have hnM : n ≤ most := by omega
  have hmH : m ≤ hn := by omega
  have hsub1 : IntKind.i64.wrap ((most : Int) - (n : Int)) = (most : Int) - n := IntWalk.i64_in _ (by omega)
  obtain ⟨va, vc, hgv, hlv⟩ : ∃ va vc, (hv i).getD (.slice none 0 0) = .slice va hn vc ∧ hn ≤ vc := by
    obtain ⟨v, hve, hO, _⟩ := h.heldAt i hi
    obtain ⟨a, c, e, hc, _⟩ := own_shape hO
    exact ⟨a, c, by rw [hve, e, hnn], by rw [hnn]; exact hc⟩
  rw [← hN] at hlen ccond
  rw [← hnn] at hlen
  have hn0 : 0 < n ∧ n = N := by omega
  have hdec : decide (0 < n) = true := by simpa using hn0.1
  obtain rfl : N = n := hn0.2.symm
  clear hn0
  have HVL : Hid (∀ (W : World) (Q : Nat → Prop) (S3 : Rows), Pl A false W Q hv S3 Hd → Lies W va (flatW (Hd i))) := Lib.hid (fun W Q S3 hp => by
    obtain ⟨v, hve, hO, _⟩ := hp.heldAt i hi
    obtain ⟨a, c, e, _, hL, _, _⟩ := own_shape hO
    rw [hgv, e] at hve
    injection hve with e1
    rw [e1]
    exact hL)
  have HGV := Lib.hid hgv
  have HNN := Lib.hid hnn
  have HN := Lib.hid hN
  have HNE := Lib.hid hne
  have HME := Lib.hid hme
  clear h hmany hgv hnn hN hne hme ccond
  go_enter Tryz.func13, Tryz.ntmps13
  go_wp2_with fail
  refine HT.out.mono ?_
  rintro e1 w1 ⟨rfl, rfl⟩
  go_wp2_with fail
  refine HR.out.mono ?_
  rintro e2 w2 ⟨v2, rfl, hO2, hB2⟩
  obtain ⟨oa, oc, rfl, hoc, hL2, hob2, _⟩ := own_shape hO2
  rw [← HN.out] at hoc ⊢
  have HL2 := Lib.hid hL2
  have HB2 := Lib.hid hB2
  have HOB2 := Lib.hid hob2
  have H2 := Lib.hid (H.out.later hB2)
  have HO2 := Lib.hid hO2
  clear hL2 hB2 hob2 hO2
  obtain ⟨a2, hslo, hslL⟩ := slice_low oa N oc N hnN hoc
  have HSLL := Lib.hid hslL
  obtain ⟨a3, hslh, hslM⟩ := slice_low va hn vc m hmH hlv
  have HSLM := Lib.hid hslM
  clear hslL hslM
  have hnn0 : N - N = 0 := Nat.sub_self _
  rw [hnn0] at hslo
  clear hnn0
  go_wp2_with fail
  have hw := write_nil H2.out i hi a2 (oc - N) (fun e => by
    have := HN.out
    rw [e] at this
    simp at this
    simp at hdec
    omega)
  have hdn : (S i).drop most = [] := List.drop_of_length_le (by have := HN.out; have := HNE.out; omega)
  rw [← hdn] at hw
  clear hdn
  refine hw.mono ?_
  rintro e3 w3 ⟨rfl, Q3, hp3, hQ3, ho3⟩
  have HQ4 := Lib.hid hQ3
  have HB4 := Lib.hid ho3
  obtain ⟨S3, hS3⟩ : ∃ S3, S3 = upd S i ((S i).drop most) := ⟨_, rfl⟩
  have HSE3 : Hid (upd S i ((S i).drop most) = S3) := Lib.hid hS3.symm
  rw [← hS3] at hp3
  have HP3 := Lib.hid hp3
  have HL4 := Lib.hid (HL2.out.only ho3 (fun g hg hm => by
    have h1 := (HOB2.out g hg).1
    simp only [List.mem_cons, List.not_mem_nil, or_false] at hm
    rcases hm with rfl | rfl
    · have := H.out.lt _ (.inl H.out.cm)
      omega
    · have := H.out.lt A.sm (.inr (.inl (.inr (.inl rfl))))
      omega))
  clear hp3 hQ3 ho3 hS3
  have hl3 := HP3.out.heldAt' i hi
  rw [HGV.out] at hl3
  have k4 := HP3.out.pool.cell 4
  simp at k4
  go_wp2_with fail
  have htl : ((S i).take N).length = N := by rw [List.length_take, ← HN.out]; omega
  have hC1 := clone_walkers oa oc ((S i).take N) w3.drew (by have := HL4.out.take (N * 7); rw [flatW_take _ _ (H.out.okS i hi)] at this; exact this) (sub_ok (H.out.okS i hi) N).1 (by rw [htl]; omega)
  rw [htl] at hC1
  have HC1 := Lib.hid hC1
  have HTL := Lib.hid htl
  have hsh1 := fun W => slice_high oa N oc N (by omega) W
  have hsh2 := fun W => slice_high va hn vc m (by omega) W
  have hmlen : (flatW ((Hd i).take m)).length = m * 7 := by rw [flatW_length _ (sub_ok (H.out.okH i hi) m).1, List.length_take, ← HNN.out, Nat.min_eq_left hmH]
  have HML := Lib.hid hmlen
  have H1m := Lib.hid (oneCell_flatW ((Hd i).take m))
  have hpl := HP3.out.pool.lt
  have hl3d := HP3.out.drew.heldAt' i hi
  rw [HGV.out] at hl3d
  have hk3 : w3.drew.cell? ⟨A.p, 4, none⟩ = some (.map (some A.hm)) := k4
  have hcap : 30000 ≤ 1000000 := by decide
  clear hC1 htl hmlen hmin1 hmin2 hl3 k4
  go_region_held3 (fun w' => w'.cell? ⟨A.p, 4, none⟩ = some (.map (some A.hm))) (first | exact hk3 | exact hk4 | exact hk5) ((first | (go_at_call 26; refine HC1.out.mono ?_; rintro e4 w4 ⟨v4, rfl, hO4, hB4⟩; have hB34 : Below w3.heap.size w3 w4 := ((Below.refl _ w3).drew).trans hB4; have hk4 := (hB34.cell (p := ⟨A.p, 4, none⟩) hpl).trans hk3; have hl4 := (HP3.out.later hB34).heldAt' i hi; rw [HGV.out] at hl4; dsimp only) | (refine step_append_any rfl (.tmp 62) (.tmp 70) rfl w3.heap.size v4 N (flatW ((S i).take N)) (by simp [Act.eval]) (by have := HTL.out; rw [OwnW, this] at hO4; exact hO4) va m vc (flatW ((Hd i).take m)) (by simp [Act.eval]) HML.out (by have := (HVL.out w4 _ _ (HP3.out.later hB34)).take (m * 7); rw [flatW_take _ _ (H.out.okH i hi)] at this; exact this) H1m.out (by omega) hB34.size ?_; intro v5 w5 hown5 hg5 hb5; have hB35 : Below w3.heap.size w3 w5 := hB34.grown hg5 hB34.size (fun q hq => (World.ownsRow.lt hO4 q hq).1); have hk5 := (hB35.cell (p := ⟨A.p, 4, none⟩) hpl).trans hk3)))
  all_goals
    have HOW5 := Lib.hid hown5
    have HB35 := Lib.hid hB35
    have HLV5 := Lib.hid (World.ownsRow.lt hown5)
    have hhd : ((Hd i).drop m).length = hn - m := by rw [List.length_drop, ← HNN.out]
    have hP5 := HP3.out.later hB35
    have hC2 := clone_walkers a3 (vc - m) ((Hd i).drop m) w5.drew (HSLM.out w5 (Hd i) (H.out.okH i hi) HNN.out.symm (HVL.out w5 _ _ hP5)) (sub_ok (H.out.okH i hi) m).2 (by rw [hhd]; omega)
    rw [hhd] at hC2
    have HC2 := Lib.hid hC2
    have hl5 := hP5.drew.heldAt' i hi
    rw [HGV.out] at hl5
    have hk5d : w5.drew.cell? ⟨A.p, 4, none⟩ = some (.map (some A.hm)) := hk5
    have hhm : A.hm < w3.heap.size := HP3.out.lt _ (.inr (.inl (.inr (.inr rfl))))
    have hphm : A.p ∉ [A.hm] := by
      obtain ⟨_, hmh, _, _⟩ := HP3.out.held
      have := map_ne_blk hmh HP3.out.pool
      simpa using this.symm
    have HPH := Lib.hid hphm
    clear hC2 hhd hP5 hphm hown5 hg5 hb5 hB35 hB34 hO4 hB4 hk4 hk3 hl3d hsh1 hsh2 hslo
    go_wp2_with fail
    go_region_held3 (fun w' => w'.cell? ⟨A.p, 4, none⟩ = some (.map (some A.hm))) (first | exact hk5d | exact hk6 | exact hk7) ((go_at_call 26; refine HC2.out.mono ?_; rintro e6 w6 ⟨v6, rfl, hO6, hB6⟩; have hB56 : Below w5.heap.size w5 w6 := ((Below.refl _ w5).drew).trans hB6; have hB36 := HB35.out.trans (hB56.mono HB35.out.size); have hk6 := (hB36.cell (p := ⟨A.p, 4, none⟩) hpl).trans (HP3.out.pool.cell 4); obtain ⟨w7, f7, hrun7, hm7, hs7, hf7, hfo7, ho7, hz7⟩ := HP3.out.hold (w1 := w6) (hB36.block _ hhm) i hi v6; have hb7 := (HP3.out.pool.below hB36 hpl).only ho7 HPH.out; have hk7 := hb7.cell 4; simp at hk7; simp at hk6; dsimp only))
    obtain ⟨M, hM⟩ : ∃ M, M = many Hd A.n := ⟨_, rfl⟩
    have hM1 : M ≤ 1000000 := by rw [hM]; exact HMY.out
    have hmM : m ≤ M := by
      have := len_le_many Hd i A.n hi
      rw [← hM, ← HNN.out] at this
      omega
    rw [← hM] at hb7
    have k5 := hb7.cell 5
    have f5 := hb7.frozen 5
    simp at k5
    have hsub : IntKind.i64.wrap ((M : Int) - (m : Int)) = (M : Int) - m := IntWalk.i64_in _ (by omega)
    have hb8 := hb7.set 5 (.int .i64 ((M : Int) - m))
    have hz5 := HB35.out.size
    have hz56 := hB56.size
    have hnot7 : ∀ (u : Value) (q : Nat), w3.heap.size ≤ q → q ∉ [A.hm] := fun u q hq hmm => by
      rw [List.mem_singleton.1 hmm] at hq
      omega
    have hown7 := own_only hO6 ho7 (fun q hq => hnot7 v6 q (by have := (World.ownsRow.lt hO6 q hq).1; simp at this; omega))
    have hown8 := own_past hown7 hb7 (by decide) 5 (.int .i64 ((M : Int) - m))
    have hres6 := own_later HOW5.out hB56
    have hres7 := own_only hres6 ho7 (fun q hq => hnot7 v5 q (HLV5.out q hq).1)
    have hres8 := own_past hres7 hb7 (by decide) 5 (.int .i64 ((M : Int) - m))
    have ho8 : Only [A.p, A.hm] w3 (w7.setCell ⟨A.p, 5, none⟩ (.int .i64 ((M : Int) - m))) := ((Only.of_below hB36).trans (ho7.mono (by simp))).set (.inl (by simp)) _
    have hub : ∀ u k, some v6 = some u → u.ownBlock = some k → (∃ v0, hv i = some v0 ∧ v0.ownBlock = some k) ∨ w3.heap.size ≤ k := fun u k hu hk => by
      injection hu with hu
      rw [← hu] at hk
      have := (World.ownsRow.lt hO6 k hk).1
      simp at this
      exact .inr (by omega)
    have hmu := many_upd Hd i ((Hd i).drop m) A.n hi
    rw [← hM, List.length_drop, ← HNN.out] at hmu
    have hdm : (Hd i).drop m = (Hd i).drop (most - (S i).length) := by
      have h1 := HME.out
      have h2 := HNE.out
      have h3 := HN.out
      by_cases hc : most - (S i).length ≤ (Hd i).length
      · congr 1
        have := HNN.out
        omega
      · have := HNN.out
        rw [List.drop_of_length_le (by omega), List.drop_of_length_le (by omega)]
    have hlist : (S i).take N ++ (Hd i).take m = (S i ++ Hd i).take most := by
      rw [take_two, ← HN.out, ← HNN.out, ← HNE.out, ← HME.out]
    have hfin := HP3.out.holding hi ho8 (fun k hk => by
      simp only [List.mem_cons, List.not_mem_nil, or_false] at hk
      rcases hk with e1 | e1
      · exact .inl e1
      · exact .inr (.inl e1)) ((Hd i).drop m) (by
        have e1 : ((many (upd Hd i ((Hd i).drop m)) A.n : Nat) : Int) = (M : Int) - m := by omega
        rw [e1]
        simpa using hb8) (hm7.keep (Below.heap_setCell _ _ _ _ (map_ne_blk hm7 hb7))) hs7 (some v6) (own_mono hown8 (Nat.zero_le _)) hf7 hfo7 hub (sub_ok (H.out.okH i hi) m).2
    have hall := allQ_holding (A := A) (Qs := Q3) hub hi
    have hw2 := HB2.out.size
    have hw3 := HB4.out.size
    have hQall : ∀ k, allQ A Q3 hv k → allQ A Qs hv k ∨ w1.heap.size ≤ k := fun k hk => by
      rcases hk with hk | hk | hk
      · rcases HQ4.out k hk with h1 | h1
        · exact .inl (.inl h1)
        · exact .inr (by omega)
      · exact .inl (.inr (.inl hk))
      · exact .inl (.inr (.inr hk))
    have hwent : Went A false (allQ A Qs hv) w1 (w7.setCell ⟨A.p, 5, none⟩ (.int .i64 ((M : Int) - m))) (upd S i ((S i).drop most)) (upd Hd i ((Hd i).drop (most - (S i).length))) (fun k => v5.ownBlock = some k) := by
      rw [hdm, ← HSE3.out] at hfin
      refine ⟨_, _, hfin, fun k hk => ?_, fun k hk hq => ?_, ?_⟩
      · rcases hall k hk with h3 | h3
        · exact hQall k h3
        · exact .inr (by omega)
      · have hlt5 := HLV5.out k hk
        rcases hq with hq | hq | ⟨j, u, hj, hu, hq⟩
        · have := HP3.out.lt k (.inl hq)
          omega
        · have := HP3.out.lt k (.inr (.inl hq))
          omega
        · by_cases e : j = i
          · subst e
            rw [updv_same] at hu
            injection hu with hu
            rw [← hu] at hq
            have := (World.ownsRow.lt hO6 k hq).1
            simp at this
            omega
          · rw [updv_other _ e] at hu
            have := HP3.out.lt k (.inr (.inr ⟨j, u, hj, hu, hq⟩))
            omega
      · refine ((Upon.of_below (P := allQ A Qs hv) HB2.out).trans (Q := allQ A Qs hv) (Upon.of_only HB4.out (fun k hk => ?_)) (fun k hk => .inl hk)).trans (Q := allQ A Qs hv) (Upon.of_only ho8 (fun k hk => ?_)) (fun k hk => .inl hk)
        · simp only [List.mem_cons, List.not_mem_nil, or_false] at hk
          rcases hk with rfl | rfl
          · exact .inl (.inl H.out.cm)
          · exact .inl (.inr (.inl (.inr (.inl rfl))))
        · simp only [List.mem_cons, List.not_mem_nil, or_false] at hk
          rcases hk with rfl | rfl
          · exact .inl (.inr (.inl (.inl rfl)))
          · exact .inl (.inr (.inl (.inr (.inr rfl))))
    have hres : OwnW (w7.setCell ⟨A.p, 5, none⟩ (.int .i64 ((M : Int) - m))) w1.heap.size v5 ((S i ++ Hd i).take most) := by
      rw [← flatW_append, hlist] at hres8
      have e1 : N + m = ((S i ++ Hd i).take most).length := by rw [← hlist, List.length_append, HTL.out, List.length_take, ← HNN.out, Nat.min_eq_left hmH]
      show _ = _ ∧ _
      rw [← e1]
      exact own_mono hres8 (by omega)
    have HW := Lib.hid hwent
    have HRS := Lib.hid hres
    clear hwent hres hQall hall hfin hlist hdm hmu hub ho8 hres8 hres7 hres6 hown8 hown7 hnot7 hb8 hM hM1 hO6 hB6 hB56 hB36 hm7 hs7 hf7 hfo7 ho7 hz7 hb7 hrun7 hk7 hk6 hk5d hk5 hl5
    go_wp2_with fail
    go_ret2
    exact ⟨_, rfl, HRS.out, HW.out⟩
end Go.Proofs.YtfgjnpbffppocaaGreat.Pool
