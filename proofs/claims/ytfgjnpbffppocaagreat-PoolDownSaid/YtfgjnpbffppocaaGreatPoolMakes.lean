/- Layer 24: makes. -/
import Derived.Test.YtfgjnpbffppocaaGreatPoolHolders
namespace Go.Proofs.YtfgjnpbffppocaaGreat.Pool
open Go.RowKit Go.Deep Go.Shelf Mem Crc Walk
open Go.Proofs.YtfgjnpbffppocaaGreat.Store (St Chg setC)

attribute [local go_sem] Oper.semAt_some
set_option maxHeartbeats 400000 in
set_option maxRecDepth 100000 in
theorem makes_room {A : Pa} {off : Bool} {w : World} {Qs : Nat → Prop} {hv : Nat → Option Value} {S Hd : Rows} (h : Pl A off w Qs hv S Hd) (hr : many Hd A.n < A.room) :
    Calls Tryz.prog 24 #[.pointer (some ⟨A.p, 0, none⟩)] w fun e w' => e = .returned (.int .i64 0) ∧ Below w.heap.size w w' := by
  have c5 := h.pool.cell 5
  have c2 := h.pool.cell 2
  simp at c5 c2
  have ht : decide (many Hd A.n < A.room) = true := by simp; omega
  clear h hr
  obtain ⟨M, hM⟩ : ∃ M, M = many Hd A.n := ⟨_, rfl⟩
  obtain ⟨rm, hR⟩ : ∃ rm, rm = A.room := ⟨_, rfl⟩
  rw [← hM] at c5 ht
  rw [← hR] at c2 ht
  clear hM hR
  refine (callsIn_wide (n := 5)).1 ?_
  refine callsIn_of_wp_marks Tryz.func24 rfl trivial ?_ rfl
  simp only [Tryz.ntmps24, List.size_toArray, List.length_cons, List.length_nil, Nat.reduceAdd, Nat.reduceSub, Array.replicate_succ, Array.replicate_zero, List.push_toArray, List.append_toArray, List.nil_append, List.cons_append]
  refine wpIn_wide.2 ?_
  go_wp2_with fail
  go_quiet (fail)
  go_wp2_with fail
  refine ⟨.int .i64 0, by simp [results, Tryz.f24, Tryz.results24, go_sem], rfl, ?_⟩
  exact ⟨rfl, rfl, rfl, Nat.le_refl _, fun _ _ => rfl⟩
/-- The two boxes of makes. -/
structure MS (S : Nat) (s : Nat × Nat) (W : World) : Prop where
  b0 : Boxed W S 3 (.int .i64 (s.1 : Int))
  b1 : Boxed W (S + 1) 3 (.int .i64 (s.2 : Int))
theorem boxed_at {W : World} {B : Nat} {t : TypeId} {v : Value} (h : B = W.heap.size) : Boxed (W.alloc (.cells #[v] t)) B t v := by subst h; exact Boxed.new W t v
theorem boxed_put {W : World} {B D : Nat} {t : TypeId} {v : Value} {o : Obj} (o' : Obj) (h : Boxed W B t v) (hK : W.heap[D]? = some o) (hc : o.isCells = false) : Boxed (W.putObj D o') B t v :=
  h.kept (grownBy_putObj' W D o') (fun e => by
    have e : B = D := by simpa using e
    subst e
    rw [show W.heap[B]? = _ from h] at hK
    cases hK
    cases hc)
theorem MS.own (S : Nat) {β : Type} (f : β → Nat × Nat) : Own (fun s W => MS S (f s) W) := fun s X Y row hs hg hr =>
  ⟨boxed_own S _ (fun _ : Unit => .int .i64 ((f s).1 : Int)) () X Y row hs.b0 hg hr, boxed_own (S + 1) _ (fun _ : Unit => .int .i64 ((f s).2 : Int)) () X Y row hs.b1 hg hr⟩
theorem MS.best {S : Nat} {s : Nat × Nat} {W : World} (h : MS S s W) (x : Nat × Nat) : MS S x ((W.setCell ⟨S, 0, none⟩ (.int .i64 (x.1 : Int))).setCell ⟨S + 1, 0, none⟩ (.int .i64 (x.2 : Int))) :=
  ⟨(h.b0.set _).other (by omega) _, (h.b1.other (by omega) _).set _⟩
/-- What holders hands back, ranged over. -/
theorem holders_stops (F : Fence) (n : Nat) (h8 : F.fn 48) (hro : F.round = none) (hn : 1 ≤ n) (Bs : Nat) {A : Pa} {off : Bool} {w0 w : World} {Qs : Nat → Prop} {hv : Nat → Option Value} {S Hd : Rows} (hP : Pl A off w0 Qs hv S Hd) (hmany : many Hd A.n ≤ 1000000) (hB : Below w0.heap.size w0 w) (hBs : Bs < w.heap.size)
    (hc : w.cell? ⟨Bs, 0, none⟩ = some (.pointer (some ⟨A.p, 0, none⟩))) :
    SeqStopsK F n Tryz.prog 48 #[.pointer (some ⟨Bs, 0, none⟩)] (fun x : Nat × Nat => #[Value.int .i64 (x.1 : Int), Value.int .i64 (x.2 : Int)]) (Kept w0.heap.size Bs) (fun ys => ys = holds Hd A.n)
      (fun pre => ∃ k, k ≤ A.n ∧ pre = holds Hd k) A.n w := fun l J Jx W hW _ _ hY h0 =>
  holders1_in F n h8 hro hn l Bs hP hmany J Jx (fun pre x W1 hj hl _ => hY pre x W1 hj hl) W (hB.trans (hW.mono hB.size)) ((hW.cell (p := ⟨Bs, 0, none⟩) hBs).trans hc) h0
set_option maxHeartbeats 400000 in
set_option maxRecDepth 100000 in
theorem makes_full {A : Pa} {off : Bool} {w : World} {Qs : Nat → Prop} {hv : Nat → Option Value} {S Hd : Rows} (h : Pl A off w Qs hv S Hd) (hr : A.room ≤ many Hd A.n) (hmany : many Hd A.n ≤ 1000000) 
    (R : Int → World → World → Prop) (hsp : ∀ W, Below w.heap.size w W → Calls Tryz.prog 11 #[.pointer (some ⟨A.p, 0, none⟩), .int .i64 ((bestOf (holds Hd A.n)).1 : Int)] W (fun e w' => ∃ x, e = .returned (.int .i64 x) ∧ R x W w'))
    (hR : ∀ x W w1, Below w.heap.size w W → R x W w1 → ∀ k, w.heap.size ≤ k → k < W.heap.size → w1.heap[k]? = W.heap[k]?) :
    Calls Tryz.prog 24 #[.pointer (some ⟨A.p, 0, none⟩)] w fun e w' => ∃ x W w1 D, e = .returned (.int .i64 x) ∧ Below w.heap.size w W ∧ R x W w1 ∧ w.heap.size ≤ D ∧ D < W.heap.size ∧ w1.heap[D]? = some (.deferred (some [])) ∧ w' = w1.putObj D (.deferred none) := by
  have c5 := h.pool.cell 5
  have c2 := h.pool.cell 2
  simp at c5 c2
  have ht : decide (many Hd A.n < A.room) = false := by simp; omega
  have H := Lib.hid h
  have HSP := Lib.hid hsp
  have HMY := Lib.hid hmany
  have HRK := Lib.hid hR
  clear h hr hsp hmany hR
  obtain ⟨M, hM⟩ : ∃ M, M = many Hd A.n := ⟨_, rfl⟩
  obtain ⟨rm, hR⟩ : ∃ rm, rm = A.room := ⟨_, rfl⟩
  rw [← hM] at c5 ht
  rw [← hR] at c2 ht
  clear hM hR
  have ht2 : ¬ M < rm := by simpa using ht
  refine (callsIn_wide (n := 5)).1 ?_
  refine callsIn_of_wp_marks Tryz.func24 rfl trivial ?_ rfl
  simp only [Tryz.ntmps24, List.size_toArray, List.length_cons, List.length_nil, Nat.reduceAdd, Nat.reduceSub, Array.replicate_succ, Array.replicate_zero, List.push_toArray, List.append_toArray, List.nil_append, List.cons_append]
  refine wpIn_wide.2 ?_
  go_wp2_with fail
  go_quiet (fail)
  obtain ⟨V, hV⟩ : ∃ V, V = w.drewN nq := ⟨_, rfl⟩
  have hBV : Below w.heap.size w V := by rw [hV]; exact ⟨rfl, rfl, rfl, Nat.le_refl _, fun _ _ => rfl⟩
  have hsV : V.heap.size = w.heap.size := by rw [hV]; rfl
  rw [← hV]
  have HBV := Lib.hid hBV
  have HSV := Lib.hid hsV
  clear hBV hsV hV
  go_wp2_with (go_at_call 29; refine (callsIn_wide.1 (holders_in Fence.wide 4 trivial rfl _ _)).mono ?_; rintro e w3 ⟨rfl, rfl⟩)
  obtain ⟨W0, hW0⟩ : ∃ W0, W0 = ((V.alloc (Obj.cells #[Value.int IntKind.i64 0] 3)).alloc (Obj.cells #[Value.int IntKind.i64 0] 3)).alloc (Obj.cells #[Value.pointer (some ⟨A.p, 0, none⟩)] 30) := ⟨_, rfl⟩
  have hps : MS V.heap.size (0, 0) W0 := by
    rw [hW0]
    refine ⟨?_, ?_⟩ <;> (repeat (first | (refine boxed_at ?_; (simp <;> omega); done) | refine Boxed.alloc ?_ _))
  have hbp : Boxed W0 (V.heap.size + 1 + 1) 30 (.pointer (some ⟨A.p, 0, none⟩)) := by rw [hW0]; exact boxed_at (by simp)
  have hBV0 : Below V.heap.size V W0 := by rw [hW0]; exact (((Below.refl _ V).alloc (Nat.le_refl _) _).alloc (by simp) _).alloc (by simp; omega) _
  have hB0 : Below w.heap.size w W0 := HBV.out.trans (hBV0.mono HBV.out.size)
  have hsz : W0.heap.size = V.heap.size + 1 + 1 + 1 := by rw [hW0]; simp
  have hVw : w.heap.size ≤ V.heap.size := HBV.out.size
  obtain ⟨V0, hV0⟩ : ∃ V0, V0 = V.heap.size := ⟨_, rfl⟩
  rw [← hW0]
  rw [← hV0] at hps hbp hBV0 hsz hVw ⊢
  clear hW0 hV0
  refine (wpIn_wide (n := 5)).1 ?_
  refine wpIn_rangeFunc_ownG rfl (by omega) (gf := 48) (lb := #[.pointer (some ⟨V0 + 1 + 1, 0, none⟩)]) rfl trivial (enters_of Tryz.func48 (by kernel_rfl) rfl)
    (holders_stops Fence.wide 4 trivial rfl (by omega) (V0 + 1 + 1) H.out HMY.out hB0 (by omega) hbp.cell) kept_t (kept_b (by omega) (by omega)) (Below.refl _ _) (fun _ => rfl)
    (fun pre W => (MS V0 (bestOf pre) W ∧ Boxed W (V0 + 1 + 1) 30 (.pointer (some ⟨A.p, 0, none⟩))) ∧ Below w.heap.size w W)
    (fun _ _ _ => False)
    (OwnFrom.and (Own.from (fun s X Y row hs hg hr => ⟨MS.own _ (fun pre => bestOf pre) s X Y row hs.1 hg hr, boxed_own (V0 + 1 + 1) _ (fun _ : Unit => .pointer (some ⟨A.p, 0, none⟩)) () X Y row hs.2 hg hr⟩) _) (ownFrom_below (Nat.le_refl _) (by omega)))
    (fun _ _ _ _ _ hs _ _ => hs)
    ⟨⟨hps, hbp⟩, hB0⟩
    (fun x => { tmps := #[.pointer (some ⟨A.p, 0, none⟩), undef, .int .i64 0, .pointer (some ⟨V0, 0, none⟩), .pointer (some ⟨V0 + 1, 0, none⟩), .int .i64 (x.1 : Int), .int .i64 (x.2 : Int), .pointer (some ⟨A.p, 0, none⟩), .pointer (some ⟨A.p, 0, none⟩), .pointer (some ⟨A.p, 5, none⟩), .int .i64 M, .pointer (some ⟨A.p, 0, none⟩), .pointer (some ⟨A.p, 0, none⟩), .pointer (some ⟨A.p, 2, none⟩), .int .i64 rm, .bool false, .pointer (some ⟨A.p, 0, none⟩), .func (.func 48) #[] #[.pointer (some ⟨V0 + 1 + 1, 0, none⟩)], .int .i64 (x.1 : Int), .int .i64 (x.2 : Int), undef, undef, undef, undef, undef, undef, undef, undef], defers := [] }) ?assign ?body ?done ?stop
  case assign =>
    intro l x W K hK
    gi_wp2
    exact hK
  case body =>
    rintro l pre x W ⟨⟨hp, hq⟩, hB⟩ hlt
    have c3 := hp.b0.cell
    have c4 := hp.b1.cell
    have f3 := hp.b0.frozen
    have f4 := hp.b1.frozen
    obtain ⟨b2, hb2⟩ : ∃ b2, b2 = (bestOf pre).2 := ⟨_, rfl⟩
    have HB2 := Lib.hid hb2
    rw [← hb2] at c4
    clear hb2
    by_cases hx : b2 < x.2
    · have hd : decide (b2 < x.2) = true := by simpa using hx
      gi_wp2
      refine ⟨((KeepsOthers.setCell _ _ _).trans (KeepsOthers.setCell _ _ _)).from _, ⟨((Below.refl w.heap.size W).setCell (p := ⟨V0, 0, none⟩) (by simp; omega) _).setCell (p := ⟨V0 + 1, 0, none⟩) (by simp; omega) _, ?_⟩, ⟨?_, (hq.other (by omega) _).other (by omega) _⟩, (hB.setCell (p := ⟨V0, 0, none⟩) (by simp; omega) _).setCell (p := ⟨V0 + 1, 0, none⟩) (by simp; omega) _⟩
      · rw [hq.cell]; exact ((hq.other (B' := V0) (by omega) _).other (B' := V0 + 1) (by omega) _).cell
      · rw [bestOf_snoc, better_yes (by rw [← HB2.out]; exact hx)]
        exact hp.best x
    · have hd : decide (b2 < x.2) = false := by simpa using hx
      gi_wp2
      refine ⟨(KeepsOthers.refl _).from _, ⟨Below.refl w.heap.size W, rfl⟩, ⟨?_, hq⟩, hB⟩
      rw [bestOf_snoc, better_no (by rw [← HB2.out]; exact hx)]
      exact hp
  case done =>
    rintro D ys W hD hys ⟨⟨hp, hq⟩, hB⟩ hK
    have c3 := hp.b0.cell
    rw [hys] at c3
    have HS := Lib.hid (HSP.out W hB)
    have HB := Lib.hid hB
    have HK := Lib.hid hK
    have HDD := Lib.hid (show w.heap.size ≤ D by omega)
    clear hp hq hB hys hK hD
    dsimp only
    go_wp2_with fail
    refine HS.out.mono ?_
    rintro e w1 ⟨x, rfl, hR⟩
    have hDW := (Array.getElem?_eq_some_iff.1 HK.out).1
    have hK1 := (HRK.out x W w1 HB.out hR D HDD.out hDW).trans HK.out
    have HK1 := Lib.hid hK1
    have HR := Lib.hid hR
    clear hR hK1 c3
    go_wp2_with fail
    refine ⟨by simp, .inl ⟨_, _, rfl, run_takeDeferred HK1.out, ?_⟩⟩
    refine ⟨.int .i64 x, by simp [results, Tryz.f24, Tryz.results24, go_sem], ?_⟩
    exact ⟨x, W, w1, D, rfl, HB.out, HR.out, HDD.out, hDW, HK1.out, rfl⟩
  case stop =>
    rintro D c pre W _ _ h _
    exact h.elim
end Go.Proofs.YtfgjnpbffppocaaGreat.Pool
