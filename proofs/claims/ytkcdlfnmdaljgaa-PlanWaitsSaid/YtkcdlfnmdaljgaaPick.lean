/- plan.Pick: what it picks, at any slice of ints. -/
import Derived.Test.YtkcdlfnmdaljgaaIter
import Derived.RangeFuncBound
import Derived.RangeFuncNested
import Derived.Outline
namespace Go.Proofs.Ytkcdlfnmdaljgaa.Iter
open Go.RowKit Go.Shelf

attribute [local go_sem] Oper.semAt_some

def better (b x : Nat × Int) : Nat × Int := if b.2 < x.2 then x else b
def bestOf (l : List (Nat × Int)) : Nat × Int := l.foldl better (0, 0)
theorem bestOf_snoc (l : List (Nat × Int)) (x : Nat × Int) : bestOf (l ++ [x]) = better (bestOf l) x := by simp [bestOf]
theorem better_yes {b x : Nat × Int} (h : b.2 < x.2) : better b x = x := if_pos h
theorem better_no {b x : Nat × Int} (h : ¬ b.2 < x.2) : better b x = b := if_neg h

theorem boxed_at {W : World} {B : Nat} {t : TypeId} {v : Value} (h : B = W.heap.size) : Boxed (W.alloc (.cells #[v] t)) B t v := by subst h; exact Boxed.new W t v

/-- The six boxes of Pick. -/
structure PS (S : Nat) (a : Option Addr) (len cap : Nat) (s : Nat × Nat × Int) (W : World) : Prop where
  b0 : Boxed W S 3 (.int .i64 0)
  b1 : Boxed W (S + 1) 4 (.bool false)
  b2 : Boxed W (S + 1 + 1) 3 (.int .i64 (s.1 : Int))
  b3 : Boxed W (S + 1 + 1 + 1) 3 (.int .i64 (s.2.1 : Int))
  b4 : Boxed W (S + 1 + 1 + 1 + 1) 3 (.int .i64 s.2.2)
  b5 : Boxed W (S + 1 + 1 + 1 + 1 + 1) 22 (.slice a len cap)
theorem PS.own (S : Nat) (a : Option Addr) (len cap : Nat) {β : Type} (f : β → Nat × Nat × Int) : Own (fun s W => PS S a len cap (f s) W) := fun s X Y row hs hg hr =>
  ⟨boxed_own S _ (fun _ : Unit => .int .i64 0) () X Y row hs.b0 hg hr, boxed_own (S + 1) _ (fun _ : Unit => .bool false) () X Y row hs.b1 hg hr,
   boxed_own (S + 1 + 1) _ (fun _ : Unit => .int .i64 ((f s).1 : Int)) () X Y row hs.b2 hg hr, boxed_own (S + 1 + 1 + 1) _ (fun _ : Unit => .int .i64 ((f s).2.1 : Int)) () X Y row hs.b3 hg hr,
   boxed_own (S + 1 + 1 + 1 + 1) _ (fun _ : Unit => .int .i64 (f s).2.2) () X Y row hs.b4 hg hr, boxed_own (S + 1 + 1 + 1 + 1 + 1) _ (fun _ : Unit => .slice a len cap) () X Y row hs.b5 hg hr⟩
theorem PS.many {S : Nat} {a : Option Addr} {len cap : Nat} {s : Nat × Nat × Int} {W : World} (h : PS S a len cap s W) : PS S a len cap (s.1 + 1, s.2) (W.setCell ⟨S + 1 + 1, 0, none⟩ (.int .i64 ((s.1 : Int) + 1))) :=
  ⟨h.b0.other (by omega) _, h.b1.other (by omega) _, by have := h.b2.set (.int .i64 ((s.1 : Int) + 1)); simpa using this, h.b3.other (by omega) _, h.b4.other (by omega) _, h.b5.other (by omega) _⟩
theorem PS.best {S : Nat} {a : Option Addr} {len cap : Nat} {s : Nat × Nat × Int} {W : World} (h : PS S a len cap s W) (x : Nat × Int) :
    PS S a len cap (s.1, x.1, x.2) ((W.setCell ⟨S + 1 + 1 + 1, 0, none⟩ (.int .i64 (x.1 : Int))).setCell ⟨S + 1 + 1 + 1 + 1, 0, none⟩ (.int .i64 x.2)) :=
  ⟨(h.b0.other (by omega) _).other (by omega) _, (h.b1.other (by omega) _).other (by omega) _, (h.b2.other (by omega) _).other (by omega) _,
   (h.b3.set _).other (by omega) _, (h.b4.other (by omega) _).set _, (h.b5.other (by omega) _).other (by omega) _⟩

/-- What Pick hands back, of the positive ones. -/
def pickOf (ys : List (Nat × Int)) (order : Int) : Int × Bool :=
  if ys = [] then (0, false) else if order % 16 = 0 then (((bestOf ys).1 : Int), true) else (((ys[((order % 16 - 1) % (ys.length : Int)).toNat]?.getD (0, 0)).1 : Int), true)
theorem pickOf_nil (order : Int) : pickOf [] order = (0, false) := rfl
theorem pickOf_best {ys : List (Nat × Int)} {order : Int} (h : ¬ ys = []) (h0 : order % 16 = 0) : pickOf ys order = (((bestOf ys).1 : Int), true) := by rw [pickOf, if_neg h, if_pos h0]
theorem pickOf_at {ys : List (Nat × Int)} {order : Int} (h : ¬ ys = []) (h0 : ¬ order % 16 = 0) : pickOf ys order = (((ys[((order % 16 - 1) % (ys.length : Int)).toNat]?.getD (0, 0)).1 : Int), true) := by rw [pickOf, if_neg h, if_neg h0]

theorem boxed_drew {W : World} {B : Nat} {t : TypeId} {v : Value} (h : Boxed W B t v) : Boxed W.drew B t v := h
theorem boxed_put {W : World} {B D : Nat} {t : TypeId} {v : Value} {o : Obj} (o' : Obj) (h : Boxed W B t v) (hK : W.heap[D]? = some o) (hc : o.isCells = false) : Boxed (W.putObj D o') B t v :=
  h.kept (grownBy_putObj' W D o') (fun e => by
    have e : B = D := by simpa using e
    subst e
    rw [show W.heap[B]? = _ from h] at hK
    cases hK
    cases hc)

theorem upto_prefix (zs : List Int) {k m : Nat} (h : k ≤ m) : upto zs k <+: upto zs m := by
  induction m with
  | zero => obtain rfl : k = 0 := by omega
            exact List.prefix_refl _
  | succ m ih =>
    by_cases e : k = m + 1
    · subst e; exact List.prefix_refl _
    · refine (ih (by omega)).trans ?_
      by_cases hp : 0 < zs[m]?.getD 0
      · rw [upto_yes zs m hp]; exact List.prefix_append _ _
      · rw [upto_no zs m hp]; exact List.prefix_refl _

set_option maxRecDepth 100000 in
set_option maxHeartbeats 4000000 in
theorem Pick_in (F : Fence) (n : Nat) (h3 : F.fn 7) (h5 : F.fn 15) (h7 : F.fn 16) (hro : F.round = none) (hn : 3 ≤ n) (a : Option Addr) (len cap : Nat) (zs : List Int) (order : Int) (ho : 0 ≤ order ∧ order ≤ 255) (hreach : len * 8 ≤ 140737488351232) (w : World) (hI : Ints w.heap.size w a len zs) :
    CallsIn F n Try.prog 7 #[.slice a len cap, .int .u8 order] w fun e W' => e = .returned (.tuple #[.int .i64 (pickOf (upto zs len) order).1, .bool (pickOf (upto zs len) order).2]) ∧ Below w.heap.size w W' := by
  have h1 : 1 ≤ n := by omega
  refine callsIn_of_wp_marks Try.func7 rfl h3 ?_ hro
  simp only [Try.ntmps7, List.size_toArray, List.length_cons, List.length_nil, Nat.reduceAdd, Nat.reduceSub, Array.replicate_succ, Array.replicate_zero, List.push_toArray, List.append_toArray, List.nil_append, List.cons_append]
  gi_wp2_with (gi_at_call 15; refine (some_in F (n - 1) h5 hro _ _ _ _).mono ?_; rintro e w' ⟨rfl, rfl⟩)
  have hps : PS w.heap.size a len cap (0, 0, 0) ((((((w.alloc (Obj.cells #[Value.int IntKind.i64 0] 3)).alloc (Obj.cells #[Value.bool false] 4)).alloc (Obj.cells #[Value.int IntKind.i64 0] 3)).alloc (Obj.cells #[Value.int IntKind.i64 0] 3)).alloc (Obj.cells #[Value.int IntKind.i64 0] 3)).alloc (Obj.cells #[Value.slice a len cap] 22)) := by
    refine ⟨?_, ?_, ?_, ?_, ?_, ?_⟩ <;> (repeat (first | (refine boxed_at ?_; (simp <;> omega); done) | refine Boxed.alloc ?_ _))
  obtain ⟨W0, hW0⟩ : ∃ W0, ((((((w.alloc (Obj.cells #[Value.int IntKind.i64 0] 3)).alloc (Obj.cells #[Value.bool false] 4)).alloc (Obj.cells #[Value.int IntKind.i64 0] 3)).alloc (Obj.cells #[Value.int IntKind.i64 0] 3)).alloc (Obj.cells #[Value.int IntKind.i64 0] 3)).alloc (Obj.cells #[Value.slice a len cap] 22)) = W0 := ⟨_, rfl⟩
  have hB0 : Below w.heap.size w W0 := by
    subst hW0
    exact (((((((Below.refl _ w).alloc (Nat.le_refl _) _).alloc (by simp) _).alloc (by simp; omega) _).alloc (by simp; omega) _).alloc (by simp; omega) _).alloc (by simp; omega) _)
  have hsz : W0.heap.size = w.heap.size + 1 + 1 + 1 + 1 + 1 + 1 := by subst hW0; simp
  rw [hW0] at hps ⊢
  refine wpIn_rangeFunc_ownG hro h1 (gf := 16) (lb := #[.pointer (some ⟨w.heap.size + 1 + 1 + 1 + 1 + 1, 0, none⟩)]) rfl h7 (enters_of Try.func16 (by kernel_rfl) rfl)
    (some_stops F (n - 1) h7 hro (by omega) (w.heap.size + 1 + 1 + 1 + 1 + 1) w.heap.size a len cap zs hreach W0 (by omega) hps.b5.cell (by omega) (hI.below hB0)) kept_t (kept_b (by omega) (by omega)) (Below.refl _ _) (fun _ => rfl)
    (fun pre W => PS w.heap.size a len cap (pre.length, bestOf pre) W ∧ Below w.heap.size w W)
    (fun _ _ _ => False)
    (OwnFrom.and (Own.from (PS.own _ _ _ _ (fun pre => (pre.length, bestOf pre))) _) (ownFrom_below (Nat.le_refl _) (by omega)))
    (fun _ _ _ _ _ hs _ _ => hs)
    ⟨hps, hB0⟩
    (fun x => { tmps := #[.slice a len cap, .int .u8 order, undef, undef, .pointer (some ⟨w.heap.size, 0, none⟩), .pointer (some ⟨w.heap.size + 1, 0, none⟩), .pointer (some ⟨w.heap.size + 1 + 1, 0, none⟩), .pointer (some ⟨w.heap.size + 1 + 1 + 1, 0, none⟩), .pointer (some ⟨w.heap.size + 1 + 1 + 1 + 1, 0, none⟩), .int .i64 (x.1 : Int), .int .i64 x.2, undef, undef, undef, .slice a len cap, .func (.func 16) #[] #[.pointer (some ⟨w.heap.size + 1 + 1 + 1 + 1 + 1, 0, none⟩)], .int .i64 (x.1 : Int), .int .i64 x.2, undef, undef, undef, undef, undef, undef, undef, undef, undef, undef, undef, undef, undef, undef, undef, undef, undef, undef, undef, undef, undef, undef, undef, undef, undef, undef, undef, undef, undef, undef, undef, undef], defers := [] }) ?assign ?body ?done ?stop
  case assign =>
    intro l x W K hK
    gi_wp2
    exact hK
  case body =>
    rintro l pre x W ⟨hp, hB⟩ hlt
    have c2 := hp.b2.cell
    have f2 := hp.b2.frozen
    have c3 := hp.b3.cell
    have c4 := hp.b4.cell
    have f3 := hp.b3.frozen
    have f4 := hp.b4.frozen
    have hlen : pre.length ≤ 140737488351232 := by omega
    gi_wp2
    · have hx : (bestOf pre).2 < x.2 := by assumption
      refine ⟨(((KeepsOthers.setCell _ _ _).trans (KeepsOthers.setCell _ _ _)).trans (KeepsOthers.setCell _ _ _)).from _, ⟨(((Below.refl w.heap.size W).setCell (p := ⟨w.heap.size + 1 + 1, 0, none⟩) (by simp; omega) _).setCell (p := ⟨w.heap.size + 1 + 1 + 1, 0, none⟩) (by simp; omega) _).setCell (p := ⟨w.heap.size + 1 + 1 + 1 + 1, 0, none⟩) (by simp; omega) _, ?_⟩, ?_, ((hB.setCell (p := ⟨w.heap.size + 1 + 1, 0, none⟩) (by simp; omega) _).setCell (p := ⟨w.heap.size + 1 + 1 + 1, 0, none⟩) (by simp; omega) _).setCell (p := ⟨w.heap.size + 1 + 1 + 1 + 1, 0, none⟩) (by simp; omega) _⟩
      · rw [hp.b5.cell]; exact (hp.many.best x).b5.cell
      · have := hp.many.best x
        simpa [bestOf_snoc, better_yes hx] using this
    · have hx : x.2 ≤ (bestOf pre).2 := by assumption
      refine ⟨(KeepsOthers.setCell _ _ _).from _, ⟨(Below.refl w.heap.size W).setCell (p := ⟨w.heap.size + 1 + 1, 0, none⟩) (by simp; omega) _, ?_⟩, ?_, hB.setCell (p := ⟨w.heap.size + 1 + 1, 0, none⟩) (by simp; omega) _⟩
      · rw [hp.b5.cell]; exact hp.many.b5.cell
      · have := hp.many
        rw [bestOf_snoc, better_no (by omega)]
        simpa using this
  case done =>
    rintro D ys W hD hys ⟨hp, hB⟩ hK
    have hyl : ys.length ≤ len := by rw [hys]; exact upto_length _ _
    have HY := Lib.hid hys
    clear hys
    have c2 := hp.b2.cell
    have f0 := hp.b0.frozen
    have f1 := hp.b1.frozen
    have c0 := hp.b0.cell
    have c1 := hp.b1.cell
    have f2 := hp.b2.frozen
    have c3 := hp.b3.cell
    have c4 := hp.b4.cell
    have f3 := hp.b3.frozen
    have f4 := hp.b4.frozen
    obtain ⟨ho0, ho1⟩ := ho
    by_cases hnil : ys = []
    · subst hnil
      have HP := Lib.hid hp
      clear hp
      gi_wp2
      gi_region
      all_goals
        gi_wp2
        have hK' := ((KeepsOthers.setCell W ⟨w.heap.size, 0, none⟩ (.int .i64 0)).trans (KeepsOthers.setCell _ ⟨w.heap.size + 1, 0, none⟩ (.bool false))).same D _ hK rfl
        have g0 := (boxed_put (.deferred none) (boxed_drew ((HP.out.b0.set (.int .i64 0)).other (B' := w.heap.size + 1) (by omega) (.bool false))) hK' rfl).cell
        have g1 := (boxed_put (.deferred none) (boxed_drew ((HP.out.b1.other (B' := w.heap.size) (by omega) (.int .i64 0)).set (.bool false))) hK' rfl).cell
        refine ⟨by simp, .inl ⟨_, _, rfl, run_takeDeferred hK', ?_⟩⟩
        refine ⟨.tuple #[.int .i64 0, .bool false], ?_, ?_, ?_⟩
        · simp [results, Try.f7, go_sem, g0, g1, bestOf]
        · rw [← HY.out]; rfl
        · exact (((hB.setCell (p := ⟨w.heap.size, 0, none⟩) (by simp) _).setCell (p := ⟨w.heap.size + 1, 0, none⟩) (by simp) _).drew).trans (belowK_b (w := w) (Nat.le_refl _) _ D _ _ (by omega) hK' rfl rfl)
    have hpos : 1 ≤ ys.length := List.length_pos_iff.2 hnil
    have hpos0 : 0 < ys.length := hpos
    by_cases hz : order % 16 = 0
    · have e1 : ((ys.length : Int) == 0) = false := by simpa using hnil
      have e2 : (order % 16 == 0) = true := beq_iff_eq.2 hz
      have HZ := Lib.hid hz
      clear hz
      have HP := Lib.hid hp
      clear hp
      gi_wp2
      gi_region
      all_goals
        gi_wp2
        have hK' := ((KeepsOthers.setCell W ⟨w.heap.size, 0, none⟩ (.int .i64 ((bestOf ys).1 : Int))).trans (KeepsOthers.setCell _ ⟨w.heap.size + 1, 0, none⟩ (.bool true))).same D _ hK rfl
        have g0 := (boxed_put (.deferred none) (boxed_drew ((HP.out.b0.set (.int .i64 ((bestOf ys).1 : Int))).other (B' := w.heap.size + 1) (by omega) (.bool true))) hK' rfl).cell
        have g1 := (boxed_put (.deferred none) (boxed_drew ((HP.out.b1.other (B' := w.heap.size) (by omega) (.int .i64 ((bestOf ys).1 : Int))).set (.bool true))) hK' rfl).cell
        refine ⟨by simp, .inl ⟨_, _, rfl, run_takeDeferred hK', ?_⟩⟩
        refine ⟨.tuple #[.int .i64 ((bestOf ys).1 : Int), .bool true], ?_, ?_, ?_⟩
        · simp [results, Try.f7, go_sem, g0, g1]
        · rw [← HY.out, pickOf_best hnil HZ.out]
        · exact (((hB.setCell (p := ⟨w.heap.size, 0, none⟩) (by simp) _).setCell (p := ⟨w.heap.size + 1, 0, none⟩) (by simp) _).drew).trans (belowK_b (w := w) (Nat.le_refl _) _ D _ _ (by omega) hK' rfl rfl)
    · have e1 : ((ys.length : Int) == 0) = false := by simpa using hnil
      have e2 : (order % 16 == 0) = false := beq_eq_false_iff_ne.2 hz
      have hz1 : 1 ≤ order % 16 := by omega
      have HZ := Lib.hid hz
      clear hz
      have HP := Lib.hid hp
      clear hp
      gi_wp2_with (gi_at_call 15; refine (some_in F (n - 1) h5 hro _ _ _ _).mono ?_; rintro e w' ⟨rfl, rfl⟩)
      obtain ⟨q, hq, hql⟩ : ∃ q : Nat, (q : Int) = (order % 16 - 1) % (ys.length : Int) ∧ q < ys.length :=
        ⟨((order % 16 - 1) % (ys.length : Int)).toNat, Int.toNat_of_nonneg (Int.emod_nonneg _ (by omega)), by have := Int.emod_lt_of_pos (order % 16 - 1) (show (0 : Int) < ys.length by omega); omega⟩
      have HQ := Lib.hid hq
      rw [← hq]
      clear hq
      have hDs := (Array.getElem?_eq_some_iff.1 hK).1
      obtain ⟨W1, hW1⟩ : ∃ W1, ((W.alloc (Obj.cells #[Value.int IntKind.i64 q] 3)).alloc (Obj.cells #[Value.slice a len cap] 22)) = W1 := ⟨_, rfl⟩
      have hsz1 : W1.heap.size = W.heap.size + 1 + 1 := by subst hW1; simp
      have hB1 : Below w.heap.size w W1 := by
        subst hW1
        exact ((hB.alloc (by omega) _).alloc (by simp; omega) _)
      have p0 : Boxed W1 w.heap.size 3 (.int .i64 0) := by subst hW1; exact (HP.out.b0.alloc _).alloc _
      have p1 : Boxed W1 (w.heap.size + 1) 4 (.bool false) := by subst hW1; exact (HP.out.b1.alloc _).alloc _
      have pL : Boxed W1 W.heap.size 3 (.int .i64 (q : Int)) := by subst hW1; exact (Boxed.new W _ _).alloc _
      have pS : Boxed W1 (W.heap.size + 1) 22 (.slice a len cap) := by subst hW1; exact boxed_at (by simp)
      have hK1 : W1.heap[D]? = some (.deferred (some [])) := by subst hW1; exact (Below.heap_alloc _ _ _ (by simp; omega)).trans ((Below.heap_alloc _ _ _ hDs).trans hK)
      rw [hW1]
      have hIx : ∀ c : Code, OwnFrom W1.heap.size (fun (pre : List (Nat × Int)) (V : World) => (c = .ret ∧ ∃ ini last, pre = ini ++ [last] ∧ ini.length = q ∧ Boxed V w.heap.size 3 (.int .i64 (last.1 : Int)) ∧ Boxed V (w.heap.size + 1) 4 (.bool true) ∧ V.heap[D]? = some (.deferred (some []))) ∧ Below w.heap.size w V) := fun c => by
        refine OwnFrom.and (fun s A B row hs hg hr => ?_) (ownFrom_below (Nat.le_refl _) (by omega))
        obtain ⟨hc, ini, last, e1, e2, e3, e4, e5⟩ := hs
        have hrr : ∀ r, row = some r → ∃ o : Obj, A.heap[r]? = some o ∧ o.isCells = false := fun r e => (hr r e).2
        refine ⟨hc, ini, last, e1, e2, boxed_own _ _ (fun _ : Unit => .int .i64 (last.1 : Int)) () _ _ _ e3 hg hrr, boxed_own _ _ (fun _ : Unit => .bool true) () _ _ _ e4 hg hrr, ?_⟩
        exact (hg.block D (Array.getElem?_eq_some_iff.1 e5).1 (fun e => by have := (hr D e.symm).1; omega)).trans e5
      have hI1 : OwnFrom W1.heap.size (fun (pre : List (Nat × Int)) (V : World) => (pre.length ≤ q ∧ Boxed V w.heap.size 3 (.int .i64 0) ∧ Boxed V (w.heap.size + 1) 4 (.bool false) ∧ Boxed V W.heap.size 3 (.int .i64 ((q : Int) - pre.length)) ∧ Boxed V (W.heap.size + 1) 22 (.slice a len cap) ∧ V.heap[D]? = some (.deferred (some []))) ∧ Below w.heap.size w V) := by
        refine OwnFrom.and (fun s A B row hs hg hr => ?_) (ownFrom_below (Nat.le_refl _) (by omega))
        obtain ⟨e0, e1, e2, e3, e4, e5⟩ := hs
        have hrr : ∀ r, row = some r → ∃ o : Obj, A.heap[r]? = some o ∧ o.isCells = false := fun r e => (hr r e).2
        refine ⟨e0, boxed_own _ _ (fun _ : Unit => .int .i64 0) () _ _ _ e1 hg hrr, boxed_own _ _ (fun _ : Unit => .bool false) () _ _ _ e2 hg hrr, boxed_own _ _ (fun _ : Unit => .int .i64 ((q : Int) - s.length)) () _ _ _ e3 hg hrr, boxed_own _ _ (fun _ : Unit => .slice a len cap) () _ _ _ e4 hg hrr, ?_⟩
        exact (hg.block D (Array.getElem?_eq_some_iff.1 e5).1 (fun e => by have := (hr D e.symm).1; omega)).trans e5
      refine wpIn_rangeFunc_ownG hro h1 (gf := 16) (lb := #[.pointer (some ⟨W.heap.size + 1, 0, none⟩)]) rfl h7 (enters_of Try.func16 (by kernel_rfl) rfl)
        (some_stops F (n - 1) h7 hro (by omega) (W.heap.size + 1) w.heap.size a len cap zs hreach W1 (by omega) pS.cell (by omega) (hI.below hB1)) kept_t (kept_b (by omega) (by omega)) (Below.refl _ _) (fun _ => rfl)
        _ (fun c pre V => (c = .ret ∧ ∃ ini last, pre = ini ++ [last] ∧ ini.length = q ∧ Boxed V w.heap.size 3 (.int .i64 (last.1 : Int)) ∧ Boxed V (w.heap.size + 1) 4 (.bool true) ∧ V.heap[D]? = some (.deferred (some []))) ∧ Below w.heap.size w V)
        hI1 hIx ⟨⟨by simp, p0, p1, by simpa using pL, pS, hK1⟩, hB1⟩
        (fun x => { tmps := #[.slice a len cap, .int .u8 order, undef, undef, .pointer (some ⟨w.heap.size, 0, none⟩), .pointer (some ⟨w.heap.size + 1, 0, none⟩), .pointer (some ⟨w.heap.size + 1 + 1, 0, none⟩), .pointer (some ⟨w.heap.size + 1 + 1 + 1, 0, none⟩), .pointer (some ⟨w.heap.size + 1 + 1 + 1 + 1, 0, none⟩), undef, undef, .int .i64 (order % 16), .pointer (some ⟨W.heap.size, 0, none⟩), .int .i64 (x.1 : Int), .slice a len cap, .func (.func 16) #[] #[.pointer (some ⟨w.heap.size + 1 + 1 + 1 + 1 + 1, 0, none⟩)], undef, undef, undef, undef, undef, undef, undef, undef, undef, .int .u8 order, .int .u8 (order % 16), .int .i64 (order % 16), .int .i64 ys.length, .bool false, .bool false, .int .i64 (order % 16), .bool false, .bool false, undef, undef, undef, .int .i64 (order % 16), .int .i64 (order % 16 - 1), .int .i64 ys.length, .int .i64 q, .slice a len cap, .func (.func 16) #[] #[.pointer (some ⟨W.heap.size + 1, 0, none⟩)], .int .i64 (x.1 : Int), .int .i64 x.2, undef, undef, undef, undef, undef], defers := [] }) ?assign2 ?body2 ?done2 ?stop2
      case assign2 =>
        intro l x W K hK
        gi_wp2
        exact hK
      case body2 =>
        rintro l pre x V ⟨⟨hpq, q0, q1, qL, qS, qK⟩, hBV⟩ hlt
        have cL := qL.cell
        have fL := qL.frozen
        have d0 := q0.frozen
        have d1 := q1.frozen
        have k0 := q0.cell
        have k1 := q1.cell
        gi_wp2
        · have hx : ((q : Int) - pre.length == 0) = true := by assumption
          have hx : (q : Int) - pre.length = 0 := by simpa using hx
          refine ⟨((KeepsOthers.setCell _ _ _).trans (KeepsOthers.setCell _ _ _)).from _, ⟨rfl, pre, x, rfl, by omega, (q0.set _).other (by omega) _, (q1.other (by omega) _).set _, ((KeepsOthers.setCell V ⟨w.heap.size, 0, none⟩ (.int .i64 (x.1 : Int))).trans (KeepsOthers.setCell _ ⟨w.heap.size + 1, 0, none⟩ (.bool true))).same D _ qK rfl⟩, (hBV.setCell (p := ⟨w.heap.size, 0, none⟩) (by simp) _).setCell (p := ⟨w.heap.size + 1, 0, none⟩) (by simp) _⟩
        · have hx : ((q : Int) - pre.length == 0) = false := by assumption
          have hx : ¬ (q : Int) - pre.length = 0 := by simpa using hx
          have hWs : w.heap.size < W.heap.size := by omega
          refine ⟨(KeepsOthers.setCell _ _ _).from _, ⟨(Below.refl w.heap.size V).setCell (p := ⟨W.heap.size, 0, none⟩) (by simp; omega) _, ?_⟩, ⟨by simp; omega, q0.other (by omega) _, q1.other (by omega) _, ?_, qS.other (by omega) _, (KeepsOthers.setCell V ⟨W.heap.size, 0, none⟩ (.int .i64 ((q : Int) - pre.length - 1))).same D _ qK rfl⟩, hBV.setCell (p := ⟨W.heap.size, 0, none⟩) (by simp; omega) _⟩
          · rw [qS.cell]; exact (qS.other (by omega) _).cell
          · have := qL.set (.int .i64 ((q : Int) - pre.length - 1))
            simpa [show (q : Int) - ((pre.length : Int) + 1) = (q : Int) - pre.length - 1 by omega] using this
      case done2 =>
        rintro D2 zs2 V hD2 hys2 ⟨⟨hpq, q0, q1, qL, qS, qK⟩, hBV⟩ hK2
        have : zs2.length = ys.length := by rw [hys2, HY.out]
        omega
      case stop2 =>
        rintro D2 c pre V hD2 ⟨k, hk, hpre⟩ ⟨⟨rfl, ini, last, e1, e2, q0, q1, qK⟩, hBV⟩ hK2
        have hlast : ys[q]? = some last := by
          obtain ⟨r, hr⟩ := upto_prefix zs hk
          rw [HY.out, ← hr, ← hpre, e1, ← e2]
          simp
        have hne : D ≠ D2 := by omega
        have r0 := boxed_put (.deferred none) (boxed_put (.deferred none) q0 hK2 rfl) ((World.putObj_heap_other hne).trans qK) rfl
        have r1 := boxed_put (.deferred none) (boxed_put (.deferred none) q1 hK2 rfl) ((World.putObj_heap_other hne).trans qK) rfl
        have g0 := r0.cell
        have g1 := r1.cell
        gi_wp2
        refine ⟨by simp, .inl ⟨_, _, rfl, run_takeDeferred hK2, ?_⟩⟩
        refine ⟨by simp, .inl ⟨_, _, rfl, run_takeDeferred ((World.putObj_heap_other hne).trans qK), ?_⟩⟩
        refine ⟨.tuple #[.int .i64 (last.1 : Int), .bool true], ?_, ?_, ?_⟩
        · simp [results, Try.f7, go_sem, g0, g1]
        · rw [← HY.out, pickOf_at hnil HZ.out, ← HQ.out]
          simp [hlast]
        · exact (hBV.trans (belowK_b (w := w) (Nat.le_refl _) _ D2 _ _ (by omega) hK2 rfl rfl)).trans (belowK_b (w := w) (Nat.le_refl _) _ D _ _ (by omega) ((World.putObj_heap_other hne).trans qK) rfl rfl)
  case stop =>
    rintro D c pre W _ _ h _
    exact h.elim
end Go.Proofs.Ytkcdlfnmdaljgaa.Iter
