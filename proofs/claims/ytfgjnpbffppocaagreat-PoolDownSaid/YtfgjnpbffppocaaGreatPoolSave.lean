/- Layer 24: Save: of a nil pool; on a store that is down. -/
import Derived.Test.YtfgjnpbffppocaaGreatPoolOff
import Derived.RangeFuncCalls
import Derived.Outline
namespace Go.Proofs.YtfgjnpbffppocaaGreat.Pool
open Go.RowKit Go.Deep Go.Shelf Mem Crc Walk
open Go.Proofs.YtfgjnpbffppocaaGreat.Store (St Chg setC)

attribute [local go_sem] Oper.semAt_some
set_option maxHeartbeats 400000 in
set_option maxRecDepth 100000 in
theorem save_nilp (w : World) : Calls Tryz.prog 16 #[.pointer none] w fun e w' => e = .returned (.int .i64 0) ∧ Below w.heap.size w w' := by
  refine (callsIn_wide (n := 5)).1 ?_
  refine callsIn_of_wp_marks Tryz.func16 rfl trivial ?_ rfl
  simp only [Tryz.ntmps16, List.size_toArray, List.length_cons, List.length_nil, Nat.reduceAdd, Nat.reduceSub, Array.replicate_succ, Array.replicate_zero, List.push_toArray, List.append_toArray, List.nil_append, List.cons_append]
  refine wpIn_wide.2 ?_
  go_wp2_with fail
  have hb := (((Below.refl w.heap.size w).alloc (Nat.le_refl _) (.cells #[.pointer none] 30)).alloc (by simp) (.cells #[.int .i64 0] 31))
  have hbx : Boxed ((w.alloc (.cells #[.pointer none] 30)).alloc (.cells #[.int .i64 0] 31)) (w.heap.size + 1) 31 (.int .i64 0) := boxed_at (by simp)
  have g0 := hbx.cell
  refine ⟨.int .i64 0, by simp [results, Tryz.f16, Tryz.results16, go_sem, g0], rfl, hb⟩
/-- A holder: a shard that there is, and that holds walkers. -/
abbrev Hold (A : Pa) (Hd : Rows) : Type := { x : Nat × Nat // x.1 < A.n ∧ Hd x.1 ≠ [] }
/-- What holders hands back, ranged over, of holders. -/
theorem holders_told (F : Fence) (n : Nat) (h8 : F.fn 48) (hro : F.round = none) (hn : 1 ≤ n) (Bs : Nat) {A : Pa} {off : Bool} {w0 w : World} {Qs : Nat → Prop} {hv : Nat → Option Value} {S Hd : Rows} (hP : Pl A off w0 Qs hv S Hd) (hmany : many Hd A.n ≤ 1000000) (hB : Below w0.heap.size w0 w) (hBs : Bs < w.heap.size)
    (hc : w.cell? ⟨Bs, 0, none⟩ = some (.pointer (some ⟨A.p, 0, none⟩))) :
    SeqStopsK F n Tryz.prog 48 #[.pointer (some ⟨Bs, 0, none⟩)] (fun x : Hold A Hd => #[Value.int .i64 (x.1.1 : Int), Value.int .i64 (x.1.2 : Int)]) (Kept w0.heap.size Bs) (fun ys => ys.map Subtype.val = holds Hd A.n)
      (fun pre => ∃ k, k ≤ A.n ∧ pre.map Subtype.val = holds Hd k) A.n w := fun l J Jx W hW _ _ hY h0 => by
  refine (holders1_in F n h8 hro hn l Bs hP hmany (fun p W => ∃ p' : List (Hold A Hd), p'.map Subtype.val = p ∧ J p' W) (fun p W => ∃ p' : List (Hold A Hd), p'.map Subtype.val = p ∧ Jx p' W) (fun pre x W1 hj hl hx => ?_) W (hB.trans (hW.mono hB.size)) ((hW.cell (p := ⟨Bs, 0, none⟩) hBs).trans hc) ⟨[], rfl, h0⟩).mono ?_
  · obtain ⟨p', hp', hj'⟩ := hj
    have hl' : p'.length < A.n := by rw [← hp'] at hl; simpa using hl
    refine (hY p' ⟨x, hx⟩ W1 hj' hl').mono ?_
    rintro e W' (⟨rfl, h1, h2⟩ | ⟨rfl, h1⟩)
    · exact .inl ⟨rfl, ⟨_, by rw [List.map_append, hp']; rfl, h1⟩, h2⟩
    · exact .inr ⟨rfl, ⟨_, by rw [List.map_append, hp']; rfl, h1⟩⟩
  · rintro e W' ⟨h1, h2⟩
    refine ⟨h1, ?_⟩
    rcases h2 with ⟨ys, rfl, p', hp', hj'⟩ | ⟨pre, ⟨k, hk, rfl⟩, p', hp', hj'⟩
    · exact .inl ⟨p', hp', hj'⟩
    · exact .inr ⟨p', ⟨k, hk, hp'⟩, hj'⟩
/-- The three boxes of Save. -/
structure SV (S p : Nat) (x : Int) (W : World) : Prop where
  b0 : Boxed W S 30 (.pointer (some ⟨p, 0, none⟩))
  b1 : Boxed W (S + 1) 31 (.int .i64 x)
  b2 : Boxed W (S + 1 + 1) 30 (.pointer (some ⟨p, 0, none⟩))
theorem SV.own (S p : Nat) (x : Int) {β : Type} : Own (fun (_ : β) W => SV S p x W) := fun s X Y row hs hg hr =>
  ⟨boxed_own S _ (fun _ : Unit => .pointer (some ⟨p, 0, none⟩)) () X Y row hs.b0 hg hr, boxed_own (S + 1) _ (fun _ : Unit => .int .i64 x) () X Y row hs.b1 hg hr, boxed_own (S + 1 + 1) _ (fun _ : Unit => .pointer (some ⟨p, 0, none⟩)) () X Y row hs.b2 hg hr⟩
theorem SV.below {S p : Nat} {x : Int} {W W' : World} (h : SV S p x W) (hb : Below W.heap.size W W') : SV S p x W' :=
  ⟨(hb.block _ h.b0.lt).trans h.b0, (hb.block _ h.b1.lt).trans h.b1, (hb.block _ h.b2.lt).trans h.b2⟩
set_option maxHeartbeats 1000000 in
set_option maxRecDepth 100000 in
theorem save_off {A : Pa} {w : World} {Qs : Nat → Prop} {hv : Nat → Option Value} {S Hd : Rows} (h : Pl A true w Qs hv S Hd) (hS : ∀ i, i < A.n → S i = []) (h0 : 0 < many Hd A.n) (hmany : many Hd A.n ≤ 30000) :
    Calls Tryz.prog 16 #[.pointer (some ⟨A.p, 0, none⟩)] w fun e w' => e = .returned (.int .i64 6) ∧ Below w.heap.size w w' := by
  have H := Lib.hid h
  have HS := Lib.hid hS
  have HMY := Lib.hid hmany
  have H0 := Lib.hid h0
  clear h hS hmany h0
  refine (callsIn_wide (n := 5)).1 ?_
  refine callsIn_of_wp_marks Tryz.func16 rfl trivial ?_ rfl
  simp only [Tryz.ntmps16, List.size_toArray, List.length_cons, List.length_nil, Nat.reduceAdd, Nat.reduceSub, Array.replicate_succ, Array.replicate_zero, List.push_toArray, List.append_toArray, List.nil_append, List.cons_append]
  refine wpIn_wide.2 ?_
  go_wp2_with (go_at_call 29; refine (callsIn_wide.1 (holders_in Fence.wide 4 trivial rfl _ _)).mono ?_; rintro e w3 ⟨rfl, rfl⟩)
  obtain ⟨W0, hW0⟩ : ∃ W0, W0 = ((w.alloc (Obj.cells #[Value.pointer (some ⟨A.p, 0, none⟩)] 30)).alloc (Obj.cells #[Value.int IntKind.i64 0] 31)).alloc (Obj.cells #[Value.pointer (some ⟨A.p, 0, none⟩)] 30) := ⟨_, rfl⟩
  have hps : SV w.heap.size A.p 0 W0 := by
    rw [hW0]
    refine ⟨?_, ?_, ?_⟩ <;> (repeat (first | (refine boxed_at ?_; (simp <;> omega); done) | refine Boxed.alloc ?_ _))
  have hB0 : Below w.heap.size w W0 := by rw [hW0]; exact (((Below.refl _ w).alloc (Nat.le_refl _) _).alloc (by simp) _).alloc (by simp; omega) _
  have hsz : W0.heap.size = w.heap.size + 1 + 1 + 1 := by rw [hW0]; simp
  rw [← hW0]
  clear hW0
  refine (wpIn_wide (n := 5)).1 ?_
  refine wpIn_rangeFunc_ownG rfl (by omega) (gf := 48) (lb := #[.pointer (some ⟨w.heap.size + 1 + 1, 0, none⟩)]) rfl trivial (enters_of Tryz.func48 (by kernel_rfl) rfl)
    (holders_told Fence.wide 4 trivial rfl (by omega) (w.heap.size + 1 + 1) H.out (by have := HMY.out; omega) hB0 (by omega) hps.b2.cell) kept_t (kept_b (by omega) (by omega)) (Below.refl _ _) (fun _ => rfl)
    (fun pre W => (pre = [] ∧ SV w.heap.size A.p 0 W) ∧ Below w.heap.size w W)
    (fun c _ W => (c = .ret ∧ SV w.heap.size A.p 6 W) ∧ Below w.heap.size w W)
    (OwnFrom.and (Own.from (fun s X Y row hs hg hr => ⟨hs.1, SV.own _ _ _ (β := Unit) () X Y row hs.2 hg hr⟩) _) (ownFrom_below (Nat.le_refl _) (by omega)))
    (fun c => OwnFrom.and (Own.from (fun s X Y row hs hg hr => ⟨hs.1, SV.own _ _ _ (β := Unit) () X Y row hs.2 hg hr⟩) _) (ownFrom_below (Nat.le_refl _) (by omega)))
    ⟨⟨rfl, hps⟩, hB0⟩
    (fun x => { tmps := #[.pointer (some ⟨A.p, 0, none⟩), .pointer (some ⟨w.heap.size, 0, none⟩), .pointer (some ⟨w.heap.size + 1, 0, none⟩), .int .i64 (x.1.1 : Int), undef, .pointer (some ⟨A.p, 0, none⟩), .bool false, .pointer (some ⟨A.p, 0, none⟩), .func (.func 48) #[] #[.pointer (some ⟨w.heap.size + 1 + 1, 0, none⟩)], .int .i64 (x.1.1 : Int), .int .i64 (x.1.2 : Int), undef, undef, undef, undef, undef, undef], defers := [] }) ?assign ?body ?done ?stop
  case assign =>
    intro l x W K hK
    gi_wp2
    exact hK
  case body =>
    rintro l pre ⟨⟨i, m⟩, hi, hne⟩ W ⟨⟨rfl, hp⟩, hB⟩ hlt
    have c0 := hp.b0.cell
    have c1 := hp.b1.cell
    have f1 := hp.b1.frozen
    have hlm := len_le_many Hd i A.n hi
    have HSP := Lib.hid (CallsIn.inRound l ((callsIn_wide (n := 2)).2 (spill_off (H.out.later hB) i hi (HS.out i hi) hne (by have := HMY.out; omega))))
    have HP := Lib.hid hp
    have HB := Lib.hid hB
    clear hp hB hlm
    dsimp only at hi hne
    gi_wp2
    refine ⟨trivial, HSP.out.mono ?_⟩
    rintro e W3 ⟨rfl, hb3⟩
    have hp3 := HP.out.below hb3
    have HP3 := Lib.hid hp3
    have HB3 := Lib.hid hb3
    have f3 := hp3.b1.frozen
    have c3 := hp3.b1.cell
    clear hp3 hb3
    gi_wp2
    refine ⟨?_, ⟨rfl, ?_⟩, ?_⟩
    · have hk : KeepsFrom W0.heap.size W W3 := ⟨HB3.out.size, fun k o _ hk _ => (HB3.out.block k (Array.getElem?_eq_some_iff.1 hk).1).trans hk⟩
      exact hk.trans ((KeepsOthers.setCell W3 ⟨w.heap.size + 1, 0, none⟩ (.int .i64 6)).from _)
    · exact ⟨HP3.out.b0.other (by omega) _, HP3.out.b1.set _, HP3.out.b2.other (by omega) _⟩
    · exact (HB.out.trans (HB3.out.mono (by have := HB.out.size; omega))).setCell (p := ⟨w.heap.size + 1, 0, none⟩) (by simp) _
  case done =>
    rintro D ys W hD hys ⟨⟨rfl, hp⟩, hB⟩ hK
    exfalso
    have h1 : holds Hd A.n = [] := hys.symm
    have := holds_nil Hd A.n h1
    have := H0.out
    omega
  case stop =>
    rintro D c pre W hD _ ⟨⟨rfl, hp⟩, hB⟩ hK
    have g0 := (boxed_put (.deferred none) hp.b1 hK rfl).cell
    have HK := Lib.hid hK
    have HB := Lib.hid hB
    have hDW := (Array.getElem?_eq_some_iff.1 hK).1
    clear hK hB hp
    gi_wp2
    refine ⟨by simp, .inl ⟨_, _, rfl, run_takeDeferred HK.out, ?_⟩⟩
    refine ⟨.int .i64 6, by simp [results, Tryz.f16, Tryz.results16, go_sem, g0], rfl, ?_⟩
    exact HB.out.trans ((Below.refl _ W).grown (grownBy_putObj' W D _) (by omega) (fun q e => by cases e; omega))
end Go.Proofs.YtfgjnpbffppocaaGreat.Pool
