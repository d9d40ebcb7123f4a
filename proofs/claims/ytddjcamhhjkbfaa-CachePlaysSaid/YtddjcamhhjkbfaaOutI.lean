/- out and in of a cache of int. -/
import Derived.Test.YtddjcamhhjkbfaaTakeI
import Derived.Deep.AppendLies
import Derived.Deep.RegionLaw
namespace Go.Proofs.Ytddjcamhhjkbfaa.CI
open Go.RowKit Mem

set_option maxHeartbeats 2000000 in
set_option maxRecDepth 100000 in
theorem out_yes (g : Nat) (lb : Array Value) (p : Th → Bool) (B C b cap i : Nat) (room used : Int) (t : Th) (ts : List Th) (w : World) (hp : Asks g lb p w) (hC : Blk w C 52 #[.int .i64 room, .int .i64 used, .slice (some ⟨b, 0, none⟩) ts.length cap])
    (hown : w.ownsRow B 57 3 (.slice (some ⟨b, 0, none⟩) ts.length cap) ts.length (flat ts)) (hl : ts.length ≤ 1000) (hi : firstOf p ts = (i : Int)) (ht : ts[i]? = some t) (hu : -9223372036854775808 ≤ used - t.size ∧ used - t.size ≤ 9223372036854775807) :
    Calls Try.prog 21 #[.pointer (some ⟨C, 0, none⟩), .func (.func g) #[] lb] w fun e w' => e = .returned (.tuple #[t.v, .bool true]) ∧ Blk w' C 52 #[.int .i64 room, .int .i64 (used - t.size), .slice (some ⟨b, 0, none⟩) (ts.length - 1) cap] ∧
      w'.ownsRow B 57 3 (.slice (some ⟨b, 0, none⟩) (ts.length - 1) cap) (ts.length - 1) (flat (ts.eraseIdx i)) ∧ Only [C, b] w w' := by
  have hCb : C ≠ b := by
    rcases hown.2 with ⟨e, _⟩ | ⟨g', cap', cur, e, _, h1, _⟩
    · cases e
    · cases e; exact hC.ne (t' := 57) h1 (by decide)
  have hCs := hC.lt
  have hbs := (hown.lt b rfl).2
  have htake : ∀ W, Below w.heap.size w W → Calls Try.prog 35 #[.slice (some ⟨b, 0, none⟩) ts.length cap, .func (.func g) #[] lb] W fun e w' => e = .returned (.tuple #[.slice (some ⟨b, 0, none⟩) (ts.length - 1) cap, t.v, .bool true]) ∧
      w'.ownsRow B 57 3 (.slice (some ⟨b, 0, none⟩) (ts.length - 1) cap) (ts.length - 1) (flat (ts.eraseIdx i)) ∧ W.grownBy w' (some b) := fun W hW =>
    take_yes g lb p B b cap i t ts W ⟨hp.1, fun W' t h => hp.2 W' t (hW.trans (h.mono hW.size))⟩ ((Fr.of_below hW : Fr B [] w W).row hown (by simp)) hl hi ht
  have HT := Lib.hid htake
  have HC := Lib.hid hC
  have c2 := hC.cell 2
  simp at c2
  clear htake hp hown hi ht hC
  go_enter Try.func21, Try.ntmps21
  go_wp2_with fail
  refine (HT.out _ ((Below.refl _ w).alloc (Nat.le_refl _) _)).mono ?_
  rintro e w1 ⟨rfl, hown1, hg1⟩
  have HO1 := Lib.hid hown1
  have HG1 := Lib.hid hg1
  have hC1 := (HC.out.alloc (.cells #[.int .i64 0, .int .i64 0, .int .i64 0] 57)).grown hg1 (by simp [hCb])
  have h41 := (Blk.new w 57 #[.int .i64 0, .int .i64 0, .int .i64 0]).grown hg1 (by simp; omega)
  have hs1 : w.heap.size + 1 ≤ w1.heap.size := by have := hg1.size; simpa using this
  have hC1s := hC1.lt
  have hw1s : w.heap.size < w1.heap.size := by omega
  have HC1 := Lib.hid hC1
  have H41 := Lib.hid h41
  have k1 := hC1.cell 1
  have k2 := hC1.cell 2
  have l1 := hC1.frozen 1
  have l2 := hC1.frozen 2
  have m0 := h41.cell 0
  have m1 := h41.cell 1
  have m2 := h41.cell 2
  have n0 := h41.frozen 0
  have n1 := h41.frozen 1
  have n2 := h41.frozen 2
  simp at k1 k2 m0 m1 m2
  clear hown1 hg1 hC1 h41
  unfold Th.v
  have hne1 : w1.heap.size ≠ C := by omega
  have hwr : IntKind.i64.wrap (used - t.size) = used - t.size := IntWalk.i64_in _ (by omega)
  go_wp2_with fail
  go_region
  all_goals
    go_wp2
    have bf := ((((((H41.out.far (p := ⟨C, 2, none⟩) (by simp; omega) (.slice (some ⟨b, 0, none⟩) (ts.length - 1) cap)).far (p := ⟨C, 1, none⟩) (by simp; omega) (.int .i64 (used - t.size))).set 0 (.int .i64 t.key)).set 1 (.int .i64 t.size)).set 2 (.int .i64 (t.x))).alloc (.cells #[.int .i64 t.key, .int .i64 t.size, .int .i64 (t.x)] 57)).drew
    have q0 := bf.cell 0
    have q1 := bf.cell 1
    have q2 := bf.cell 2
    simp at q0 q1 q2
    refine bodyPost_ret (v := .tuple #[t.v, .bool true]) (by simp [results, Try.results21, go_sem, q0, q1, q2, Th.v]) rfl ⟨rfl, ?_, ?_, ?_⟩
    · have := ((((((HC1.out.set 2 (.slice (some ⟨b, 0, none⟩) (ts.length - 1) cap)).set 1 (.int .i64 (used - t.size))).far (p := ⟨w.heap.size, 0, none⟩) (by simp; omega) (.int .i64 t.key)).far (p := ⟨w.heap.size, 1, none⟩) (by simp; omega) (.int .i64 t.size)).far (p := ⟨w.heap.size, 2, none⟩) (by simp; omega) (.int .i64 (t.x))).alloc (.cells #[.int .i64 t.key, .int .i64 t.size, .int .i64 (t.x)] 57)).drew
      simpa using this
    · have h1 : ∀ q, (Value.slice (some ⟨b, 0, none⟩) (ts.length - 1) cap).ownBlock ≠ some (⟨C, q, none⟩ : Addr).block := fun q e => by simp [Value.ownBlock] at e; omega
      have h2 : ∀ q, (Value.slice (some ⟨b, 0, none⟩) (ts.length - 1) cap).ownBlock ≠ some (⟨w.heap.size, q, none⟩ : Addr).block := fun q e => by simp [Value.ownBlock] at e; omega
      exact (own_far (own_far (own_far (own_far (own_far HO1.out (h1 2) _) (h1 1) _) (h2 0) _) (h2 1) _) (h2 2) _).alloc _
    · have o1 : Only [C, b] w w1 := ((Only.refl _ w).alloc _).later (Only.of_grown (bs := [b]) HG1.out (fun g hg => .inl (by simpa using hg.symm))) (fun g hg => .inl (by simp at hg; simp [hg]))
      exact ((((((o1.set (p := ⟨C, 2, none⟩) (.inl (by simp)) _).set (p := ⟨C, 1, none⟩) (.inl (by simp)) _).set (p := ⟨w.heap.size, 0, none⟩) (.inr (Nat.le_refl _)) _).set (p := ⟨w.heap.size, 1, none⟩) (.inr (Nat.le_refl _)) _).set (p := ⟨w.heap.size, 2, none⟩) (.inr (Nat.le_refl _)) _).alloc _).drew

set_option maxHeartbeats 2000000 in
set_option maxRecDepth 100000 in
theorem out_no (g : Nat) (lb : Array Value) (p : Th → Bool) (B C : Nat) (room used : Int) (v : Value) (ts : List Th) (w : World) (hp : Asks g lb p w) (hC : Blk w C 52 #[.int .i64 room, .int .i64 used, v])
    (hown : w.ownsRow B 57 3 v ts.length (flat ts)) (hl : ts.length ≤ 1000) (hno : firstOf p ts = -1) (hu : -9223372036854775808 ≤ used ∧ used ≤ 9223372036854775807) :
    Calls Try.prog 21 #[.pointer (some ⟨C, 0, none⟩), .func (.func g) #[] lb] w fun e w' => e = .returned (.tuple #[Th.zero.v, .bool false]) ∧ Blk w' C 52 #[.int .i64 room, .int .i64 used, v] ∧ Only [C] w w' := by
  obtain ⟨a, n, cap, hv⟩ : ∃ a n cap, v = .slice a n cap := by
    rcases hown.2 with ⟨e, _⟩ | ⟨g', cap', cur, e, _⟩
    · exact ⟨_, _, _, e⟩
    · exact ⟨_, _, _, e⟩
  have hCs := hC.lt
  have htake : ∀ W, Below w.heap.size w W → Calls Try.prog 35 #[v, .func (.func g) #[] lb] W fun e w' => e = .returned (.tuple #[v, Th.zero.v, .bool false]) ∧ Below W.heap.size W w' := fun W hW =>
    take_no g lb p B v ts W ⟨hp.1, fun W' t h => hp.2 W' t (hW.trans (h.mono hW.size))⟩ ((Fr.of_below hW : Fr B [] w W).row hown (by simp)) hl hno
  subst hv
  have HT := Lib.hid htake
  have HC := Lib.hid hC
  have c2 := hC.cell 2
  simp at c2
  clear htake hp hown hno hC
  go_enter Try.func21, Try.ntmps21
  go_wp2_with fail
  refine (HT.out _ ((Below.refl _ w).alloc (Nat.le_refl _) _)).mono ?_
  rintro e w1 ⟨rfl, hB1⟩
  have HB1 := Lib.hid hB1
  have hC1 := (HC.out.alloc (.cells #[.int .i64 0, .int .i64 0, .int .i64 0] 57)).below hB1 (by simp; omega)
  have h41 := (Blk.new w 57 #[.int .i64 0, .int .i64 0, .int .i64 0]).below hB1 (by simp)
  have hs1 : w.heap.size + 1 ≤ w1.heap.size := by have := hB1.size; simpa using this
  have hC1s := hC1.lt
  have hw1s : w.heap.size < w1.heap.size := by omega
  have HC1 := Lib.hid hC1
  have H41 := Lib.hid h41
  have k1 := hC1.cell 1
  have k2 := hC1.cell 2
  have l1 := hC1.frozen 1
  have l2 := hC1.frozen 2
  have m0 := h41.cell 0
  have m1 := h41.cell 1
  have m2 := h41.cell 2
  have n0 := h41.frozen 0
  have n1 := h41.frozen 1
  have n2 := h41.frozen 2
  simp at k1 k2 m0 m1 m2
  clear hB1 hC1 h41
  unfold Th.v Th.zero
  have hne1 : w1.heap.size ≠ C := by omega
  have hwr : IntKind.i64.wrap used = used := IntWalk.i64_in _ (by omega)
  go_wp2_with fail
  go_region
  all_goals
    go_wp2
    have bf := ((((((H41.out.far (p := ⟨C, 2, none⟩) (by simp; omega) (.slice a n cap)).far (p := ⟨C, 1, none⟩) (by simp; omega) (.int .i64 used)).set 0 (.int .i64 0)).set 1 (.int .i64 0)).set 2 (.int .i64 0)).alloc (.cells #[.int .i64 0, .int .i64 0, .int .i64 0] 57)).drew
    have q0 := bf.cell 0
    have q1 := bf.cell 1
    have q2 := bf.cell 2
    simp at q0 q1 q2
    refine bodyPost_ret (v := .tuple #[Th.zero.v, .bool false]) (by simp [results, Try.results21, go_sem, q0, q1, q2, Th.v, Th.zero]) rfl ⟨rfl, ?_, ?_⟩
    · have := ((((((HC1.out.set 2 (.slice a n cap)).set 1 (.int .i64 used)).far (p := ⟨w.heap.size, 0, none⟩) (by simp; omega) (.int .i64 0)).far (p := ⟨w.heap.size, 1, none⟩) (by simp; omega) (.int .i64 0)).far (p := ⟨w.heap.size, 2, none⟩) (by simp; omega) (.int .i64 0)).alloc (.cells #[.int .i64 0, .int .i64 0, .int .i64 0] 57)).drew
      simpa using this
    · have o1 : Only [C] w w1 := ((Only.refl _ w).alloc _).trans (Only.of_below HB1.out)
      exact ((((((o1.set (p := ⟨C, 2, none⟩) (.inl (by simp)) _).set (p := ⟨C, 1, none⟩) (.inl (by simp)) _).set (p := ⟨w.heap.size, 0, none⟩) (.inr (Nat.le_refl _)) _).set (p := ⟨w.heap.size, 1, none⟩) (.inr (Nat.le_refl _)) _).set (p := ⟨w.heap.size, 2, none⟩) (.inr (Nat.le_refl _)) _).alloc _).drew
end Go.Proofs.Ytddjcamhhjkbfaa.CI
