/- FrameLaw, Open, Upon, Sto, HeapLaw, MergeLaw, Sees, Recs, Compare, Collect, AppendSeq, Chunk, SortRec, SortAny, Sorted, Section, SectionW, IsSorted, CloneRows, Less, Swap, PopHeads, HeapMeth, Down, DownW, Heap, Delete, MergeIn, in one text. -/
import Derived.Test.YtcdcnhecimajkaaGreatG1
import Derived.ProofKit
import Derived.OpenShut
import Derived.Deep.Slices
import Derived.RangeFuncBound
import Derived.RangeFuncWrites
import Derived.RangeFuncNested
import Derived.OwnWalkIn
import Derived.Deep.AppendLies
import Derived.Lib.Bytealg
import Derived.Laws.Externs
import Derived.RangeFuncBox
import Derived.RangeFuncLeaves
import Derived.Shelf.Abstract
import Derived.TacticsInMore
import Derived.LoopNIn
import Derived.LoopIn
import Derived.Outline
import Derived.Shelf.SlIter.Collect
import Derived.Sort.QuietIn
import Derived.Test.YtcdcnhecimajkaaGreatLay2
import Derived.Test.YtcdcnhecimajkaaGreatShelf
import Derived.Deep.QuietTactic
import Derived.BigQuiet
import Derived.RegionTactic
import Derived.ChangeAlike
import Derived.ChangeKeysEq
import Derived.Lib.SliceRun
/- Layer 5, plain: a section that was put is got; All of it is it alone. -/
namespace Go.Proofs.YtcdcnhecimajkaaGreat.Frame
open Mem Crc

theorem num_head (k : UInt8) (n : Nat) (h : n ≤ 1048576) : num (head k n) = n := by
  unfold num head
  simp only [List.getD_cons_succ, List.getD_cons_zero, UInt8.toNat_ofNat']
  omega
theorem got_frame (k : UInt8) (b : List UInt8) (hb : b.length ≤ 1048576) : got (frameL k b) = (k, b, 13 + b.length, 0) := by
  have hl := frameL_length k b
  have hh : (marked (head k b.length)).length = 9 := by rw [mark_length]; rfl
  have e1 : (frameL k b).take 9 = marked (head k b.length) := by
    unfold frameL
    rw [List.take_append_of_le_length (by omega), List.take_of_length_le (by omega)]
  have e2 : (frameL k b).drop 9 = marked b := by
    unfold frameL
    rw [List.drop_append, List.drop_eq_nil_of_le (by omega), hh]
    simp
  have h1 := (fits_mark (head k b.length)).2
  have h2 := (fits_mark b).2
  have e3 : (marked b).take (b.length + 4) = marked b := List.take_of_length_le (by rw [mark_length]; omega)
  have e4 : bodyOf (marked (head k b.length)) = head k b.length := bodyOf_mark _
  unfold got
  rw [e1, e2, e4, num_head k b.length hb, e3, h1, h2, bodyOf_mark, hl]
  rw [if_neg (by omega), if_neg (by decide), if_neg (by omega), if_neg (by omega), if_neg (by decide)]
  rfl
theorem all_frame (k : UInt8) (b : List UInt8) (hb : b.length ≤ 1048576) : allF ((frameL k b).length + 1) (frameL k b) = ([(k, b)], 0) := by
  have hl := frameL_length k b
  have hne : frameL k b ≠ [] := fun e => by rw [e] at hl; simp at hl
  have hg := got_frame k b hb
  unfold allF
  rw [if_neg hne, hg]
  have hd : (frameL k b).drop (13 + b.length) = [] := List.drop_eq_nil_of_le (by omega)
  simp only [hd, allF_nil]
  rfl
end Go.Proofs.YtcdcnhecimajkaaGreat.Frame

/- What is known of a slice that came in: its elements' cells lie in a row. -/
namespace Go.Proofs.YtcdcnhecimajkaaGreat.Args
open Go.ChangeShapes Go.WideShapes Go.RowKit Go.Deep Mem

theorem add_at (b off n : Nat) : (⟨b, off, none⟩ : Addr).add n = ⟨b, off + n, none⟩ := by
  unfold Addr.add
  split <;> simp_all
theorem flat_len {α : Type} (cells : α → List Value) (size : Nat) : ∀ l : List α, (∀ x ∈ l, (cells x).length = size) → (l.flatMap cells).length = l.length * size
  | [], _ => by simp
  | x :: r, h => by
    rw [List.flatMap_cons, List.length_append, h x (by simp), flat_len cells size r (fun y hy => h y (by simp [hy])), List.length_cons, Nat.add_mul]
    omega
/-- A cell of a row, found. -/
theorem flat_find {α : Type} (cells : α → List Value) (size : Nat) : ∀ (l : List α), (∀ x ∈ l, (cells x).length = size) → ∀ i u, (l.flatMap cells)[i]? = some u → ∃ q x j, l[q]? = some x ∧ (cells x)[j]? = some u ∧ i = q * size + j
  | [], _, i, u, h => by simp at h
  | x :: r, hl, i, u, h => by
    have hx := hl x (by simp)
    rw [List.flatMap_cons] at h
    by_cases hi : i < size
    · rw [List.getElem?_append_left (by omega)] at h
      exact ⟨0, x, i, rfl, h, by omega⟩
    · rw [List.getElem?_append_right (by omega), hx] at h
      obtain ⟨q, y, j, h1, h2, h3⟩ := flat_find cells size r (fun y hy => hl y (by simp [hy])) _ u h
      exact ⟨q + 1, y, j, by simpa using h1, h2, by rw [Nat.add_mul]; omega⟩
set_option maxRecDepth 100000 in
/-- A slice's cells, its elements read by 'cells'. -/
theorem slice_open_trod {H : Type} {enc : TypeId × Value → H} {fuel : Nat} {cs0 : List Value} {y0 : DataW H × List MemPlace} {W : World} {t e : TypeId} {size : Nat} {α : Type} [Inhabited α] (cells : α → List Value) (okE : α → Prop) (hu : Tryz.prog.underlying t = some (.slice e)) (hcells : Tryz.prog.cellsOf e = size) (hpos : 0 < size)
    (hel : ∀ fuel cs y, cs.length = size → DataW.trod enc Tryz.prog W 0 (fun _ => true) true fuel e cs = some y → ∃ x, cs = cells x ∧ okE x)
    (hf : DataW.trod enc Tryz.prog W 0 (fun _ => true) true fuel t cs0 = some y0) :
    ∃ (a : Option Addr) (len cap : Nat) (l : List α), cs0 = [.slice a len cap] ∧ len ≤ cap ∧ cap ≤ maxLen ∧ l.length = len ∧ (∀ x ∈ l, okE x) ∧ Lies W a (l.flatMap cells) := by
  rcases open_slice hu hf with ⟨hcs, _⟩ | ⟨a', len, cap, m, n, D, Pl, hcs, _, hl, hm, hmm, _, hi⟩
  · exact ⟨none, 0, 0, [], hcs, Nat.le_refl _, Nat.zero_le _, rfl, fun x hx => absurd hx (by simp), .inl rfl⟩
  · have hmm2 : len ≤ m := by rw [hmm]; split <;> omega
    rw [hcells] at hi
    have hspot : 0 < len → a'.spot = none := fun h0 => by
      obtain ⟨cs', hc, _⟩ := hi 0 (by omega)
      obtain ⟨_, hlen, hat⟩ := World.cells?_some hc
      have e := hat 0 (by omega)
      rw [List.getElem?_eq_getElem (by omega)] at e
      have := World.cell?_spot e
      simpa [Addr.add] using this
    obtain ⟨f, hfx⟩ := choose_lt (α := α) (n := len) (p := fun i x => okE x ∧ (cells x).length = size ∧ ∃ b off, a' = ⟨b, off, none⟩ ∧ b < W.heap.size ∧ ∀ j u, (cells x)[j]? = some u → W.cell? ⟨b, off + (i * size + j), none⟩ = some u) (fun i hlt => by
      obtain ⟨cs', hc, ht⟩ := hi i (by omega)
      obtain ⟨_, hlen, hat⟩ := World.cells?_some hc
      obtain ⟨x, rfl, hx⟩ := hel _ _ _ hlen ht
      obtain ⟨b, off, spot⟩ := a'
      have hs : spot = none := hspot (by omega)
      subst hs
      have e0 := hat 0 (by omega)
      rw [List.getElem?_eq_getElem (by omega), add_at, add_at] at e0
      have hb := World.block_lt_of_cell? W _ e0
      refine ⟨x, hx, hlen, b, off, rfl, hb, fun j u hu => ?_⟩
      have hj := (List.getElem?_eq_some_iff.1 hu).1
      have e := hat j (by omega)
      rw [hu, add_at, add_at, Nat.add_assoc] at e
      exact e)
    refine ⟨some a', _, _, (List.range len).map f, hcs, hl, hm, by simp, fun x hx => ?_, ?_⟩
    · obtain ⟨i, hi2, rfl⟩ := List.mem_map.1 hx
      exact (hfx i (List.mem_range.1 hi2)).1
    · by_cases h0 : len = 0
      · subst h0; exact .inl rfl
      · obtain ⟨_, _, b, off, rfl, hb, _⟩ := hfx 0 (by omega)
        refine .inr ⟨b, off, rfl, hb, fun i u hu => ?_⟩
        obtain ⟨q, x, j, hq, hj, rfl⟩ := flat_find cells size _ (fun x hx => by
          obtain ⟨i, hi2, rfl⟩ := List.mem_map.1 hx
          exact (hfx i (List.mem_range.1 hi2)).2.1) i u hu
        have hlt : q < len := by
          have := (List.getElem?_eq_some_iff.1 hq).1
          simpa using this
        obtain rfl : f q = x := by simpa [hlt] using hq
        obtain ⟨_, _, b', off', e', _, hc⟩ := hfx q hlt
        injection e' with e1 e2
        subst e1
        subst e2
        exact hc j u hj
set_option maxRecDepth 100000 in
/-- A slice, its elements read by 'cells'. -/
theorem slice_open {H : Type} {enc : TypeId × Value → H} {base : Nat} {v : Value} {d : DataW H} {p : List MemPlace} {W : World} {t e : TypeId} {size : Nat} {α : Type} [Inhabited α] (cells : α → List Value) (okE : α → Prop) (hu : Tryz.prog.underlying t = some (.slice e)) (hcells : Tryz.prog.cellsOf e = size) (hpos : 0 < size)
    (hel : ∀ fuel cs y, cs.length = size → DataW.trod enc Tryz.prog W 0 (fun _ => true) true fuel e cs = some y → ∃ x, cs = cells x ∧ okE x)
    (q : Value.okWide Tryz.prog W .any base t v) (h : DataW.Trod enc Tryz.prog W 0 (fun _ => true) true t v d p) :
    ∃ (a : Option Addr) (len cap : Nat) (l : List α), v = .slice a len cap ∧ len ≤ cap ∧ cap ≤ maxLen ∧ l.length = len ∧ (∀ x ∈ l, okE x) ∧ Lies W a (l.flatMap cells) := by
  obtain ⟨a, len, cap, rfl⟩ := okWide_slice hu q
  obtain ⟨fuel, hf⟩ := h
  obtain ⟨a', len', cap', l, hcs, r⟩ := slice_open_trod cells okE hu hcells hpos hel hf
  simp [Value.cells] at hcs
  obtain ⟨rfl, rfl, rfl⟩ := hcs
  exact ⟨_, _, _, l, rfl, r⟩
set_option maxRecDepth 100000 in
theorem int_open {H : Type} {enc : TypeId × Value → H} {v : Value} {d : DataW H} {p : List MemPlace} {W : World} {base : Nat} {t : TypeId} {k : IntKind} (hu : Tryz.prog.underlying t = some (.int k)) (q : Value.okWide Tryz.prog W .any base t v) (h : DataW.Trod enc Tryz.prog W 0 (fun _ => true) true t v d p) : ∃ n, v = .int k n ∧ (Lit.int k n).wf = true := by
  obtain ⟨n, rfl⟩ := okWide_int hu q
  obtain ⟨fuel, hf⟩ := h
  obtain ⟨m, hk, _, hw⟩ := DataW.trod_int hu hf
  simp [Value.cells] at hk
  subst hk
  exact ⟨n, rfl, hw⟩
set_option maxRecDepth 100000 in
theorem bytes_open {H : Type} {enc : TypeId × Value → H} {base : Nat} {v : Value} {d : DataW H} {p : List MemPlace} {W : World} {t e : TypeId} (hu : Tryz.prog.underlying t = some (.slice e)) (he : Tryz.prog.underlying e = some (.int .u8)) (hc : Tryz.prog.cellsOf e = 1)
    (q : Value.okWide Tryz.prog W .any base t v) (h : DataW.Trod enc Tryz.prog W 0 (fun _ => true) true t v d p) :
    ∃ (a : Option Addr) (cap : Nat) (l : List UInt8), v = .slice a l.length cap ∧ l.length ≤ cap ∧ cap ≤ maxLen ∧ Lies W a (l.map bv) := by
  obtain ⟨a, len, cap, l, rfl, h1, h2, rfl, _, hL⟩ := slice_open (α := UInt8) (fun b => [bv b]) (fun _ => True) hu hc (by decide) (fun fuel cs y hl hy => by
    obtain ⟨n, rfl, _, hw⟩ := DataW.trod_int he hy
    have hb := bounds_u8 hw
    refine ⟨UInt8.ofNat n.toNat, ?_, trivial⟩
    unfold bv
    simp
    omega) q h
  refine ⟨a, cap, l, rfl, h1, h2, ?_⟩
  have : ∀ l : List UInt8, l.flatMap (fun b => [bv b]) = l.map bv := fun l => by
    induction l with
    | nil => rfl
    | cons x r ih => rw [List.flatMap_cons, ih]; rfl
  rw [← this]
  exact hL
/-- A slice of slices of bytes. -/
theorem bytes_open_trod {H : Type} {enc : TypeId × Value → H} {fuel : Nat} {cs0 : List Value} {y0 : DataW H × List MemPlace} {W : World} {t e : TypeId} (hu : Tryz.prog.underlying t = some (.slice e)) (he : Tryz.prog.underlying e = some (.int .u8)) (hc : Tryz.prog.cellsOf e = 1)
    (hf : DataW.trod enc Tryz.prog W 0 (fun _ => true) true fuel t cs0 = some y0) :
    ∃ (a : Option Addr) (cap : Nat) (l : List UInt8), cs0 = [.slice a l.length cap] ∧ l.length ≤ cap ∧ cap ≤ maxLen ∧ Lies W a (l.map bv) := by
  obtain ⟨a, len, cap, l, rfl, h1, h2, rfl, _, hL⟩ := slice_open_trod (α := UInt8) (fun b => [bv b]) (fun _ => True) hu hc (by decide) (fun fuel cs y hl hy => by
    obtain ⟨n, rfl, _, hw⟩ := DataW.trod_int he hy
    have hb := bounds_u8 hw
    refine ⟨UInt8.ofNat n.toNat, ?_, trivial⟩
    unfold bv
    simp
    omega) hf
  refine ⟨a, cap, l, rfl, h1, h2, ?_⟩
  have : ∀ l : List UInt8, l.flatMap (fun b => [bv b]) = l.map bv := fun l => by
    induction l with
    | nil => rfl
    | cons x r ih => rw [List.flatMap_cons, ih]; rfl
  rw [← this]
  exact hL
set_option maxRecDepth 100000 in
/-- Rows of bytes that came in: the slices, and what they read as. -/
theorem rows_open {H : Type} {enc : TypeId × Value → H} {base : Nat} {v : Value} {d : DataW H} {p : List MemPlace} {W : World} {t e b : TypeId} (hu : Tryz.prog.underlying t = some (.slice e)) (he : Tryz.prog.underlying e = some (.slice b)) (hb : Tryz.prog.underlying b = some (.int .u8)) (hc : Tryz.prog.cellsOf e = 1) (hcb : Tryz.prog.cellsOf b = 1)
    (q : Value.okWide Tryz.prog W .any base t v) (h : DataW.Trod enc Tryz.prog W 0 (fun _ => true) true t v d p) :
    ∃ (a : Option Addr) (cap : Nat) (l : List ((Option Addr × Nat × Nat) × List UInt8)), v = .slice a l.length cap ∧ l.length ≤ cap ∧ cap ≤ maxLen ∧ (∀ x ∈ l, x.1.2.1 = x.2.length ∧ x.2.length ≤ x.1.2.2 ∧ x.1.2.2 ≤ maxLen ∧ Lies W x.1.1 (x.2.map bv)) ∧ Lies W a (l.map (fun x => .slice x.1.1 x.1.2.1 x.1.2.2)) := by
  obtain ⟨a, len, cap, l, rfl, h1, h2, rfl, h3, hL⟩ := slice_open (α := (Option Addr × Nat × Nat) × List UInt8) (fun x => [.slice x.1.1 x.1.2.1 x.1.2.2]) (fun x => x.1.2.1 = x.2.length ∧ x.2.length ≤ x.1.2.2 ∧ x.1.2.2 ≤ maxLen ∧ Lies W x.1.1 (x.2.map bv)) hu hc (by decide) (fun fuel cs y hl hy => by
    obtain ⟨a, cap, l, rfl, h1, h2, h3⟩ := bytes_open_trod he hb hcb hy
    exact ⟨((a, l.length, cap), l), rfl, rfl, h1, h2, h3⟩) q h
  refine ⟨a, cap, l, rfl, h1, h2, h3, ?_⟩
  have : ∀ l : List ((Option Addr × Nat × Nat) × List UInt8), l.flatMap (fun x => [(.slice x.1.1 x.1.2.1 x.1.2.2 : Value)]) = l.map (fun x => .slice x.1.1 x.1.2.1 x.1.2.2) := fun l => by
    induction l with
    | nil => rfl
    | cons x r ih => rw [List.flatMap_cons, ih]; rfl
  rw [← this]
  exact hL
set_option maxRecDepth 100000 in
theorem bools_open {H : Type} {enc : TypeId × Value → H} {base : Nat} {v : Value} {d : DataW H} {p : List MemPlace} {W : World} {t e : TypeId} (hu : Tryz.prog.underlying t = some (.slice e)) (he : Tryz.prog.underlying e = some .bool) (hc : Tryz.prog.cellsOf e = 1)
    (q : Value.okWide Tryz.prog W .any base t v) (h : DataW.Trod enc Tryz.prog W 0 (fun _ => true) true t v d p) :
    ∃ (a : Option Addr) (cap : Nat) (l : List Bool), v = .slice a l.length cap ∧ l.length ≤ cap ∧ cap ≤ maxLen ∧ Lies W a (l.map Value.bool) := by
  obtain ⟨a, len, cap, l, rfl, h1, h2, rfl, _, hL⟩ := slice_open (α := Bool) (fun b => [Value.bool b]) (fun _ => True) hu hc (by decide) (fun fuel cs y hl hy => by
    obtain ⟨b, rfl, _⟩ := DataW.trod_bool he hy
    exact ⟨b, rfl, trivial⟩) q h
  refine ⟨a, cap, l, rfl, h1, h2, ?_⟩
  have : ∀ l : List Bool, l.flatMap (fun b => [Value.bool b]) = l.map Value.bool := fun l => by
    induction l with
    | nil => rfl
    | cons x r ih => rw [List.flatMap_cons, ih]; rfl
  rw [← this]
  exact hL
end Go.Proofs.YtcdcnhecimajkaaGreat.Args

/- The frame of a call by a set of blocks. -/
namespace Go.Proofs.YtcdcnhecimajkaaGreat.Mem
open Go.RowKit

/-- What a call may have done: new blocks; writes to blocks of P. -/
structure Upon (P : Nat → Prop) (w w' : World) : Prop where
  os : w'.os = w.os
  tape : w'.tape = w.tape
  output : w'.output = w.output
  size : w.heap.size ≤ w'.heap.size
  block : ∀ k, k < w.heap.size → ¬ P k → w'.heap[k]? = w.heap[k]?
theorem Upon.refl (P : Nat → Prop) (w : World) : Upon P w w := ⟨rfl, rfl, rfl, Nat.le_refl _, fun _ _ _ => rfl⟩
theorem Upon.trans {P Q : Nat → Prop} {a b c : World} (h : Upon P a b) (k : Upon Q b c) (hs : ∀ g, Q g → P g ∨ a.heap.size ≤ g) : Upon P a c :=
  ⟨k.os.trans h.os, k.tape.trans h.tape, k.output.trans h.output, Nat.le_trans h.size k.size, fun i hi hn => (k.block i (Nat.lt_of_lt_of_le hi h.size) (fun hq => (hs i hq).elim hn (fun hg => by omega))).trans (h.block i hi hn)⟩
theorem Upon.mono {P Q : Nat → Prop} {w w' : World} (h : Upon P w w') (hs : ∀ k, P k → Q k) : Upon Q w w' := ⟨h.os, h.tape, h.output, h.size, fun k hk hn => h.block k hk (fun hp => hn (hs k hp))⟩
theorem Upon.of_only {P : Nat → Prop} {F : List Nat} {w w' : World} (h : Only F w w') (hF : ∀ g ∈ F, P g ∨ w.heap.size ≤ g) : Upon P w w' :=
  ⟨h.os, h.tape, h.output, h.size, fun k hk hn => h.block k hk (fun hm => (hF k hm).elim hn (fun hg => by omega))⟩
theorem Upon.of_below {P : Nat → Prop} {w w' : World} (h : Below w.heap.size w w') : Upon P w w' := ⟨h.os, h.tape, h.output, h.size, fun k hk _ => h.block k hk⟩
theorem Upon.of_grown {P : Nat → Prop} {w w' : World} {row : Option Nat} (h : w.grownBy w' row) (hr : ∀ g, row = some g → P g ∨ w.heap.size ≤ g) : Upon P w w' := Upon.of_only (F := row.toList) (Only.of_grown h (fun g hg => .inl (by rw [hg]; simp))) (fun g hg => hr g (by simpa using hg))
theorem Upon.below {P : Nat → Prop} {B : Nat} {w w' : World} (h : Upon P w w') (hB : B ≤ w.heap.size) (hs : ∀ g, P g → B ≤ g) : Below B w w' :=
  ⟨h.os, h.tape, h.output, h.size, fun k hk => h.block k (by omega) (fun hm => by have := hs k hm; omega)⟩
theorem Upon.drew {P : Nat → Prop} {a w : World} (h : Upon P a w) : Upon P a w.drew := ⟨h.os, h.tape, h.output, h.size, h.block⟩
theorem Upon.drewN {P : Nat → Prop} {a w : World} (h : Upon P a w) (n : Nat) : Upon P a (w.drewN n) := ⟨h.os, h.tape, h.output, h.size, h.block⟩
theorem Upon.set {P : Nat → Prop} {a w : World} (h : Upon P a w) {p : Addr} (hp : P p.block ∨ a.heap.size ≤ p.block) (u : Value) : Upon P a (w.setCell p u) :=
  ⟨h.os, h.tape, h.output, by simpa [World.setCell] using h.size, fun i hi hne => (Below.heap_setCell w p u i (by
    rintro rfl
    rcases hp with hp | hp
    · exact hne hp
    · omega)).trans (h.block i hi hne)⟩
theorem Upon.alloc {P : Nat → Prop} {a w : World} (h : Upon P a w) (o : Obj) : Upon P a (w.alloc o) :=
  ⟨h.os, h.tape, h.output, Nat.le_trans h.size (by simp), fun i hi hne => (Below.heap_alloc w o i (Nat.lt_of_lt_of_le hi h.size)).trans (h.block i hi hne)⟩
theorem Blk.upon {P : Nat → Prop} {w w' : World} {g : Nat} {t : TypeId} {cs : Array Value} (h : Blk w g t cs) (hb : Upon P w w') (hg : ¬ P g) : Blk w' g t cs := (hb.block g h.lt hg).trans h
theorem own_upon {P : Nat → Prop} {w w' : World} {base : Nat} {e : TypeId} {size : Nat} {v : Value} {n : Nat} {xs : List Value} (h : w.ownsRow base e size v n xs) (hb : Upon P w w') (hv : ∀ g, v.ownBlock = some g → ¬ P g) : w'.ownsRow base e size v n xs := by
  refine ⟨h.1, ?_⟩
  rcases h.2 with h0 | ⟨g, cap, cur, rfl, hg, hgg, r⟩
  · exact .inl h0
  · exact .inr ⟨g, cap, cur, rfl, hg, (hb.block g (h.lt g rfl).2 (hv g rfl)).trans hgg, r⟩
theorem Lies.upon {P : Nat → Prop} {w w' : World} {a : Option Addr} {xs : List Value} (h : Lies w a xs) (hb : Upon P w w') (hv : ∀ g, blk a = some g → ¬ P g) : Lies w' a xs := by
  rcases h with h | ⟨g, off, rfl, hg, hc⟩
  · exact .inl h
  · exact Lies.keep (.inr ⟨g, off, rfl, hg, hc⟩) hb.size (fun q hq => by cases hq; exact hb.block g hg (hv g rfl))
end Go.Proofs.YtcdcnhecimajkaaGreat.Mem

/- Layer 10, as the layers above see it: what a store answers, by names' bytes. -/
namespace Go.Proofs.YtcdcnhecimajkaaGreat.Store
open Go.RowKit Go.Deep Mem Crc Disk Man Go.Maps

abbrev Files := List UInt8 → Option (List UInt8)
noncomputable def setF (F : Files) (nm : List UInt8) (b : Option (List UInt8)) : Files := fun x => open Classical in if x = nm then b else F x
theorem setF_same (F : Files) (nm : List UInt8) (b : Option (List UInt8)) : setF F nm b nm = b := by unfold setF; rw [if_pos rfl]
theorem setF_other {F : Files} {nm x : List UInt8} (b : Option (List UInt8)) (h : x ≠ nm) : setF F nm b x = F x := by unfold setF; rw [if_neg h]
/-- A store at block s: At w Q off F n says that it lies in w, in blocks of Q alone; that it is down; its files as they are now; at most n names were ever changed. -/
structure Sto (s : Nat) where
  At : World → (Nat → Prop) → Bool → Files → Nat → Prop
  lt : ∀ {w : World} {Q : Nat → Prop} {off : Bool} {F : Files} {n : Nat}, At w Q off F n → ∀ k, Q k → k < w.heap.size
  keep : ∀ {w w' : World} {Q : Nat → Prop} {off : Bool} {F : Files} {n : Nat}, At w Q off F n → w.heap.size ≤ w'.heap.size → (∀ k, Q k → w'.heap[k]? = w.heap[k]?) → At w' Q off F n
  short : ∀ {w : World} {Q : Nat → Prop} {off : Bool} {F : Files} {n : Nat}, At w Q off F n → ∀ nm b, F nm = some b → nm.length ≤ 32 ∧ b.length ≤ 1048576
  write : ∀ {w : World} {Q : Nat → Prop} {F : Files} {n : Nat}, At w Q false F n → n < 100000 → ∀ (nm : List UInt8), 1 ≤ nm.length → nm.length ≤ 32 → ∀ (a : Option Addr) (cp : Nat) (b : List UInt8), Lies w a (b.map bv) → b.length ≤ 1048576 →
    Calls Tryz.prog 30 #[.pointer (some ⟨s, 0, none⟩), nv nm, .slice a b.length cp] w fun e w' => e = .returned (.int .i64 0) ∧ ∃ Q', At w' Q' false (setF F nm (some b)) (n + 1) ∧ (∀ k, Q' k → Q k ∨ w.heap.size ≤ k) ∧ Upon Q w w'
  write_off : ∀ {w : World} {Q : Nat → Prop} {F : Files} {n : Nat}, At w Q true F n → ∀ (x : Value) (a : Option Addr) (m cp : Nat),
    Calls Tryz.prog 30 #[.pointer (some ⟨s, 0, none⟩), x, .slice a m cp] w fun e w' => e = .returned (.int .i64 6) ∧ Below w.heap.size w w'
  read_some : ∀ {w : World} {Q : Nat → Prop} {F : Files} {n : Nat}, At w Q false F n → ∀ (nm b : List UInt8), F nm = some b →
    Calls Tryz.prog 50 #[.pointer (some ⟨s, 0, none⟩), nv nm] w fun e w' => ∃ v, e = .returned (.tuple #[v, .int .i64 0]) ∧ OwnB w' w.heap.size v b ∧ Below w.heap.size w w'
  read_none : ∀ {w : World} {Q : Nat → Prop} {F : Files} {n : Nat}, At w Q false F n → ∀ (nm : List UInt8), nm.length ≤ 1000000 → F nm = none →
    Calls Tryz.prog 50 #[.pointer (some ⟨s, 0, none⟩), nv nm] w fun e w' => ∃ v, e = .returned (.tuple #[v, .int .i64 8]) ∧ OwnB w' w.heap.size v [] ∧ Below w.heap.size w w'
  read_off : ∀ {w : World} {Q : Nat → Prop} {F : Files} {n : Nat}, At w Q true F n → ∀ (x : Value),
    Calls Tryz.prog 50 #[.pointer (some ⟨s, 0, none⟩), x] w fun e w' => e = .returned (.tuple #[.slice none 0 0, .int .i64 6]) ∧ Below w.heap.size w w'
  remove : ∀ {w : World} {Q : Nat → Prop} {F : Files} {n : Nat}, At w Q false F n → n < 100000 → ∀ (nm : List UInt8), F nm ≠ none →
    Calls Tryz.prog 33 #[.pointer (some ⟨s, 0, none⟩), nv nm] w fun e w' => e = .returned (.int .i64 0) ∧ ∃ Q', At w' Q' false (setF F nm none) (n + 1) ∧ (∀ k, Q' k → Q k ∨ w.heap.size ≤ k) ∧ Upon Q w w'
  remove_off : ∀ {w : World} {Q : Nat → Prop} {F : Files} {n : Nat}, At w Q true F n → ∀ (x : Value),
    Calls Tryz.prog 33 #[.pointer (some ⟨s, 0, none⟩), x] w fun e w' => e = .returned (.int .i64 6) ∧ Below w.heap.size w w'
  names : ∀ {w : World} {Q : Nat → Prop} {off : Bool} {F : Files} {n : Nat}, At w Q off F n →
    Calls Tryz.prog 24 #[.pointer (some ⟨s, 0, none⟩)] w fun e w' => ∃ (v : Value) (ss : List (List UInt8)), e = .returned v ∧ w'.ownsRow w.heap.size 9 1 v ss.length (ss.map encStr) ∧ (∀ nm, nm ∈ ss ↔ F nm ≠ none) ∧ ss.length ≤ 200000 ∧ Below w.heap.size w w'
theorem Sto.later {s : Nat} (S : Sto s) {w w' : World} {Q : Nat → Prop} {off : Bool} {F : Files} {n : Nat} (h : S.At w Q off F n) (hB : Below w.heap.size w w') : S.At w' Q off F n := S.keep h hB.size (fun k hk => hB.block k (S.lt h k hk))
theorem Sto.upon {s : Nat} (S : Sto s) {w w' : World} {P Q : Nat → Prop} {off : Bool} {F : Files} {n : Nat} (h : S.At w Q off F n) (hB : Upon P w w') (hP : ∀ k, P k → ¬ Q k) : S.At w' Q off F n := S.keep h hB.size (fun k hk => hB.block k (S.lt h k hk) (fun hp => hP k hp hk))
/-- The files of a store of which nothing was committed. -/
def filesOf (C : Chg) : Files := fun nm => match C nm with
  | some c => c
  | none => none
theorem filesOf_file (C : Chg) (nm : List UInt8) : isFile C nm = true ↔ filesOf C nm ≠ none := by
  unfold isFile filesOf
  cases C nm with
  | none => simp
  | some c => cases c <;> simp
theorem filesOf_set (C : Chg) (nm : List UInt8) (c : Option (List UInt8)) : filesOf (setC C nm (some c)) = setF (filesOf C) nm c := by
  funext x
  by_cases e : x = nm
  · subst e
    rw [setF_same]
    unfold filesOf
    rw [setC_same]
  · rw [setF_other _ e]
    unfold filesOf
    rw [setC_other _ e]
/-- The store's state, where nothing was committed. -/
structure Bare (s d g N cm : Nat) (w : World) (Q : Nat → Prop) (off : Bool) (F : Files) (n : Nat) : Prop where
  at_ : ∃ (C : Chg) (L : List (List UInt8)), St w Q s d g N cm off C ∧ F = filesOf C ∧ (∀ x, C x ≠ none → x ∈ L) ∧ L.length ≤ n ∧ ∀ x ∈ L, x.length ≤ 32
  few : n ≤ 100000
  long : ∀ nm b, F nm = some b → b.length ≤ 1048576
theorem readOf_file {C : Chg} {nm b : List UInt8} (h : filesOf C nm = some b) : readOf C nm = (b, 0) := by
  unfold filesOf at h
  unfold readOf
  cases hc : C nm with
  | none => rw [hc] at h; cases h
  | some c =>
    rw [hc] at h
    dsimp only at h
    rw [h]
theorem readOf_none {C : Chg} {nm : List UInt8} (h : filesOf C nm = none) : readOf C nm = ([], 8) := by
  unfold filesOf at h
  unfold readOf
  cases hc : C nm with
  | none => rfl
  | some c =>
    rw [hc] at h
    dsimp only at h
    rw [h]
/-- A store of which nothing was committed, as one. -/
def bare (s d g N cm : Nat) : Sto s where
  At := Bare s d g N cm
  lt h k hk := by
    obtain ⟨C, L, hs, _⟩ := h.at_
    exact hs.lt k hk
  keep h hsz hk := by
    obtain ⟨C, L, hs, r⟩ := h.at_
    exact ⟨⟨C, L, hs.keep hsz hk, r⟩, h.few, h.long⟩
  short h nm b hb := by
    obtain ⟨C, L, hs, hF, hL, hn, hl⟩ := h.at_
    refine ⟨hl nm (hL nm (fun e => ?_)), h.long nm b hb⟩
    rw [hF] at hb
    unfold filesOf at hb
    rw [e] at hb
    cases hb
  write h hn nm h1 h2 a cp b hL hb := by
    obtain ⟨C, L, hs, hF, hLs, hLn, hLl⟩ := h.at_
    refine (write_any hs L hLs (by omega) nm h1 h2 a cp b hL hb).mono ?_
    rintro e w' ⟨rfl, Q', hst, hq1, hq2, ho⟩
    refine ⟨rfl, Q', ⟨⟨_, nm :: L, hst, ?_, ?_, ?_, ?_⟩, by omega, ?_⟩, hq1, Upon.of_only ho (fun g hg => .inl (by rw [List.mem_singleton.1 hg]; exact hs.qm))⟩
    · rw [filesOf_set, hF]
    · intro x hx
      by_cases e : x = nm
      · rw [e]; simp
      · rw [setC_other _ e] at hx
        exact List.mem_cons_of_mem _ (hLs x hx)
    · simp; omega
    · intro x hx
      rcases List.mem_cons.1 hx with rfl | hx
      · exact h2
      · exact hLl x hx
    · intro x b' hx
      by_cases e : x = nm
      · subst e
        rw [setF_same] at hx
        cases hx
        exact hb
      · rw [setF_other _ e] at hx
        exact h.long x b' hx
  write_off h x a m cp := by
    obtain ⟨C, L, hs, _⟩ := h.at_
    refine (Store.write_off hs x a m cp).mono ?_
    rintro e w' ⟨rfl, rfl⟩
    exact ⟨rfl, Below.refl _ _⟩
  read_some h nm b hb := by
    obtain ⟨C, L, hs, hF, hL, hn, hl⟩ := h.at_
    have hlen := h.long
    have hnm : nm.length ≤ 32 := hl nm (hL nm (fun e => by
      rw [hF] at hb
      unfold filesOf at hb
      rw [e] at hb
      cases hb))
    rw [hF] at hb hlen
    refine (read_any hs nm (by omega) (fun b' hb' => ?_)).mono ?_
    · have := hlen nm b' (by unfold filesOf; rw [hb'])
      omega
    · rw [readOf_file hb]
      rintro e w' ⟨v, rfl, h1, h2⟩
      exact ⟨v, rfl, h1, h2⟩
  read_none h nm hn hb := by
    obtain ⟨C, L, hs, hF, hL, hn', hl⟩ := h.at_
    have hlen := h.long
    rw [hF] at hb hlen
    refine (read_any hs nm hn (fun b' hb' => ?_)).mono ?_
    · have := hlen nm b' (by unfold filesOf; rw [hb'])
      omega
    · rw [readOf_none hb]
      rintro e w' ⟨v, rfl, h1, h2⟩
      exact ⟨v, rfl, h1, h2⟩
  read_off h x := by
    obtain ⟨C, L, hs, _⟩ := h.at_
    exact Store.read_off hs x
  remove h hn nm hf := by
    obtain ⟨C, L, hs, hF, hLs, hLn, hLl⟩ := h.at_
    rw [hF] at hf
    refine (remove_any hs L hLs (by omega) (fun x hx => by have := hLl x hx; omega) nm ((filesOf_file C nm).2 hf)).mono ?_
    rintro e w' ⟨rfl, Q', hst, hq1, hq2, ho⟩
    refine ⟨rfl, Q', ⟨⟨_, nm :: L, hst, ?_, ?_, ?_, ?_⟩, by omega, ?_⟩, hq1, Upon.of_only ho (fun g hg => .inl (by rw [List.mem_singleton.1 hg]; exact hs.qm))⟩
    · rw [filesOf_set, hF]
    · intro x hx
      by_cases e : x = nm
      · rw [e]; simp
      · rw [setC_other _ e] at hx
        exact List.mem_cons_of_mem _ (hLs x hx)
    · simp; omega
    · intro x hx
      rcases List.mem_cons.1 hx with rfl | hx
      · refine hLl x (hLs x (fun e => hf ?_))
        unfold filesOf
        rw [e]
      · exact hLl x hx
    · intro x b' hx
      by_cases e : x = nm
      · subst e
        rw [setF_same] at hx
        cases hx
      · rw [setF_other _ e] at hx
        exact h.long x b' hx
  remove_off h x := by
    obtain ⟨C, L, hs, _⟩ := h.at_
    refine (Store.remove_off hs x).mono ?_
    rintro e w' ⟨rfl, rfl⟩
    exact ⟨rfl, Below.refl _ _⟩
  names h := by
    obtain ⟨C, L, hs, hF, hLs, hLn, hLl⟩ := h.at_
    have hfew := h.few
    refine (names_any hs L hLs (by omega) (fun x hx => by have := hLl x hx; omega)).mono ?_
    rintro e w' ⟨v, ss, rfl, h1, h2, h3, h4⟩
    refine ⟨v, ss, rfl, h1, fun nm => ?_, by omega, h4⟩
    rw [h2, hF]
    exact filesOf_file C nm
end Go.Proofs.YtcdcnhecimajkaaGreat.Store

/- container/heap, plain: what down does to an order; the front is the least. -/
namespace Go.Proofs.YtcdcnhecimajkaaGreat.Heap

variable {α : Type}
/-- Two places exchanged. -/
def swap (f : Nat → α) (i j : Nat) : Nat → α := fun k => if k = i then f j else if k = j then f i else f k
theorem swap_l (f : Nat → α) (i j : Nat) : swap f i j i = f j := if_pos rfl
theorem swap_r (f : Nat → α) (i j : Nat) : swap f i j j = f i := by
  unfold swap
  by_cases h : j = i
  · rw [if_pos h, h]
  · rw [if_neg h, if_pos rfl]
theorem swap_o (f : Nat → α) {i j k : Nat} (h1 : k ≠ i) (h2 : k ≠ j) : swap f i j k = f k := by unfold swap; rw [if_neg h1, if_neg h2]
/-- The first n. -/
def row (f : Nat → α) (n : Nat) : List α := (List.range n).map f
theorem row_succ (f : Nat → α) (n : Nat) : row f (n + 1) = row f n ++ [f n] := by simp [row, List.range_succ]
theorem row_congr {f g : Nat → α} {n : Nat} (h : ∀ k, k < n → f k = g k) : row f n = row g n := List.map_congr_left (fun k hk => h k (List.mem_range.1 hk))
theorem row_length (f : Nat → α) (n : Nat) : (row f n).length = n := by simp [row]
theorem row_at (f : Nat → α) (n k : Nat) (h : k < n) : (row f n)[k]? = some (f k) := by simp [row, h]
/-- One place anew. -/
def put (f : Nat → α) (i : Nat) (v : α) : Nat → α := fun k => if k = i then v else f k
theorem put_same (f : Nat → α) (i : Nat) (v : α) : put f i v i = v := if_pos rfl
theorem put_other (f : Nat → α) {i k : Nat} (v : α) (h : k ≠ i) : put f i v k = f k := if_neg h
theorem row_put (f : Nat → α) (i : Nat) (v : α) : ∀ n, i < n → (f i :: row (put f i v) n).Perm (v :: row f n) := by
  intro n
  induction n with
  | zero => intro h; omega
  | succ n ih =>
    intro h
    rw [row_succ, row_succ]
    by_cases e : i = n
    · subst e
      rw [put_same, row_congr (fun k hk => put_other f v (by omega) : ∀ k, k < i → put f i v k = f k)]
      have h1 : (f i :: (row f i ++ [v])).Perm (f i :: v :: row f i) := List.Perm.cons _ (List.perm_append_singleton _ _)
      have h2 : (v :: (row f i ++ [f i])).Perm (v :: f i :: row f i) := List.Perm.cons _ (List.perm_append_singleton _ _)
      exact (h1.trans (List.Perm.swap _ _ _)).trans h2.symm
    · rw [put_other f v (Ne.symm e)]
      have := (ih (by omega)).append_right [f n]
      simpa using this
theorem swap_puts (f : Nat → α) (i j : Nat) : swap f i j = put (put f j (f i)) i (f j) := by
  funext k
  unfold swap put
  by_cases h1 : k = i
  · simp [h1]
  · simp [h1]
theorem row_swap (f : Nat → α) {i j n : Nat} (hi : i < n) (hj : j < n) : (row (swap f i j) n).Perm (row f n) := by
  rw [swap_puts]
  have h1 := row_put (put f j (f i)) i (f j) n hi
  have h2 := row_put f j (f i) n hj
  have e : put f j (f i) i = f i := by
    by_cases e : i = j
    · subst e; exact put_same _ _ _
    · exact put_other _ _ e
  rw [e] at h1
  exact (List.perm_cons _).1 (h1.trans h2)
def parent (c : Nat) : Nat := (c - 1) / 2
/-- An order in which what is not below is passed on. -/
structure Ord (lt : α → α → Prop) : Prop where
  asym : ∀ a b, lt a b → ¬ lt b a
  trans : ∀ a b c, ¬ lt b a → ¬ lt c b → ¬ lt c a
/-- All whose parent is from k on are not below it. -/
def Heap (lt : α → α → Prop) (f : Nat → α) (k n : Nat) : Prop := ∀ c, 0 < c → c < n → k ≤ parent c → ¬ lt (f c) (f (parent c))
/-- .. but for those whose parent is i; and these are not below i's parent. -/
structure Dn (lt : α → α → Prop) (f : Nat → α) (k n i : Nat) : Prop where
  le : k ≤ i
  pairs : ∀ c, 0 < c → c < n → k ≤ parent c → parent c ≠ i → ¬ lt (f c) (f (parent c))
  grand : i ≠ k → k ≤ parent i → ∀ c, 0 < c → c < n → parent c = i → ¬ lt (f c) (f (parent i))
theorem dn_start {lt : α → α → Prop} {f : Nat → α} {k n : Nat} (h : Heap lt f (k + 1) n) : Dn lt f k n k :=
  ⟨Nat.le_refl _, fun c h0 hc hk hne => h c h0 hc (by omega), fun h => absurd rfl h⟩
theorem parent_lt {c : Nat} (h : 0 < c) : parent c < c := by unfold parent; omega
theorem dn_stop {lt : α → α → Prop} {f : Nat → α} {k n i : Nat} (h : Dn lt f k n i) (hs : ∀ c, 0 < c → c < n → parent c = i → ¬ lt (f c) (f i)) : Heap lt f k n := fun c h0 hc hk => by
  by_cases e : parent c = i
  · rw [e]; exact hs c h0 hc e
  · exact h.pairs c h0 hc hk e
theorem dn_step {lt : α → α → Prop} (O : Ord lt) {f : Nat → α} {k n i j : Nat} (h : Dn lt f k n i) (hj0 : 0 < j) (hjn : j < n) (hji : parent j = i) (hlt : lt (f j) (f i)) (hmin : ∀ c, 0 < c → c < n → parent c = i → ¬ lt (f c) (f j)) : Dn lt (swap f i j) k n j := by
  have hij : i < j := by rw [← hji]; exact parent_lt hj0
  refine ⟨by have := h.le; omega, fun c h0 hc hk hne => ?_, fun hjk hkp c h0 hc hcj => ?_⟩
  · have hcl := parent_lt h0
    by_cases e1 : c = j
    · subst e1
      rw [swap_r, hji, swap_l]
      exact O.asym _ _ hlt
    · by_cases e2 : c = i
      · subst e2
        rw [swap_l, swap_o f (by omega) (by omega)]
        by_cases e3 : c = k
        · omega
        · exact h.grand e3 hk j hj0 hjn hji
      · rw [swap_o f e2 e1]
        by_cases e3 : parent c = i
        · rw [e3, swap_l]
          exact hmin c h0 hc e3
        · rw [swap_o f e3 hne]
          exact h.pairs c h0 hc hk e3
  · have hcl := parent_lt h0
    rw [hji, swap_l, swap_o f (by omega) (by omega)]
    have := h.pairs c h0 hc (by rw [hcj]; have := h.le; omega) (by rw [hcj]; omega)
    rw [hcj] at this
    exact this
/-- The front is the least. -/
theorem front {lt : α → α → Prop} (O : Ord lt) {f : Nat → α} {n : Nat} (h : Heap lt f 0 n) : ∀ c, c < n → ¬ lt (f c) (f 0) := by
  intro c
  induction c using Nat.strongRecOn with
  | _ c ih =>
    intro hc
    by_cases h0 : c = 0
    · subst h0
      intro hl
      exact O.asym _ _ hl hl
    · have hp := parent_lt (Nat.pos_of_ne_zero h0)
      exact O.trans _ _ _ (ih _ hp (by omega)) (h c (by omega) hc (Nat.zero_le _))
end Go.Proofs.YtcdcnhecimajkaaGreat.Heap

/- Layer 13, plain: rows that rise, merged by a heap of them, are all records, rising. -/
namespace Go.Proofs.YtcdcnhecimajkaaGreat.Merge
open Go.Proofs.YtcdcnhecimajkaaGreat.Heap

abbrev B := List UInt8
abbrev Rises (l : List B) : Prop := l.Pairwise (· ≤ ·)
/-- A row that is not at its end is below another if its first record is. -/
def hlt (r s : List B) : Prop := ∃ a b, r.head? = some a ∧ s.head? = some b ∧ a < b
theorem hlt_iff {r s : List B} {a b : B} (h1 : r.head? = some a) (h2 : s.head? = some b) : hlt r s ↔ a < b := by
  constructor
  · rintro ⟨a', b', e1, e2, h⟩
    rw [h1] at e1
    rw [h2] at e2
    cases e1
    cases e2
    exact h
  · exact fun h => ⟨a, b, h1, h2, h⟩
/-- The rows that are not at their ends. -/
abbrev Row := { r : List B // r ≠ [] }
def lt (r s : Row) : Prop := hlt r.1 s.1
def hd (r : Row) : B := r.1.head r.2
theorem hd_some (r : Row) : r.1.head? = some (hd r) := List.head?_eq_some_head r.2
theorem lt_iff (r s : Row) : lt r s ↔ hd r < hd s := hlt_iff (hd_some r) (hd_some s)
theorem ord : Ord lt where
  asym := fun a b h k => by
    rw [lt_iff] at h k
    exact absurd (List.le_of_lt k) (List.not_le.2 h)
  trans := fun a b c h k => by
    rw [lt_iff, List.not_lt] at h k ⊢
    exact List.le_trans h k
theorem rises_head {r : Row} (h : Rises r.1) : ∀ x ∈ r.1, hd r ≤ x := fun x hx => by
  obtain ⟨l, hl⟩ := r
  cases l with
  | nil => exact absurd rfl hl
  | cons a t =>
    rcases List.mem_cons.1 hx with rfl | hx
    · exact List.le_refl _
    · exact (List.pairwise_cons.1 h).1 x hx
/-- All records of the first n rows. -/
def recs (f : Nat → Row) (n : Nat) : List B := ((row f n).map Subtype.val).flatten
theorem recs_perm {f g : Nat → Row} {n m : Nat} (h : (row f n).Perm (row g m)) : (recs f n).Perm (recs g m) := (h.map _).flatten
/-- What has come out, and what is left. -/
structure Inv (all out : List B) (f : Nat → Row) (n : Nat) : Prop where
  heap : Heap lt f 0 n
  rises : ∀ c, c < n → Rises (f c).1
  up : Rises out
  low : ∀ o ∈ out, ∀ x ∈ recs f n, o ≤ x
  same : (out ++ recs f n).Perm all
theorem mem_recs {f : Nat → Row} {n : Nat} {x : B} : x ∈ recs f n ↔ ∃ c, c < n ∧ x ∈ (f c).1 := by
  unfold recs row
  simp only [List.mem_flatten, List.mem_map, List.mem_range]
  constructor
  · rintro ⟨l, ⟨r, ⟨c, hc, rfl⟩, rfl⟩, hx⟩
    exact ⟨c, hc, hx⟩
  · rintro ⟨c, hc, hx⟩
    exact ⟨_, ⟨_, ⟨c, hc, rfl⟩, rfl⟩, hx⟩
/-- The front's first record is the least of all. -/
theorem least {all out : List B} {f : Nat → Row} {n : Nat} (h : Inv all out f n) : ∀ x ∈ recs f n, hd (f 0) ≤ x := fun x hx => by
  obtain ⟨c, hc, hx⟩ := mem_recs.1 hx
  have h1 := front ord h.heap c hc
  rw [lt_iff, List.not_lt] at h1
  exact List.le_trans h1 (rises_head (h.rises c hc) x hx)
theorem recs_front {f : Nat → Row} {n : Nat} (hn : 0 < n) : recs f n = (f 0).1 ++ ((List.range (n - 1)).map (fun k => (f (k + 1)).1)).flatten := by
  obtain ⟨m, rfl⟩ : ∃ m, n = m + 1 := ⟨n - 1, by omega⟩
  unfold recs row
  rw [List.range_succ_eq_map]
  simp [Function.comp_def]
/-- The front's first record comes out: what is left of the front goes on as it may. -/
theorem step {all out : List B} {f g : Nat → Row} {n m : Nat} (h : Inv all out f n) (hg : Heap lt g 0 m) (hr : ∀ c, c < m → Rises (g c).1) (hp : (hd (f 0) :: recs g m).Perm (recs f n)) : Inv all (out ++ [hd (f 0)]) g m := by
  have hin : hd (f 0) ∈ recs f n := hp.mem_iff.1 (by simp)
  refine ⟨hg, hr, ?_, fun o ho x hx => ?_, ?_⟩
  · refine List.pairwise_append.2 ⟨h.up, by simp, fun a ha b hb => ?_⟩
    rw [List.mem_singleton.1 hb]
    exact h.low a ha _ hin
  · have hx' : x ∈ recs f n := hp.mem_iff.1 (List.mem_cons_of_mem _ hx)
    rcases List.mem_append.1 ho with ho | ho
    · exact h.low o ho x hx'
    · rw [List.mem_singleton.1 ho]
      exact least h x hx'
  · rw [List.append_assoc]
    exact (List.Perm.append_left out hp).trans h.same
/-- Where the front goes on with the rest of its row. -/
theorem rest_perm {f g : Nat → Row} {n : Nat} (hn : 0 < n) {r : Row} (hr : (f 0).1 = hd (f 0) :: r.1) (hg : (row g n).Perm (row (put f 0 r) n)) : (hd (f 0) :: recs g n).Perm (recs f n) := by
  refine (List.Perm.cons _ (recs_perm hg)).trans ?_
  rw [recs_front hn, recs_front hn, put_same, hr]
  have : (fun k => (put f 0 r (k + 1)).1) = fun k => (f (k + 1)).1 := by
    funext k
    rw [put_other f r (by omega)]
  rw [this]
  exact List.Perm.refl _
/-- Where the front's row is at its end. -/
theorem gone_perm {f g : Nat → Row} {n : Nat} (hr : (f 0).1 = [hd (f 0)]) (hg : (f 0 :: row g n).Perm (row f (n + 1))) : (hd (f 0) :: recs g n).Perm (recs f (n + 1)) := by
  have h := ((hg.map Subtype.val).flatten)
  rw [List.map_cons, List.flatten_cons, hr] at h
  exact h
/-- All has come out. -/
theorem done {all out : List B} {f : Nat → Row} (h : Inv all out f 0) : Rises out ∧ out.Perm all := by
  have := h.same
  have e : recs f 0 = [] := rfl
  rw [e, List.append_nil] at this
  exact ⟨h.up, this⟩
theorem sorted_one {a b : List B} (h1 : Rises a) (h2 : Rises b) (hp : a.Perm b) : a = b :=
  List.Perm.eq_of_pairwise (fun _ _ _ _ h k => List.le_antisymm h k) h1 h2 hp
/-- What has come out so far stands in front of the sorted list of all. -/
theorem prefix_of {all out s : List B} {f : Nat → Row} {n : Nat} (h : Inv all out f n) (hs : Rises s) (hp : s.Perm all) : out <+: s := by
  obtain ⟨t, ht1, ht2⟩ : ∃ t : List B, t.Perm (recs f n) ∧ Rises t := ⟨(recs f n).mergeSort (fun x y => decide (x ≤ y)), List.mergeSort_perm _ _, by
    have := List.pairwise_mergeSort (le := fun x y : B => decide (x ≤ y)) (fun a b c h k => by simp at h k ⊢; exact List.le_trans h k) (fun a b => by simp; exact List.le_total a b) (recs f n)
    exact this.imp (fun h => by simpa using h)⟩
  have e : out ++ t = s := sorted_one (List.pairwise_append.2 ⟨h.up, ht2, fun a ha b hb => h.low a ha b (ht1.mem_iff.1 hb)⟩) hs (((List.Perm.append_left out ht1).trans h.same).trans hp.symm)
  exact ⟨t, e⟩
end Go.Proofs.YtcdcnhecimajkaaGreat.Merge

/- A range over a function whose rounds are told of the element that came, in the world in which it comes; the iterator may write what is its own between two rounds ('Mine'). -/
namespace Go.Proofs.YtcdcnhecimajkaaGreat.Sees
open Go.RowKit

/-- The kit's wpList_append_lies inside a fence. -/
theorem wpListIn_append_lies {F : Fence} {n : Nat} {P : Program} (w : World) {ops : Array Oper} {rest : List Oper} {o : Oper} {a : Act} {Q : Exit → Act → World → Prop}
    (hg : o.guard = none) (s x : Operand) (t : TypeId) (hop : o.op = Op.call { callee := Callee.builtin Builtin.append, args := #[s, x], argTypes := #[t, t] })
    (base : Nat) (e : TypeId) (i : TypeInfo) (z : Value) (size bytes : Nat) (ht : P.underlying t = some (.slice e)) (hi : P.info? e = some i) (hz : i.zero = some z)
    (hsize : i.size = size) (hby : i.bytes = bytes) (hzs : z.cells.size = size) (hsz : 0 < size)
    (v : Value) (k : Nat) (xs : List Value) (hs : a.eval s = v) (hown : w.ownsRow base e size v k xs)
    (ad : Addr) (m c : Nat) (news : List Value) (hx : a.eval x = .slice (some ad) m c) (hl : news.length = m * size) (hnews : ∀ j u, news[j]? = some u → w.cell? (ad.add j) = some u) (h1 : ∀ u ∈ news, u.oneCell' = true)
    (hm : 0 < m) (h63 : k + m ≤ maxLen) (hbytes : (k + m) * bytes ≤ 140737488355328) (hbase : base ≤ w.heap.size)
    (h : ∀ g cap w', w'.ownsRow base e size (.slice (some ⟨g, 0, none⟩) (k + m) cap) (k + m) (xs ++ news) → w.grownBy w' v.ownBlock → (v.ownBlock = some g ∨ g = w.heap.size) → g < w'.heap.size → wpListIn F n P ops Q rest (a.put o.dst (.slice (some ⟨g, 0, none⟩) (k + m) cap)) w') :
    wpListIn F n P ops Q (o :: rest) a w := by
  refine wpListIn_plain hg fun K hK' => ?_
  obtain ⟨g, cap, w', hr, h2, h3, h4, h5⟩ := run_append_lies (P := P) w t o.type base e i z size bytes ht hi hz hsize hby hzs hsz v k xs hown ad m c news hl hnews h1 hm h63 hbytes hbase w.heap.size rfl
  unfold Oper.wpIn
  refine ⟨?_, ?_⟩
  · simp [Oper.about, hop, resolve, Target.leads, Sem.run_pure]
  · rw [Oper.semAt_plain F _ _ (by rw [hop]; intro c hc'; cases hc')]
    simp [execOp, hop, resolve, invoke, builtin, hs, hx, hr, Result.andThen]
    exact hK' _ _ (h g cap w' h2 h3 h4 h5)

/-- The iterator's contract: V is told of an element, and of those ahead of it, when it comes; Kp is what a round that goes on keeps; Mine is what the iterator itself may do. -/
def SeqSees {α : Type} (F : Fence) (n : Nat) (P : Program) (g : Nat) (lb : Array Value) (encs : α → Array Value) (Mine Kp : World → World → Prop) (V : List α → α → World → Prop) (S Sp : List α → Prop) (N : Nat) (w : World) : Prop :=
  ∀ (l : Nat) (J Jx : List α → World → Prop) (W : World), Below w.heap.size w W → (∀ s X Y, J s X → Mine X Y → J s Y) → (∀ s X Y, Jx s X → Mine X Y → Jx s Y) →
    (∀ pre x W1, J pre W1 → pre.length < N → V pre x W1 → YieldAt F (n - 1) P l (encs x) W1 fun e W' => (e = .returned (.bool true) ∧ J (pre ++ [x]) W' ∧ Kp W1 W') ∨ (e = .returned (.bool false) ∧ Jx (pre ++ [x]) W')) →
    J [] W → CallsIn F n P g (#[.func (.yield l) #[] #[]] ++ lb) W fun e W' => (∃ v, e = .returned v) ∧ ((∃ xs, S xs ∧ J xs W') ∨ (∃ pre, Sp pre ∧ Jx pre W'))

/-- The loop's two blocks as they stand: its record r at l, the block of its rounds' deferred calls at D. -/
def Book (D l : Nat) (r : Loop) (W : World) : Prop := W.heap[l]? = some (.loop r) ∧ W.heap[D]? = some (.deferred (some []))
theorem Book.turn {D l : Nat} {r : Loop} {W : World} (h : Book D l r W) (hne : D ≠ l) (r' : Loop) : Book D l r' (W.putObj l (.loop r')) :=
  ⟨World.putObj_heap_same (Array.getElem?_eq_some_iff.1 h.1).1, (World.putObj_heap_other hne).trans h.2⟩
theorem Book.kept {B D l : Nat} {r : Loop} {W W' : World} (h : Book D l r W) (hk : KeepsFrom B W W') (h1 : B ≤ D) (h2 : B ≤ l) : Book D l r W' := ⟨hk.same l _ h2 h.1 rfl, hk.same D _ h1 h.2 rfl⟩

section
variable {F : Fence} {n : Nat} {P : Program}
theorem wpIn_range_sees {α : Type} {g : Operand} {ps : Array Tmp} {assign body : Code} {Q : Exit → Act → World → Prop} {a : Act} {w : World}
    (hro : F.round = none) (h1 : 1 ≤ n) {gf : Nat} {lb : Array Value} (hg : a.eval g = .func (.func gf) #[] lb) (hFg : F.fn gf) (eg : ∀ args w, (callFunc gf args).run P w = .ok (.enter gf args) w)
    {encs : α → Array Value} {Mine Kp : World → World → Prop} {V : List α → α → World → Prop} {S Sp : List α → Prop} {N : Nat} {w0 : World} (hseq : SeqSees F (n - 1) P gf lb encs Mine Kp V S Sp N w0)
    (hM : ∀ X Y, Mine X Y → KeepsFrom w.heap.size X Y)
    (hKt : ∀ {X Y Z : World}, Kp X Y → Kp Y Z → Kp X Z) (hKb : ∀ (W : World) (l : Nat) (o o' : Obj), w.heap.size ≤ l → W.heap[l]? = some o → o.isCells = false → o.isWalk = false → Kp W (W.putObj l o'))
    (hVb : ∀ (pre : List α) (x : α) (W : World) (l : Nat) (o o' : Obj), V pre x W → w.heap.size ≤ l → W.heap[l]? = some o → o.isCells = false → V pre x (W.putObj l o'))
    (hb0 : Below w0.heap.size w0 w) (hps : ∀ x, (encs x).size = ps.size)
    (I : List α → World → Prop) (Ix : Code → List α → World → Prop) (hI : OwnFrom w.heap.size I) (hIx : ∀ c, OwnFrom w.heap.size (Ix c)) (hIM : ∀ s X Y, I s X → Mine X Y → I s Y) (hIxM : ∀ c s X Y, Ix c s X → Mine X Y → Ix c s Y) (h0 : I [] w) (a₁ : α → Act)
    (hassign : ∀ (l : Nat) (x : α) (W : World) (K : Act → World → Prop), K (a₁ x) W →
      assign.wpIn (F.inRound l) (n - 1 - 1) P (Exit.then K (fun _ _ _ => False)) { tmps := (ps.zip (encs x)).foldl (fun t (p, v) => t.setIfInBounds p v) a.tmps, defers := [] } W)
    (hbody : ∀ (l : Nat) (pre : List α) (x : α) (W : World), I pre W → pre.length < N → V pre x W → body.wpIn (F.inRound l) (n - 1 - 1) P (ownPostG w.heap.size Kp I Ix (pre ++ [x]) W) (a₁ x) W)
    (hdone : ∀ (D : Nat) (xs : List α) (W : World), w.heap.size ≤ D → S xs → I xs W → W.heap[D]? = some (.deferred (some [])) → Q .normal { a with defers := { target := .collected D, args := #[] } :: a.defers } W)
    (hstop : ∀ (D : Nat) (c : Code) (pre : List α) (W : World), w.heap.size ≤ D → Sp pre → Ix c pre W → W.heap[D]? = some (.deferred (some [])) → c.wpIn F n P Q { a with defers := { target := .collected D, args := #[] } :: a.defers } W) :
    (Code.rangeFunc g ps assign body).wpIn F n P Q a w := by
  refine wpIn_rangeFunc (fun fn hfn => ?_)
  rw [hro]
  obtain ⟨B, hB⟩ : ∃ B, B = w.heap.size := ⟨_, rfl⟩
  -- the record, by its state and its pending jump
  obtain ⟨rec, hrec⟩ : ∃ rec : LoopState → Option Code → Loop, rec = fun st pe => { state := st, pending := pe, fn, tmps := a.tmps, params := ps, assign, body, defers := B } := ⟨_, rfl⟩
  obtain ⟨W1, hW1⟩ : ∃ W1, W1 = (w.alloc (.deferred (some []))).alloc (.loop (rec .ready none)) := ⟨_, rfl⟩
  have hne : B ≠ B + 1 := by omega
  have hbk1 : Book B (B + 1) (rec .ready none) W1 := by
    rw [hW1, hB]
    refine ⟨?_, ?_⟩
    · have := World.alloc_heap_new (w.alloc (.deferred (some []))) (.loop (rec .ready none))
      rwa [World.size_alloc] at this
    · exact (Below.heap_alloc _ _ _ (by simp)).trans (World.alloc_heap_new w _)
  have hI1 : I [] W1 := by rw [hW1]; exact hI.alloc _ (hI.alloc _ h0)
  have hb1 : Below w0.heap.size w0 W1 := by
    rw [hW1]
    exact hb0.trans ((((Below.refl _ w).alloc (Nat.le_refl _) _).alloc (by simp) _).mono hb0.size)
  have hent := run_enterLoop_outer (P := P) (w := w) fn a.tmps ps assign body
  rw [← hB] at hent
  have hW1' : (w.alloc (.deferred (some []))).alloc (.loop { state := .ready, pending := none, fn, tmps := a.tmps, params := ps, assign, body, defers := B }) = W1 := by rw [hW1, hrec]
  rw [hW1'] at hent
  rw [← hB] at hM hKb hVb hI hIx hbody hdone hstop
  refine ⟨B + 1, [{ target := .collected B, args := #[] }], W1, { target := .fn (.func gf) lb, args := #[.func (.yield (B + 1)) #[] #[]] }, W1, gf, #[.func (.yield (B + 1)) #[] #[]] ++ lb, W1, hent, ?_, ?_, ?_, fun _ => h1, ?_⟩
  · simp only [resolve, hg]
    simp [go_sem]
  · intro f' hf'
    simp [Target.leads] at hf'
    subst hf'
    exact hFg
  · simp [invoke, go_sem, eg]
  refine (hseq (B + 1) (fun pre W => I pre W ∧ Book B (B + 1) (rec .ready none) W) (fun pre W => ∃ c, Ix c pre W ∧ Book B (B + 1) (rec .done (some c)) W) W1 hb1
    (fun s X Y h hm => ⟨hIM s X Y h.1 hm, h.2.kept (hM X Y hm) (Nat.le_refl _) (by omega)⟩)
    (fun s X Y h hm => by obtain ⟨c, hc, hk⟩ := h; exact ⟨c, hIxM c s X Y hc hm, hk.kept (hM X Y hm) (Nat.le_refl _) (by omega)⟩)
    ?_ ⟨hI1, hbk1⟩).mono ?_
  · -- a round
    rintro pre x W ⟨hi, hk⟩ hlen hv
    have hlW := hk.1
    have hy := run_yield (P := P) (args := encs x) hlW (by rw [hrec]; exact hps x)
    rw [hrec] at hy
    refine ⟨fn, _, assign, body, hy, roundIn_of_wpIn hfn (hassign _ x W _ ⟨_, run_beginRound hlW (by rw [hrec]), ?_⟩)⟩
    have hk2 := hk.turn hne { rec .ready none with state := .busy }
    have hp2 : Kp W (W.putObj (B + 1) (.loop { rec .ready none with state := .busy })) := hKb _ _ _ _ (by omega) hlW rfl rfl
    refine wpIn_mono (hbody _ pre x _ (hI.putObj _ hi (by omega) hlW rfl) hlen (hVb pre x W _ _ _ hv (by omega) hlW rfl)) ?_
    -- how a round ends
    have hend : ∀ (jump : Option Code) (W3 : World), KeepsFrom B (W.putObj (B + 1) (.loop { rec .ready none with state := .busy })) W3 →
        ∃ W4, W4 = W3.putObj (B + 1) (.loop (rec (if jump.isNone then .ready else .done) jump)) ∧ (Instr.endRound (B + 1) jump).run P W3 = .ok (.bool jump.isNone) W4 ∧
          W3.heap[B + 1]? = some (.loop { rec .ready none with state := .busy }) ∧ Book B (B + 1) (rec (if jump.isNone then .ready else .done) jump) W4 := fun jump W3 hk3 => by
      have hk4 := hk2.kept hk3 (Nat.le_refl _) (by omega)
      have hr := run_endRound (P := P) jump hk4.1
      rw [hrec] at hr hk4 ⊢
      exact ⟨_, rfl, hr, hk4.1, hk4.turn hne _⟩
    intro e a3 W3 hp
    cases e with
    | normal =>
      obtain ⟨hk3, hkp3, hi3⟩ := hp
      obtain ⟨W4, rfl, hr, hl3, hk4⟩ := hend none W3 hk3
      exact ⟨_, _, hr, .inl ⟨rfl, ⟨hI.putObj _ hi3 (by omega) hl3 rfl, hk4⟩, hKt (hKt hp2 hkp3) (hKb _ _ _ _ (by omega) hl3 rfl rfl)⟩⟩
    | ret =>
      obtain ⟨W4, rfl, hr, hl3, hk4⟩ := hend (some .ret) W3 hp.1
      exact ⟨_, _, hr, .inr ⟨rfl, .ret, (hIx _).putObj _ hp.2 (by omega) hl3 rfl, hk4⟩⟩
    | exit id =>
      obtain ⟨W4, rfl, hr, hl3, hk4⟩ := hend (some (.exit id)) W3 hp.1
      exact ⟨_, _, hr, .inr ⟨rfl, .exit id, (hIx _).putObj _ hp.2 (by omega) hl3 rfl, hk4⟩⟩
    | goto t =>
      obtain ⟨W4, rfl, hr, hl3, hk4⟩ := hend (some (.goto t)) W3 hp.1
      exact ⟨_, _, hr, .inr ⟨rfl, .goto t, (hIx _).putObj _ hp.2 (by omega) hl3 rfl, hk4⟩⟩
    | panic ch => exact hp.elim
    | outgrown => exact hp.elim
  · -- the iterator has come back
    rintro e W2 ⟨⟨v, rfl⟩, hd⟩
    rcases hd with ⟨xs, hS, hi, hk⟩ | ⟨pre, hSp, c, hi, hk⟩
    · have hr := run_endLoop (P := P) hk.1 (by rw [hrec]; simp)
      rw [hrec] at hr
      exact ⟨none, _, hr, hdone B xs _ (Nat.le_refl _) hS (hI.putObj _ hi (by omega) hk.1 rfl) ((World.putObj_heap_other hne).trans hk.2)⟩
    · have hr := run_endLoop (P := P) hk.1 (by rw [hrec]; simp)
      rw [hrec] at hr
      exact ⟨some c, _, hr, hstop B c pre _ (Nat.le_refl _) hSp ((hIx c).putObj _ hi (by omega) hk.1 rfl) ((World.putObj_heap_other hne).trans hk.2)⟩
end
end Go.Proofs.YtcdcnhecimajkaaGreat.Sees

/- Records in memory: slices of bytes, and rows of them, read only. -/
namespace Go.Proofs.YtcdcnhecimajkaaGreat.Runs
open Go.RowKit Go.Deep Mem Crc Go.Proofs.YtcdcnhecimajkaaGreat.Merge

/-- A record as a value. -/
def RecAt (w : World) (v : Value) (b : B) : Prop := ∃ a c, v = .slice a b.length c ∧ b.length ≤ c ∧ Lies w a (b.map bv)
theorem RecAt.later {w w' : World} {v : Value} {b : B} (h : RecAt w v b) (hB : Below w.heap.size w w') : RecAt w' v b := by
  obtain ⟨a, c, e, h1, h2⟩ := h
  exact ⟨a, c, e, h1, h2.later hB⟩
/-- Values of records. -/
structure RecsIn (w : World) (vs : List Value) (l : List B) : Prop where
  len : vs.length = l.length
  at_ : ∀ (i : Nat) (v : Value) (b : B), vs[i]? = some v → l[i]? = some b → RecAt w v b
theorem RecsIn.later {w w' : World} {vs : List Value} {l : List B} (h : RecsIn w vs l) (hB : Below w.heap.size w w') : RecsIn w' vs l := ⟨h.len, fun i v b h1 h2 => (h.at_ i v b h1 h2).later hB⟩
theorem recsIn_nil (w : World) : RecsIn w [] [] := ⟨rfl, fun i v b h1 => by simp at h1⟩
theorem RecsIn.snoc {w : World} {vs : List Value} {l : List B} (h : RecsIn w vs l) {v : Value} {b : B} (hv : RecAt w v b) : RecsIn w (vs ++ [v]) (l ++ [b]) := by
  refine ⟨by simp [h.len], fun i u c h1 h2 => ?_⟩
  by_cases hi : i < vs.length
  · rw [List.getElem?_append_left hi] at h1
    rw [List.getElem?_append_left (by rw [← h.len]; exact hi)] at h2
    exact h.at_ i u c h1 h2
  · have hl := h.len
    rw [List.getElem?_append_right (by omega)] at h1
    rw [List.getElem?_append_right (by omega), ← hl] at h2
    have h3 : i - vs.length = 0 := by
      have := (List.getElem?_eq_some_iff.1 h1).1
      simp at this
      omega
    rw [h3] at h1 h2
    simp at h1 h2
    rw [← h1, ← h2]
    exact hv
theorem RecsIn.drop {w : World} {vs : List Value} {l : List B} (h : RecsIn w vs l) (n : Nat) : RecsIn w (vs.drop n) (l.drop n) :=
  ⟨by simp [h.len], fun i v b h1 h2 => h.at_ (n + i) v b (by rwa [List.getElem?_drop] at h1) (by rwa [List.getElem?_drop] at h2)⟩
/-- A row of records as a value. -/
def RowAt (w : World) (v : Value) (l : List B) : Prop := ∃ a c vs, v = .slice a l.length c ∧ l.length ≤ c ∧ Lies w a vs ∧ RecsIn w vs l
theorem RowAt.later {w w' : World} {v : Value} {l : List B} (h : RowAt w v l) (hB : Below w.heap.size w w') : RowAt w' v l := by
  obtain ⟨a, c, vs, e, h1, h2, h3⟩ := h
  exact ⟨a, c, vs, e, h1, h2.later hB, h3.later hB⟩
/-- What bytes.Compare says. -/
def cmpB (a b : B) : Int := if a < b then -1 else if b < a then 1 else 0
theorem cmpB_lt (a b : B) : cmpB a b < 0 ↔ a < b := by
  unfold cmpB
  by_cases h : a < b
  · simp [h]
  · by_cases k : b < a <;> simp [h, k]
theorem cmpB_nil (b : B) : cmpB [] b = if b = [] then 0 else -1 := by
  cases b with
  | nil => rfl
  | cons x t => simp [cmpB]
theorem cmpB_nil_r (a : B) : cmpB a [] = if a = [] then 0 else 1 := by
  cases a with
  | nil => rfl
  | cons x t => simp [cmpB]
theorem cmpB_cons (x y : UInt8) (s t : B) : cmpB (x :: s) (y :: t) = if x < y then -1 else if y < x then 1 else cmpB s t := by
  unfold cmpB
  by_cases h : x < y
  · simp [List.cons_lt_cons_iff, h]
  · by_cases k : y < x
    · have hne : ¬ x = y := fun e => by subst e; exact UInt8.lt_irrefl _ k
      have hne2 : ¬ y = x := fun e => hne e.symm
      simp [List.cons_lt_cons_iff, h, k, hne, hne2]
    · have e : x = y := UInt8.le_antisymm (UInt8.not_lt.1 k) (UInt8.not_lt.1 h)
      subst e
      simp [UInt8.lt_irrefl]
end Go.Proofs.YtcdcnhecimajkaaGreat.Runs

/- bytes.Compare, walked down to the model's entry. -/
namespace Go.Proofs.YtcdcnhecimajkaaGreat.Runs
open Go.RowKit Go.Deep Mem Crc Go.Proofs.YtcdcnhecimajkaaGreat.Merge

theorem run_loadB (w : World) (g : Nat) : ∀ (bs : List UInt8) (off : Nat) (acc : ByteArray), (∀ i u, bs[i]? = some u → w.cell? ⟨g, off + i, none⟩ = some (bv u)) →
    (Extern.Bytes.loadBytes ⟨g, off, none⟩ bs.length acc).run Tryz.prog w = .ok ⟨acc.data ++ bs.toArray⟩ w
  | [], _, acc, _ => by simp [Extern.Bytes.loadBytes]
  | x :: t, off, acc, h => by
    have h0 : w.cell? ⟨g, off, none⟩ = some (.int .u8 (x.toNat : Int)) := by simpa [bv] using h 0 x rfl
    have hadd : (⟨g, off, none⟩ : Addr).add 1 = ⟨g, off + 1, none⟩ := by unfold Addr.add; split <;> simp_all
    have ih := run_loadB w g t (off + 1) (acc.push ((x.toNat : Int).toNat.toUInt8)) (fun i u hu => by
      have := h (i + 1) u (by simpa using hu)
      rw [show off + 1 + i = off + (i + 1) by omega]
      exact this)
    simp only [List.length_cons, Extern.Bytes.loadBytes, Sem.run_bind, run_load, h0, Result.andThen_ok, hadd, ih]
    congr 1
    apply ByteArray.ext
    simp
theorem run_bytesOf (w : World) (a : Option Addr) (c : Nat) (bs : List UInt8) (h : Lies w a (bs.map bv)) : (Extern.Bytes.bytesOf (.slice a bs.length c)).run Tryz.prog w = .ok ⟨bs.toArray⟩ w := by
  cases a with
  | none =>
    have e : bs = [] := by simpa using lies_none h
    subst e
    rfl
  | some p =>
    rcases h with h | ⟨g, off, e, _, hc⟩
    · have e : bs = [] := by simpa using h
      subst e
      rfl
    · cases e
      have := run_loadB w g bs off .empty (fun i u hu => hc i (bv u) (bv_at hu))
      show (Extern.Bytes.loadBytes ⟨g, off, none⟩ bs.length .empty).run Tryz.prog w = _
      rw [this]
      congr 1
      apply ByteArray.ext
      show (#[] : Array UInt8) ++ bs.toArray = bs.toArray
      simp
theorem cmp_eq : ∀ a b : B, Lib.compareBytes a b = cmpB a b
  | [], [] => rfl
  | [], _ :: _ => by rw [cmpB_nil, if_neg (by simp)]; rfl
  | _ :: _, [] => by rw [cmpB_nil_r, if_neg (by simp)]; rfl
  | x :: s, y :: t => by
    rw [cmpB_cons]
    unfold Lib.compareBytes
    rw [cmp_eq s t]
set_option maxHeartbeats 400000 in
set_option maxRecDepth 100000 in
theorem compare_any (u v : Value) (a b : B) (w : World) (h1 : RecAt w u a) (h2 : RecAt w v b) :
    Calls Tryz.prog 48 #[u, v] w fun e w' => e = .returned (.int .i64 (cmpB a b)) ∧ w' = w := by
  obtain ⟨p, cp, rfl, _, hp⟩ := h1
  obtain ⟨q, cq, rfl, _, hq⟩ := h2
  have hrun : (Extern.BytealgCompare.compare #[.slice p a.length cp, .slice q b.length cq]).run Tryz.prog w = .ok (.int .i64 (cmpB a b)) w := by
    have e1 := run_bytesOf w p cp a hp
    have e2 := run_bytesOf w q cq b hq
    show Sem.run Tryz.prog (do pure (goInt (Extern.BytealgCompare.cmp (← Extern.Bytes.bytesOf (.slice p a.length cp)) (← Extern.Bytes.bytesOf (.slice q b.length cq))))) w = _
    simp only [Sem.run_bind, e1, Result.andThen_ok, e2, Sem.run_pure, Lib.cmp_eq]
    rw [← cmp_eq]
    simp [goInt]
  have HR := Lib.hid hrun
  clear hp hq hrun
  go_enter Tryz.func48, Tryz.ntmps48
  go_wp2_with fail
  rw [run_callFunc_extern Tryz.func78 (by kernel_rfl) (by kernel_rfl) (by kernel_rfl) (e := Extern.BytealgCompare.compare) (by kernel_rfl), HR.out]
  simp only [Result.andThen]
  rw [Oper.upon_value]
  go_wp2_with fail
  go_ret
  exact ⟨rfl, rfl⟩
end Go.Proofs.YtcdcnhecimajkaaGreat.Runs

/- slices.Values, Collect and AppendSeq at rows of records. -/
namespace Go.Proofs.YtcdcnhecimajkaaGreat.Runs
open Go.RowKit Go.Deep Go.Shelf Mem Crc Go.Proofs.YtcdcnhecimajkaaGreat.Merge

attribute [local go_sem] Oper.semAt_some

/-- A slice of bytes, as a triple: where, how long, its capacity. -/
abbrev SL := Option Addr × Nat × Nat
def sl (x : SL) : Value := .slice x.1 x.2.1 x.2.2
set_option maxRecDepth 100000 in
set_option maxHeartbeats 2000000 in
theorem values1_in (F : Fence) (n : Nat) (h7 : F.fn 77) (hro : F.round = none) (hn : 1 ≤ n) (l Bs : Nat) {w0 : World} {a : Option Addr} {c : Nat} {vs : List SL} (hL : Lies w0 a (vs.map sl)) (hlc : vs.length ≤ c) (hmax : vs.length ≤ 1000000) (J Jx : List SL → World → Prop)
    (hY : ∀ pre x W, J pre W → pre.length < vs.length → YieldAt F (n - 1) Tryz.prog l #[sl x] W fun e W' =>
      (e = .returned (.bool true) ∧ J (pre ++ [x]) W' ∧ Below w0.heap.size W W') ∨ (e = .returned (.bool false) ∧ Jx (pre ++ [x]) W'))
    (W : World) (hB : Below w0.heap.size w0 W) (hcs : W.cell? ⟨Bs, 0, none⟩ = some (.slice a vs.length c)) (h0 : J [] W) :
    CallsIn F n Tryz.prog 77 #[.func (.yield l) #[] #[], .pointer (some ⟨Bs, 0, none⟩)] W fun e W' => (∃ v, e = .returned v) ∧
      ((∃ ys, ys = vs ∧ J ys W') ∨ (∃ pre, (∃ k, k ≤ vs.length ∧ pre = vs.take k) ∧ Jx pre W')) := by
  have HL := Lib.hid hL
  clear hL
  refine callsIn_of_wp Tryz.func77 rfl h7 ?_ hro
  simp only [Tryz.ntmps77, List.size_toArray, List.length_cons, List.length_nil, Nat.reduceAdd, Nat.reduceSub, Array.replicate_succ, Array.replicate_zero, List.push_toArray, List.append_toArray, List.nil_append, List.cons_append]
  gi_wp2
  gi_loopw [7] (fun i wr => ∃ k : Nat, k ≤ vs.length ∧ i = .int .i64 k ∧ J (vs.take k) wr ∧ Below w0.heap.size W wr)
    (fun i _ => vs.length - (intOf i).toNat)
  case atStart => exact ⟨0, Nat.zero_le _, rfl, by simpa using h0, Below.refl _ _⟩
  case round =>
    obtain ⟨k, hk, rfl, hJs, hnx⟩ := hrel
    by_cases hlt : k < vs.length
    · have hlr := HL.out.later (hB.trans hnx)
      obtain ⟨x, hx⟩ : ∃ x, vs[k]? = some x := ⟨vs[k], List.getElem?_eq_getElem hlt⟩
      have hmap : (vs.map sl)[k]? = some (sl x) := by simp [hx]
      obtain ⟨g, off, ea, _, hcell⟩ : ∃ g off, a = some ⟨g, off, none⟩ ∧ g < wr.heap.size ∧ ∀ i u, (vs.map sl)[i]? = some u → wr.cell? ⟨g, off + i, none⟩ = some u := by
        rcases hlr with e | h
        · rw [e] at hmap; cases hmap
        · exact h
      have hck := hcell k _ hmap
      have hw : RowKit.wrap64 ((k : Int) + 1) = (k : Int) + 1 := IntWalk.wrap64_in _ (by omega)
      have hyes : vs.take (k + 1) = vs.take k ++ [x] := by rw [List.take_add_one, hx]; rfl
      obtain ⟨fn, tmps, assign, body, hy, hR⟩ := hY _ x wr hJs (by simp; omega)
      have HYS := Lib.hid hyes
      have HX := Lib.hid hnx
      have HE := Lib.hid ea
      clear hyes hnx hcell hmap hx hlr
      subst a
      unfold sl at hck hy
      obtain ⟨xa, xn, xc⟩ := x
      dsimp only at hck hy
      gi_wp2
      refine hR.mono ?_
      rintro e W3 (⟨rfl, hJ3, hk3⟩ | ⟨rfl, hJx3⟩)
      · gi_wp2
        go_roundw
        case rel => exact ⟨k + 1, by omega, by simp [hw], by rw [HYS.out]; exact hJ3, HX.out.trans hk3⟩
        case measure => simp [intOf, hw]; omega
      · gi_wp2
        refine bodyPost_ret (results_none rfl _ _ _) rfl ?_
        exact ⟨⟨_, rfl⟩, .inr ⟨_, ⟨k + 1, by omega, HYS.out.symm⟩, hJx3⟩⟩
    · obtain rfl : k = vs.length := by omega
      rw [List.take_length] at hJs
      gi_wp2
      go_end0
      exact ⟨⟨_, rfl⟩, .inl ⟨_, rfl, hJs⟩⟩
set_option maxHeartbeats 1000000 in
theorem values_in (F : Fence) (n : Nat) (h5 : F.fn 47) (hro : F.round = none) (a : Option Addr) (len c : Nat) (w : World) :
    CallsIn F n Tryz.prog 47 #[.slice a len c] w fun e w' => e = .returned (.func (.func 77) #[] #[.pointer (some ⟨w.heap.size, 0, none⟩)]) ∧ w' = w.alloc (.cells #[.slice a len c] 22) := by
  refine callsIn_of_wp Tryz.func47 rfl h5 ?_ hro
  simp only [Tryz.ntmps47, List.size_toArray, List.length_cons, List.length_nil, Nat.reduceAdd, Nat.reduceSub, Array.replicate_succ, Array.replicate_zero, List.push_toArray, List.append_toArray, List.nil_append, List.cons_append]
  gi_wp2
  go_ret
  exact ⟨rfl, rfl⟩
/-- What Values hands back, ranged over. -/
theorem values_gives (F : Fence) (n : Nat) (h8 : F.fn 77) (hro : F.round = none) (hn : 1 ≤ n) (Bs : Nat) {w0 w : World} {a : Option Addr} {c : Nat} {vs : List SL} (hL : Lies w0 a (vs.map sl)) (hlc : vs.length ≤ c) (hmax : vs.length ≤ 1000000) (hB : Below w0.heap.size w0 w) (hBs : Bs < w.heap.size)
    (hc : w.cell? ⟨Bs, 0, none⟩ = some (.slice a vs.length c)) :
    SeqStopsK F n Tryz.prog 77 #[.pointer (some ⟨Bs, 0, none⟩)] (fun x : SL => #[sl x]) (Below w0.heap.size) (fun ys => ys = vs)
      (fun pre => ∃ k, k ≤ vs.length ∧ pre = vs.take k) vs.length w := fun l J Jx W hW _ _ hY h0 =>
  values1_in F n h8 hro hn l Bs hL hlc hmax J Jx (fun pre x W1 hj hl => hY pre x W1 hj hl) W (hB.trans (hW.mono hB.size)) ((hW.cell (p := ⟨Bs, 0, none⟩) hBs).trans hc) h0
end Go.Proofs.YtcdcnhecimajkaaGreat.Runs

/- slices.AppendSeq, Collect at [][]byte. -/
namespace Go.Proofs.YtcdcnhecimajkaaGreat.Runs
open Go.RowKit Go.Deep Go.Shelf Mem Crc Go.Proofs.YtcdcnhecimajkaaGreat.Merge

attribute [local go_sem] Oper.semAt_some
theorem infoSl : (Tryz.prog.info? 36).map (fun i => (i.zero, i.size, i.bytes)) = some (some (.slice none 0 0), 1, 24) := by kernel_rfl
/-- A row of slices of one's own. -/
abbrev OwnL (w : World) (base : Nat) (v : Value) (xs : List SL) : Prop := w.ownsRow base 36 1 v xs.length (xs.map sl)
theorem belowK_from {n0 : Nat} {w : World} (hn : n0 ≤ w.heap.size) (W : World) (l : Nat) (o o' : Obj) (hl : w.heap.size ≤ l) (h : W.heap[l]? = some o) (_ : o.isCells = false) (_ : o.isWalk = false) : Below n0 W (W.putObj l o') := by
  have hlt := (Array.getElem?_eq_some_iff.1 h).1
  exact (Below.refl _ W).grown (grownBy_putObj' W l o') (by omega) (fun q e => by cases e; omega)
theorem boxed_put {W : World} {B D : Nat} {t : TypeId} {v : Value} {o : Obj} (o' : Obj) (h : Boxed W B t v) (hK : W.heap[D]? = some o) (hc : o.isCells = false) : Boxed (W.putObj D o') B t v :=
  h.kept (grownBy_putObj' W D o') (fun e => by
    have e : B = D := by simpa using e
    subst e
    rw [show W.heap[B]? = _ from h] at hK
    cases hK
    cases hc)
set_option maxHeartbeats 1000000 in
set_option maxRecDepth 100000 in
theorem appendSeq_any {n0 : Nat} (g : Nat) (lb : Array Value) (eg : ∀ args w, (callFunc g args).run Tryz.prog w = .ok (.enter g args) w) {S Sp : List SL → Prop} {N : Nat} (hN : N ≤ 1000000) (w : World) (hn0 : n0 ≤ w.heap.size)
    (hseq : SeqStopsK Fence.wide 4 Tryz.prog g lb (fun x : SL => #[sl x]) (Below n0) S Sp N w) :
    Calls Tryz.prog 83 #[.slice none 0 0, .func (.func g) #[] lb] w fun e w' => ∃ v xs, e = .returned v ∧ S xs ∧ xs.length ≤ N ∧ OwnL w' w.heap.size v xs ∧ Below w.heap.size w w' := by
  obtain ⟨i0, hi0, hz0, hz1, hz2⟩ := info_parts infoSl
  have HSEQ := Lib.hid hseq
  clear hseq
  refine (callsIn_wide (n := 5)).1 ?_
  refine callsIn_of_wp_marks Tryz.func83 rfl trivial ?_ rfl
  simp only [Tryz.ntmps83, List.size_toArray, List.length_cons, List.length_nil, Nat.reduceAdd, Nat.reduceSub, Array.replicate_succ, Array.replicate_zero, List.push_toArray, List.append_toArray, List.nil_append, List.cons_append]
  refine wpIn_wide.2 ?_
  go_wp2_with fail
  obtain ⟨W0, hW0⟩ : ∃ W0, W0 = w.alloc (Obj.cells #[Value.slice none 0 0] 22) := ⟨_, rfl⟩
  have hbx : Boxed W0 w.heap.size 22 (.slice none 0 0) := by rw [hW0]; exact Boxed.new _ _ _
  have hB0 : Below w.heap.size w W0 := by rw [hW0]; exact (Below.refl _ w).alloc (Nat.le_refl _) _
  have hsz : W0.heap.size = w.heap.size + 1 := by rw [hW0]; simp
  have hown0 : OwnL W0 w.heap.size (.slice none 0 0) [] := ⟨rfl, .inl ⟨rfl, rfl⟩⟩
  rw [← hW0]
  clear hW0
  refine (wpIn_wide (n := 5)).1 ?_
  refine wpIn_rangeFunc_ownG rfl (by omega) (gf := g) (lb := lb) rfl trivial eg HSEQ.out (fun h k => h.trans k) (belowK_from (by omega)) hB0 (fun _ => rfl)
    (fun pre W => ((∃ v, Boxed W w.heap.size 22 v ∧ W.ownsRow w.heap.size 36 1 v pre.length (pre.map sl) ∧ True) ∧ Below w.heap.size w W) ∧ pre.length ≤ N)
    (fun _ _ _ => False)
    (OwnFrom.and (OwnFrom.and (Own.from (holdsRow_own w.heap.size w.heap.size 22 36 1 (fun pre : List SL => pre.length) (fun pre => pre.map sl) (fun _ _ => True)) _) (ownFrom_below (Nat.le_refl _) (by omega))) (fun _ _ _ _ hs _ _ => hs))
    (fun _ _ _ _ _ hs _ _ => hs)
    ⟨⟨⟨_, hbx, hown0, trivial⟩, hB0⟩, Nat.zero_le _⟩
    (fun x => { tmps := #[.slice none 0 0, .func (.func g) #[] lb, .pointer (some ⟨w.heap.size, 0, none⟩), undef, .slice none 0 0, sl x, .func (.func g) #[] lb, sl x, undef, undef, undef, undef, undef], defers := [] }) ?assign ?body ?done ?stop
  case assign =>
    intro l x W K hK
    unfold sl at hK ⊢
    gi_wp2
    exact hK
  case body =>
    rintro l pre x W ⟨⟨⟨v, hv, hrow, _⟩, hB⟩, hlN⟩ hlt
    have c1 := hv.cell
    have hs := hB.size
    have HV := Lib.hid hv
    have HB := Lib.hid hB
    have HROW := Lib.hid hrow
    obtain ⟨va, vc, rfl, _, _, _, _⟩ := own_shape hrow
    clear hv hB hrow
    unfold sl
    gi_wp2_with (first
      | (gi_at_builtin
         refine wpListIn_append_own _ rfl _ _ 22 rfl w.heap.size 36 i0 (.slice none 0 0) 1 24 Tryz.underlying22 hi0 hz0 hz1 hz2 rfl (by decide) _ _ _ rfl (HROW.out.alloc _) ⟨W.heap.size, 0, none⟩ 1 1 [sl x] rfl rfl (one_at rfl) (by simp [sl, Value.oneCell']) (by unfold maxLen; omega) (by omega) (by rw [World.size_alloc]; omega) ?_
         intro v3 w3 hown3 hg3 hnil3
         have hap := HV.out.appended (by decide) HROW.out hs (Nat.le_refl _) hown3 hg3
         obtain ⟨q1, q2, q3, q4, q5⟩ := hap
         obtain ⟨ga, gc, rfl⟩ := ownsRow_succ hown3
         have g1 := q1.cell
         have g2 := q1.frozen
         have HQ2 := Lib.hid q2
         have HQ3 := Lib.hid q3
         have HQ4 := Lib.hid q4
         have HQ5 := Lib.hid q5
         clear q1 q2 q3 q4 q5 hown3 hg3 hnil3)
      | gi_round_op_a)
    refine ⟨HQ4.out.from _, ?_, ⟨⟨_, HQ2.out, ?_, trivial⟩, HB.out.trans HQ5.out⟩, by simp; omega⟩
    · exact HQ5.out.mono hn0
    · have h3 := HQ3.out
      have e : (pre ++ [x]).map sl = pre.map sl ++ [sl x] := by simp
      rw [← e] at h3
      rw [List.length_append]
      exact h3
  case done =>
    rintro D ys W hD hys ⟨⟨⟨v, hv, hrow, _⟩, hB⟩, hlN⟩ hK
    have c1 := hv.cell
    have g0 := (boxed_put (.deferred none) hv hK rfl).cell
    have HK := Lib.hid hK
    have HB := Lib.hid hB
    have HROW := Lib.hid hrow
    have hDW := (Array.getElem?_eq_some_iff.1 hK).1
    obtain ⟨va, vc, rfl, _, _, _, _⟩ := own_shape hrow
    clear hK hB hv hrow
    dsimp only
    go_wp2_with fail
    refine ⟨by simp, .inl ⟨_, _, rfl, run_takeDeferred HK.out, ?_⟩⟩
    refine ⟨.slice va ys.length vc, by simp [results, Tryz.f83, Tryz.results83, go_sem], _, ys, rfl, hys, hlN, ownsRow_putObj HROW.out _ HK.out rfl, ?_⟩
    exact HB.out.trans ((Below.refl _ W).grown (grownBy_putObj' W D _) (by have := HB.out.size; omega) (fun q e => by cases e; omega))
  case stop =>
    rintro D c pre W hD _ hI hK
    exact hI.elim
set_option maxHeartbeats 400000 in
theorem collect_any {n0 : Nat} (g : Nat) (lb : Array Value) (eg : ∀ args w, (callFunc g args).run Tryz.prog w = .ok (.enter g args) w) {S Sp : List SL → Prop} {N : Nat} (hN : N ≤ 1000000) (w : World) (hn0 : n0 ≤ w.heap.size)
    (hseq : SeqStopsK Fence.wide 4 Tryz.prog g lb (fun x : SL => #[sl x]) (Below n0) S Sp N w) :
    Calls Tryz.prog 52 #[.func (.func g) #[] lb] w fun e w' => ∃ v xs, e = .returned v ∧ S xs ∧ xs.length ≤ N ∧ OwnL w' w.heap.size v xs ∧ Below w.heap.size w w' := by
  have HA := Lib.hid (appendSeq_any g lb eg hN w hn0 hseq)
  clear hseq
  go_enter Tryz.func52, Tryz.ntmps52
  go_wp2_with (refine HA.out.mono ?_; rintro e w1 ⟨v, xs, rfl, h1, h2, h3, h4⟩; obtain ⟨va, vc, rfl, _, _, _, _⟩ := own_shape h3; have H3 := Lib.hid h3; have H4 := Lib.hid h4; clear h3 h4)
  go_ret
  exact ⟨_, xs, rfl, h1, h2, H3.out, H4.out⟩
/-- A row of slices of another's, copied. -/
theorem collect_values {a : Option Addr} {c : Nat} {vs : List SL} (w : World) (Bs : Nat) (hBs : Bs < w.heap.size) {w0 : World} (hL : Lies w0 a (vs.map sl)) (hlc : vs.length ≤ c) (hmax : vs.length ≤ 1000000) (hB : Below w0.heap.size w0 w) (hc : w.cell? ⟨Bs, 0, none⟩ = some (.slice a vs.length c)) :
    Calls Tryz.prog 52 #[.func (.func 77) #[] #[.pointer (some ⟨Bs, 0, none⟩)]] w fun e w' => ∃ v, e = .returned v ∧ OwnL w' w.heap.size v vs ∧ Below w.heap.size w w' := by
  refine (collect_any _ _ (enters_of Tryz.func77 (by kernel_rfl) rfl) hmax w hB.size (values_gives Fence.wide 4 trivial rfl (by omega) Bs hL hlc hmax hB hBs hc)).mono ?_
  rintro e w' ⟨v, xs, rfl, rfl, _, h1, h2⟩
  exact ⟨v, rfl, h1, h2⟩
end Go.Proofs.YtcdcnhecimajkaaGreat.Runs

/- slices.Chunk of bytes whose number is a multiple of the width. -/
namespace Go.Proofs.YtcdcnhecimajkaaGreat.Runs
open Go.RowKit Go.Deep Go.Shelf Mem Crc Go.Proofs.YtcdcnhecimajkaaGreat.Merge

attribute [local go_sem] Oper.semAt_some

/-- The pieces of m * wd bytes. -/
def pieces (g off wd m : Nat) : List SL := (List.range m).map fun k => (some ⟨g, off + k * wd, none⟩, wd, wd)
theorem pieces_len (g off wd m : Nat) : (pieces g off wd m).length = m := by simp [pieces]
theorem pieces_succ (g off wd k : Nat) : pieces g off wd (k + 1) = pieces g off wd k ++ [(some ⟨g, off + k * wd, none⟩, wd, wd)] := by simp [pieces, List.range_succ]
set_option maxRecDepth 100000 in
set_option maxHeartbeats 400000 in
theorem chunk1_in (n : Nat) (hn : 1 ≤ n) (l Bs Bn : Nat) {w0 : World} {g off wd m c : Nat} (hwd : 0 < wd) (hlc : m * wd ≤ c) (hmax : m * wd ≤ 1000000) (hs0 : Bs < w0.heap.size) (hn0 : Bn < w0.heap.size) (J Jx : List SL → World → Prop)
    (hJ : ∀ s X q, J s X → J s (X.drewN q))
    (hY : ∀ pre x W, J pre W → pre.length < m → YieldAt Fence.wide (n - 1) Tryz.prog l #[sl x] W fun e W' =>
      (e = .returned (.bool true) ∧ J (pre ++ [x]) W' ∧ Below w0.heap.size W W') ∨ (e = .returned (.bool false) ∧ Jx (pre ++ [x]) W'))
    (W : World) (hB : Below w0.heap.size w0 W) (hcs : w0.cell? ⟨Bs, 0, none⟩ = some (.slice (some ⟨g, off, none⟩) (m * wd) c)) (hcn : w0.cell? ⟨Bn, 0, none⟩ = some (.int .i64 wd)) (h0 : J [] W) :
    CallsIn Fence.wide n Tryz.prog 84 #[.func (.yield l) #[] #[], .pointer (some ⟨Bs, 0, none⟩), .pointer (some ⟨Bn, 0, none⟩)] W fun e W' => (∃ v, e = .returned v) ∧
      ((∃ ys, ys = pieces g off wd m ∧ J ys W') ∨ (∃ pre, (∃ k, k ≤ m ∧ pre = pieces g off wd k) ∧ Jx pre W')) := by
  obtain ⟨M, hM⟩ : ∃ M, M = m * wd := ⟨_, rfl⟩
  rw [← hM] at hlc hcs hmax
  refine callsIn_of_wp Tryz.func84 rfl trivial ?_ rfl
  simp only [Tryz.ntmps84, List.size_toArray, List.length_cons, List.length_nil, Nat.reduceAdd, Nat.reduceSub, Array.replicate_succ, Array.replicate_zero, List.push_toArray, List.append_toArray, List.nil_append, List.cons_append]
  gi_wp2
  gi_loopw [4] (fun i wr => ∃ k p : Nat, k ≤ m ∧ p = k * wd ∧ i = .int .i64 p ∧ J (pieces g off wd k) wr ∧ Below w0.heap.size w0 wr)
    (fun i _ => M - (intOf i).toNat)
  case atStart => exact ⟨0, 0, Nat.zero_le _, by simp, rfl, h0, hB⟩
  case round =>
    obtain ⟨k, p, hk, hp, rfl, hJs, hnx⟩ := hrel
    have hcs1 := (hnx.cell (p := ⟨Bs, 0, none⟩) hs0).trans hcs
    have hcn1 := (hnx.cell (p := ⟨Bn, 0, none⟩) hn0).trans hcn
    by_cases hlt : k < m
    · have hpw : p + wd ≤ M := by rw [hp, hM, ← Nat.succ_mul]; exact Nat.mul_le_mul_right _ hlt
      have hp2 : p + wd = (k + 1) * wd := by rw [hp, Nat.succ_mul]
      have hyes := pieces_succ g off wd k
      rw [← hp] at hyes
      have HYS := Lib.hid hyes
      have HP := Lib.hid hp
      have HP2 := Lib.hid hp2
      have HM := Lib.hid hM
      clear hyes hp hp2 hM
      have hw : IntKind.i64.wrap ((p : Int) + wd) = (p : Int) + wd := (IntWalk.i64_left _).trans (IntWalk.wrap64_in _ (by omega))
      have hl2 : p < M := Nat.lt_of_lt_of_le (Nat.lt_add_of_pos_right hwd) hpw
      have hl1 : decide ((p : Int) < (M : Int)) = true := decide_eq_true (Int.ofNat_lt.2 hl2)
      have hmin : min (wd : Int) ((M - p : Nat) : Int) = wd := Int.min_eq_left (Int.ofNat_le.2 (Nat.le_sub_of_add_le' hpw))
      have HX := Lib.hid hnx
      have HJ := Lib.hid hJs
      clear hnx hJs
      gi_wp2
      gi_quiet (fail)
      have hdr : wr.grownBy (wr.drewN nq) none := ⟨rfl, rfl, rfl, Nat.le_refl _, fun _ _ _ => rfl⟩
      have hXd := HX.out.grown hdr (by have := HX.out.size; omega) (fun q e => by cases e)
      have hcs2 := (hXd.cell (p := ⟨Bs, 0, none⟩) hs0).trans hcs
      have hcn2 := (hXd.cell (p := ⟨Bn, 0, none⟩) hn0).trans hcn
      have hJd := hJ _ _ nq HJ.out
      obtain ⟨fn, tmps, assign, body, hy, hR⟩ := hY _ (some ⟨g, off + p, none⟩, wd, wd) (wr.drewN nq) hJd (by rw [pieces_len]; exact hlt)
      have HXD := Lib.hid hXd
      unfold sl at hy
      dsimp only at hy
      clear hJd hXd
      gi_wp2
      refine hR.mono ?_
      rintro e W3 (⟨rfl, hJ3, hk3⟩ | ⟨rfl, hJx3⟩)
      · have hcs3 := ((HXD.out.trans hk3).cell (p := ⟨Bs, 0, none⟩) hs0).trans hcs
        have hcn3 := ((HXD.out.trans hk3).cell (p := ⟨Bn, 0, none⟩) hn0).trans hcn
        gi_wp2
        go_roundw
        case rel => exact ⟨k + 1, p + wd, by omega, HP2.out, by simp [hw], by rw [HYS.out]; exact hJ3, HXD.out.trans hk3⟩
        case measure => simp [intOf, hw]; omega
      · gi_wp2
        refine bodyPost_ret (results_none rfl _ _ _) rfl ?_
        exact ⟨⟨_, rfl⟩, .inr ⟨_, ⟨k + 1, by omega, HYS.out.symm⟩, hJx3⟩⟩
    · obtain rfl : k = m := Nat.le_antisymm hk (Nat.not_lt.1 hlt)
      obtain rfl : p = M := hp.trans hM.symm
      have hl1 : decide ((p : Int) < (p : Int)) = false := by simp
      gi_wp2
      go_end0
      exact ⟨⟨_, rfl⟩, .inl ⟨_, rfl, hJs⟩⟩
set_option maxHeartbeats 400000 in
theorem chunk_any (a : Option Addr) (len c wd : Nat) (hwd : 0 < wd) (w : World) :
    Calls Tryz.prog 53 #[.slice a len c, .int .i64 wd] w fun e w' => e = .returned (.func (.func 84) #[] #[.pointer (some ⟨w.heap.size, 0, none⟩), .pointer (some ⟨w.heap.size + 1, 0, none⟩)]) ∧ w' = (w.alloc (.cells #[.slice a len c] 36)).alloc (.cells #[.int .i64 wd] 3) := by
  have h1 : decide ((wd : Int) < 1) = false := decide_eq_false (by omega)
  go_enter Tryz.func53, Tryz.ntmps53
  go_wp2_with fail
  go_ret
  exact ⟨rfl, rfl⟩
/-- The pieces of bytes, collected. -/
theorem collect_pieces {g off wd m c : Nat} (hwd : 0 < wd) (hlc : m * wd ≤ c) (hmax : m * wd ≤ 1000000) (w : World) (Bs Bn : Nat) (hBs : Bs < w.heap.size) (hBn : Bn < w.heap.size) (hcs : w.cell? ⟨Bs, 0, none⟩ = some (.slice (some ⟨g, off, none⟩) (m * wd) c)) (hcn : w.cell? ⟨Bn, 0, none⟩ = some (.int .i64 wd)) :
    Calls Tryz.prog 52 #[.func (.func 84) #[] #[.pointer (some ⟨Bs, 0, none⟩), .pointer (some ⟨Bn, 0, none⟩)]] w fun e w' => ∃ v, e = .returned v ∧ OwnL w' w.heap.size v (pieces g off wd m) ∧ Below w.heap.size w w' := by
  have hm : m ≤ 1000000 := Nat.le_trans (Nat.le_mul_of_pos_right m hwd) hmax
  have hseq : SeqStopsK Fence.wide 4 Tryz.prog 84 #[.pointer (some ⟨Bs, 0, none⟩), .pointer (some ⟨Bn, 0, none⟩)] (fun x : SL => #[sl x]) (Below w.heap.size) (fun ys => ys = pieces g off wd m)
      (fun pre => ∃ k, k ≤ m ∧ pre = pieces g off wd k) m w := fun l J Jx W hW hJ hJx hY h0 => by
    exact chunk1_in 4 (by omega) l Bs Bn (w0 := w) hwd hlc hmax hBs hBn J Jx (fun s X q hs => hJ s X _ none hs ⟨rfl, rfl, rfl, Nat.le_refl _, fun _ _ _ => rfl⟩ (fun r e => by cases e)) (fun pre x W1 hj hl => hY pre x W1 hj hl) W hW hcs hcn h0
  refine (collect_any _ _ (enters_of Tryz.func84 (by kernel_rfl) rfl) hm w (Nat.le_refl _) hseq).mono ?_
  rintro e w' ⟨v, xs, rfl, rfl, _, h1, h2⟩
  exact ⟨v, rfl, h1, h2⟩
end Go.Proofs.YtcdcnhecimajkaaGreat.Runs

/- slices.SortFunc of records by bytes.Compare. -/
namespace Go.Proofs.YtcdcnhecimajkaaGreat.Runs
open Go.RowKit Go.Deep Go.Shelf Go.Lib Go.Sort Mem Crc Go.Proofs.YtcdcnhecimajkaaGreat.Merge

attribute [local go_sem] Oper.semAt_some

/-- A record that lies outside of a block. -/
abbrev RecOut (w : World) (bk : Nat) : Type := { p : SL × B // RecAt w (sl p.1) p.2 ∧ ∀ g, Mem.blk p.1.1 = some g → g ≠ bk }
instance (w : World) (bk : Nat) : Inhabited (RecOut w bk) := ⟨⟨((none, 0, 0), []), ⟨none, 0, rfl, Nat.le_refl _, .inl rfl⟩, fun g h => by simp [Mem.blk] at h⟩⟩
def encR {w : World} {bk : Nat} (x : RecOut w bk) : Value := sl x.1.1
def cfR {w : World} {bk : Nat} (x y : RecOut w bk) : Int := cmpB x.1.2 y.1.2
theorem ltR {w : World} {bk : Nat} (x y : RecOut w bk) : ltOf cfR x y = decide (x.1.2 < y.1.2) := by
  unfold ltOf cfR
  rw [decide_eq_decide]
  exact cmpB_lt _ _
theorem swoR (w : World) (bk : Nat) : SWO (ltOf (cfR (w := w) (bk := bk))) where
  irrefl x := by rw [ltR]; simp [List.lt_irrefl]
  trans x y z h1 h2 := by
    rw [ltR, decide_eq_true_iff] at *
    exact List.lt_trans h1 h2
  ntrans x y z h1 h2 := by
    rw [ltR, decide_eq_false_iff_not, List.not_lt] at *
    exact List.le_trans h2 h1
theorem heap_sortWorld {α : Type} [Inhabited α] (enc : α → Value) (w : World) (bk off m : Nat) (dk : Array α) (os : Array Obj) {g : Nat} (hg : g < w.heap.size) (hne : g ≠ bk) : (sortWorld enc w bk off m dk os).heap[g]? = w.heap[g]? := by
  unfold sortWorld
  rw [heap_grow_old _ _ (by simpa [size_putRow] using hg)]
  show (w.heap.modify bk _)[g]? = _
  rw [Array.getElem?_modify, if_neg (fun e => hne e.symm)]
theorem size_sortWorld {α : Type} [Inhabited α] (enc : α → Value) (w : World) (bk off m : Nat) (dk : Array α) (os : Array Obj) : w.heap.size ≤ (sortWorld enc w bk off m dk os).heap.size := by
  unfold sortWorld
  rw [Go.Sort.size_grow, size_putRow]
  exact Nat.le_add_right _ _
theorem RecAt.sorted {α : Type} [Inhabited α] {enc : α → Value} {w : World} {bk off m : Nat} {dk : Array α} {os : Array Obj} {x : SL} {b : B} (h : RecAt w (sl x) b) (hne : ∀ g, Mem.blk x.1 = some g → g ≠ bk) : RecAt (sortWorld enc w bk off m dk os) (sl x) b := by
  obtain ⟨a, c, e, h1, h2⟩ := h
  refine ⟨a, c, e, h1, ?_⟩
  have ea : x.1 = a := by unfold sl at e; injection e
  rcases h2 with h | ⟨g, o, eg, hlt, hc⟩
  · exact .inl h
  · refine .inr ⟨g, o, eg, Nat.lt_of_lt_of_le hlt (size_sortWorld _ _ _ _ _ _ _), fun i u hu => ?_⟩
    have hg : g ≠ bk := hne g (by rw [ea, eg]; rfl)
    rw [World.cell?_of_block (heap_sortWorld enc w bk off m dk os hlt hg)]
    exact hc i u hu
theorem cmpLays (w : World) (bk off n : Nat) : CmpLays1 Tryz.prog 48 #[] (encR (w := w) (bk := bk)) cfR bk off n w := fun m os dk _ x y => by
  refine (compare_any _ _ x.1.2 y.1.2 _ (RecAt.sorted x.2.1 x.2.2) (RecAt.sorted y.2.1 y.2.2)).mono ?_
  rintro e w' ⟨rfl, rfl⟩
  exact ⟨rfl, 0, #[], by rw [Go.Sort.grow_empty]; rfl⟩
end Go.Proofs.YtcdcnhecimajkaaGreat.Runs

/- slices.SortFunc of records of one's own row: a permutation of them, rising. -/
namespace Go.Proofs.YtcdcnhecimajkaaGreat.Runs
open Go.RowKit Go.Deep Go.Shelf Go.Lib Go.Sort Mem Crc Go.Proofs.YtcdcnhecimajkaaGreat.Merge

theorem recs_sub (w : World) (bk : Nat) : ∀ (vs : List SL) (l : List B), vs.length = l.length → (∀ (i : Nat) (x : SL) (b : B), vs[i]? = some x → l[i]? = some b → RecAt w (sl x) b) → (∀ x ∈ vs, ∀ g, Mem.blk x.1 = some g → g ≠ bk) →
    ∃ ds : List (RecOut w bk), ds.map (·.1.1) = vs ∧ ds.map (·.1.2) = l
  | [], [], _, _, _ => ⟨[], rfl, rfl⟩
  | x :: vs, b :: l, hl, h, ho => by
    obtain ⟨ds, h1, h2⟩ := recs_sub w bk vs l (by simpa using hl) (fun i y c hy hc => h (i + 1) y c (by simpa using hy) (by simpa using hc)) (fun y hy => ho y (List.mem_cons_of_mem _ hy))
    exact ⟨⟨(x, b), h 0 x b rfl rfl, ho x (by simp)⟩ :: ds, by simp [h1], by simp [h2]⟩
  | [], _ :: _, hl, _, _ => by simp at hl
  | _ :: _, [], hl, _, _ => by simp at hl
theorem perm_all {α : Type} [Inhabited α] {d d' : Array α} (h : PermIn 0 d.size d d') : d'.toList.Perm d.toList := by
  have h3 := h.2.2
  have hs := h.1
  have e1 : (d'.extract 0 d.size) = d' := by rw [← hs]; exact Array.extract_size
  have e2 : (d.extract 0 d.size) = d := Array.extract_size
  rwa [e1, e2] at h3
theorem heap_sorted {α : Type} [Inhabited α] (enc : α → Value) (w : World) (bk off m : Nat) (dk : Array α) (os : Array Obj) {cur : Array Value} {e : TypeId} {fr : Nat × Nat} (h : w.heap[bk]? = some (.cells cur e fr)) : (sortWorld enc w bk off m dk os).heap[bk]? = some (.cells (putCells enc off dk cur) e fr) := by
  have hg := (Array.getElem?_eq_some_iff.1 h).1
  unfold sortWorld
  rw [heap_grow_old _ _ (by simpa [size_putRow] using hg)]
  show (w.heap.modify bk _)[bk]? = _
  rw [Array.getElem?_modify, if_pos rfl, h]
  rfl
theorem take_putCells {α : Type} [Inhabited α] (enc : α → Value) (d : Array α) (cur : Array Value) (h : d.size ≤ cur.size) : (putCells enc 0 d cur).toList.take d.size = d.toList.map enc := by
  apply List.ext_getElem
  · simp [putCells]; omega
  · intro i h1 h2
    have hi : i < d.size := by simpa using h2
    simp [putCells, hi, getElem!_pos]
set_option maxHeartbeats 1000000 in
theorem sort_any {w : World} {base : Nat} {v : Value} {vs : List SL} {l : List B} (hO : OwnL w base v vs) (hR : RecsIn w (vs.map sl) l) (hout : ∀ x ∈ vs, ∀ g, Mem.blk x.1 = some g → some g ≠ v.ownBlock) (hn : vs.length ≤ 1000000) :
    Calls Tryz.prog 76 #[v, .func (.func 48) #[] #[]] w fun e w' => e = .returned (.tuple #[]) ∧ ∃ vs' l', vs'.length = vs.length ∧ OwnL w' base v vs' ∧ RecsIn w' (vs'.map sl) l' ∧ l'.Perm l ∧ Rises l' ∧ (∀ x ∈ vs', x ∈ vs) ∧
      (∀ B, B ≤ w.heap.size → (∀ g, v.ownBlock = some g → B ≤ g) → Below B w w') ∧ ∀ k, k < w.heap.size → some k ≠ v.ownBlock → w'.heap[k]? = w.heap[k]? := by
  have eg : ∀ args w, (callFunc 48 args).run Tryz.prog w = .ok (.enter 48 args) w := enters_of Tryz.func48 (by kernel_rfl) rfl
  have hlen : vs.length = l.length := by simpa using hR.len
  rcases hO.2 with ⟨rfl, h0⟩ | ⟨g, cap, cur, rfl, hb, hgb, hc1, hc2, hc3, hc4⟩
  · have hcon := AnyF.slices_SortFunc_none (P := Tryz.prog) (ρ := Tryz.sortRec_ren) { Tryz.sortRec with } none 0 (.func (.func 48) #[] #[]) w
    change Calls Tryz.prog 76 _ _ _ at hcon
    refine hcon.mono ?_
    rintro e w' ⟨rfl, rfl⟩
    refine ⟨rfl, vs, l, rfl, hO, hR, List.Perm.refl _, ?_, fun _ h => h, fun B _ _ => Below.refl _ _, fun _ _ _ => rfl⟩
    have : l = [] := List.length_eq_zero_iff.1 (by omega)
    rw [this]
    exact List.Pairwise.nil
  · have hg := (Array.getElem?_eq_some_iff.1 hgb).1
    obtain ⟨ds, hd1, hd2⟩ := recs_sub w g vs l hlen (fun i x b hx hb => hR.at_ i (sl x) b (by simp [hx]) hb) (fun x hx q hq e => hout x hx q hq (by rw [e]; rfl))
    have hds : ds.length = vs.length := by rw [← hd1]; simp
    have hH : Holds encR w g 0 ds.toArray := fun j hj => by
      have hj' : j < ds.length := by simpa using hj
      have hc : cur.toList[j]? = some (encR ds[j]) := by
        have h1 : (cur.toList.take (vs.length * 1))[j]? = some (encR ds[j]) := by
          rw [hc4, ← hd1]
          simp [List.getElem?_eq_getElem hj', encR]
        rw [List.getElem?_take] at h1
        split at h1
        · exact h1
        · cases h1
      refine ⟨?_, ?_⟩
      · simp [World.cell?, hgb, getElem!_pos, hj', ← hc]
      · simp [World.frozen?, hgb]
    have hcon := Any.slices_SortFunc (P := Tryz.prog) (ρ := Tryz.sortRec_ren) Tryz.sortRec (encR (w := w) (bk := g)) (fun _ => rfl) cfR (swoR w g) 48 #[] g 0 cap ds.toArray w eg (cmpLays w g 0 _) hH hg (by simp; omega)
    change Calls Tryz.prog 76 _ _ _ at hcon
    have esz : ds.toArray.size = vs.length := by simp [hds]
    rw [esz] at hcon
    refine hcon.mono ?_
    rintro e w' ⟨rfl, d', n, os, hp, hs, rfl⟩
    have hpa := perm_all (by rw [esz]; exact hp)
    have hsz : d'.size = vs.length := by rw [hp.1, esz]
    refine ⟨rfl, d'.toList.map (·.1.1), d'.toList.map (·.1.2), by simp [hsz], ?_, ?_, ?_, ?_, ?_, fun B hB1 hB2 => ⟨rfl, rfl, rfl, size_sortWorld _ _ _ _ _ _ _, fun k hk => heap_sortWorld _ _ _ _ _ _ _ (Nat.lt_of_lt_of_le hk hB1) (by have := hB2 g rfl; omega)⟩, fun k hk hne => heap_sortWorld _ _ _ _ _ _ _ hk (fun e => hne (by rw [e]; rfl))⟩
    · refine ⟨by simp, .inr ⟨g, cap, _, by simp [hsz], hb, heap_sorted _ _ _ _ _ _ _ hgb, by simp [hsz]; exact hc1, hc2, by simpa [putCells] using hc3, ?_⟩⟩
      have h1 := take_putCells (encR (w := w) (bk := g)) d' cur (by omega)
      simp only [List.length_map, Array.length_toList, Nat.mul_one]
      rw [h1, List.map_map]
      rfl
    · refine ⟨by simp, fun i u b hu hb' => ?_⟩
      simp only [List.getElem?_map, Option.map_eq_some_iff] at hu hb'
      obtain ⟨q, ⟨x, hx, rfl⟩, rfl⟩ := hu
      obtain ⟨y, hy, rfl⟩ := hb'
      rw [hx] at hy
      cases hy
      exact RecAt.sorted x.2.1 x.2.2
    · have := hpa.map (fun x : RecOut w g => x.1.2)
      simpa [hd2] using this
    · refine List.pairwise_iff_getElem.2 fun i j hi hj hij => ?_
      have hj' : j < d'.size := by simpa using hj
      have h1 := hs i j (Nat.zero_le _) hij (by omega)
      rw [ltR, decide_eq_false_iff_not, List.not_lt, getElem!_pos d' j hj', getElem!_pos d' i (by omega)] at h1
      simpa using h1
    · intro x hx
      obtain ⟨y, hy, rfl⟩ := List.mem_map.1 hx
      rw [← hd1]
      exact List.mem_map.2 ⟨y, by simpa using hpa.mem_iff.1 hy, rfl⟩
end Go.Proofs.YtcdcnhecimajkaaGreat.Runs

/- slices.SortedFunc of a row's records. -/
namespace Go.Proofs.YtcdcnhecimajkaaGreat.Runs
open Go.RowKit Go.Deep Go.Shelf Mem Crc Go.Proofs.YtcdcnhecimajkaaGreat.Merge

attribute [local go_sem] Oper.semAt_some

theorem rec_block {w : World} {x : SL} {b : B} (h : RecAt w (sl x) b) (hb : b ≠ []) : ∀ g, Mem.blk x.1 = some g → g < w.heap.size := fun g hg => by
  obtain ⟨a, c, e, h1, h2⟩ := h
  have ea : x.1 = a := by unfold sl at e; injection e
  rcases h2 with h | ⟨q, o, eq, hlt, hc⟩
  · exact absurd (by simpa using h) hb
  · rw [ea, eq] at hg
    have : q = g := by simpa [Mem.blk] using hg
    omega
set_option maxHeartbeats 400000 in
theorem sortedFunc_any {a : Option Addr} {c : Nat} {vs : List SL} {l : List B} (w : World) (Bs : Nat) (hBs : Bs < w.heap.size) {w0 : World} (hL : Lies w0 a (vs.map sl)) (hlc : vs.length ≤ c) (hmax : vs.length ≤ 1000000) (hB : Below w0.heap.size w0 w) (hc : w.cell? ⟨Bs, 0, none⟩ = some (.slice a vs.length c))
    (hR : RecsIn w (vs.map sl) l) (hne : ∀ b ∈ l, b ≠ []) :
    Calls Tryz.prog 46 #[.func (.func 77) #[] #[.pointer (some ⟨Bs, 0, none⟩)], .func (.func 48) #[] #[]] w fun e w' => ∃ v vs' l', e = .returned v ∧ vs'.length = vs.length ∧ OwnL w' w.heap.size v vs' ∧ RecsIn w' (vs'.map sl) l' ∧ l'.Perm l ∧ Rises l' ∧ (∀ x ∈ vs', x ∈ vs) ∧ Below w.heap.size w w' := by
  have hC := Lib.hid (collect_values w Bs hBs hL hlc hmax hB hc)
  have HR := Lib.hid hR
  clear hc hL hB hR
  go_enter Tryz.func46, Tryz.ntmps46
  go_wp2_with (first
    | (go_at_call 52
       refine hC.out.mono ?_
       rintro e w1 ⟨v, rfl, hO, hB1⟩
       have hR1 := HR.out.later hB1
       have HS := Lib.hid (sort_any hO hR1 (fun x hx g hg e => by
         obtain ⟨i, hi⟩ := List.getElem?_of_mem hx
         have hl := HR.out.len
         have hil : i < l.length := by
           have := (List.getElem?_eq_some_iff.1 hi).1
           simp at hl
           omega
         have h1 := rec_block (HR.out.at_ i (sl x) l[i] (by simp [hi]) (List.getElem?_eq_getElem hil)) (hne _ (List.getElem_mem hil)) g hg
         have h2 := (hO.lt g e.symm).1
         omega) hmax)
       have HB1 := Lib.hid hB1
       have HO := Lib.hid (fun g e => (hO.lt g e).1)
       obtain ⟨va, vc, rfl, _, _, _, _⟩ := own_shape hO
       clear hO hR1 hB1)
    | (go_at_call 76
       refine HS.out.mono ?_
       rintro e w2 ⟨rfl, vs', l', h1, h2, h3, h4, h5, h7, h6, _⟩
       have H2 := Lib.hid h2
       have H3 := Lib.hid h3
       have H7 := Lib.hid h7
       have H6 := Lib.hid (HB1.out.trans (h6 w.heap.size HB1.out.size HO.out))
       clear h2 h3 h6 h7))
  go_ret
  exact ⟨_, vs', l', rfl, h1, H2.out, H3.out, h4, h5, H7.out, H6.out⟩
end Go.Proofs.YtcdcnhecimajkaaGreat.Runs

/- A run's bytes: bytes.Join, section. -/
namespace Go.Proofs.YtcdcnhecimajkaaGreat.Runs
open Go.RowKit Go.Deep Go.Shelf Go.Lib Mem Crc Go.Proofs.YtcdcnhecimajkaaGreat.Merge

attribute [local go_sem] Oper.semAt_some

theorem join_flat : ∀ l : List B, Lib.join l [] = l.flatten
  | [] => rfl
  | x :: r => by
    rw [Lib.join_cons]
    simp [Lib.joinTail]
theorem lens_flat (l : List B) : Lib.lens l = l.flatten.length := by simp [Lib.lens, List.length_flatten]
theorem fresh_lies {base : Nat} {w : World} {v : Value} {l : B} (h : Lib.FreshBytes base w v l) : ∃ a c, v = .slice a l.length c ∧ Lies w a (l.map bv) := by
  obtain ⟨g, cap, zs, rfl, _, hlc, _, hz, hr, hb, hc, _⟩ := h
  refine ⟨_, _, rfl, ?_⟩
  by_cases h0 : l = []
  · exact .inl (by simp [h0])
  · have hpos : 0 < l.length := List.length_pos_iff.2 h0
    have c0 := hc 0 (by omega)
    refine .inr ⟨g, 0, rfl, ?_, fun i u hu => ?_⟩
    · obtain ⟨o, ho, _⟩ := cells_of_cell c0
      exact (Array.getElem?_eq_some_iff.1 ho).1
    · have hi : i < l.length := by simpa using (List.getElem?_eq_some_iff.1 hu).1
      have hzi : i < zs.length := by omega
      rw [Nat.zero_add, hc i (by omega)]
      have hu' : bv l[i] = u := by simpa [List.getElem?_eq_getElem hi] using hu
      have hli : l[i] = zs[i].toNat.toUInt8 := by
        have h1 : (Lib.bytesOf (zs.take l.length))[i]? = l[i]? := by rw [hb]
        rw [List.getElem?_eq_getElem hi] at h1
        simp [Lib.bytesOf, List.getElem?_take, hi, List.getElem?_eq_getElem hzi] at h1
        rw [← h1]
      have h2 := hr zs[i] (List.getElem_mem hzi)
      rw [← hu', hli, List.getD_eq_getElem?_getD, List.getElem?_eq_getElem hzi]
      unfold bv
      simp
      omega
theorem join_any {a : Option Addr} {c : Nat} {vs : List SL} {l : List B} (w : World) (hL : Lies w a (vs.map sl)) (hlc : vs.length ≤ c) (hR : RecsIn w (vs.map sl) l) (hne : ∀ b ∈ l, b ≠ []) (hmax : l.flatten.length ≤ 1048576) (hml : l.length ≤ 1048576) :
    Calls Tryz.prog 45 #[.slice a vs.length c, .slice none 0 0] w fun e w' => ∃ ad cp, e = .returned (.slice ad l.flatten.length cp) ∧ Lies w' ad (l.flatten.map bv) ∧ Below w.heap.size w w' := by
  have hlen : vs.length = l.length := by simpa using hR.len
  have hparts : ∀ (i : Nat) (v : Value) (b : B), (vs.map sl)[i]? = some v → l[i]? = some b → ∃ ad cp, v = .slice (some ad) b.length cp ∧ ∀ (j : Nat) x, b[j]? = some x → w.cell? (ad.add j) = some (.int .u8 (x.toNat : Int)) := fun i v b hv hb => by
    obtain ⟨p, cp, e, _, hl⟩ := hR.at_ i v b hv hb
    have hbne := hne b (List.mem_of_getElem? hb)
    rcases hl with h | ⟨g, o, rfl, hg, hc⟩
    · exact absurd (by simpa using h) hbne
    · refine ⟨_, cp, e, fun j x hx => ?_⟩
      exact lies_add (w := w) (a := ⟨g, o, none⟩) (.inr ⟨g, o, rfl, hg, hc⟩) j _ (by simp [hx, bv])
  match l, hlen, hL with
  | [], hlen, _ =>
    rw [show vs.length = 0 from hlen]
    refine (Tryz.bytes_Join_none a c _ w).mono ?_
    rintro e w' ⟨rfl, rfl⟩
    exact ⟨_, _, rfl, .inl rfl, (Below.refl _ w).alloc (Nat.le_refl _) _⟩
  | [b], hlen, hL =>
    have hv0 : 0 < vs.length := by rw [hlen]; exact Nat.one_pos
    rcases hL with h | ⟨g, o, rfl, hg, hc⟩
    · have : vs = [] := by simpa using h
      rw [this] at hv0
      cases hv0
    · obtain ⟨ad, cp, e, hp⟩ := hparts 0 (sl vs[0]) b (by simp [List.getElem?_eq_getElem hv0]) rfl
      have h0 := hc 0 (sl vs[0]) (by simp [List.getElem?_eq_getElem hv0])
      rw [e] at h0
      rw [show vs.length = 1 from hlen]
      refine (Tryz.bytes_Join_one g o c ad cp b _ w h0 hp (List.length_pos_iff.2 (hne b (by simp))) (by simp at hmax; omega)).mono ?_
      rintro e w' ⟨v', rfl, hf, hB⟩
      obtain ⟨q, k, rfl, hl⟩ := fresh_lies hf
      exact ⟨q, k, by simp, by simpa using hl, hB⟩
  | x :: y :: r, hlen, hL =>
    have hv0 : 2 ≤ vs.length := by rw [hlen]; simp
    rcases hL with h | ⟨g, o, rfl, hg, hc⟩
    · have : vs = [] := by simpa using h
      rw [this] at hv0
      cases hv0
    · have hPA : Lib.PartsAt w ⟨g, o, none⟩ (vs.map sl) (x :: y :: r) := ⟨by simpa using hlen, fun i v hv => lies_add (w := w) (a := ⟨g, o, none⟩) (.inr ⟨g, o, rfl, hg, hc⟩) i v hv, fun i v b hv hb => by
        obtain ⟨ad, cp, e, hp⟩ := hparts i v b hv hb
        exact ⟨some ad, cp, e, (fun h => by cases h), (fun q hq => by cases hq; exact hp)⟩⟩
      refine (Tryz.bytes_Join_many g o vs.length c (vs.map sl) (x :: y :: r) (.slice none 0 0) [] w hlen.symm hv0 hPA hlc ⟨none, 0, rfl, fun _ => rfl, fun q hq => by cases hq⟩ (by omega) (by rw [lens_flat]; simp only [List.length_nil, Nat.zero_mul]; omega)).mono ?_
      rintro e w' ⟨v', rfl, hf, hB⟩
      rw [join_flat] at hf
      obtain ⟨q, k, rfl, hl⟩ := fresh_lies hf
      exact ⟨q, k, rfl, hl, hB⟩
end Go.Proofs.YtcdcnhecimajkaaGreat.Runs

/- A run's bytes: section. -/
namespace Go.Proofs.YtcdcnhecimajkaaGreat.Runs
open Go.RowKit Go.Deep Go.Shelf Go.Lib Mem Crc Go.Proofs.YtcdcnhecimajkaaGreat.Merge

attribute [local go_sem] Oper.semAt_some
theorem k82 : (((82 : UInt8).toNat : Nat) : Int) = 82 := by decide
set_option maxHeartbeats 400000 in
set_option maxRecDepth 100000 in
/-- A run of records, as bytes. -/
theorem section_any {a : Option Addr} {c : Nat} {vs : List SL} {l : List B} (w : World) (hL : Lies w a (vs.map sl)) (hlc : vs.length ≤ c) (hR : RecsIn w (vs.map sl) l) (hne : ∀ b ∈ l, b ≠ []) (hmax : l.flatten.length ≤ 1048576) (hml : l.length ≤ 1048576) :
    Calls Tryz.prog 28 #[.slice a vs.length c] w fun e w' => ∃ v, e = .returned (.tuple #[v, .int .i64 0]) ∧ OwnB w' w.heap.size v (Frame.frameL 82 l.flatten) ∧ Below w.heap.size w w' := by
  have hj := join_any w hL hlc hR hne hmax hml
  obtain ⟨X, hX⟩ : ∃ X, X = l.flatten := ⟨_, rfl⟩
  rw [← hX] at hj hmax ⊢
  have HJ := Lib.hid hj
  clear hL hR hj hX
  go_enter Tryz.func28, Tryz.ntmps28
  go_wp2_with fail
  refine HJ.out.mono ?_
  rintro e w1 ⟨ad, cp, rfl, h1, h2⟩
  have hp := Frame.put_nil 82 ad cp X w1 h1 hmax
  rw [k82] at hp
  have HP := Lib.hid hp
  have H2 := Lib.hid h2
  clear h1 h2 hp
  go_wp2_with fail
  refine HP.out.mono ?_
  rintro e w2 ⟨v, rfl, h3, h4⟩
  have H3 := Lib.hid (own_mono h3 H2.out.size)
  have H4 := Lib.hid (H2.out.trans (h4.mono H2.out.size))
  obtain ⟨va, vc, rfl, _, _, _, _⟩ := own_shape h3
  clear h3 h4
  go_wp2_with fail
  go_ret2
  exact ⟨_, rfl, H3.out, H4.out⟩
end Go.Proofs.YtcdcnhecimajkaaGreat.Runs

/- slices.IsSortedFunc of records that rise. -/
namespace Go.Proofs.YtcdcnhecimajkaaGreat.Runs
open Go.RowKit Go.Deep Go.Shelf Go.Lib Go.Sort Mem Crc Go.Proofs.YtcdcnhecimajkaaGreat.Merge

theorem below_same {α : Type} [Inhabited α] (enc : α → Value) (w : World) (bk off m : Nat) (dk : Array α) (os : Array Obj) (h : Holds enc w bk off dk) : Below w.heap.size w (sortWorld enc w bk off m dk os) := by
  have e : putRow enc (Sort.ahead w m) bk off dk = Sort.ahead w m := putRow_self enc _ bk off dk h
  unfold sortWorld
  rw [e]
  exact ⟨rfl, rfl, rfl, by rw [Go.Sort.size_grow]; exact Nat.le_add_right _ _, fun k hk => heap_grow_old _ _ hk⟩
theorem holds_of {w : World} {base g cap : Nat} {vs : List SL} (hO : OwnL w base (.slice (some ⟨g, 0, none⟩) vs.length cap) vs) (ds : List (RecOut w g)) (hd1 : ds.map (·.1.1) = vs) : Holds encR w g 0 ds.toArray := fun j hj => by
  have hj' : j < ds.length := by simpa using hj
  have hds : ds.length = vs.length := by rw [← hd1]; simp
  rcases hO.2 with ⟨h, _⟩ | ⟨g', cap', cur, e, hb, hgb, hc1, hc2, hc3, hc4⟩
  · cases h
  · cases e
    have hc : cur.toList[j]? = some (encR ds[j]) := by
      have h1 : (cur.toList.take (vs.length * 1))[j]? = some (encR ds[j]) := by
        rw [hc4, ← hd1]
        simp [List.getElem?_eq_getElem hj', encR]
      rw [List.getElem?_take] at h1
      split at h1
      · exact h1
      · cases h1
    refine ⟨?_, ?_⟩
    · simp [World.cell?, hgb, getElem!_pos, hj', ← hc]
    · simp [World.frozen?, hgb]
set_option maxHeartbeats 1000000 in
theorem isSorted_any {w : World} {base : Nat} {v : Value} {vs : List SL} {l : List B} (hO : OwnL w base v vs) (hR : RecsIn w (vs.map sl) l) (hout : ∀ x ∈ vs, ∀ g, Mem.blk x.1 = some g → some g ≠ v.ownBlock) (hn : vs.length ≤ 1000000) (h0 : 0 < vs.length) (hs : Rises l) :
    Calls Tryz.prog 54 #[v, .func (.func 48) #[] #[]] w fun e w' => e = .returned (.bool true) ∧ Below w.heap.size w w' := by
  have eg : ∀ args w, (callFunc 48 args).run Tryz.prog w = .ok (.enter 48 args) w := enters_of Tryz.func48 (by kernel_rfl) rfl
  have hlen : vs.length = l.length := by simpa using hR.len
  rcases hO.2 with ⟨rfl, h⟩ | ⟨g, cap, cur, rfl, hb, hgb, hc1, hc2, hc3, hc4⟩
  · omega
  · have hg := (Array.getElem?_eq_some_iff.1 hgb).1
    obtain ⟨ds, hd1, hd2⟩ := recs_sub w g vs l hlen (fun i x b hx hb => hR.at_ i (sl x) b (by simp [hx]) hb) (fun x hx q hq e => hout x hx q hq (by rw [e]; rfl))
    have hds : ds.length = vs.length := by rw [← hd1]; simp
    have hH := holds_of hO ds hd1
    have hcon := Any.slices_IsSortedFunc (P := Tryz.prog) (ρ := Tryz.isSortedRec_ren) Tryz.isSortedRec (encR (w := w) (bk := g)) (fun _ => rfl) cfR 48 #[] g 0 cap ds.toArray w eg (cmpLays w g 0 _) hH hg (by simp; omega)
    change Calls Tryz.prog 54 _ _ _ at hcon
    have esz : ds.toArray.size = vs.length := by simp [hds]
    rw [esz] at hcon
    refine hcon.mono ?_
    rintro e w' ⟨rfl, m, os, rfl⟩
    refine ⟨?_, below_same _ _ _ _ _ _ _ hH⟩
    congr 2
    rw [Lib.downOK_iff]
    intro i hi
    have hi1 : i + 1 < ds.length := by omega
    have h1 := List.pairwise_iff_getElem.1 hs i (i + 1) (by omega) (by omega) (Nat.lt_succ_self i)
    rw [ltR, decide_eq_false_iff_not, List.not_lt, getElem!_pos ds.toArray (i + 1) (by simpa using hi1), getElem!_pos ds.toArray i (by simp; omega)]
    subst hd2
    simpa using h1
end Go.Proofs.YtcdcnhecimajkaaGreat.Runs

/- slices.Clone at rows of rows. -/
namespace Go.Proofs.YtcdcnhecimajkaaGreat.Runs
open Go.RowKit Go.Deep Go.Shelf Mem Crc Go.Proofs.YtcdcnhecimajkaaGreat.Merge

attribute [local go_sem] Oper.semAt_some
theorem infoRow : (Tryz.prog.info? 22).map (fun i => (i.zero, i.size, i.bytes)) = some (some (.slice none 0 0), 1, 24) := by kernel_rfl
/-- Rows of one's own. -/
abbrev OwnR (w : World) (base : Nat) (v : Value) (xs : List SL) : Prop := w.ownsRow base 22 1 v xs.length (xs.map sl)
set_option maxHeartbeats 1000000 in
theorem cloneRows_any (ad : Addr) (cp : Nat) (vs : List SL) (w : World) (h : Lies w (some ad) (vs.map sl)) (hm : vs.length ≤ 1000000) :
    Calls Tryz.prog 57 #[.slice (some ad) vs.length cp] w fun e w' => ∃ v, e = .returned v ∧ OwnR w' w.heap.size v vs ∧ Below w.heap.size w w' := by
  obtain ⟨i0, hi0, hz0, hz1, hz2⟩ := info_parts infoRow
  have hne := fun w => Lib.run_eql_slice_nil (P := Tryz.prog) w 65 22 (some ad) vs.length cp 0 0 Tryz.underlying65
  have hal := (Below.refl w.heap.size w).alloc (Nat.le_refl _) (.cells #[] 22)
  have hown := own_empty w 22 1
  have HC := Lib.hid (lies_add (h.later hal))
  have H1 := Lib.hid (show ∀ u ∈ vs.map sl, u.oneCell' = true from fun u hu => by
    obtain ⟨x, _, rfl⟩ := List.mem_map.1 hu
    rfl)
  have HA := Lib.hid hal
  clear h hal
  go_enter Tryz.func57, Tryz.ntmps57
  go_wp2_with (first | (at_builtin; refine wpList_append_own _ rfl _ _ 65 rfl w.heap.size 22 i0 (.slice none 0 0) 1 24 Tryz.underlying65 hi0 hz0 hz1 hz2 rfl (by decide) _ _ _ rfl hown ad vs.length cp (vs.map sl) rfl ?c1 HC.out H1.out ?c3 ?c4 ?c5 ?_))
  case c1 => simp
  case c3 => unfold maxLen; omega
  case c4 => omega
  case c5 => simp
  intro v' w1 hown1 hgrow1 hv
  have hB1 : Below w.heap.size w w1 := HA.out.grown hgrow1 (by simp) (fun q hq => (hown.lt q hq).1)
  have HO := Lib.hid (show OwnR w1 w.heap.size v' vs by simpa using hown1)
  clear hown1 hgrow1 hv
  go_wp2_with fail
  go_ret
  exact ⟨v', rfl, HO.out, hB1⟩
end Go.Proofs.YtcdcnhecimajkaaGreat.Runs

/- heads.Less. -/
namespace Go.Proofs.YtcdcnhecimajkaaGreat.Runs
open Go.RowKit Go.Deep Go.Shelf Mem Crc Go.Proofs.YtcdcnhecimajkaaGreat.Merge

attribute [local go_sem] Oper.semAt_some
theorem RecAt.drewN {w : World} {v : Value} {b : B} (h : RecAt w v b) (n : Nat) : RecAt (w.drewN n) v b := h
theorem cmp_neg (a b : B) : decide (cmpB a b < 0) = decide (a < b) := by
  rw [decide_eq_decide]
  exact cmpB_lt _ _
set_option maxHeartbeats 1000000 in
theorem less_any (w : World) (g off n c i k : Nat) (hi : i < n) (hk : k < n) (hn : n ≤ 1000000) (p q : Addr) (np cp nq cq : Nat) (hp0 : 0 < np) (hq0 : 0 < nq) (x y : SL) (a b : B)
    (h1 : w.cell? ⟨g, off + i, none⟩ = some (.slice (some p) np cp)) (h2 : w.cell? ⟨g, off + k, none⟩ = some (.slice (some q) nq cq)) (h3 : w.cell? p = some (sl x)) (h4 : w.cell? q = some (sl y)) (h5 : RecAt w (sl x) a) (h6 : RecAt w (sl y) b) :
    Calls Tryz.prog 171 #[.slice (some ⟨g, off, none⟩) n c, .int .i64 i, .int .i64 k] w fun e w' => e = .returned (.bool (decide (a < b))) ∧ ∃ m, w' = w.drewN m := by
  obtain ⟨xa, xn, xc⟩ := x
  obtain ⟨ya, yn, yc⟩ := y
  have HC := Lib.hid (fun m => compare_any _ _ a b (w.drewN m) (h5.drewN m) (h6.drewN m))
  have HE := Lib.hid (cmp_neg a b)
  unfold sl at h3 h4 HC
  dsimp only at h3 h4 HC
  have e3 : p.add 0 = p := by unfold Addr.add; split <;> simp_all
  have e4 : q.add 0 = q := by unfold Addr.add; split <;> simp_all
  clear h5 h6
  go_enter Tryz.func171, Tryz.ntmps171
  go_wp2_with fail
  go_quiet ((go_at_call 48; refine Calls.quiet_of_same (HC.out _)))
  go_wp2_with fail
  go_ret
  exact ⟨by rw [HE.out]; rfl, _, rfl⟩
end Go.Proofs.YtcdcnhecimajkaaGreat.Runs

/- heads.Swap, Len. -/
namespace Go.Proofs.YtcdcnhecimajkaaGreat.Runs
open Go.RowKit Go.Deep Go.Shelf Mem Crc Go.Proofs.YtcdcnhecimajkaaGreat.Merge

attribute [local go_sem] Oper.semAt_some
set_option maxHeartbeats 400000 in
theorem len_any (w : World) (a : Option Addr) (n c : Nat) : Calls Tryz.prog 60 #[.slice a n c] w fun e w' => e = .returned (.int .i64 n) ∧ w' = w := by
  go_enter Tryz.func60, Tryz.ntmps60
  go_wp2
  go_ret
  exact ⟨rfl, rfl⟩
set_option maxHeartbeats 1000000 in
theorem swap_any (w : World) (g off n c i k : Nat) (hi : i < n) (hk : k < n) (hn : n ≤ 1000000) (x y : SL) (hne : i ≠ k)
    (h1 : w.cell? ⟨g, off + i, none⟩ = some (sl x)) (h2 : w.cell? ⟨g, off + k, none⟩ = some (sl y)) (f1 : w.frozen? ⟨g, off + i, none⟩ = false) (f2 : w.frozen? ⟨g, off + k, none⟩ = false) :
    Calls Tryz.prog 172 #[.slice (some ⟨g, off, none⟩) n c, .int .i64 i, .int .i64 k] w fun e w' => e = .returned (.tuple #[]) ∧ w' = ((w.setCell ⟨g, off + i, none⟩ (sl y)).setCell ⟨g, off + k, none⟩ (sl x)).drew := by
  obtain ⟨xa, xn, xc⟩ := x
  obtain ⟨ya, yn, yc⟩ := y
  unfold sl at h1 h2 ⊢
  dsimp only at h1 h2 ⊢
  go_enter Tryz.func172, Tryz.ntmps172
  go_wp2
  go_region
  go_wp2
  go_end0
  exact ⟨rfl, rfl⟩
set_option maxHeartbeats 1000000 in
theorem swap_self (w : World) (g off n c i : Nat) (hi : i < n) (hn : n ≤ 1000000) (x : SL)
    (h1 : w.cell? ⟨g, off + i, none⟩ = some (sl x)) (f1 : w.frozen? ⟨g, off + i, none⟩ = false) :
    Calls Tryz.prog 172 #[.slice (some ⟨g, off, none⟩) n c, .int .i64 i, .int .i64 i] w fun e w' => e = .returned (.tuple #[]) ∧ w' = ((w.setCell ⟨g, off + i, none⟩ (sl x)).setCell ⟨g, off + i, none⟩ (sl x)).drew := by
  obtain ⟨xa, xn, xc⟩ := x
  unfold sl at h1 ⊢
  dsimp only at h1 ⊢
  go_enter Tryz.func172, Tryz.ntmps172
  go_wp2
  go_region
  go_wp2
  go_end0
  exact ⟨rfl, rfl⟩
end Go.Proofs.YtcdcnhecimajkaaGreat.Runs

/- heads.Pop. -/
namespace Go.Proofs.YtcdcnhecimajkaaGreat.Runs
open Go.RowKit Go.Deep Go.Shelf Mem Crc Go.Proofs.YtcdcnhecimajkaaGreat.Merge

attribute [local go_sem] Oper.semAt_some
set_option maxHeartbeats 1000000 in
theorem pop_any (w : World) (hb g off n c : Nat) (hn : n + 1 ≤ 1000000) (hc : n + 1 ≤ c) (x : SL) (h0 : w.cell? ⟨hb, 0, none⟩ = some (.slice (some ⟨g, off, none⟩) (n + 1) c)) (f0 : w.frozen? ⟨hb, 0, none⟩ = false) (h1 : w.cell? ⟨g, off + n, none⟩ = some (sl x)) :
    Calls Tryz.prog 173 #[.pointer (some ⟨hb, 0, none⟩)] w fun e w' => e = .returned (.iface 22 (sl x)) ∧ ∃ m, w' = (w.drewN m).setCell ⟨hb, 0, none⟩ (.slice (some ⟨g, off, none⟩) n c) := by
  obtain ⟨xa, xn, xc⟩ := x
  unfold sl at h1 ⊢
  dsimp only at h1 ⊢
  have hs : RowKit.wrap64 ((n : Int) + 1 - 1) = n := IntWalk.wrap64_in _ (by omega) |>.trans (by omega)
  go_enter Tryz.func173, Tryz.ntmps173
  go_wp2
  go_quiet (fail)
  go_wp2
  go_region
  go_wp2
  go_ret
  exact ⟨rfl, _, rfl⟩
end Go.Proofs.YtcdcnhecimajkaaGreat.Runs

/- container/heap through the interface: what the methods of *heads are. -/
namespace Go.Proofs.YtcdcnhecimajkaaGreat.Runs
open Go.RowKit Go.Deep Go.Shelf Mem Crc Go.Proofs.YtcdcnhecimajkaaGreat.Merge
theorem meth_one (P : Program) (fuel : Nat) (t : TypeId) (name : String) (i : TypeInfo) (m : Go.Method) (f : FuncId) (el e0 : TypeId) (w : World) (a : Addr) (v : Value) (hi : P.info? t = some i) (hm : i.methods.find? (·.name == name) = some m) (hp : m.path = #[]) (hf : m.func = some (f, false)) (hu : P.underlying t = some (.pointer el)) (he : P.underlying el = some (.slice e0)) (h : w.cell? a = some v) :
    (method (fuel + 1) t (.pointer (some a)) name).run P w = .ok (f, v) w := by
  have e1 := run_typeInfo w hi
  have e2 := run_underlying hu w
  have e3 := run_isAgg_plain he rfl w
  have e4 : ∀ s : String, (Builtin.ssaWrapNilChk_ #[t] t #[.pointer (some a), strVal "", strVal s]).run P w = .ok (.pointer (some a)) w := fun s => rfl
  simp only [method, Sem.run_bind, e1, Result.andThen_ok, hm, hp, hf, follow, Sem.run_pure, receiverAt, e2, Place.get, Array.isEmpty, List.size_toArray, List.length_nil, decide_true, if_true, e4]
  simp [loadVar, asAddr, e3, h, Result.andThen]
theorem infoLen : ((Tryz.prog.info? 119).bind (fun i => i.methods.find? (·.name == "Len"))).map (fun m => (m.path, m.func)) = some (#[], some (60, false)) := by kernel_rfl
theorem infoLess : ((Tryz.prog.info? 119).bind (fun i => i.methods.find? (·.name == "Less"))).map (fun m => (m.path, m.func)) = some (#[], some (171, false)) := by kernel_rfl
theorem infoSwap : ((Tryz.prog.info? 119).bind (fun i => i.methods.find? (·.name == "Swap"))).map (fun m => (m.path, m.func)) = some (#[], some (172, false)) := by kernel_rfl
theorem meth_of (n : Nat) (name : String) (f : FuncId) (hI : ((Tryz.prog.info? 119).bind (fun i => i.methods.find? (·.name == name))).map (fun m => (m.path, m.func)) = some (#[], some (f, false))) (w : World) (a : Addr) (v : Value) (h : w.cell? a = some v) :
    (method (n + 1) 119 (.pointer (some a)) name).run Tryz.prog w = .ok (f, v) w := by
  rw [Option.map_eq_some_iff] at hI
  obtain ⟨m, h1, h2⟩ := hI
  rw [Option.bind_eq_some_iff] at h1
  obtain ⟨i, hi, hm⟩ := h1
  exact meth_one Tryz.prog n _ name i m f _ _ w a v hi hm (congrArg Prod.fst h2) (congrArg Prod.snd h2) Tryz.underlying119 Tryz.underlying115 h
theorem meth_len (n : Nat) (w : World) (a : Addr) (v : Value) (h : w.cell? a = some v) : (method (n + 1) 119 (.pointer (some a)) "Len").run Tryz.prog w = .ok (60, v) w := meth_of n _ _ infoLen w a v h
theorem meth_less (n : Nat) (w : World) (a : Addr) (v : Value) (h : w.cell? a = some v) : (method (n + 1) 119 (.pointer (some a)) "Less").run Tryz.prog w = .ok (171, v) w := meth_of n _ _ infoLess w a v h
theorem meth_swap (n : Nat) (w : World) (a : Addr) (v : Value) (h : w.cell? a = some v) : (method (n + 1) 119 (.pointer (some a)) "Swap").run Tryz.prog w = .ok (172, v) w := meth_of n _ _ infoSwap w a v h
theorem meth_pop (n : Nat) (w : World) (a : Addr) : (method (n + 1) 119 (.pointer (some a)) "Pop").run Tryz.prog w = .ok (173, .pointer (some a)) w := by kernel_rfl
end Go.Proofs.YtcdcnhecimajkaaGreat.Runs

/- container/heap's down over *heads. -/
namespace Go.Proofs.YtcdcnhecimajkaaGreat.Runs
open Go.RowKit Go.Deep Go.Shelf Mem Crc Go.Proofs.YtcdcnhecimajkaaGreat.Merge Go.Proofs.YtcdcnhecimajkaaGreat.Heap

attribute [local go_sem] Oper.semAt_some
/-- A row of records, by its slice and by what it reads as. -/
abbrev El := SL × Row
def ltE (a b : El) : Prop := lt a.2 b.2
theorem ordE : Ord ltE := ⟨fun a b => ord.asym a.2 b.2, fun a b c => ord.trans a.2 b.2 c.2⟩
theorem recs_upon {w w' : World} {vs : List SL} {held : List B} {R P : Nat → Prop} (h : RecsIn w (vs.map sl) held) (hu : Upon P w w') (rb : ∀ y ∈ vs, ∀ g, Mem.blk y.1 = some g → R g) (hR : ∀ g, R g → ¬ P g) : RecsIn w' (vs.map sl) held :=
  ⟨h.len, fun i v b hv' hb => by
    obtain ⟨a, c, e, h1, h2⟩ := h.at_ i v b hv' hb
    refine ⟨a, c, e, h1, h2.upon hu (fun g hg => ?_)⟩
    rw [List.getElem?_map, Option.map_eq_some_iff] at hv'
    obtain ⟨y, hy, e2⟩ := hv'
    have ey : y.1 = a := by
      rw [e] at e2
      unfold sl at e2
      injection e2
    exact hR g (rb y (List.mem_of_getElem? hy) g (by rw [ey]; exact hg))⟩
/-- A row all whose blocks, its records' too, are in U. -/
def RowB (w : World) (U : Nat → Prop) (r : SL × List B) : Prop :=
  ∃ (a : Option Addr) (c : Nat) (vs : List SL), r.1 = (a, r.2.length, c) ∧ r.2.length ≤ c ∧ vs.length = r.2.length ∧ Lies w a (vs.map sl) ∧ (∀ g, Mem.blk a = some g → U g) ∧ RecsIn w (vs.map sl) r.2 ∧ ∀ y ∈ vs, ∀ g, Mem.blk y.1 = some g → U g
theorem RowB.at_ {w : World} {U : Nat → Prop} {r : SL × List B} (h : RowB w U r) : RowAt w (sl r.1) r.2 := by
  obtain ⟨a, c, vs, e, h1, h2, h3, h4, h5, h6⟩ := h
  exact ⟨a, c, vs.map sl, by rw [e]; rfl, h1, h3, h5⟩
theorem RowB.upon {w w' : World} {U P : Nat → Prop} {r : SL × List B} (h : RowB w U r) (hu : Upon P w w') (hP : ∀ g, U g → ¬ P g) : RowB w' U r := by
  obtain ⟨a, c, vs, e, h1, h2, h3, h4, h5, h6⟩ := h
  exact ⟨a, c, vs, e, h1, h2, h3.upon hu (fun g hg => hP g (h4 g hg)), h4, recs_upon h5 hu h6 hP, h6⟩
theorem RowB.later {w w' : World} {U : Nat → Prop} {r : SL × List B} (h : RowB w U r) (hB : Below w.heap.size w w') : RowB w' U r := h.upon (P := fun _ => False) (Upon.of_below hB) (fun _ _ h => h)
theorem RowB.mono {w : World} {U V : Nat → Prop} {r : SL × List B} (h : RowB w U r) (hU : ∀ g, U g → V g) : RowB w V r := by
  obtain ⟨a, c, vs, e, h1, h2, h3, h4, h5, h6⟩ := h
  exact ⟨a, c, vs, e, h1, h2, h3, fun g hg => hU g (h4 g hg), h5, fun y hy g hg => hU g (h6 y hy g hg)⟩
/-- A world in which rows can be read, and the blocks that they lie in. -/
structure Base where
  w : World
  U : Nat → Prop
  lt : ∀ k, U k → k < w.heap.size
/-- What lay there still does. -/
structure Keeps (w0 : Base) (w : World) : Prop where
  size : w0.w.heap.size ≤ w.heap.size
  block : ∀ k, w0.U k → w.heap[k]? = w0.w.heap[k]?
theorem Keeps.only {w0 : Base} {X Y : World} (h : Keeps w0 X) {bs : List Nat} (ho : Only bs X Y) (hb : ∀ k ∈ bs, w0.w.heap.size ≤ k) : Keeps w0 Y :=
  ⟨Nat.le_trans h.size ho.size, fun k hk => (ho.block k (Nat.lt_of_lt_of_le (w0.lt k hk) h.size) (fun hm => by have := hb k hm; have := w0.lt k hk; omega)).trans (h.block k hk)⟩
theorem Keeps.below {w0 : Base} {X Y : World} (h : Keeps w0 X) {B0 : Nat} (hB : Below B0 X Y) (h0 : w0.w.heap.size ≤ B0) : Keeps w0 Y :=
  ⟨Nat.le_trans h.size hB.size, fun k hk => (hB.block k (Nat.lt_of_lt_of_le (w0.lt k hk) h0)).trans (h.block k hk)⟩
theorem RowB.keep {w0 : Base} {X : World} {r : SL × List B} (h : RowB w0.w w0.U r) (hk : Keeps w0 X) : RowB X w0.U r := by
  obtain ⟨a, c, vs, e, h1, h2, h3, h4, h5, h6⟩ := h
  refine ⟨a, c, vs, e, h1, h2, h3.keep hk.size (fun g hg => hk.block g (h4 g hg)), h4, ⟨h5.len, fun i v b hv' hb => ?_⟩, h6⟩
  obtain ⟨a', c', e', h7, h8⟩ := h5.at_ i v b hv' hb
  refine ⟨a', c', e', h7, h8.keep hk.size (fun g hg => hk.block g ?_)⟩
  rw [List.getElem?_map, Option.map_eq_some_iff] at hv'
  obtain ⟨y, hy, e2⟩ := hv'
  have ey : y.1 = a' := by
    rw [e'] at e2
    unfold sl at e2
    injection e2
  exact h6 y (List.mem_of_getElem? hy) g (by rw [ey]; exact hg)
/-- The heads in memory: their slice in block hb, its row in block g; x k lies at place k. -/
structure Heads (w0 : Base) (w : World) (hb g N c : Nat) (x : Nat → SL) : Prop where
  cell : Blk w hb 115 #[.slice (some ⟨g, 0, none⟩) N c]
  row : ∃ cs, Blk w g 22 cs ∧ ∀ k, k < N → cs[k]? = some (sl (x k))
  le : N ≤ c
  below : Keeps w0 w
  old : w0.w.heap.size ≤ hb ∧ w0.w.heap.size ≤ g
  few : N ≤ 1000000
theorem Heads.ne {w0 : Base} {w : World} {hb g N c : Nat} {x : Nat → SL} (h : Heads w0 w hb g N c x) : hb ≠ g := by
  obtain ⟨cs, h1, _⟩ := h.row
  exact h.cell.ne h1 (by decide)
theorem Heads.drewN {w0 : Base} {w : World} {hb g N c : Nat} {x : Nat → SL} (h : Heads w0 w hb g N c x) (n : Nat) : Heads w0 (w.drewN n) hb g N c x :=
  ⟨h.cell, h.row, h.le, ⟨h.below.size, h.below.block⟩, h.old, h.few⟩
theorem Heads.swap {w0 : Base} {w : World} {hb g N c : Nat} {x : Nat → SL} (h : Heads w0 w hb g N c x) {i k : Nat} (hi : i < N) (hk : k < N) :
    Heads w0 ((w.setCell ⟨g, i, none⟩ (sl (x k))).setCell ⟨g, k, none⟩ (sl (x i))).drew hb g N c (Heap.swap x i k) ∧ Only [g] w ((w.setCell ⟨g, i, none⟩ (sl (x k))).setCell ⟨g, k, none⟩ (sl (x i))).drew := by
  obtain ⟨cs, h1, h2⟩ := h.row
  have hne := h.ne
  have ho : Only [g] w ((w.setCell ⟨g, i, none⟩ (sl (x k))).setCell ⟨g, k, none⟩ (sl (x i))).drew := (((Only.refl [g] w).set (p := ⟨g, i, none⟩) (.inl (by simp)) _).set (p := ⟨g, k, none⟩) (.inl (by simp)) _).drew
  have hsz : N ≤ cs.size := by
    rcases Nat.eq_zero_or_pos N with h0 | h0
    · omega
    · have := (Array.getElem?_eq_some_iff.1 (h2 (N - 1) (by omega))).1
      omega
  refine ⟨⟨Blk.only h.cell ho (by simpa using hne), ⟨_, ((h1.set i (sl (x k))).set k (sl (x i))).drew, fun j hj => ?_⟩, h.le, h.below.only ho (by simpa using h.old.2), h.old, h.few⟩, ho⟩
  rw [Array.getElem?_setIfInBounds, Array.getElem?_setIfInBounds]
  simp only [Array.size_setIfInBounds]
  unfold Heap.swap
  by_cases e1 : j = i
  · subst e1
    by_cases e2 : k = j
    · subst e2
      simp [show k < cs.size by omega]
    · simp [e2, show j < cs.size by omega]
  · by_cases e2 : j = k
    · subst e2
      simp [e1, show j < cs.size by omega]
    · rw [if_neg (Ne.symm e2), if_neg (Ne.symm e1), if_neg e1, if_neg e2]
      exact h2 j hj
/-- Rows that are not at their ends, as they could be read long ago. -/
def Up (w0 : Base) (f : Nat → El) (n : Nat) : Prop := ∀ k, k < n → RowB w0.w w0.U ((f k).1, (f k).2.1)
theorem Up.swap {w0 : Base} {f : Nat → El} {n i k : Nat} (h : Up w0 f n) (hi : i < n) (hk : k < n) : Up w0 (Heap.swap f i k) n := fun j hj => by
  unfold Heap.swap
  split
  · exact h k hk
  · split
    · exact h i hi
    · exact h j hj
theorem swap_fst (f : Nat → El) (i k : Nat) : (fun j => (Heap.swap f i k j).1) = Heap.swap (fun j => (f j).1) i k := by
  funext j
  unfold Heap.swap
  split
  · rfl
  · split <;> rfl
/-- Less, of two rows that are not at their ends. -/
theorem less_of {w0 : Base} {w : World} {hb g N c : Nat} {f : Nat → El} (h : Heads w0 w hb g N c (fun k => (f k).1)) {n : Nat} (hu : Up w0 f n) (hnN : n ≤ N) {i k : Nat} (hi : i < n) (hk : k < n) :
    Calls Tryz.prog 171 #[.slice (some ⟨g, 0, none⟩) N c, .int .i64 i, .int .i64 k] w fun e w' => ∃ b : Bool, e = .returned (.bool b) ∧ (b = true ↔ ltE (f i) (f k)) ∧ ∃ m, w' = w.drewN m := by
  obtain ⟨cs, h1, h2⟩ := h.row
  obtain ⟨ai, ci, vi, ei, li, Li, Ri⟩ := ((hu i hi).keep h.below).at_
  obtain ⟨ak, ck, vk, ek, lk, Lk, Rk⟩ := ((hu k hk).keep h.below).at_
  have pos : ∀ r : Row, 0 < r.1.length := fun r => List.length_pos_iff.2 r.2
  have one : ∀ (a : Option Addr) (vs : List Value) (r : Row), Lies w a vs → RecsIn w vs r.1 → ∃ p v, a = some p ∧ w.cell? p = some (v : Value) ∧ RecAt w v (hd r) := fun a vs r hL hR => by
    have hl := hR.len
    have h0 := pos r
    rcases hL with e | ⟨q, o, e, _, hc⟩
    · simp [e] at hl; omega
    · obtain ⟨v, hv⟩ : ∃ v, vs[0]? = some v := ⟨vs[0], List.getElem?_eq_getElem (by omega)⟩
      refine ⟨⟨q, o, none⟩, v, e, hc 0 v hv, hR.at_ 0 v _ hv ?_⟩
      have := hd_some r
      rw [List.head?_eq_getElem?] at this
      exact this
  obtain ⟨p, u, rfl, hp, hpr⟩ := one ai vi _ Li Ri
  obtain ⟨q, v, rfl, hq, hqr⟩ := one ak vk _ Lk Rk
  obtain ⟨pa, pc, eu, _, _⟩ := id hpr
  obtain ⟨qa, qc, ev, _, _⟩ := id hqr
  have c1 := h2 i (by omega)
  have c2 := h2 k (by omega)
  have e1 := ei
  have e2 := ek
  try dsimp only at c1 c2
  rw [ei] at c1
  rw [ek] at c2
  refine (less_any w g 0 N c i k (by omega) (by omega) h.few p q _ ci _ ck (pos (f i).2) (pos (f k).2) (pa, _, pc) (qa, _, qc) _ _ ((h1.cell _).trans (by simpa using c1)) ((h1.cell _).trans (by simpa using c2)) (by rw [hp, eu]; rfl) (by rw [hq, ev]; rfl) (by rw [eu] at hpr; exact hpr) (by rw [ev] at hqr; exact hqr)).mono ?_
  rintro e w' ⟨rfl, hm⟩
  refine ⟨_, rfl, ?_, hm⟩
  rw [decide_eq_true_iff]
  exact (lt_iff _ _).symm
/-- Swap, of any two places. -/
theorem swap_of {w0 : Base} {w : World} {hb g N c : Nat} {x : Nat → SL} (h : Heads w0 w hb g N c x) {i k : Nat} (hi : i < N) (hk : k < N) :
    Calls Tryz.prog 172 #[.slice (some ⟨g, 0, none⟩) N c, .int .i64 i, .int .i64 k] w fun e w' => e = .returned (.tuple #[]) ∧ Heads w0 w' hb g N c (Heap.swap x i k) ∧ Only [g] w w' := by
  obtain ⟨cs, h1, h2⟩ := h.row
  have hs := h.swap hi hk
  have c1 : w.cell? ⟨g, 0 + i, none⟩ = some (sl (x i)) := (h1.cell _).trans (by simpa using h2 i hi)
  have c2 : w.cell? ⟨g, 0 + k, none⟩ = some (sl (x k)) := (h1.cell _).trans (by simpa using h2 k hk)
  by_cases e : i = k
  · subst e
    refine (swap_self w g 0 N c i hi h.few (x i) c1 (h1.frozen _)).mono ?_
    rintro e w' ⟨rfl, rfl⟩
    rw [Nat.zero_add]
    exact ⟨rfl, hs⟩
  · refine (swap_any w g 0 N c i k hi hk h.few (x i) (x k) e c1 c2 (h1.frozen _) (h1.frozen _)).mono ?_
    rintro e w' ⟨rfl, rfl⟩
    rw [Nat.zero_add, Nat.zero_add]
    exact ⟨rfl, hs⟩
end Go.Proofs.YtcdcnhecimajkaaGreat.Runs

/- container/heap's down over *heads: the walk. -/
namespace Go.Proofs.YtcdcnhecimajkaaGreat.Runs
open Go.RowKit Go.Deep Go.Shelf Mem Crc Go.Proofs.YtcdcnhecimajkaaGreat.Merge Go.Proofs.YtcdcnhecimajkaaGreat.Heap

attribute [local go_sem] Oper.semAt_some
/-- What down has done. -/
structure Down (w0 : Base) (w w' : World) (hb g N c : Nat) (f f' : Nat → El) (k n : Nat) : Prop where
  heads : Heads w0 w' hb g N c (fun k => (f' k).1)
  up : Up w0 f' n
  out : ∀ j, n ≤ j → f' j = f j
  perm : (row f' n).Perm (row f n)
  only : Only [g] w w'
theorem parent_two {c j : Nat} (h : 0 < c) (hp : parent c = j) : c = 2 * j + 1 ∨ c = 2 * j + 2 := by unfold parent at hp; omega
theorem parent_l (j : Nat) : parent (2 * j + 1) = j := by unfold parent; omega
theorem parent_r (j : Nat) : parent (2 * j + 2) = j := by unfold parent; omega
theorem Down.refl {w0 : Base} {w : World} {hb g N c : Nat} {f : Nat → El} {n : Nat} (k : Nat) (h : Heads w0 w hb g N c (fun k => (f k).1)) (hu : Up w0 f n) : Down w0 w w hb g N c f f k n :=
  ⟨h, hu, fun _ _ => rfl, List.Perm.refl _, Only.refl _ _⟩
theorem Down.drewN {w0 : Base} {w w' : World} {hb g N c : Nat} {f f' : Nat → El} {k n : Nat} (h : Down w0 w w' hb g N c f f' k n) (m : Nat) : Down w0 w (w'.drewN m) hb g N c f f' k n := ⟨h.heads.drewN m, h.up, h.out, h.perm, h.only.drewN m⟩
theorem Down.swap {w0 : Base} {w w1 w2 : World} {hb g N c : Nat} {f f' : Nat → El} {k n i j : Nat} (h : Down w0 w w1 hb g N c f f' k n) (hi : i < n) (hj : j < n) (hh : Heads w0 w2 hb g N c (Heap.swap (fun k => (f' k).1) i j)) (ho : Only [g] w1 w2) : Down w0 w w2 hb g N c f (Heap.swap f' i j) k n :=
  ⟨by rw [swap_fst]; exact hh, h.up.swap hi hj, fun q hq => by rw [swap_o f' (by omega) (by omega)]; exact h.out q hq, (row_swap f' hi hj).trans h.perm, h.only.trans ho⟩
/-- What the loop keeps. -/
def Loop (w0 : Base) (w : World) (hb g N c : Nat) (f : Nat → El) (k n : Nat) (i : Value) (wr : World) : Prop :=
  ∃ (j : Nat) (f' : Nat → El), j ≤ n ∧ i = .int .i64 j ∧ Down w0 w wr hb g N c f f' k n ∧ Dn ltE f' k n j
def Ends (w0 : Base) (w : World) (hb g N c : Nat) (f : Nat → El) (k n : Nat) (e : Ending) (w' : World) : Prop :=
  ∃ (b : Bool) (f' : Nat → El), e = .returned (.bool b) ∧ Down w0 w w' hb g N c f f' k n ∧ Heap ltE f' k n
theorem ends_here {w0 : Base} {w wr : World} {hb g N c : Nat} {f f' : Nat → El} {k n j : Nat} {b : Bool} (hD : Down w0 w wr hb g N c f f' k n) (hdn : Dn ltE f' k n j) (hs : ∀ q, q = 2 * j + 1 ∨ q = 2 * j + 2 → q < n → ¬ ltE (f' q) (f' j)) : Ends w0 w hb g N c f k n (.returned (.bool b)) wr :=
  ⟨b, f', rfl, hD, dn_stop hdn (fun q h0 hq hp => hs q (parent_two h0 hp) hq)⟩
/-- The child that is looked at. -/
structure Child (f : Nat → El) (n j q : Nat) : Prop where
  le : q < n
  child : parent q = j
  min : ∀ p, 0 < p → p < n → parent p = j → ¬ ltE (f p) (f q)
theorem irrE (a : El) : ¬ ltE a a := fun h => ordE.asym _ _ h h
theorem child_one {f : Nat → El} {n j : Nat} (h1 : 2 * j + 1 < n) (h2 : ¬ 2 * j + 2 < n) : Child f n j (2 * j + 1) :=
  ⟨h1, parent_l j, fun p h0 hp hpp => by
    rcases parent_two h0 hpp with rfl | rfl
    · exact irrE _
    · exact absurd hp h2⟩
theorem child_two {f : Nat → El} {n j : Nat} (h2 : 2 * j + 2 < n) (h : ltE (f (2 * j + 2)) (f (2 * j + 1))) : Child f n j (2 * j + 2) :=
  ⟨h2, parent_r j, fun p h0 hp hpp => by
    rcases parent_two h0 hpp with rfl | rfl
    · exact ordE.asym _ _ h
    · exact irrE _⟩
theorem child_three {f : Nat → El} {n j : Nat} (h1 : 2 * j + 1 < n) (h : ¬ ltE (f (2 * j + 2)) (f (2 * j + 1))) : Child f n j (2 * j + 1) :=
  ⟨h1, parent_l j, fun p h0 hp hpp => by
    rcases parent_two h0 hpp with rfl | rfl
    · exact irrE _
    · exact h⟩
theorem ends_child {w0 : Base} {w wr : World} {hb g N c : Nat} {f f' : Nat → El} {k n j q : Nat} {b : Bool} (hD : Down w0 w wr hb g N c f f' k n) (hdn : Dn ltE f' k n j) (hc : Child f' n j q) (hl : ¬ ltE (f' q) (f' j)) : Ends w0 w hb g N c f k n (.returned (.bool b)) wr :=
  ⟨b, f', rfl, hD, dn_stop hdn (fun p h0 hp hpp => ordE.trans _ _ _ hl (hc.min p h0 hp hpp))⟩
theorem next_child {w0 : Base} {w wr w2 : World} {hb g N c : Nat} {f f' : Nat → El} {k n j q : Nat} (hD : Down w0 w wr hb g N c f f' k n) (hdn : Dn ltE f' k n j) (hc : Child f' n j q) (hl : ltE (f' q) (f' j)) (hj : j < q) (hh : Heads w0 w2 hb g N c (Heap.swap (fun k => (f' k).1) j q)) (ho : Only [g] wr w2) : Loop w0 w hb g N c f k n (.int .i64 q) w2 :=
  ⟨q, Heap.swap f' j q, Nat.le_of_lt hc.le, rfl, hD.swap (by have := hc.le; omega) hc.le hh ho, dn_step ordE hdn (by omega) hc.le hc.child hl hc.min⟩
/-- A world in which no more than draws were made. -/
def Same (w w' : World) : Prop := ∃ m, w' = w.drewN m
theorem Down.same {w0 : Base} {w w1 w2 : World} {hb g N c : Nat} {f f' : Nat → El} {k n : Nat} (h : Down w0 w w1 hb g N c f f' k n) (hs : Same w1 w2) : Down w0 w w2 hb g N c f f' k n := by
  obtain ⟨m, rfl⟩ := hs
  exact h.drewN m
theorem Down.cell {w0 : Base} {w w1 : World} {hb g N c : Nat} {f f' : Nat → El} {k n : Nat} (h : Down w0 w w1 hb g N c f f' k n) : w1.cell? ⟨hb, 0, none⟩ = some (.slice (some ⟨g, 0, none⟩) N c) := by
  have c0 := h.heads.cell.cell 0
  simpa using c0
theorem less_at {w0 : Base} {w : World} {hb g N c : Nat} {f : Nat → El} (h : Heads w0 w hb g N c (fun k => (f k).1)) {n : Nat} (hu : Up w0 f n) (hnN : n ≤ N) {i k : Nat} (hi : i < n) (hk : k < n) {a b : Int} (ha : a = (i : Int)) (hb' : b = (k : Int)) :
    Calls Tryz.prog 171 #[.slice (some ⟨g, 0, none⟩) N c, .int .i64 a, .int .i64 b] w fun e w' => ∃ b : Bool, e = .returned (.bool b) ∧ (b = true ↔ ltE (f i) (f k)) ∧ Same w w' := by
  subst ha hb'
  exact less_of h hu hnN hi hk
theorem swap_at {w0 : Base} {w : World} {hb g N c : Nat} {x : Nat → SL} (h : Heads w0 w hb g N c x) {i k : Nat} (hi : i < N) (hk : k < N) {a b : Int} (ha : a = (i : Int)) (hb' : b = (k : Int)) :
    Calls Tryz.prog 172 #[.slice (some ⟨g, 0, none⟩) N c, .int .i64 a, .int .i64 b] w fun e w' => e = .returned (.tuple #[]) ∧ Heads w0 w' hb g N c (Heap.swap x i k) ∧ Only [g] w w' := by
  subst ha hb'
  exact swap_of h hi hk
theorem cast_loop {w0 : Base} {w wr : World} {hb g N c : Nat} {f : Nat → El} {k n q : Nat} {a : Int} (ha : a = (q : Int)) (h : Loop w0 w hb g N c f k n (.int .i64 q) wr) : Loop w0 w hb g N c f k n (.int .i64 a) wr := by subst ha; exact h
set_option maxHeartbeats 4000000 in
theorem down_any {w0 : Base} {w : World} {hb g N c : Nat} {f : Nat → El} {k n : Nat} (h : Heads w0 w hb g N c (fun k => (f k).1)) (hn : n ≤ N) (hu : Up w0 f n) (hk : k ≤ n) (hh : Heap ltE f (k + 1) n) :
    Calls Tryz.prog 86 #[.iface 119 (.pointer (some ⟨hb, 0, none⟩)), .int .i64 k, .int .i64 n] w (Ends w0 w hb g N c f k n) := by
  have hst : Loop w0 w hb g N c f k n (.int .i64 k) w := ⟨k, f, hk, rfl, Down.refl k h hu, dn_start hh⟩
  have hfew := h.few
  clear h hh hu
  go_enter Tryz.func86, Tryz.ntmps86
  go_wp2_with fail
  go_loopw [7] (Loop w0 w hb g N c f k n) (fun i _ => n - (intOf i).toNat)
  case atStart => exact hst
  case round =>
    obtain ⟨j, f', hj, rfl, hD, hdn⟩ := hrel
    have M1 := fun q => meth_less q wr ⟨hb, 0, none⟩ _ hD.cell
    have HD := Lib.hid hD
    have HN := Lib.hid hdn
    clear hD hdn
    by_cases h1 : 2 * j + 1 < n
    · by_cases h2 : 2 * j + 2 < n
      · go_wp2_with fail
        refine (less_at HD.out.heads HD.out.up hn (i := 2 * j + 2) (k := 2 * j + 1) h2 h1 (by omega) (by omega)).mono ?_
        rintro e w1 ⟨b1, rfl, hb1, hs1⟩
        have HF := Lib.hid (HD.out.same hs1)
        have M2 := fun u => meth_less u w1 ⟨hb, 0, none⟩ _ HF.out.cell
        clear hs1 M1
        cases b1
        · have HB1 := Lib.hid (show ¬ ltE (f' (2 * j + 2)) (f' (2 * j + 1)) from fun hl => absurd (hb1.2 hl) (by simp))
          clear hb1
          have HC := Lib.hid (child_three h1 HB1.out)
          go_wp2_with fail
          refine (less_at HF.out.heads HD.out.up hn (i := (2 * j + 1)) (k := j) HC.out.le (by omega) (by omega) rfl).mono ?_
          rintro e w2 ⟨b2, rfl, hb2, hs2⟩
          have HE := Lib.hid (HF.out.same hs2)
          clear hs2
          cases b2
          · have HX := Lib.hid (fun b : Bool => ends_child (b := b) HE.out HN.out HC.out (fun hl => absurd (hb2.2 hl) (by simp)))
            clear hb2
            go_wp2_with fail
            go_ret
            exact HX.out _
          · have HX := Lib.hid (hb2.1 rfl)
            have M3 := fun u => meth_swap u w2 ⟨hb, 0, none⟩ _ HE.out.cell
            clear hb2
            go_wp2_with fail
            refine (swap_at HE.out.heads (i := j) (k := (2 * j + 1)) (by omega) (by have := HC.out.le; omega) rfl (by omega)).mono ?_
            rintro e w3 ⟨rfl, hh3, ho3⟩
            have HY := Lib.hid (next_child HE.out HN.out HC.out HX.out (by omega) hh3 ho3)
            clear M3 hh3 ho3
            go_wp2_with fail
            go_roundw
            case rel => exact cast_loop (by omega) HY.out
            case measure => simp [intOf]; omega
        · have HB1 := Lib.hid (hb1.1 rfl)
          clear hb1
          have HC := Lib.hid (child_two h2 HB1.out)
          go_wp2_with fail
          refine (less_at HF.out.heads HD.out.up hn (i := (2 * j + 2)) (k := j) HC.out.le (by omega) (by omega) rfl).mono ?_
          rintro e w2 ⟨b2, rfl, hb2, hs2⟩
          have HE := Lib.hid (HF.out.same hs2)
          clear hs2
          cases b2
          · have HX := Lib.hid (fun b : Bool => ends_child (b := b) HE.out HN.out HC.out (fun hl => absurd (hb2.2 hl) (by simp)))
            clear hb2
            go_wp2_with fail
            go_ret
            exact HX.out _
          · have HX := Lib.hid (hb2.1 rfl)
            have M3 := fun u => meth_swap u w2 ⟨hb, 0, none⟩ _ HE.out.cell
            clear hb2
            go_wp2_with fail
            refine (swap_at HE.out.heads (i := j) (k := (2 * j + 2)) (by omega) (by have := HC.out.le; omega) rfl (by omega)).mono ?_
            rintro e w3 ⟨rfl, hh3, ho3⟩
            have HY := Lib.hid (next_child HE.out HN.out HC.out HX.out (by omega) hh3 ho3)
            clear M3 hh3 ho3
            go_wp2_with fail
            go_roundw
            case rel => exact cast_loop (by omega) HY.out
            case measure => simp [intOf]; omega
      · have HB1 := Lib.hid h2
        have HC := Lib.hid (child_one (f := f') h1 HB1.out)
        go_wp2_with fail
        refine (less_at HD.out.heads HD.out.up hn (i := (2 * j + 1)) (k := j) HC.out.le (by omega) (by omega) rfl).mono ?_
        rintro e w2 ⟨b2, rfl, hb2, hs2⟩
        have HE := Lib.hid (HD.out.same hs2)
        clear hs2
        cases b2
        · have HX := Lib.hid (fun b : Bool => ends_child (b := b) HE.out HN.out HC.out (fun hl => absurd (hb2.2 hl) (by simp)))
          clear hb2
          go_wp2_with fail
          go_ret
          exact HX.out _
        · have HX := Lib.hid (hb2.1 rfl)
          have M3 := fun u => meth_swap u w2 ⟨hb, 0, none⟩ _ HE.out.cell
          clear hb2
          go_wp2_with fail
          refine (swap_at HE.out.heads (i := j) (k := (2 * j + 1)) (by omega) (by have := HC.out.le; omega) rfl (by omega)).mono ?_
          rintro e w3 ⟨rfl, hh3, ho3⟩
          have HY := Lib.hid (next_child HE.out HN.out HC.out HX.out (by omega) hh3 ho3)
          clear M3 hh3 ho3
          go_wp2_with fail
          go_roundw
          case rel => exact cast_loop (by omega) HY.out
          case measure => simp [intOf]; omega
    · go_wp2_with fail
      go_ret
      exact ends_here HD.out HN.out (fun q hq hqn => by omega)
end Go.Proofs.YtcdcnhecimajkaaGreat.Runs

/- container/heap's Init, Pop, Fix over *heads. -/
namespace Go.Proofs.YtcdcnhecimajkaaGreat.Runs
open Go.RowKit Go.Deep Go.Shelf Mem Crc Go.Proofs.YtcdcnhecimajkaaGreat.Merge Go.Proofs.YtcdcnhecimajkaaGreat.Heap

attribute [local go_sem] Oper.semAt_some
/-- The heads as a heap. -/
structure Hp (w0 : Base) (w : World) (hb g n c : Nat) (f : Nat → El) : Prop where
  heads : Heads w0 w hb g n c (fun k => (f k).1)
  up : Up w0 f n
  heap : Heap ltE f 0 n
def InitLoop (w0 : Base) (w : World) (hb g n c : Nat) (f : Nat → El) (i : Value) (wr : World) : Prop :=
  ∃ (q : Nat) (f' : Nat → El), q ≤ n / 2 ∧ i = .int .i64 ((q : Int) - 1) ∧ Down w0 w wr hb g n c f f' 0 n ∧ Heap ltE f' q n
def InitEnds (w0 : Base) (w : World) (hb g n c : Nat) (f : Nat → El) (w' : World) : Prop := ∃ f', Hp w0 w' hb g n c f' ∧ (row f' n).Perm (row f n) ∧ Only [g] w w'
theorem heap_half (f : Nat → El) (n : Nat) : Heap ltE f (n / 2) n := fun c h0 hc hp => by unfold parent at hp; omega
theorem Down.then {w0 : Base} {w w1 w2 : World} {hb g N c : Nat} {f f1 f2 : Nat → El} {k k1 k2 n : Nat} (h : Down w0 w w1 hb g N c f f1 k n) (h2 : Down w0 w1 w2 hb g N c f1 f2 k1 n) : Down w0 w w2 hb g N c f f2 k2 n :=
  ⟨h2.heads, h2.up, fun j hj => (h2.out j hj).trans (h.out j hj), h2.perm.trans h.perm, h.only.trans h2.only⟩
theorem len_of (w : World) (a : Option Addr) (n c : Nat) : Calls Tryz.prog 60 #[.slice a n c] w fun e w' => e = .returned (.int .i64 n) ∧ w = w' := (len_any w a n c).mono (fun _ _ h => ⟨h.1, h.2.symm⟩)
theorem down_at {w0 : Base} {w : World} {hb g N c : Nat} {f : Nat → El} {k n : Nat} (h : Heads w0 w hb g N c (fun k => (f k).1)) (hn : n ≤ N) (hu : Up w0 f n) (hk : k ≤ n) (hh : Heap ltE f (k + 1) n) {a b : Int} (ha : a = (k : Int)) (hb' : b = (n : Int)) :
    Calls Tryz.prog 86 #[.iface 119 (.pointer (some ⟨hb, 0, none⟩)), .int .i64 a, .int .i64 b] w (Ends w0 w hb g N c f k n) := by
  subst ha hb'
  exact down_any h hn hu hk hh
set_option maxHeartbeats 1000000 in
theorem init_any {w0 : Base} {w : World} {hb g n c : Nat} {f : Nat → El} (h : Heads w0 w hb g n c (fun k => (f k).1)) (hu : Up w0 f n) :
    Calls Tryz.prog 59 #[.iface 119 (.pointer (some ⟨hb, 0, none⟩))] w fun e w' => e = .returned (.tuple #[]) ∧ InitEnds w0 w hb g n c f w' := by
  have hst : InitLoop w0 w hb g n c f (.int .i64 (((n / 2 : Nat) : Int) - 1)) w := ⟨n / 2, f, Nat.le_refl _, rfl, Down.refl 0 h hu, heap_half f n⟩
  have HS := Lib.hid hst
  have M1 := fun q => meth_len q w ⟨hb, 0, none⟩ _ (Down.refl 0 h hu).cell
  have hfew := h.few
  have HL := Lib.hid (len_of w (some ⟨g, 0, none⟩) n c)
  clear h hu hst
  go_enter Tryz.func59, Tryz.ntmps59
  go_wp2_with fail
  refine HL.out.mono ?_
  rintro e w1 ⟨rfl, rfl⟩
  go_wp2_with fail
  clear M1 HL
  go_loopw [3] (InitLoop w0 w hb g n c f) (fun i _ => (intOf i + 1).toNat)
  case atStart => exact HS.out
  case round =>
    obtain ⟨q, f', hq, rfl, hD, hh⟩ := hrel
    have HD := Lib.hid hD
    have HH := Lib.hid hh
    clear hD hh
    by_cases h0 : 1 ≤ q
    · go_wp2_with fail
      refine (down_at HD.out.heads (Nat.le_refl n) HD.out.up (k := q - 1) (by omega) (by rw [Nat.sub_add_cancel h0]; exact HH.out) (by omega) rfl).mono ?_
      rintro e w2 ⟨b, f2, rfl, hD2, hh2⟩
      have HX := Lib.hid (show InitLoop w0 w hb g n c f (.int .i64 (((q - 1 : Nat) : Int) - 1)) w2 from ⟨q - 1, f2, by omega, rfl, HD.out.then hD2, hh2⟩)
      clear hD2 hh2
      go_wp2_with fail
      go_roundw
      case rel => 
        have := HX.out
        rw [show ((q - 1 : Nat) : Int) - 1 = (q : Int) - 1 - 1 by omega] at this
        exact this
      case measure => simp [intOf]; omega
    · have h00 : q = 0 := by omega
      have HX := Lib.hid (show InitEnds w0 w hb g n c f wr from ⟨f', ⟨HD.out.heads, HD.out.up, by have := HH.out; rwa [h00] at this⟩, HD.out.perm, HD.out.only⟩)
      clear h00
      go_wp2_with fail
      go_end0
      exact ⟨rfl, HX.out⟩
/-- What Pop leaves, of n + 1 heads: n, without the front. -/
def PopEnds (w0 : Base) (w : World) (hb g n c : Nat) (f : Nat → El) (w' : World) : Prop := ∃ f', Hp w0 w' hb g n c f' ∧ (f 0 :: row f' n).Perm (row f (n + 1)) ∧ Only [hb, g] w w'
theorem row_front (f : Nat → El) (n : Nat) : row f (n + 1) = f 0 :: (List.range n).map (fun k => f (k + 1)) := by
  unfold row
  rw [List.range_succ_eq_map]
  simp [Function.comp_def]
theorem popped {w0 : Base} {w wa w1 : World} {hb g n c : Nat} {f f' : Nat → El} {x0 : SL} (ho0 : Only [g] w wa) (hD : Down w0 wa w1 hb g (n + 1) c (Heap.swap (put f 0 (x0, (f 0).2)) 0 n) f' 0 n) (hh : Heap ltE f' 0 n) (m : Nat) : PopEnds w0 w hb g n c f ((w1.drewN m).setCell ⟨hb, 0, none⟩ (.slice (some ⟨g, 0, none⟩) n c)) := by
  have hH := hD.heads.drewN m
  obtain ⟨cs, h1, h2⟩ := hH.row
  have hne := hH.ne
  have ho : Only [hb, g] (w1.drewN m) ((w1.drewN m).setCell ⟨hb, 0, none⟩ (.slice (some ⟨g, 0, none⟩) n c)) := (Only.refl _ _).set (.inl (by simp)) _
  refine ⟨f', ⟨⟨by simpa using hH.cell.set 0 (.slice (some ⟨g, 0, none⟩) n c), ⟨cs, h1.far (Ne.symm hne) _, fun k hk => h2 k (by omega)⟩, by have := hH.le; omega, hH.below.only ho (by simpa using ⟨hH.old.1, hH.old.2⟩), hH.old, by have := hH.few; omega⟩, hD.up, hh⟩, ?_, (((ho0.trans hD.only).drewN m).mono (by simp)).trans ho⟩
  obtain ⟨f0, hf0⟩ : ∃ f0, f0 = put f 0 (x0, (f 0).2) := ⟨_, rfl⟩
  rw [← hf0] at hD
  have hp := hD.perm
  have h3 : (f0 0 :: row f' n).Perm (row (Heap.swap f0 0 n) n ++ [f0 0]) := (List.Perm.cons _ hp).trans (List.perm_append_singleton _ _).symm
  have e2 : row (Heap.swap f0 0 n) n ++ [f0 0] = row (Heap.swap f0 0 n) (n + 1) := by rw [row_succ, swap_r]
  rw [e2] at h3
  have h4 := h3.trans (row_swap f0 (i := 0) (j := n) (n := n + 1) (by omega) (by omega))
  rw [row_front] at h4 ⊢
  have h5 := (List.perm_cons _).1 h4
  have e3 : (fun k => f0 (k + 1)) = fun k => f (k + 1) := by
    funext k
    rw [hf0, put_other f _ (by omega)]
  rw [e3] at h5
  exact List.Perm.cons _ h5
/-- Pop: the front may have come to its end; the others are as they were. -/
theorem pop_heap {f : Nat → El} {n : Nat} (y : El) (h : Heap ltE f 0 (n + 1)) : Heap ltE (Heap.swap (put f 0 y) 0 n) 1 n := fun q h0 hq hp => by
  have := parent_lt h0
  rw [swap_o _ (by omega) (by omega), swap_o _ (by omega) (by omega), put_other f _ (by omega), put_other f _ (by omega)]
  exact h q h0 (by omega) (Nat.zero_le _)
theorem put_fst (f : Nat → El) (x0 : SL) : (fun k => (put f 0 (x0, (f 0).2) k).1) = put (fun k => (f k).1) 0 x0 := by
  funext k
  unfold put
  split <;> rfl
set_option maxHeartbeats 1000000 in
theorem heapPop_any {w0 : Base} {w : World} {hb g n c : Nat} {f : Nat → El} {x0 : SL} (h : Heads w0 w hb g (n + 1) c (put (fun k => (f k).1) 0 x0)) (hu : ∀ k, 0 < k → k < n + 1 → RowB w0.w w0.U ((f k).1, (f k).2.1)) (hh : Heap ltE f 0 (n + 1)) :
    Calls Tryz.prog 61 #[.iface 119 (.pointer (some ⟨hb, 0, none⟩))] w fun e w' => (∃ v, e = .returned v) ∧ PopEnds w0 w hb g n c f w' := by
  have hc : w.cell? ⟨hb, 0, none⟩ = some (.slice (some ⟨g, 0, none⟩) (n + 1) c) := by
    have c0 := h.cell.cell 0
    simpa using c0
  have M1 := fun q => meth_len q w ⟨hb, 0, none⟩ _ hc
  have M2 := fun q => meth_swap q w ⟨hb, 0, none⟩ _ hc
  have hfew := h.few
  have HH := Lib.hid h
  have HP := Lib.hid (pop_heap (x0, (f 0).2) hh)
  have HU := Lib.hid hu
  have HL := Lib.hid (len_of w (some ⟨g, 0, none⟩) (n + 1) c)
  clear h hu hc hh
  go_enter Tryz.func61, Tryz.ntmps61
  go_wp2_with fail
  refine HL.out.mono ?_
  rintro e w1 ⟨rfl, rfl⟩
  go_wp2_with fail
  refine (swap_at HH.out (i := 0) (k := n) (by omega) (by omega) rfl (by omega)).mono ?_
  rintro e w2 ⟨rfl, hh2, ho2⟩
  rw [← put_fst, ← swap_fst] at hh2
  have HH2 := Lib.hid hh2
  have HO2 := Lib.hid ho2
  clear hh2 ho2 M1 M2 HL
  go_wp2_with fail
  refine (down_at HH2.out (k := 0) (n := n) (by omega) (fun k hk => ?up) (by omega) HP.out rfl (by omega)).mono ?_
  case up =>
    unfold Heap.swap
    split
    · unfold put
      split
      · omega
      · exact HU.out n (by omega) (by omega)
    · split
      · omega
      · rw [put_other f _ (by assumption)]
        exact HU.out k (by omega) (by omega)
  rintro e w3 ⟨b, f', rfl, hD, hh3⟩
  have c3 := hD.cell
  have fz := hD.heads.cell.frozen 0
  obtain ⟨cs, g1, g2⟩ := hD.heads.row
  have g3 := g2 n (by omega)
  have hle := hD.heads.le
  have HPOP := Lib.hid (pop_any w3 hb g 0 n c hfew hle (f' n).1 c3 fz ((g1.cell _).trans (by simpa using g3)))
  have M3 := fun q => meth_pop q w3 ⟨hb, 0, none⟩
  have HE := Lib.hid (fun m => popped HO2.out hD hh3 m)
  clear c3 fz g1 g2 g3 hle hD hh3 HO2 HH2 HH HP HU
  go_wp2_with fail
  refine HPOP.out.mono ?_
  rintro e w4 ⟨rfl, m, rfl⟩
  go_wp2_with fail
  go_ret
  exact ⟨⟨_, rfl⟩, HE.out m⟩
/-- What Fix leaves. -/
def FixEnds (w0 : Base) (w : World) (hb g n c : Nat) (f : Nat → El) (w' : World) : Prop := ∃ f', Hp w0 w' hb g n c f' ∧ (row f' n).Perm (row f n) ∧ Only [g] w w'
set_option maxHeartbeats 400000 in
theorem up_zero (w : World) (v : Value) : Calls Tryz.prog 87 #[v, .int .i64 0] w fun e w' => e = .returned (.tuple #[]) ∧ w = w' := by
  go_enter Tryz.func87, Tryz.ntmps87
  go_wp2_with fail
  go_loopw [1] (fun i wr => i = .int .i64 0 ∧ w = wr) (fun _ _ => 0)
  case atStart => exact ⟨rfl, rfl⟩
  case round =>
    obtain ⟨rfl, rfl⟩ := hrel
    go_wp2_with fail
    go_end0
    exact ⟨rfl, rfl⟩
set_option maxHeartbeats 1000000 in
/-- Fix of the front. -/
theorem fix_any {w0 : Base} {w : World} {hb g n c : Nat} {f : Nat → El} (h : Heads w0 w hb g n c (fun k => (f k).1)) (hu : Up w0 f n) (hh : Heap ltE f 1 n) :
    Calls Tryz.prog 62 #[.iface 119 (.pointer (some ⟨hb, 0, none⟩)), .int .i64 0] w fun e w' => e = .returned (.tuple #[]) ∧ FixEnds w0 w hb g n c f w' := by
  have M1 := fun q => meth_len q w ⟨hb, 0, none⟩ _ (Down.refl 0 h hu).cell
  have HL := Lib.hid (len_of w (some ⟨g, 0, none⟩) n c)
  have HD := Lib.hid (down_at h (Nat.le_refl n) hu (k := 0) (Nat.zero_le _) hh (a := 0) (b := n) rfl rfl)
  clear h hu hh
  go_enter Tryz.func62, Tryz.ntmps62
  go_wp2_with fail
  refine HL.out.mono ?_
  rintro e w1 ⟨rfl, rfl⟩
  clear M1 HL
  go_wp2_with fail
  refine HD.out.mono ?_
  rintro e w2 ⟨b, f', rfl, hD, hh2⟩
  have HE := Lib.hid (show FixEnds w0 w hb g n c f w2 from ⟨f', ⟨hD.heads, hD.up, hh2⟩, hD.perm, hD.only⟩)
  clear hD hh2 HD
  cases b
  · go_wp2_with fail
    refine (up_zero _ _).mono ?_
    rintro e w3 ⟨rfl, rfl⟩
    go_wp2_with fail
    go_end0
    exact ⟨rfl, HE.out⟩
  · go_wp2_with fail
    go_end0
    exact ⟨rfl, HE.out⟩
end Go.Proofs.YtcdcnhecimajkaaGreat.Runs

/- slices.DeleteFunc of rows without records. -/
namespace Go.Proofs.YtcdcnhecimajkaaGreat.Runs
open Go.RowKit Go.Deep Go.Shelf Mem Crc Go.Proofs.YtcdcnhecimajkaaGreat.Merge

attribute [local go_sem] Oper.semAt_some
/-- Has it a record? -/
def keep (y : SL) : Bool := !(y.2.1 == 0)
set_option maxHeartbeats 400000 in
theorem del_any (w : World) (y : SL) : Calls Tryz.prog 58 #[sl y] w fun e w' => e = .returned (.bool (!keep y)) ∧ w = w' := by
  obtain ⟨a, n, c⟩ := y
  unfold sl keep
  dsimp only
  by_cases h : n = 0
  · subst h
    go_enter Tryz.func58, Tryz.ntmps58
    go_wp2_with fail
    go_ret
    exact ⟨rfl, rfl⟩
  · have h0 : ((n : Int) == 0) = false := by simpa using h
    have e : (n == 0) = false := by simpa using h
    rw [e]
    go_enter Tryz.func58, Tryz.ntmps58
    go_wp2_with fail
    go_ret
    exact ⟨rfl, rfl⟩
/-- A row of slices in a block. -/
structure RowsAt (w : World) (g : Nat) (xs : List SL) : Prop where
  row : ∃ cs, Blk w g 22 cs ∧ ∀ (k : Nat) (y : SL), xs[k]? = some y → cs[k]? = some (sl y)
theorem RowsAt.cell {w : World} {g : Nat} {xs : List SL} (h : RowsAt w g xs) {k : Nat} {y : SL} (hy : xs[k]? = some y) : w.cell? ⟨g, k, none⟩ = some (sl y) ∧ w.frozen? ⟨g, k, none⟩ = false := by
  obtain ⟨cs, h1, h2⟩ := h.row
  exact ⟨(h1.cell _).trans (h2 k y hy), h1.frozen _⟩
/-- Where the first is that is to go. -/
def FirstOut (xs : List SL) (i : Int) : Prop := (i = -1 ∧ ∀ y ∈ xs, keep y = true) ∨ ∃ (k : Nat) (y : SL), i = (k : Int) ∧ xs[k]? = some y ∧ keep y = false ∧ ∀ z ∈ xs.take k, keep z = true
set_option maxHeartbeats 1000000 in
theorem index_any (w : World) (g n c : Nat) (xs : List SL) (hx : xs.length = n) (h : RowsAt w g xs) (hn : n ≤ 1000000) :
    Calls Tryz.prog 85 #[.slice (some ⟨g, 0, none⟩) n c, .func (.func 58) #[] #[]] w fun e w' => (∃ i, e = .returned (.int .i64 i) ∧ FirstOut xs i) ∧ w = w' := by
  have H := Lib.hid h
  have HX := Lib.hid hx
  clear h hx
  go_enter Tryz.func85, Tryz.ntmps85
  go_wp2_with fail
  go_loopw [8] (fun i wr => w = wr ∧ ∃ k : Nat, k ≤ n ∧ i = .int .i64 k ∧ ∀ z ∈ xs.take k, keep z = true) (fun i _ => n - (intOf i).toNat)
  case atStart => exact ⟨rfl, 0, Nat.zero_le _, rfl, by simp⟩
  case round =>
    obtain ⟨rfl, k, hk, rfl, hz⟩ := hrel
    have HZ := Lib.hid hz
    clear hz
    by_cases hlt : k < n
    · obtain ⟨y, hy⟩ : ∃ y, xs[k]? = some y := ⟨xs[k]'(by rw [HX.out]; exact hlt), List.getElem?_eq_getElem _⟩
      have hc := (H.out.cell hy).1
      have hw : RowKit.wrap64 ((k : Int) + 1) = (k : Int) + 1 := IntWalk.wrap64_in _ (by omega)
      have HD := Lib.hid (del_any w y)
      have HY := Lib.hid hy
      clear hy
      obtain ⟨ya, yn, yc⟩ := y
      unfold sl at hc HD
      dsimp only at hc HD
      cases hkp : keep (ya, yn, yc)
      · have HK := Lib.hid hkp
        clear hkp
        go_wp2_with fail
        refine HD.out.mono ?_
        rintro e w1 ⟨rfl, rfl⟩
        rw [HK.out]
        go_wp2_with fail
        go_ret
        exact ⟨⟨_, rfl, .inr ⟨k, _, rfl, HY.out, HK.out, HZ.out⟩⟩, rfl⟩
      · have HK := Lib.hid hkp
        clear hkp
        go_wp2_with fail
        refine HD.out.mono ?_
        rintro e w1 ⟨rfl, rfl⟩
        rw [HK.out]
        go_wp2_with fail
        go_roundw
        case rel => exact ⟨trivial, k + 1, by omega, by simp [hw], fun z hz => by
          rw [List.take_add_one, HY.out] at hz
          rcases List.mem_append.1 hz with hz | hz
          · exact HZ.out z hz
          · have : z = (ya, yn, yc) := by simpa using hz
            rw [this]; exact HK.out⟩
        case measure => simp [intOf, hw]; omega
    · have hkn : k = n := by omega
      have HE := Lib.hid (show FirstOut xs (-1) from .inl ⟨rfl, fun y hy => HZ.out y (by rw [List.take_of_length_le (by rw [HX.out]; omega)]; exact hy)⟩)
      clear hkn
      go_wp2_with fail
      go_ret
      exact ⟨⟨_, rfl, HE.out⟩, rfl⟩
/-- What the second loop keeps. -/
structure Moved (w wr : World) (g : Nat) (xs : List SL) (j : Nat) : Prop where
  row : ∃ cs, Blk wr g 22 cs ∧ (∀ (k : Nat) (y : SL), ((xs.take j).filter keep)[k]? = some y → cs[k]? = some (sl y)) ∧ (∀ (k : Nat) (y : SL), j ≤ k → xs[k]? = some y → cs[k]? = some (sl y)) ∧ xs.length ≤ cs.size
  only : Only [g] w wr
theorem filter_lt {xs : List SL} {k j : Nat} {y : SL} (hy : xs[k]? = some y) (hk : keep y = false) (hj : k < j) (hl : j ≤ xs.length) : ((xs.take j).filter keep).length < j := by
  have h1 := List.length_filter_le keep (xs.take j)
  have h2 : (xs.take j).length = j := by rw [List.length_take]; omega
  rcases Nat.lt_or_ge ((xs.take j).filter keep).length j with h | h
  · exact h
  · have e : ((xs.take j).filter keep).length = (xs.take j).length := by omega
    rw [List.length_filter_eq_length_iff] at e
    have : y ∈ xs.take j := List.mem_of_getElem? (i := k) (by rw [List.getElem?_take, if_pos hj]; exact hy)
    rw [e y this] at hk
    cases hk
theorem Moved.start {w : World} {g : Nat} {xs : List SL} {k : Nat} {y : SL} (h : RowsAt w g xs) (hy : xs[k]? = some y) (hk : keep y = false) (ha : ∀ z ∈ xs.take k, keep z = true) : Moved w w g xs (k + 1) ∧ ((xs.take (k + 1)).filter keep).length = k := by
  obtain ⟨cs, h1, h2⟩ := h.row
  have e : (xs.take (k + 1)).filter keep = xs.take k := by
    rw [List.take_add_one, hy, List.filter_append, List.filter_eq_self.2 ha]
    simp [hk]
  have hl := (List.getElem?_eq_some_iff.1 hy).1
  have hs : xs.length ≤ cs.size := by
    obtain ⟨z, hz⟩ : ∃ z, xs[xs.length - 1]? = some z := ⟨xs[xs.length - 1], List.getElem?_eq_getElem _⟩
    have := (Array.getElem?_eq_some_iff.1 (h2 _ z hz)).1
    omega
  refine ⟨⟨⟨cs, h1, fun q z hz => ?_, fun q z _ hz => h2 q z hz, hs⟩, Only.refl _ _⟩, by rw [e, List.length_take]; omega⟩
  rw [e, List.getElem?_take] at hz
  split at hz
  · exact h2 q z hz
  · cases hz
theorem Moved.skip {w wr : World} {g : Nat} {xs : List SL} {j : Nat} {y : SL} (h : Moved w wr g xs j) (hy : xs[j]? = some y) (hk : keep y = false) : Moved w wr g xs (j + 1) ∧ ((xs.take (j + 1)).filter keep).length = ((xs.take j).filter keep).length := by
  obtain ⟨cs, h1, h2, h3, h4⟩ := h.row
  have e : (xs.take (j + 1)).filter keep = (xs.take j).filter keep := by
    rw [List.take_add_one, hy, List.filter_append]
    simp [hk]
  exact ⟨⟨⟨cs, h1, by rw [e]; exact h2, fun q z hq hz => h3 q z (by omega) hz, h4⟩, h.only⟩, by rw [e]⟩
theorem Moved.move {w wr : World} {g : Nat} {xs : List SL} {j m : Nat} {y : SL} (h : Moved w wr g xs j) (hy : xs[j]? = some y) (hk : keep y = true) (hm : ((xs.take j).filter keep).length = m) (hmj : m < j) :
    Moved w (wr.setCell ⟨g, m, none⟩ (sl y)) g xs (j + 1) ∧ ((xs.take (j + 1)).filter keep).length = m + 1 := by
  obtain ⟨cs, h1, h2, h3, h4⟩ := h.row
  have e : (xs.take (j + 1)).filter keep = (xs.take j).filter keep ++ [y] := by
    rw [List.take_add_one, hy, List.filter_append]
    simp [hk]
  have hsz : j < cs.size := (Array.getElem?_eq_some_iff.1 (h3 j y (Nat.le_refl _) hy)).1
  refine ⟨⟨⟨_, h1.set m (sl y), fun q z hz => ?_, fun q z hq hz => ?_, by rw [Array.size_setIfInBounds]; exact h4⟩, h.only.set (p := ⟨g, m, none⟩) (.inl (by simp)) _⟩, by rw [e]; simp [hm]⟩
  · rw [e] at hz
    rw [Array.getElem?_setIfInBounds]
    by_cases e1 : m = q
    · subst e1
      rw [List.getElem?_append_right (by omega), hm, Nat.sub_self] at hz
      simp at hz
      rw [if_pos rfl, if_pos (by omega), hz]
    · rw [if_neg e1]
      by_cases e2 : q < m
      · rw [List.getElem?_append_left (by omega)] at hz
        exact h2 q z hz
      · rw [List.getElem?_append_right (by omega), hm] at hz
        rw [List.getElem?_eq_none (by simp; omega)] at hz
        cases hz
  · rw [Array.getElem?_setIfInBounds, if_neg (by omega)]
    exact h3 q z (by omega) hz
theorem clear_rows (w : World) (ty : TypeId) (b o n c : Nat) (hn : 0 < n) (hc : ∀ j, j < n → (w.cell? ⟨b, o + j, none⟩).isSome = true) (hf : ∀ j, j < n → w.frozen? ⟨b, o + j, none⟩ = false) :
    (Builtin.clear_ #[65] ty #[.slice (some ⟨b, o, none⟩) n c]).run Tryz.prog w = .ok (.tuple #[]) (w.setCells b o (List.replicate n (.slice none 0 0))) :=
  Lib.run_clear_slice w _ _ ty _ Tryz.underlying65 (fun w => by kernel_rfl) rfl rfl b o n c hn hc hf
def DelEnds (w : World) (g c : Nat) (xs : List SL) (e : Ending) (w' : World) : Prop := e = .returned (.slice (some ⟨g, 0, none⟩) (xs.filter keep).length c) ∧ RowsAt w' g (xs.filter keep) ∧ Only [g] w w'
theorem Moved.cleared {w wr : World} {g n c m : Nat} {xs : List SL} (h : Moved w wr g xs n) (hn : xs.length = n) (hm : (xs.filter keep).length = m) (hmn : m ≤ n) : DelEnds w g c xs (.returned (.slice (some ⟨g, 0, none⟩) m c)) (wr.setCells g m (List.replicate (n - m) (.slice none 0 0))) := by
  obtain ⟨cs, h1, h2, h3, h4⟩ := h.row
  obtain ⟨cs', g1, g2⟩ := Blk.splice (List.replicate (n - m) (.slice none 0 0)) m wr cs h1 (by simp; omega)
  subst hm
  refine ⟨rfl, ⟨cs', g1, fun q z hz => ?_⟩, Only.setCells _ _ h.only (.inl (by simp))⟩
  rw [List.take_of_length_le (by omega)] at h2
  have := h2 q z hz
  have hq := (List.getElem?_eq_some_iff.1 hz).1
  rw [← Array.getElem?_toList] at this ⊢
  rw [g2, List.append_assoc, List.getElem?_append_left (by simp; omega), List.getElem?_take, if_pos hq]
  exact this
set_option maxHeartbeats 2000000 in
theorem deleteFunc_any (w : World) (g n c : Nat) (xs : List SL) (hx : xs.length = n) (h : RowsAt w g xs) (hn : n ≤ 1000000) (hc : n ≤ c) :
    Calls Tryz.prog 56 #[.slice (some ⟨g, 0, none⟩) n c, .func (.func 58) #[] #[]] w (DelEnds w g c xs) := by
  have HI := Lib.hid (index_any w g n c xs hx h hn)
  have H := Lib.hid h
  have HX := Lib.hid hx
  clear h hx
  go_enter Tryz.func56, Tryz.ntmps56
  go_wp2_with fail
  refine HI.out.mono ?_
  rintro e w1 ⟨⟨i, rfl, hi⟩, rfl⟩
  rcases hi with ⟨rfl, ha⟩ | ⟨i, y0, rfl, hy0, hk0, ha⟩
  · have HE := Lib.hid (show DelEnds w g c xs (.returned (.slice (some ⟨g, 0, none⟩) n c)) w from by
      have e : xs.filter keep = xs := List.filter_eq_self.2 ha
      unfold DelEnds
      rw [e, HX.out]
      exact ⟨rfl, H.out, Only.refl _ _⟩)
    clear ha
    go_wp2_with fail
    go_ret
    exact HE.out
  · have hil : i < n := by rw [← HX.out]; exact (List.getElem?_eq_some_iff.1 hy0).1
    have h0 : ((i : Int) == -1) = false := by simp
    have HS := Lib.hid (Moved.start H.out hy0 hk0 ha)
    have HY0 := Lib.hid hy0
    have HK0 := Lib.hid hk0
    clear hy0 hk0 ha
    go_wp2_with fail
    go_loopw [5, 6] (fun i' j' wr => ∃ j m : Nat, i < j ∧ j ≤ n ∧ m < j ∧ i' = .int .i64 m ∧ j' = .int .i64 j ∧ Moved w wr g xs j ∧ ((xs.take j).filter keep).length = m) (fun _ j' _ => n - (intOf j').toNat)
    case atStart => exact ⟨i + 1, i, by omega, by omega, by omega, rfl, by go_num, HS.out.1, HS.out.2⟩
    case round =>
      obtain ⟨j, m, hij, hjn, hmj, rfl, rfl, hM, hm⟩ := hrel
      have HM := Lib.hid hM
      have Hm := Lib.hid hm
      clear hM hm
      by_cases hlt : j < n
      · obtain ⟨y, hy⟩ : ∃ y, xs[j]? = some y := ⟨xs[j]'(by rw [HX.out]; exact hlt), List.getElem?_eq_getElem _⟩
        have hcell : wr.cell? ⟨g, j, none⟩ = some (sl y) := by
          obtain ⟨cs, h1, _, h3, _⟩ := HM.out.row
          exact (h1.cell _).trans (h3 j y (Nat.le_refl _) hy)
        have hw : RowKit.wrap64 ((j : Int) + 1) = (j : Int) + 1 := IntWalk.wrap64_in _ (by omega)
        have hwm : RowKit.wrap64 ((m : Int) + 1) = (m : Int) + 1 := IntWalk.wrap64_in _ (by omega)
        have HD := Lib.hid (del_any wr y)
        have HY := Lib.hid hy
        clear hy
        cases hkp : keep y
        · have HK := Lib.hid hkp
          have HN := Lib.hid (HM.out.skip HY.out HK.out)
          clear hkp
          obtain ⟨ya, yn, yc⟩ := y
          unfold sl at hcell HD
          dsimp only at hcell HD
          go_wp2_with fail
          refine HD.out.mono ?_
          rintro e w1 ⟨rfl, rfl⟩
          rw [HK.out]
          go_wp2_with fail
          go_roundw
          case rel => exact ⟨j + 1, m, by omega, by omega, by omega, rfl, by simp [hw], HN.out.1, HN.out.2.trans Hm.out⟩
          case measure => simp [intOf, hw]; omega
        · have HK := Lib.hid hkp
          have HN := Lib.hid (HM.out.move HY.out HK.out Hm.out hmj)
          clear hkp
          have hfz : wr.frozen? ⟨g, m, none⟩ = false := by
            obtain ⟨cs, h1, _⟩ := HM.out.row
            exact h1.frozen _
          have hcm : ∃ v, wr.cell? ⟨g, m, none⟩ = some v := by
            obtain ⟨cs, h1, _, h3, _⟩ := HM.out.row
            have := (Array.getElem?_eq_some_iff.1 (h3 j y (Nat.le_refl _) HY.out)).1
            exact ⟨cs[m], (h1.cell _).trans (Array.getElem?_eq_getElem (by omega))⟩
          obtain ⟨vm, hvm⟩ := hcm
          obtain ⟨ya, yn, yc⟩ := y
          unfold sl at hcell HD HN
          dsimp only at hcell HD HN
          go_wp2_with fail
          refine HD.out.mono ?_
          rintro e w1 ⟨rfl, rfl⟩
          rw [HK.out]
          go_wp2_with fail
          go_roundw
          case rel => exact ⟨j + 1, m + 1, by omega, by omega, by omega, by simp [hwm], by simp [hw], HN.out.1, HN.out.2⟩
          case measure => simp [intOf, hw]; omega
      · obtain rfl : n = j := by omega
        have Hm2 := Lib.hid (show (xs.filter keep).length = m by have := Hm.out; rwa [List.take_of_length_le (by rw [HX.out]; exact Nat.le_refl _)] at this)
        have HZ := Lib.hid (HM.out.cleared (c := c) HX.out Hm2.out (by omega))
        have hcl : ∀ ty, (Builtin.clear_ #[65] ty #[.slice (some ⟨g, m, none⟩) (n - m) (c - m)]).run Tryz.prog wr = .ok (.tuple #[]) (wr.setCells g m (List.replicate (n - m) (.slice none 0 0))) := by
          obtain ⟨cs, h1, _, _, h4⟩ := HM.out.row
          have hxl := HX.out
          exact fun ty => clear_rows wr ty g m (n - m) (c - m) (by omega) (fun j hj => by rw [h1.cell, Array.getElem?_eq_getElem (by omega)]; rfl) (fun j hj => h1.frozen _)
        have hcm : c ≠ m := by omega
        go_wp2_with fail
        go_ret
        exact HZ.out
end Go.Proofs.YtcdcnhecimajkaaGreat.Runs

/- runs.merge: what its iterator keeps; plain. -/
namespace Go.Proofs.YtcdcnhecimajkaaGreat.Runs
open Go.RowKit Go.Deep Go.Shelf Mem Crc Go.Proofs.YtcdcnhecimajkaaGreat.Merge Go.Proofs.YtcdcnhecimajkaaGreat.Heap

/-- Whoever is told leaves alone the blocks of U, and blocks of the types ts. -/
structure KeepT (U : Nat → Prop) (ts : List TypeId) (X Y : World) : Prop where
  os : Y.os = X.os
  tape : Y.tape = X.tape
  output : Y.output = X.output
  size : X.heap.size ≤ Y.heap.size
  block : ∀ k, k < X.heap.size → (U k ∨ typed ts X k) → Y.heap[k]? = X.heap[k]?
theorem KeepT.refl (U : Nat → Prop) (ts : List TypeId) (X : World) : KeepT U ts X X := ⟨rfl, rfl, rfl, Nat.le_refl _, fun _ _ _ => rfl⟩
theorem KeepT.trans {U : Nat → Prop} {ts : List TypeId} {X Y Z : World} (h : KeepT U ts X Y) (k : KeepT U ts Y Z) : KeepT U ts X Z :=
  ⟨k.os.trans h.os, k.tape.trans h.tape, k.output.trans h.output, Nat.le_trans h.size k.size, fun i hi hn => by
    have e := h.block i hi hn
    refine (k.block i (Nat.lt_of_lt_of_le hi h.size) ?_).trans e
    rcases hn with hn | ⟨cs, t, fr, h1, h2⟩
    · exact .inl hn
    · exact .inr ⟨cs, t, fr, e ▸ h1, h2⟩⟩
theorem KeepT.putObj {U : Nat → Prop} {ts : List TypeId} (W : World) (l : Nat) (o o' : Obj) (hU : ¬ U l) (hl : W.heap[l]? = some o) (ho : o.isCells = false) : KeepT U ts W (W.putObj l o') := by
  have hg := grownBy_putObj' W l o'
  refine ⟨hg.os, hg.tape, hg.output, hg.size, fun k hk hn => hg.block k hk (fun e => ?_)⟩
  have e : k = l := by simpa using e
  subst e
  rcases hn with hn | ⟨cs, t, fr, h1, h2⟩
  · exact hU hn
  · rw [hl] at h1
    cases h1
    cases ho
theorem KeepT.blk {U : Nat → Prop} {ts : List TypeId} {X Y : World} (h : KeepT U ts X Y) {g : Nat} {t : TypeId} {cs : Array Value} (hb : Blk X g t cs) (ht : t ∈ ts) : Blk Y g t cs := (h.block g hb.lt (.inr ⟨cs, t, (0, 0), hb, ht⟩)).trans hb
theorem KeepT.of_below {U : Nat → Prop} {ts : List TypeId} {X Y : World} (h : Below X.heap.size X Y) : KeepT U ts X Y := ⟨h.os, h.tape, h.output, h.size, fun k hk _ => h.block k hk⟩
/-- A body that writes blocks alone that are none of these. -/
theorem KeepT.of_upon {U : Nat → Prop} {ts : List TypeId} {X Y : World} {P : Nat → Prop} (h : Upon P X Y) (hb : ∀ k, P k → k < X.heap.size → ¬ U k ∧ ¬ typed ts X k) : KeepT U ts X Y :=
  ⟨h.os, h.tape, h.output, h.size, fun k hk hn => h.block k hk (fun hm => by
    have := hb k hm hk
    rcases hn with hn | hn
    · exact this.1 hn
    · exact this.2 hn)⟩
/-- What the iterator of a merge writes. -/
abbrev mineT : List TypeId := [115, 22]
theorem Heads.keep {w0 : Base} {X Y : World} {hb g N c : Nat} {x : Nat → SL} (h : Heads w0 X hb g N c x) (k : KeepT w0.U mineT X Y) : Heads w0 Y hb g N c x := by
  obtain ⟨cs, h1, h2⟩ := h.row
  exact ⟨k.blk h.cell (by simp), ⟨cs, k.blk h1 (by simp), h2⟩, h.le, ⟨Nat.le_trans h.below.size k.size, fun q hq => (k.block q (Nat.lt_of_lt_of_le (w0.lt q hq) h.below.size) (.inl hq)).trans (h.below.block q hq)⟩, h.old, h.few⟩
theorem Heads.fr {w0 : Base} {X Y : World} {hb g N c : Nat} {x : Nat → SL} (h : Heads w0 X hb g N c x) {bs : List Nat} (ho : Only bs X Y) (hs : ∀ k ∈ bs, k = hb ∨ k = g) : Fr w0.w.heap.size mineT X Y := by
  obtain ⟨cs, h1, h2⟩ := h.row
  refine ho.fr (fun k hk => .inl ?_)
  rcases hs k hk with rfl | rfl
  · exact ⟨h.old.1, ⟨_, _, (0, 0), h.cell, by simp⟩⟩
  · exact ⟨h.old.2, ⟨_, _, (0, 0), h1, by simp⟩⟩
/-- The rows' records, by what they read as. -/
def rw2 (f : Nat → El) : Nat → Row := fun k => (f k).2
theorem row_rw2 (f : Nat → El) (n : Nat) : (row f n).map Prod.snd = row (rw2 f) n := by simp [row, rw2, Function.comp_def]
theorem perm_rw2 {f f' : Nat → El} {n m : Nat} (h : (row f n).Perm (row f' m)) : (row (rw2 f) n).Perm (row (rw2 f') m) := by
  have := h.map Prod.snd
  rwa [row_rw2, row_rw2] at this
theorem mem_row {α : Type} {f : Nat → α} {n : Nat} {x : α} : x ∈ row f n ↔ ∃ k, k < n ∧ f k = x := by simp [row]
theorem rises_perm {f f' : Nat → El} {n m : Nat} (h : ∀ e ∈ row f m, Rises e.2.1) (hs : ∀ e ∈ row f' n, e ∈ row f m) : ∀ c, c < n → Rises (rw2 f' c).1 := fun c hc => h _ (hs _ (mem_row.2 ⟨c, hc, rfl⟩))
theorem inv_start {all : List B} {f f' : Nat → El} {n : Nat} (hh : Heap ltE f' 0 n) (hp : (row f' n).Perm (row f n)) (hr : ∀ e ∈ row f n, Rises e.2.1) (ha : (recs (rw2 f) n).Perm all) : Inv all [] (rw2 f') n :=
  ⟨hh, rises_perm hr (fun e he => hp.mem_iff.1 he), List.Pairwise.nil, fun o ho => (by simp at ho), (recs_perm (perm_rw2 hp)).trans ha⟩
theorem inv_pop {all out : List B} {f f' : Nat → El} {n : Nat} (h : Inv all out (rw2 f) (n + 1)) (he : (f 0).2.1 = [hd (f 0).2]) (hh : Heap ltE f' 0 n) (hp : (f 0 :: row f' n).Perm (row f (n + 1))) : Inv all (out ++ [hd (f 0).2]) (rw2 f') n := by
  have hp2 : (rw2 f 0 :: row (rw2 f') n).Perm (row (rw2 f) (n + 1)) := by
    have := hp.map Prod.snd
    rwa [List.map_cons, row_rw2, row_rw2] at this
  refine Merge.step h hh (fun c hc => ?_) (gone_perm he hp2)
  have h1 : rw2 f' c ∈ row (rw2 f) (n + 1) := hp2.mem_iff.1 (List.mem_cons_of_mem _ (mem_row.2 ⟨c, hc, rfl⟩))
  obtain ⟨k, hk, e⟩ := mem_row.1 h1
  rw [← e]
  exact h.rises k hk
theorem inv_fix {all out : List B} {f f' : Nat → El} {n : Nat} {y : El} (h : Inv all out (rw2 f) n) (hn : 0 < n) (he : (f 0).2.1 = hd (f 0).2 :: y.2.1) (hh : Heap ltE f' 0 n) (hp : (row f' n).Perm (row (put f 0 y) n)) : Inv all (out ++ [hd (f 0).2]) (rw2 f') n := by
  have e : rw2 (put f 0 y) = put (rw2 f) 0 y.2 := by
    funext k
    unfold rw2 put
    split <;> rfl
  have hp2 := perm_rw2 hp
  rw [e] at hp2
  refine Merge.step h hh (fun c hc => ?_) (rest_perm hn he hp2)
  obtain ⟨k, hk, e2⟩ := mem_row.1 (hp2.mem_iff.1 (mem_row.2 ⟨c, hc, rfl⟩))
  rw [← e2]
  by_cases h0 : k = 0
  · subst h0
    rw [put_same]
    have h1 := h.rises 0 hn
    rw [show (rw2 f 0).1 = hd (f 0).2 :: y.2.1 from he] at h1
    exact (List.pairwise_cons.1 h1).2
  · rw [put_other _ _ h0]
    exact h.rises k hk
theorem heap_put {f : Nat → El} {n : Nat} {y : El} (h : Heap ltE f 0 n) : Heap ltE (put f 0 y) 1 n := fun c h0 hc hp => by
  have := parent_lt h0
  rw [put_other _ _ (by omega), put_other _ _ (by omega)]
  exact h c h0 hc (Nat.zero_le _)
/-- What is left of a row behind its first record. -/
def tl (x : SL) : SL := (if x.2.2 = 1 then x.1 else x.1.map (·.add 1), x.2.1 - 1, x.2.2 - 1)
theorem rowB_tl {w : World} {U : Nat → Prop} {x : SL} {b : B} {t : List B} (h : RowB w U (x, b :: t)) : RowB w U (tl x, t) := by
  obtain ⟨a, c, vs, e, h1, h2, h3, h4, h5, h6⟩ := h
  dsimp only at e h1 h2 h5
  subst e
  simp only [List.length_cons] at h1 h2
  unfold tl
  dsimp only
  by_cases hc : c = 1
  · have ht : t = [] := List.eq_nil_of_length_eq_zero (by omega)
    subst ht
    refine ⟨if c = 1 then a else a.map (·.add 1), c - 1, [], rfl, by simp, rfl, .inl rfl, fun g hg => ?_, recsIn_nil w, fun y hy => by simp at hy⟩
    rw [if_pos hc] at hg
    exact h4 g hg
  · rw [if_neg hc]
    refine ⟨a.map (·.add 1), c - 1, vs.drop 1, by simp, by dsimp only; omega, by simp; omega, ?_, fun g hg => h4 g ?_, by have := h5.drop 1; simpa using this, fun y hy g hg => h6 y (List.mem_of_mem_drop hy) g hg⟩
    · rcases h3 with h3 | ⟨g, off, e, hg, hcl⟩
      · rw [List.map_eq_nil_iff] at h3
        rw [h3] at h2
        simp at h2
      · subst e
        have e2 : (⟨g, off, none⟩ : Addr).add 1 = ⟨g, off + 1, none⟩ := by unfold Addr.add; split <;> simp_all
        show Lies w (some ((⟨g, off, none⟩ : Addr).add 1)) _
        rw [e2, List.map_drop]
        exact Lies.drop (.inr ⟨g, off, rfl, hg, hcl⟩) 1
    · cases a with
      | none => cases hg
      | some p => exact hg
theorem slice_tl (x : SL) (h1 : 1 ≤ x.2.1) (h2 : x.2.1 ≤ x.2.2) (W : World) : (Instr.sliceAt 22 (sl x) (some (.int .i64 1)) none none).run Tryz.prog W = .ok (sl (tl x)) W := by
  obtain ⟨a, n, c⟩ := x
  have hel : Tryz.prog.elem 22 = 36 := by kernel_rfl
  have hu : Tryz.prog.underlying 22 = some (.slice (Tryz.prog.elem 22)) := by rw [hel]; exact Tryz.underlying22
  have hsz : ∀ W : World, (sizeOf 36).run Tryz.prog W = .ok 1 W := fun W => by kernel_rfl
  unfold sl tl
  dsimp only at h1 h2 ⊢
  rw [run_sliceAt_slice W _ _ _ _ _ hu, run_slice_l W _ _ _ _ hu .i64 (1 : Int) (by omega) (by omega), hel, hsz]
  simp [Result.andThen, sliced]
/-- The rows that have records. -/
theorem kept_rows (w : World) (U : Nat → Prop) : ∀ (rs : List (SL × List B)), (∀ r ∈ rs, RowB w U r ∧ Rises r.2) → ∃ L : List El, L.map Prod.fst = (rs.map Prod.fst).filter keep ∧ (∀ e ∈ L, RowB w U (e.1, e.2.1) ∧ Rises e.2.1) ∧ (L.map (fun e => e.2.1)).flatten = (rs.map Prod.snd).flatten
  | [], _ => ⟨[], rfl, fun _ h => (by simp at h), rfl⟩
  | r :: t, h => by
    obtain ⟨L, h1, h2, h3⟩ := kept_rows w U t (fun x hx => h x (List.mem_cons_of_mem _ hx))
    have hr := h r (by simp)
    obtain ⟨⟨a, n, c⟩, l⟩ := r
    obtain ⟨⟨a', c', vs, e, _⟩, _⟩ := id hr
    have en : n = l.length := by
      have := congrArg (fun q : SL => q.2.1) e
      simpa using this
    by_cases hl : l = []
    · subst hl
      refine ⟨L, ?_, h2, ?_⟩
      · rw [h1, List.map_cons, List.filter_cons, if_neg (by unfold keep; simp [en])]
      · rw [h3]; simp
    · have h0 : 0 < l.length := List.length_pos_iff.2 hl
      refine ⟨((a, n, c), ⟨l, hl⟩) :: L, ?_, fun e he => ?_, ?_⟩
      · rw [List.map_cons, h1, List.map_cons, List.filter_cons, if_pos (by unfold keep; simp [en]; omega)]
      · rcases List.mem_cons.1 he with rfl | he
        · exact hr
        · exact h2 e he
      · rw [List.map_cons, List.flatten_cons, h3]; simp
/-- A list as its places. -/
def places (L : List El) : Nat → El := fun k => L.getD k ((none, 0, 0), ⟨[[]], by simp⟩)
theorem row_places (L : List El) : row (places L) L.length = L := by
  apply List.ext_getElem
  · simp [row_length]
  · intro i h1 h2
    simp [row, places, h2]
theorem places_at (L : List El) {k : Nat} {e : El} (h : L[k]? = some e) : places L k = e := by simp [places, h]
end Go.Proofs.YtcdcnhecimajkaaGreat.Runs
