/- HeapMeth, Down, DownW, Heap, Delete, MergeIn, MergeW, Sorter, SorterPut, SorterPut2, SorterPut3, SorterNew, SorterRun, SorterRows, SorterIn, RoundAny, RoundQuiet, VisitLaw4, in one text. -/
import Derived.Test.YtndkohocgfmamaaGreatG3
import Derived.ChangeKeysEq
import Derived.Lib.SliceRun
import Derived.Sort.QuietIn
import Derived.WalkMore
import Derived.Deep.RegionHeld3
import Derived.Laws.IdiomStrings
import Derived.Deep.RegionLaw
import Derived.Deep.AppendLies
import Derived.Deep.QuietTactic
import Derived.BigQuiet
import Derived.OrdersIn
import Derived.OwnWalkIn
import Derived.Deep.Quiet
import Derived.StillTailTactics
/- container/heap through the interface: what the methods of *heads are. -/
namespace Go.Proofs.YtndkohocgfmamaaGreat.Runs
open Go.RowKit Go.Deep Go.Shelf Mem Crc Go.Proofs.YtndkohocgfmamaaGreat.Merge
theorem meth_one (P : Program) (fuel : Nat) (t : TypeId) (name : String) (i : TypeInfo) (m : Go.Method) (f : FuncId) (el e0 : TypeId) (w : World) (a : Addr) (v : Value) (hi : P.info? t = some i) (hm : i.methods.find? (·.name == name) = some m) (hp : m.path = #[]) (hf : m.func = some (f, false)) (hu : P.underlying t = some (.pointer el)) (he : P.underlying el = some (.slice e0)) (h : w.cell? a = some v) :
    (method (fuel + 1) t (.pointer (some a)) name).run P w = .ok (f, v) w := by
  have e1 := run_typeInfo w hi
  have e2 := run_underlying hu w
  have e3 := run_isAgg_plain he rfl w
  have e4 : ∀ s : String, (Builtin.ssaWrapNilChk_ #[t] t #[.pointer (some a), strVal "", strVal s]).run P w = .ok (.pointer (some a)) w := fun s => rfl
  simp only [method, Sem.run_bind, e1, Result.andThen_ok, hm, hp, hf, follow, Sem.run_pure, receiverAt, e2, Place.get, Array.isEmpty, List.size_toArray, List.length_nil, decide_true, if_true, e4]
  simp [loadVar, asAddr, e3, h, Result.andThen]
theorem infoLen : ((Tryz.prog.info? 152).bind (fun i => i.methods.find? (·.name == "Len"))).map (fun m => (m.path, m.func)) = some (#[], some (82, false)) := by kernel_rfl
theorem infoLess : ((Tryz.prog.info? 152).bind (fun i => i.methods.find? (·.name == "Less"))).map (fun m => (m.path, m.func)) = some (#[], some (185, false)) := by kernel_rfl
theorem infoSwap : ((Tryz.prog.info? 152).bind (fun i => i.methods.find? (·.name == "Swap"))).map (fun m => (m.path, m.func)) = some (#[], some (186, false)) := by kernel_rfl
theorem meth_of (n : Nat) (name : String) (f : FuncId) (hI : ((Tryz.prog.info? 152).bind (fun i => i.methods.find? (·.name == name))).map (fun m => (m.path, m.func)) = some (#[], some (f, false))) (w : World) (a : Addr) (v : Value) (h : w.cell? a = some v) :
    (method (n + 1) 152 (.pointer (some a)) name).run Tryz.prog w = .ok (f, v) w := by
  rw [Option.map_eq_some_iff] at hI
  obtain ⟨m, h1, h2⟩ := hI
  rw [Option.bind_eq_some_iff] at h1
  obtain ⟨i, hi, hm⟩ := h1
  exact meth_one Tryz.prog n _ name i m f _ _ w a v hi hm (congrArg Prod.fst h2) (congrArg Prod.snd h2) Tryz.underlying152 Tryz.underlying148 h
theorem meth_len (n : Nat) (w : World) (a : Addr) (v : Value) (h : w.cell? a = some v) : (method (n + 1) 152 (.pointer (some a)) "Len").run Tryz.prog w = .ok (82, v) w := meth_of n _ _ infoLen w a v h
theorem meth_less (n : Nat) (w : World) (a : Addr) (v : Value) (h : w.cell? a = some v) : (method (n + 1) 152 (.pointer (some a)) "Less").run Tryz.prog w = .ok (185, v) w := meth_of n _ _ infoLess w a v h
theorem meth_swap (n : Nat) (w : World) (a : Addr) (v : Value) (h : w.cell? a = some v) : (method (n + 1) 152 (.pointer (some a)) "Swap").run Tryz.prog w = .ok (186, v) w := meth_of n _ _ infoSwap w a v h
theorem meth_pop (n : Nat) (w : World) (a : Addr) : (method (n + 1) 152 (.pointer (some a)) "Pop").run Tryz.prog w = .ok (187, .pointer (some a)) w := by kernel_rfl
end Go.Proofs.YtndkohocgfmamaaGreat.Runs

/- container/heap's down over *heads. -/
namespace Go.Proofs.YtndkohocgfmamaaGreat.Runs
open Go.RowKit Go.Deep Go.Shelf Mem Crc Go.Proofs.YtndkohocgfmamaaGreat.Merge Go.Proofs.YtndkohocgfmamaaGreat.Heap

attribute [local go_sem] Oper.semAt_some
/-- A row of records, by its slice and by what it reads as. -/
abbrev El := SL × Row
def ltE (a b : El) : Prop := lt a.2 b.2
theorem ordE : Ord ltE := ⟨fun a b => ord.asym a.2 b.2, fun a b c => ord.trans a.2 b.2 c.2⟩
theorem recs_upon {w w' : World} {vs : List SL} {held : List B} {R P : Nat → Prop} (h : RecsIn w (vs.map sl) held) (hu : Upon P w w') (rb : ∀ y ∈ vs, ∀ g, Mem.blk y.1 = some g → R g) (hR : ∀ g, R g → ¬ P g) : RecsIn w' (vs.map sl) held :=
  ⟨h.len, fun i v b hv' hb => by
    obtain ⟨a, c, e, h1, h2⟩ := h.at_ i v b hv' hb
    refine ⟨a, c, e, h1, h2.upon hu (fun g hg => ?_)⟩
    rw [List.getElem?_map, Option.map_eq_some_iff] at hv'
    obtain ⟨y, hy, e2⟩ := hv'
    have ey : y.1 = a := by
      rw [e] at e2
      unfold sl at e2
      injection e2
    exact hR g (rb y (List.mem_of_getElem? hy) g (by rw [ey]; exact hg))⟩
/-- A row all whose blocks, its records' too, are in U. -/
def RowB (w : World) (U : Nat → Prop) (r : SL × List B) : Prop :=
  ∃ (a : Option Addr) (c : Nat) (vs : List SL), r.1 = (a, r.2.length, c) ∧ r.2.length ≤ c ∧ vs.length = r.2.length ∧ Lies w a (vs.map sl) ∧ (∀ g, Mem.blk a = some g → U g) ∧ RecsIn w (vs.map sl) r.2 ∧ ∀ y ∈ vs, ∀ g, Mem.blk y.1 = some g → U g
theorem RowB.at_ {w : World} {U : Nat → Prop} {r : SL × List B} (h : RowB w U r) : RowAt w (sl r.1) r.2 := by
  obtain ⟨a, c, vs, e, h1, h2, h3, h4, h5, h6⟩ := h
  exact ⟨a, c, vs.map sl, by rw [e]; rfl, h1, h3, h5⟩
theorem RowB.upon {w w' : World} {U P : Nat → Prop} {r : SL × List B} (h : RowB w U r) (hu : Upon P w w') (hP : ∀ g, U g → ¬ P g) : RowB w' U r := by
  obtain ⟨a, c, vs, e, h1, h2, h3, h4, h5, h6⟩ := h
  exact ⟨a, c, vs, e, h1, h2, h3.upon hu (fun g hg => hP g (h4 g hg)), h4, recs_upon h5 hu h6 hP, h6⟩
theorem RowB.later {w w' : World} {U : Nat → Prop} {r : SL × List B} (h : RowB w U r) (hB : Below w.heap.size w w') : RowB w' U r := h.upon (P := fun _ => False) (Upon.of_below hB) (fun _ _ h => h)
theorem RowB.mono {w : World} {U V : Nat → Prop} {r : SL × List B} (h : RowB w U r) (hU : ∀ g, U g → V g) : RowB w V r := by
  obtain ⟨a, c, vs, e, h1, h2, h3, h4, h5, h6⟩ := h
  exact ⟨a, c, vs, e, h1, h2, h3, fun g hg => hU g (h4 g hg), h5, fun y hy g hg => hU g (h6 y hy g hg)⟩
/-- A world in which rows can be read, and the blocks that they lie in. -/
structure Base where
  w : World
  U : Nat → Prop
  lt : ∀ k, U k → k < w.heap.size
/-- What lay there still does. -/
structure Keeps (w0 : Base) (w : World) : Prop where
  size : w0.w.heap.size ≤ w.heap.size
  block : ∀ k, w0.U k → w.heap[k]? = w0.w.heap[k]?
theorem Keeps.only {w0 : Base} {X Y : World} (h : Keeps w0 X) {bs : List Nat} (ho : Only bs X Y) (hb : ∀ k ∈ bs, w0.w.heap.size ≤ k) : Keeps w0 Y :=
  ⟨Nat.le_trans h.size ho.size, fun k hk => (ho.block k (Nat.lt_of_lt_of_le (w0.lt k hk) h.size) (fun hm => by have := hb k hm; have := w0.lt k hk; omega)).trans (h.block k hk)⟩
theorem Keeps.below {w0 : Base} {X Y : World} (h : Keeps w0 X) {B0 : Nat} (hB : Below B0 X Y) (h0 : w0.w.heap.size ≤ B0) : Keeps w0 Y :=
  ⟨Nat.le_trans h.size hB.size, fun k hk => (hB.block k (Nat.lt_of_lt_of_le (w0.lt k hk) h0)).trans (h.block k hk)⟩
theorem RowB.keep {w0 : Base} {X : World} {r : SL × List B} (h : RowB w0.w w0.U r) (hk : Keeps w0 X) : RowB X w0.U r := by
  obtain ⟨a, c, vs, e, h1, h2, h3, h4, h5, h6⟩ := h
  refine ⟨a, c, vs, e, h1, h2, h3.keep hk.size (fun g hg => hk.block g (h4 g hg)), h4, ⟨h5.len, fun i v b hv' hb => ?_⟩, h6⟩
  obtain ⟨a', c', e', h7, h8⟩ := h5.at_ i v b hv' hb
  refine ⟨a', c', e', h7, h8.keep hk.size (fun g hg => hk.block g ?_)⟩
  rw [List.getElem?_map, Option.map_eq_some_iff] at hv'
  obtain ⟨y, hy, e2⟩ := hv'
  have ey : y.1 = a' := by
    rw [e'] at e2
    unfold sl at e2
    injection e2
  exact h6 y (List.mem_of_getElem? hy) g (by rw [ey]; exact hg)
/-- The heads in memory: their slice in block hb, its row in block g; x k lies at place k. -/
structure Heads (w0 : Base) (w : World) (hb g N c : Nat) (x : Nat → SL) : Prop where
  cell : Blk w hb 148 #[.slice (some ⟨g, 0, none⟩) N c]
  row : ∃ cs, Blk w g 73 cs ∧ ∀ k, k < N → cs[k]? = some (sl (x k))
  le : N ≤ c
  below : Keeps w0 w
  old : w0.w.heap.size ≤ hb ∧ w0.w.heap.size ≤ g
  few : N ≤ 1000000
theorem Heads.ne {w0 : Base} {w : World} {hb g N c : Nat} {x : Nat → SL} (h : Heads w0 w hb g N c x) : hb ≠ g := by
  obtain ⟨cs, h1, _⟩ := h.row
  exact h.cell.ne h1 (by decide)
theorem Heads.drewN {w0 : Base} {w : World} {hb g N c : Nat} {x : Nat → SL} (h : Heads w0 w hb g N c x) (n : Nat) : Heads w0 (w.drewN n) hb g N c x :=
  ⟨h.cell, h.row, h.le, ⟨h.below.size, h.below.block⟩, h.old, h.few⟩
theorem Heads.swap {w0 : Base} {w : World} {hb g N c : Nat} {x : Nat → SL} (h : Heads w0 w hb g N c x) {i k : Nat} (hi : i < N) (hk : k < N) :
    Heads w0 ((w.setCell ⟨g, i, none⟩ (sl (x k))).setCell ⟨g, k, none⟩ (sl (x i))).drew hb g N c (Heap.swap x i k) ∧ Only [g] w ((w.setCell ⟨g, i, none⟩ (sl (x k))).setCell ⟨g, k, none⟩ (sl (x i))).drew := by
  obtain ⟨cs, h1, h2⟩ := h.row
  have hne := h.ne
  have ho : Only [g] w ((w.setCell ⟨g, i, none⟩ (sl (x k))).setCell ⟨g, k, none⟩ (sl (x i))).drew := (((Only.refl [g] w).set (p := ⟨g, i, none⟩) (.inl (by simp)) _).set (p := ⟨g, k, none⟩) (.inl (by simp)) _).drew
  have hsz : N ≤ cs.size := by
    rcases Nat.eq_zero_or_pos N with h0 | h0
    · omega
    · have := (Array.getElem?_eq_some_iff.1 (h2 (N - 1) (by omega))).1
      omega
  refine ⟨⟨Blk.only h.cell ho (by simpa using hne), ⟨_, ((h1.set i (sl (x k))).set k (sl (x i))).drew, fun j hj => ?_⟩, h.le, h.below.only ho (by simpa using h.old.2), h.old, h.few⟩, ho⟩
  rw [Array.getElem?_setIfInBounds, Array.getElem?_setIfInBounds]
  simp only [Array.size_setIfInBounds]
  unfold Heap.swap
  by_cases e1 : j = i
  · subst e1
    by_cases e2 : k = j
    · subst e2
      simp [show k < cs.size by omega]
    · simp [e2, show j < cs.size by omega]
  · by_cases e2 : j = k
    · subst e2
      simp [e1, show j < cs.size by omega]
    · rw [if_neg (Ne.symm e2), if_neg (Ne.symm e1), if_neg e1, if_neg e2]
      exact h2 j hj
/-- Rows that are not at their ends, as they could be read long ago. -/
def Up (w0 : Base) (f : Nat → El) (n : Nat) : Prop := ∀ k, k < n → RowB w0.w w0.U ((f k).1, (f k).2.1)
theorem Up.swap {w0 : Base} {f : Nat → El} {n i k : Nat} (h : Up w0 f n) (hi : i < n) (hk : k < n) : Up w0 (Heap.swap f i k) n := fun j hj => by
  unfold Heap.swap
  split
  · exact h k hk
  · split
    · exact h i hi
    · exact h j hj
theorem swap_fst (f : Nat → El) (i k : Nat) : (fun j => (Heap.swap f i k j).1) = Heap.swap (fun j => (f j).1) i k := by
  funext j
  unfold Heap.swap
  split
  · rfl
  · split <;> rfl
/-- Less, of two rows that are not at their ends. -/
theorem less_of {w0 : Base} {w : World} {hb g N c : Nat} {f : Nat → El} (h : Heads w0 w hb g N c (fun k => (f k).1)) {n : Nat} (hu : Up w0 f n) (hnN : n ≤ N) {i k : Nat} (hi : i < n) (hk : k < n) :
    Calls Tryz.prog 185 #[.slice (some ⟨g, 0, none⟩) N c, .int .i64 i, .int .i64 k] w fun e w' => ∃ b : Bool, e = .returned (.bool b) ∧ (b = true ↔ ltE (f i) (f k)) ∧ ∃ m, w' = w.drewN m := by
  obtain ⟨cs, h1, h2⟩ := h.row
  obtain ⟨ai, ci, vi, ei, li, Li, Ri⟩ := ((hu i hi).keep h.below).at_
  obtain ⟨ak, ck, vk, ek, lk, Lk, Rk⟩ := ((hu k hk).keep h.below).at_
  have pos : ∀ r : Row, 0 < r.1.length := fun r => List.length_pos_iff.2 r.2
  have one : ∀ (a : Option Addr) (vs : List Value) (r : Row), Lies w a vs → RecsIn w vs r.1 → ∃ p v, a = some p ∧ w.cell? p = some (v : Value) ∧ RecAt w v (hd r) := fun a vs r hL hR => by
    have hl := hR.len
    have h0 := pos r
    rcases hL with e | ⟨q, o, e, _, hc⟩
    · simp [e] at hl; omega
    · obtain ⟨v, hv⟩ : ∃ v, vs[0]? = some v := ⟨vs[0], List.getElem?_eq_getElem (by omega)⟩
      refine ⟨⟨q, o, none⟩, v, e, hc 0 v hv, hR.at_ 0 v _ hv ?_⟩
      have := hd_some r
      rw [List.head?_eq_getElem?] at this
      exact this
  obtain ⟨p, u, rfl, hp, hpr⟩ := one ai vi _ Li Ri
  obtain ⟨q, v, rfl, hq, hqr⟩ := one ak vk _ Lk Rk
  obtain ⟨pa, pc, eu, _, _⟩ := id hpr
  obtain ⟨qa, qc, ev, _, _⟩ := id hqr
  have c1 := h2 i (by omega)
  have c2 := h2 k (by omega)
  have e1 := ei
  have e2 := ek
  try dsimp only at c1 c2
  rw [ei] at c1
  rw [ek] at c2
  refine (less_any w g 0 N c i k (by omega) (by omega) h.few p q _ ci _ ck (pos (f i).2) (pos (f k).2) (pa, _, pc) (qa, _, qc) _ _ ((h1.cell _).trans (by simpa using c1)) ((h1.cell _).trans (by simpa using c2)) (by rw [hp, eu]; rfl) (by rw [hq, ev]; rfl) (by rw [eu] at hpr; exact hpr) (by rw [ev] at hqr; exact hqr)).mono ?_
  rintro e w' ⟨rfl, hm⟩
  refine ⟨_, rfl, ?_, hm⟩
  rw [decide_eq_true_iff]
  exact (lt_iff _ _).symm
/-- Swap, of any two places. -/
theorem swap_of {w0 : Base} {w : World} {hb g N c : Nat} {x : Nat → SL} (h : Heads w0 w hb g N c x) {i k : Nat} (hi : i < N) (hk : k < N) :
    Calls Tryz.prog 186 #[.slice (some ⟨g, 0, none⟩) N c, .int .i64 i, .int .i64 k] w fun e w' => e = .returned (.tuple #[]) ∧ Heads w0 w' hb g N c (Heap.swap x i k) ∧ Only [g] w w' := by
  obtain ⟨cs, h1, h2⟩ := h.row
  have hs := h.swap hi hk
  have c1 : w.cell? ⟨g, 0 + i, none⟩ = some (sl (x i)) := (h1.cell _).trans (by simpa using h2 i hi)
  have c2 : w.cell? ⟨g, 0 + k, none⟩ = some (sl (x k)) := (h1.cell _).trans (by simpa using h2 k hk)
  by_cases e : i = k
  · subst e
    refine (swap_self w g 0 N c i hi h.few (x i) c1 (h1.frozen _)).mono ?_
    rintro e w' ⟨rfl, rfl⟩
    rw [Nat.zero_add]
    exact ⟨rfl, hs⟩
  · refine (swap_any w g 0 N c i k hi hk h.few (x i) (x k) e c1 c2 (h1.frozen _) (h1.frozen _)).mono ?_
    rintro e w' ⟨rfl, rfl⟩
    rw [Nat.zero_add, Nat.zero_add]
    exact ⟨rfl, hs⟩
end Go.Proofs.YtndkohocgfmamaaGreat.Runs

/- container/heap's down over *heads: the walk. -/
namespace Go.Proofs.YtndkohocgfmamaaGreat.Runs
open Go.RowKit Go.Deep Go.Shelf Mem Crc Go.Proofs.YtndkohocgfmamaaGreat.Merge Go.Proofs.YtndkohocgfmamaaGreat.Heap

attribute [local go_sem] Oper.semAt_some
/-- What down has done. -/
structure Down (w0 : Base) (w w' : World) (hb g N c : Nat) (f f' : Nat → El) (k n : Nat) : Prop where
  heads : Heads w0 w' hb g N c (fun k => (f' k).1)
  up : Up w0 f' n
  out : ∀ j, n ≤ j → f' j = f j
  perm : (row f' n).Perm (row f n)
  only : Only [g] w w'
theorem parent_two {c j : Nat} (h : 0 < c) (hp : parent c = j) : c = 2 * j + 1 ∨ c = 2 * j + 2 := by unfold parent at hp; omega
theorem parent_l (j : Nat) : parent (2 * j + 1) = j := by unfold parent; omega
theorem parent_r (j : Nat) : parent (2 * j + 2) = j := by unfold parent; omega
theorem Down.refl {w0 : Base} {w : World} {hb g N c : Nat} {f : Nat → El} {n : Nat} (k : Nat) (h : Heads w0 w hb g N c (fun k => (f k).1)) (hu : Up w0 f n) : Down w0 w w hb g N c f f k n :=
  ⟨h, hu, fun _ _ => rfl, List.Perm.refl _, Only.refl _ _⟩
theorem Down.drewN {w0 : Base} {w w' : World} {hb g N c : Nat} {f f' : Nat → El} {k n : Nat} (h : Down w0 w w' hb g N c f f' k n) (m : Nat) : Down w0 w (w'.drewN m) hb g N c f f' k n := ⟨h.heads.drewN m, h.up, h.out, h.perm, h.only.drewN m⟩
theorem Down.swap {w0 : Base} {w w1 w2 : World} {hb g N c : Nat} {f f' : Nat → El} {k n i j : Nat} (h : Down w0 w w1 hb g N c f f' k n) (hi : i < n) (hj : j < n) (hh : Heads w0 w2 hb g N c (Heap.swap (fun k => (f' k).1) i j)) (ho : Only [g] w1 w2) : Down w0 w w2 hb g N c f (Heap.swap f' i j) k n :=
  ⟨by rw [swap_fst]; exact hh, h.up.swap hi hj, fun q hq => by rw [swap_o f' (by omega) (by omega)]; exact h.out q hq, (row_swap f' hi hj).trans h.perm, h.only.trans ho⟩
/-- What the loop keeps. -/
def Loop (w0 : Base) (w : World) (hb g N c : Nat) (f : Nat → El) (k n : Nat) (i : Value) (wr : World) : Prop :=
  ∃ (j : Nat) (f' : Nat → El), j ≤ n ∧ i = .int .i64 j ∧ Down w0 w wr hb g N c f f' k n ∧ Dn ltE f' k n j
def Ends (w0 : Base) (w : World) (hb g N c : Nat) (f : Nat → El) (k n : Nat) (e : Ending) (w' : World) : Prop :=
  ∃ (b : Bool) (f' : Nat → El), e = .returned (.bool b) ∧ Down w0 w w' hb g N c f f' k n ∧ Heap ltE f' k n
theorem ends_here {w0 : Base} {w wr : World} {hb g N c : Nat} {f f' : Nat → El} {k n j : Nat} {b : Bool} (hD : Down w0 w wr hb g N c f f' k n) (hdn : Dn ltE f' k n j) (hs : ∀ q, q = 2 * j + 1 ∨ q = 2 * j + 2 → q < n → ¬ ltE (f' q) (f' j)) : Ends w0 w hb g N c f k n (.returned (.bool b)) wr :=
  ⟨b, f', rfl, hD, dn_stop hdn (fun q h0 hq hp => hs q (parent_two h0 hp) hq)⟩
/-- The child that is looked at. -/
structure Child (f : Nat → El) (n j q : Nat) : Prop where
  le : q < n
  child : parent q = j
  min : ∀ p, 0 < p → p < n → parent p = j → ¬ ltE (f p) (f q)
theorem irrE (a : El) : ¬ ltE a a := fun h => ordE.asym _ _ h h
theorem child_one {f : Nat → El} {n j : Nat} (h1 : 2 * j + 1 < n) (h2 : ¬ 2 * j + 2 < n) : Child f n j (2 * j + 1) :=
  ⟨h1, parent_l j, fun p h0 hp hpp => by
    rcases parent_two h0 hpp with rfl | rfl
    · exact irrE _
    · exact absurd hp h2⟩
theorem child_two {f : Nat → El} {n j : Nat} (h2 : 2 * j + 2 < n) (h : ltE (f (2 * j + 2)) (f (2 * j + 1))) : Child f n j (2 * j + 2) :=
  ⟨h2, parent_r j, fun p h0 hp hpp => by
    rcases parent_two h0 hpp with rfl | rfl
    · exact ordE.asym _ _ h
    · exact irrE _⟩
theorem child_three {f : Nat → El} {n j : Nat} (h1 : 2 * j + 1 < n) (h : ¬ ltE (f (2 * j + 2)) (f (2 * j + 1))) : Child f n j (2 * j + 1) :=
  ⟨h1, parent_l j, fun p h0 hp hpp => by
    rcases parent_two h0 hpp with rfl | rfl
    · exact irrE _
    · exact h⟩
theorem ends_child {w0 : Base} {w wr : World} {hb g N c : Nat} {f f' : Nat → El} {k n j q : Nat} {b : Bool} (hD : Down w0 w wr hb g N c f f' k n) (hdn : Dn ltE f' k n j) (hc : Child f' n j q) (hl : ¬ ltE (f' q) (f' j)) : Ends w0 w hb g N c f k n (.returned (.bool b)) wr :=
  ⟨b, f', rfl, hD, dn_stop hdn (fun p h0 hp hpp => ordE.trans _ _ _ hl (hc.min p h0 hp hpp))⟩
theorem next_child {w0 : Base} {w wr w2 : World} {hb g N c : Nat} {f f' : Nat → El} {k n j q : Nat} (hD : Down w0 w wr hb g N c f f' k n) (hdn : Dn ltE f' k n j) (hc : Child f' n j q) (hl : ltE (f' q) (f' j)) (hj : j < q) (hh : Heads w0 w2 hb g N c (Heap.swap (fun k => (f' k).1) j q)) (ho : Only [g] wr w2) : Loop w0 w hb g N c f k n (.int .i64 q) w2 :=
  ⟨q, Heap.swap f' j q, Nat.le_of_lt hc.le, rfl, hD.swap (by have := hc.le; omega) hc.le hh ho, dn_step ordE hdn (by omega) hc.le hc.child hl hc.min⟩
/-- A world in which no more than draws were made. -/
def Same (w w' : World) : Prop := ∃ m, w' = w.drewN m
theorem Down.same {w0 : Base} {w w1 w2 : World} {hb g N c : Nat} {f f' : Nat → El} {k n : Nat} (h : Down w0 w w1 hb g N c f f' k n) (hs : Same w1 w2) : Down w0 w w2 hb g N c f f' k n := by
  obtain ⟨m, rfl⟩ := hs
  exact h.drewN m
theorem Down.cell {w0 : Base} {w w1 : World} {hb g N c : Nat} {f f' : Nat → El} {k n : Nat} (h : Down w0 w w1 hb g N c f f' k n) : w1.cell? ⟨hb, 0, none⟩ = some (.slice (some ⟨g, 0, none⟩) N c) := by
  have c0 := h.heads.cell.cell 0
  simpa using c0
theorem less_at {w0 : Base} {w : World} {hb g N c : Nat} {f : Nat → El} (h : Heads w0 w hb g N c (fun k => (f k).1)) {n : Nat} (hu : Up w0 f n) (hnN : n ≤ N) {i k : Nat} (hi : i < n) (hk : k < n) {a b : Int} (ha : a = (i : Int)) (hb' : b = (k : Int)) :
    Calls Tryz.prog 185 #[.slice (some ⟨g, 0, none⟩) N c, .int .i64 a, .int .i64 b] w fun e w' => ∃ b : Bool, e = .returned (.bool b) ∧ (b = true ↔ ltE (f i) (f k)) ∧ Same w w' := by
  subst ha hb'
  exact less_of h hu hnN hi hk
theorem swap_at {w0 : Base} {w : World} {hb g N c : Nat} {x : Nat → SL} (h : Heads w0 w hb g N c x) {i k : Nat} (hi : i < N) (hk : k < N) {a b : Int} (ha : a = (i : Int)) (hb' : b = (k : Int)) :
    Calls Tryz.prog 186 #[.slice (some ⟨g, 0, none⟩) N c, .int .i64 a, .int .i64 b] w fun e w' => e = .returned (.tuple #[]) ∧ Heads w0 w' hb g N c (Heap.swap x i k) ∧ Only [g] w w' := by
  subst ha hb'
  exact swap_of h hi hk
theorem cast_loop {w0 : Base} {w wr : World} {hb g N c : Nat} {f : Nat → El} {k n q : Nat} {a : Int} (ha : a = (q : Int)) (h : Loop w0 w hb g N c f k n (.int .i64 q) wr) : Loop w0 w hb g N c f k n (.int .i64 a) wr := by subst ha; exact h
set_option maxHeartbeats 4000000 in
theorem down_any {w0 : Base} {w : World} {hb g N c : Nat} {f : Nat → El} {k n : Nat} (h : Heads w0 w hb g N c (fun k => (f k).1)) (hn : n ≤ N) (hu : Up w0 f n) (hk : k ≤ n) (hh : Heap ltE f (k + 1) n) :
    Calls Tryz.prog 107 #[.iface 152 (.pointer (some ⟨hb, 0, none⟩)), .int .i64 k, .int .i64 n] w (Ends w0 w hb g N c f k n) := by
  have hst : Loop w0 w hb g N c f k n (.int .i64 k) w := ⟨k, f, hk, rfl, Down.refl k h hu, dn_start hh⟩
  have hfew := h.few
  clear h hh hu
  go_enter Tryz.func107, Tryz.ntmps107
  go_wp2_with fail
  go_loopw [7] (Loop w0 w hb g N c f k n) (fun i _ => n - (intOf i).toNat)
  case atStart => exact hst
  case round =>
    obtain ⟨j, f', hj, rfl, hD, hdn⟩ := hrel
    have M1 := fun q => meth_less q wr ⟨hb, 0, none⟩ _ hD.cell
    have HD := Lib.hid hD
    have HN := Lib.hid hdn
    clear hD hdn
    by_cases h1 : 2 * j + 1 < n
    · by_cases h2 : 2 * j + 2 < n
      · go_wp2_with fail
        refine (less_at HD.out.heads HD.out.up hn (i := 2 * j + 2) (k := 2 * j + 1) h2 h1 (by omega) (by omega)).mono ?_
        rintro e w1 ⟨b1, rfl, hb1, hs1⟩
        have HF := Lib.hid (HD.out.same hs1)
        have M2 := fun u => meth_less u w1 ⟨hb, 0, none⟩ _ HF.out.cell
        clear hs1 M1
        cases b1
        · have HB1 := Lib.hid (show ¬ ltE (f' (2 * j + 2)) (f' (2 * j + 1)) from fun hl => absurd (hb1.2 hl) (by simp))
          clear hb1
          have HC := Lib.hid (child_three h1 HB1.out)
          go_wp2_with fail
          refine (less_at HF.out.heads HD.out.up hn (i := (2 * j + 1)) (k := j) HC.out.le (by omega) (by omega) rfl).mono ?_
          rintro e w2 ⟨b2, rfl, hb2, hs2⟩
          have HE := Lib.hid (HF.out.same hs2)
          clear hs2
          cases b2
          · have HX := Lib.hid (fun b : Bool => ends_child (b := b) HE.out HN.out HC.out (fun hl => absurd (hb2.2 hl) (by simp)))
            clear hb2
            go_wp2_with fail
            go_ret
            exact HX.out _
          · have HX := Lib.hid (hb2.1 rfl)
            have M3 := fun u => meth_swap u w2 ⟨hb, 0, none⟩ _ HE.out.cell
            clear hb2
            go_wp2_with fail
            refine (swap_at HE.out.heads (i := j) (k := (2 * j + 1)) (by omega) (by have := HC.out.le; omega) rfl (by omega)).mono ?_
            rintro e w3 ⟨rfl, hh3, ho3⟩
            have HY := Lib.hid (next_child HE.out HN.out HC.out HX.out (by omega) hh3 ho3)
            clear M3 hh3 ho3
            go_wp2_with fail
            go_roundw
            case rel => exact cast_loop (by omega) HY.out
            case measure => simp [intOf]; omega
        · have HB1 := Lib.hid (hb1.1 rfl)
          clear hb1
          have HC := Lib.hid (child_two h2 HB1.out)
          go_wp2_with fail
          refine (less_at HF.out.heads HD.out.up hn (i := (2 * j + 2)) (k := j) HC.out.le (by omega) (by omega) rfl).mono ?_
          rintro e w2 ⟨b2, rfl, hb2, hs2⟩
          have HE := Lib.hid (HF.out.same hs2)
          clear hs2
          cases b2
          · have HX := Lib.hid (fun b : Bool => ends_child (b := b) HE.out HN.out HC.out (fun hl => absurd (hb2.2 hl) (by simp)))
            clear hb2
            go_wp2_with fail
            go_ret
            exact HX.out _
          · have HX := Lib.hid (hb2.1 rfl)
            have M3 := fun u => meth_swap u w2 ⟨hb, 0, none⟩ _ HE.out.cell
            clear hb2
            go_wp2_with fail
            refine (swap_at HE.out.heads (i := j) (k := (2 * j + 2)) (by omega) (by have := HC.out.le; omega) rfl (by omega)).mono ?_
            rintro e w3 ⟨rfl, hh3, ho3⟩
            have HY := Lib.hid (next_child HE.out HN.out HC.out HX.out (by omega) hh3 ho3)
            clear M3 hh3 ho3
            go_wp2_with fail
            go_roundw
            case rel => exact cast_loop (by omega) HY.out
            case measure => simp [intOf]; omega
      · have HB1 := Lib.hid h2
        have HC := Lib.hid (child_one (f := f') h1 HB1.out)
        go_wp2_with fail
        refine (less_at HD.out.heads HD.out.up hn (i := (2 * j + 1)) (k := j) HC.out.le (by omega) (by omega) rfl).mono ?_
        rintro e w2 ⟨b2, rfl, hb2, hs2⟩
        have HE := Lib.hid (HD.out.same hs2)
        clear hs2
        cases b2
        · have HX := Lib.hid (fun b : Bool => ends_child (b := b) HE.out HN.out HC.out (fun hl => absurd (hb2.2 hl) (by simp)))
          clear hb2
          go_wp2_with fail
          go_ret
          exact HX.out _
        · have HX := Lib.hid (hb2.1 rfl)
          have M3 := fun u => meth_swap u w2 ⟨hb, 0, none⟩ _ HE.out.cell
          clear hb2
          go_wp2_with fail
          refine (swap_at HE.out.heads (i := j) (k := (2 * j + 1)) (by omega) (by have := HC.out.le; omega) rfl (by omega)).mono ?_
          rintro e w3 ⟨rfl, hh3, ho3⟩
          have HY := Lib.hid (next_child HE.out HN.out HC.out HX.out (by omega) hh3 ho3)
          clear M3 hh3 ho3
          go_wp2_with fail
          go_roundw
          case rel => exact cast_loop (by omega) HY.out
          case measure => simp [intOf]; omega
    · go_wp2_with fail
      go_ret
      exact ends_here HD.out HN.out (fun q hq hqn => by omega)
end Go.Proofs.YtndkohocgfmamaaGreat.Runs

/- container/heap's Init, Pop, Fix over *heads. -/
namespace Go.Proofs.YtndkohocgfmamaaGreat.Runs
open Go.RowKit Go.Deep Go.Shelf Mem Crc Go.Proofs.YtndkohocgfmamaaGreat.Merge Go.Proofs.YtndkohocgfmamaaGreat.Heap

attribute [local go_sem] Oper.semAt_some
/-- The heads as a heap. -/
structure Hp (w0 : Base) (w : World) (hb g n c : Nat) (f : Nat → El) : Prop where
  heads : Heads w0 w hb g n c (fun k => (f k).1)
  up : Up w0 f n
  heap : Heap ltE f 0 n
def InitLoop (w0 : Base) (w : World) (hb g n c : Nat) (f : Nat → El) (i : Value) (wr : World) : Prop :=
  ∃ (q : Nat) (f' : Nat → El), q ≤ n / 2 ∧ i = .int .i64 ((q : Int) - 1) ∧ Down w0 w wr hb g n c f f' 0 n ∧ Heap ltE f' q n
def InitEnds (w0 : Base) (w : World) (hb g n c : Nat) (f : Nat → El) (w' : World) : Prop := ∃ f', Hp w0 w' hb g n c f' ∧ (row f' n).Perm (row f n) ∧ Only [g] w w'
theorem heap_half (f : Nat → El) (n : Nat) : Heap ltE f (n / 2) n := fun c h0 hc hp => by unfold parent at hp; omega
theorem Down.then {w0 : Base} {w w1 w2 : World} {hb g N c : Nat} {f f1 f2 : Nat → El} {k k1 k2 n : Nat} (h : Down w0 w w1 hb g N c f f1 k n) (h2 : Down w0 w1 w2 hb g N c f1 f2 k1 n) : Down w0 w w2 hb g N c f f2 k2 n :=
  ⟨h2.heads, h2.up, fun j hj => (h2.out j hj).trans (h.out j hj), h2.perm.trans h.perm, h.only.trans h2.only⟩
theorem len_of (w : World) (a : Option Addr) (n c : Nat) : Calls Tryz.prog 82 #[.slice a n c] w fun e w' => e = .returned (.int .i64 n) ∧ w = w' := (len_any w a n c).mono (fun _ _ h => ⟨h.1, h.2.symm⟩)
theorem down_at {w0 : Base} {w : World} {hb g N c : Nat} {f : Nat → El} {k n : Nat} (h : Heads w0 w hb g N c (fun k => (f k).1)) (hn : n ≤ N) (hu : Up w0 f n) (hk : k ≤ n) (hh : Heap ltE f (k + 1) n) {a b : Int} (ha : a = (k : Int)) (hb' : b = (n : Int)) :
    Calls Tryz.prog 107 #[.iface 152 (.pointer (some ⟨hb, 0, none⟩)), .int .i64 a, .int .i64 b] w (Ends w0 w hb g N c f k n) := by
  subst ha hb'
  exact down_any h hn hu hk hh
set_option maxHeartbeats 1000000 in
theorem init_any {w0 : Base} {w : World} {hb g n c : Nat} {f : Nat → El} (h : Heads w0 w hb g n c (fun k => (f k).1)) (hu : Up w0 f n) :
    Calls Tryz.prog 81 #[.iface 152 (.pointer (some ⟨hb, 0, none⟩))] w fun e w' => e = .returned (.tuple #[]) ∧ InitEnds w0 w hb g n c f w' := by
  have hst : InitLoop w0 w hb g n c f (.int .i64 (((n / 2 : Nat) : Int) - 1)) w := ⟨n / 2, f, Nat.le_refl _, rfl, Down.refl 0 h hu, heap_half f n⟩
  have HS := Lib.hid hst
  have M1 := fun q => meth_len q w ⟨hb, 0, none⟩ _ (Down.refl 0 h hu).cell
  have hfew := h.few
  have HL := Lib.hid (len_of w (some ⟨g, 0, none⟩) n c)
  clear h hu hst
  go_enter Tryz.func81, Tryz.ntmps81
  go_wp2_with fail
  refine HL.out.mono ?_
  rintro e w1 ⟨rfl, rfl⟩
  go_wp2_with fail
  clear M1 HL
  go_loopw [3] (InitLoop w0 w hb g n c f) (fun i _ => (intOf i + 1).toNat)
  case atStart => exact HS.out
  case round =>
    obtain ⟨q, f', hq, rfl, hD, hh⟩ := hrel
    have HD := Lib.hid hD
    have HH := Lib.hid hh
    clear hD hh
    by_cases h0 : 1 ≤ q
    · go_wp2_with fail
      refine (down_at HD.out.heads (Nat.le_refl n) HD.out.up (k := q - 1) (by omega) (by rw [Nat.sub_add_cancel h0]; exact HH.out) (by omega) rfl).mono ?_
      rintro e w2 ⟨b, f2, rfl, hD2, hh2⟩
      have HX := Lib.hid (show InitLoop w0 w hb g n c f (.int .i64 (((q - 1 : Nat) : Int) - 1)) w2 from ⟨q - 1, f2, by omega, rfl, HD.out.then hD2, hh2⟩)
      clear hD2 hh2
      go_wp2_with fail
      go_roundw
      case rel => 
        have := HX.out
        rw [show ((q - 1 : Nat) : Int) - 1 = (q : Int) - 1 - 1 by omega] at this
        exact this
      case measure => simp [intOf]; omega
    · have h00 : q = 0 := by omega
      have HX := Lib.hid (show InitEnds w0 w hb g n c f wr from ⟨f', ⟨HD.out.heads, HD.out.up, by have := HH.out; rwa [h00] at this⟩, HD.out.perm, HD.out.only⟩)
      clear h00
      go_wp2_with fail
      go_end0
      exact ⟨rfl, HX.out⟩
/-- What Pop leaves, of n + 1 heads: n, without the front. -/
def PopEnds (w0 : Base) (w : World) (hb g n c : Nat) (f : Nat → El) (w' : World) : Prop := ∃ f', Hp w0 w' hb g n c f' ∧ (f 0 :: row f' n).Perm (row f (n + 1)) ∧ Only [hb, g] w w'
theorem row_front (f : Nat → El) (n : Nat) : row f (n + 1) = f 0 :: (List.range n).map (fun k => f (k + 1)) := by
  unfold row
  rw [List.range_succ_eq_map]
  simp [Function.comp_def]
theorem popped {w0 : Base} {w wa w1 : World} {hb g n c : Nat} {f f' : Nat → El} {x0 : SL} (ho0 : Only [g] w wa) (hD : Down w0 wa w1 hb g (n + 1) c (Heap.swap (put f 0 (x0, (f 0).2)) 0 n) f' 0 n) (hh : Heap ltE f' 0 n) (m : Nat) : PopEnds w0 w hb g n c f ((w1.drewN m).setCell ⟨hb, 0, none⟩ (.slice (some ⟨g, 0, none⟩) n c)) := by
  have hH := hD.heads.drewN m
  obtain ⟨cs, h1, h2⟩ := hH.row
  have hne := hH.ne
  have ho : Only [hb, g] (w1.drewN m) ((w1.drewN m).setCell ⟨hb, 0, none⟩ (.slice (some ⟨g, 0, none⟩) n c)) := (Only.refl _ _).set (.inl (by simp)) _
  refine ⟨f', ⟨⟨by simpa using hH.cell.set 0 (.slice (some ⟨g, 0, none⟩) n c), ⟨cs, h1.far (Ne.symm hne) _, fun k hk => h2 k (by omega)⟩, by have := hH.le; omega, hH.below.only ho (by simpa using ⟨hH.old.1, hH.old.2⟩), hH.old, by have := hH.few; omega⟩, hD.up, hh⟩, ?_, (((ho0.trans hD.only).drewN m).mono (by simp)).trans ho⟩
  obtain ⟨f0, hf0⟩ : ∃ f0, f0 = put f 0 (x0, (f 0).2) := ⟨_, rfl⟩
  rw [← hf0] at hD
  have hp := hD.perm
  have h3 : (f0 0 :: row f' n).Perm (row (Heap.swap f0 0 n) n ++ [f0 0]) := (List.Perm.cons _ hp).trans (List.perm_append_singleton _ _).symm
  have e2 : row (Heap.swap f0 0 n) n ++ [f0 0] = row (Heap.swap f0 0 n) (n + 1) := by rw [row_succ, swap_r]
  rw [e2] at h3
  have h4 := h3.trans (row_swap f0 (i := 0) (j := n) (n := n + 1) (by omega) (by omega))
  rw [row_front] at h4 ⊢
  have h5 := (List.perm_cons _).1 h4
  have e3 : (fun k => f0 (k + 1)) = fun k => f (k + 1) := by
    funext k
    rw [hf0, put_other f _ (by omega)]
  rw [e3] at h5
  exact List.Perm.cons _ h5
/-- Pop: the front may have come to its end; the others are as they were. -/
theorem pop_heap {f : Nat → El} {n : Nat} (y : El) (h : Heap ltE f 0 (n + 1)) : Heap ltE (Heap.swap (put f 0 y) 0 n) 1 n := fun q h0 hq hp => by
  have := parent_lt h0
  rw [swap_o _ (by omega) (by omega), swap_o _ (by omega) (by omega), put_other f _ (by omega), put_other f _ (by omega)]
  exact h q h0 (by omega) (Nat.zero_le _)
theorem put_fst (f : Nat → El) (x0 : SL) : (fun k => (put f 0 (x0, (f 0).2) k).1) = put (fun k => (f k).1) 0 x0 := by
  funext k
  unfold put
  split <;> rfl
set_option maxHeartbeats 1000000 in
theorem heapPop_any {w0 : Base} {w : World} {hb g n c : Nat} {f : Nat → El} {x0 : SL} (h : Heads w0 w hb g (n + 1) c (put (fun k => (f k).1) 0 x0)) (hu : ∀ k, 0 < k → k < n + 1 → RowB w0.w w0.U ((f k).1, (f k).2.1)) (hh : Heap ltE f 0 (n + 1)) :
    Calls Tryz.prog 83 #[.iface 152 (.pointer (some ⟨hb, 0, none⟩))] w fun e w' => (∃ v, e = .returned v) ∧ PopEnds w0 w hb g n c f w' := by
  have hc : w.cell? ⟨hb, 0, none⟩ = some (.slice (some ⟨g, 0, none⟩) (n + 1) c) := by
    have c0 := h.cell.cell 0
    simpa using c0
  have M1 := fun q => meth_len q w ⟨hb, 0, none⟩ _ hc
  have M2 := fun q => meth_swap q w ⟨hb, 0, none⟩ _ hc
  have hfew := h.few
  have HH := Lib.hid h
  have HP := Lib.hid (pop_heap (x0, (f 0).2) hh)
  have HU := Lib.hid hu
  have HL := Lib.hid (len_of w (some ⟨g, 0, none⟩) (n + 1) c)
  clear h hu hc hh
  go_enter Tryz.func83, Tryz.ntmps83
  go_wp2_with fail
  refine HL.out.mono ?_
  rintro e w1 ⟨rfl, rfl⟩
  go_wp2_with fail
  refine (swap_at HH.out (i := 0) (k := n) (by omega) (by omega) rfl (by omega)).mono ?_
  rintro e w2 ⟨rfl, hh2, ho2⟩
  rw [← put_fst, ← swap_fst] at hh2
  have HH2 := Lib.hid hh2
  have HO2 := Lib.hid ho2
  clear hh2 ho2 M1 M2 HL
  go_wp2_with fail
  refine (down_at HH2.out (k := 0) (n := n) (by omega) (fun k hk => ?up) (by omega) HP.out rfl (by omega)).mono ?_
  case up =>
    unfold Heap.swap
    split
    · unfold put
      split
      · omega
      · exact HU.out n (by omega) (by omega)
    · split
      · omega
      · rw [put_other f _ (by assumption)]
        exact HU.out k (by omega) (by omega)
  rintro e w3 ⟨b, f', rfl, hD, hh3⟩
  have c3 := hD.cell
  have fz := hD.heads.cell.frozen 0
  obtain ⟨cs, g1, g2⟩ := hD.heads.row
  have g3 := g2 n (by omega)
  have hle := hD.heads.le
  have HPOP := Lib.hid (pop_any w3 hb g 0 n c hfew hle (f' n).1 c3 fz ((g1.cell _).trans (by simpa using g3)))
  have M3 := fun q => meth_pop q w3 ⟨hb, 0, none⟩
  have HE := Lib.hid (fun m => popped HO2.out hD hh3 m)
  clear c3 fz g1 g2 g3 hle hD hh3 HO2 HH2 HH HP HU
  go_wp2_with fail
  refine HPOP.out.mono ?_
  rintro e w4 ⟨rfl, m, rfl⟩
  go_wp2_with fail
  go_ret
  exact ⟨⟨_, rfl⟩, HE.out m⟩
/-- What Fix leaves. -/
def FixEnds (w0 : Base) (w : World) (hb g n c : Nat) (f : Nat → El) (w' : World) : Prop := ∃ f', Hp w0 w' hb g n c f' ∧ (row f' n).Perm (row f n) ∧ Only [g] w w'
set_option maxHeartbeats 400000 in
theorem up_zero (w : World) (v : Value) : Calls Tryz.prog 108 #[v, .int .i64 0] w fun e w' => e = .returned (.tuple #[]) ∧ w = w' := by
  go_enter Tryz.func108, Tryz.ntmps108
  go_wp2_with fail
  go_loopw [1] (fun i wr => i = .int .i64 0 ∧ w = wr) (fun _ _ => 0)
  case atStart => exact ⟨rfl, rfl⟩
  case round =>
    obtain ⟨rfl, rfl⟩ := hrel
    go_wp2_with fail
    go_end0
    exact ⟨rfl, rfl⟩
set_option maxHeartbeats 1000000 in
/-- Fix of the front. -/
theorem fix_any {w0 : Base} {w : World} {hb g n c : Nat} {f : Nat → El} (h : Heads w0 w hb g n c (fun k => (f k).1)) (hu : Up w0 f n) (hh : Heap ltE f 1 n) :
    Calls Tryz.prog 84 #[.iface 152 (.pointer (some ⟨hb, 0, none⟩)), .int .i64 0] w fun e w' => e = .returned (.tuple #[]) ∧ FixEnds w0 w hb g n c f w' := by
  have M1 := fun q => meth_len q w ⟨hb, 0, none⟩ _ (Down.refl 0 h hu).cell
  have HL := Lib.hid (len_of w (some ⟨g, 0, none⟩) n c)
  have HD := Lib.hid (down_at h (Nat.le_refl n) hu (k := 0) (Nat.zero_le _) hh (a := 0) (b := n) rfl rfl)
  clear h hu hh
  go_enter Tryz.func84, Tryz.ntmps84
  go_wp2_with fail
  refine HL.out.mono ?_
  rintro e w1 ⟨rfl, rfl⟩
  clear M1 HL
  go_wp2_with fail
  refine HD.out.mono ?_
  rintro e w2 ⟨b, f', rfl, hD, hh2⟩
  have HE := Lib.hid (show FixEnds w0 w hb g n c f w2 from ⟨f', ⟨hD.heads, hD.up, hh2⟩, hD.perm, hD.only⟩)
  clear hD hh2 HD
  cases b
  · go_wp2_with fail
    refine (up_zero _ _).mono ?_
    rintro e w3 ⟨rfl, rfl⟩
    go_wp2_with fail
    go_end0
    exact ⟨rfl, HE.out⟩
  · go_wp2_with fail
    go_end0
    exact ⟨rfl, HE.out⟩
end Go.Proofs.YtndkohocgfmamaaGreat.Runs

/- slices.DeleteFunc of rows without records. -/
namespace Go.Proofs.YtndkohocgfmamaaGreat.Runs
open Go.RowKit Go.Deep Go.Shelf Mem Crc Go.Proofs.YtndkohocgfmamaaGreat.Merge

attribute [local go_sem] Oper.semAt_some
/-- Has it a record? -/
def keep (y : SL) : Bool := !(y.2.1 == 0)
set_option maxHeartbeats 400000 in
theorem del_any (w : World) (y : SL) : Calls Tryz.prog 80 #[sl y] w fun e w' => e = .returned (.bool (!keep y)) ∧ w = w' := by
  obtain ⟨a, n, c⟩ := y
  unfold sl keep
  dsimp only
  by_cases h : n = 0
  · subst h
    go_enter Tryz.func80, Tryz.ntmps80
    go_wp2_with fail
    go_ret
    exact ⟨rfl, rfl⟩
  · have h0 : ((n : Int) == 0) = false := by simpa using h
    have e : (n == 0) = false := by simpa using h
    rw [e]
    go_enter Tryz.func80, Tryz.ntmps80
    go_wp2_with fail
    go_ret
    exact ⟨rfl, rfl⟩
/-- A row of slices in a block. -/
structure RowsAt (w : World) (g : Nat) (xs : List SL) : Prop where
  row : ∃ cs, Blk w g 73 cs ∧ ∀ (k : Nat) (y : SL), xs[k]? = some y → cs[k]? = some (sl y)
theorem RowsAt.cell {w : World} {g : Nat} {xs : List SL} (h : RowsAt w g xs) {k : Nat} {y : SL} (hy : xs[k]? = some y) : w.cell? ⟨g, k, none⟩ = some (sl y) ∧ w.frozen? ⟨g, k, none⟩ = false := by
  obtain ⟨cs, h1, h2⟩ := h.row
  exact ⟨(h1.cell _).trans (h2 k y hy), h1.frozen _⟩
/-- Where the first is that is to go. -/
def FirstOut (xs : List SL) (i : Int) : Prop := (i = -1 ∧ ∀ y ∈ xs, keep y = true) ∨ ∃ (k : Nat) (y : SL), i = (k : Int) ∧ xs[k]? = some y ∧ keep y = false ∧ ∀ z ∈ xs.take k, keep z = true
set_option maxHeartbeats 1000000 in
theorem index_any (w : World) (g n c : Nat) (xs : List SL) (hx : xs.length = n) (h : RowsAt w g xs) (hn : n ≤ 1000000) :
    Calls Tryz.prog 106 #[.slice (some ⟨g, 0, none⟩) n c, .func (.func 80) #[] #[]] w fun e w' => (∃ i, e = .returned (.int .i64 i) ∧ FirstOut xs i) ∧ w = w' := by
  have H := Lib.hid h
  have HX := Lib.hid hx
  clear h hx
  go_enter Tryz.func106, Tryz.ntmps106
  go_wp2_with fail
  go_loopw [8] (fun i wr => w = wr ∧ ∃ k : Nat, k ≤ n ∧ i = .int .i64 k ∧ ∀ z ∈ xs.take k, keep z = true) (fun i _ => n - (intOf i).toNat)
  case atStart => exact ⟨rfl, 0, Nat.zero_le _, rfl, by simp⟩
  case round =>
    obtain ⟨rfl, k, hk, rfl, hz⟩ := hrel
    have HZ := Lib.hid hz
    clear hz
    by_cases hlt : k < n
    · obtain ⟨y, hy⟩ : ∃ y, xs[k]? = some y := ⟨xs[k]'(by rw [HX.out]; exact hlt), List.getElem?_eq_getElem _⟩
      have hc := (H.out.cell hy).1
      have hw : RowKit.wrap64 ((k : Int) + 1) = (k : Int) + 1 := IntWalk.wrap64_in _ (by omega)
      have HD := Lib.hid (del_any w y)
      have HY := Lib.hid hy
      clear hy
      obtain ⟨ya, yn, yc⟩ := y
      unfold sl at hc HD
      dsimp only at hc HD
      cases hkp : keep (ya, yn, yc)
      · have HK := Lib.hid hkp
        clear hkp
        go_wp2_with fail
        refine HD.out.mono ?_
        rintro e w1 ⟨rfl, rfl⟩
        rw [HK.out]
        go_wp2_with fail
        go_ret
        exact ⟨⟨_, rfl, .inr ⟨k, _, rfl, HY.out, HK.out, HZ.out⟩⟩, rfl⟩
      · have HK := Lib.hid hkp
        clear hkp
        go_wp2_with fail
        refine HD.out.mono ?_
        rintro e w1 ⟨rfl, rfl⟩
        rw [HK.out]
        go_wp2_with fail
        go_roundw
        case rel => exact ⟨trivial, k + 1, by omega, by simp [hw], fun z hz => by
          rw [List.take_add_one, HY.out] at hz
          rcases List.mem_append.1 hz with hz | hz
          · exact HZ.out z hz
          · have : z = (ya, yn, yc) := by simpa using hz
            rw [this]; exact HK.out⟩
        case measure => simp [intOf, hw]; omega
    · have hkn : k = n := by omega
      have HE := Lib.hid (show FirstOut xs (-1) from .inl ⟨rfl, fun y hy => HZ.out y (by rw [List.take_of_length_le (by rw [HX.out]; omega)]; exact hy)⟩)
      clear hkn
      go_wp2_with fail
      go_ret
      exact ⟨⟨_, rfl, HE.out⟩, rfl⟩
/-- What the second loop keeps. -/
structure Moved (w wr : World) (g : Nat) (xs : List SL) (j : Nat) : Prop where
  row : ∃ cs, Blk wr g 73 cs ∧ (∀ (k : Nat) (y : SL), ((xs.take j).filter keep)[k]? = some y → cs[k]? = some (sl y)) ∧ (∀ (k : Nat) (y : SL), j ≤ k → xs[k]? = some y → cs[k]? = some (sl y)) ∧ xs.length ≤ cs.size
  only : Only [g] w wr
theorem filter_lt {xs : List SL} {k j : Nat} {y : SL} (hy : xs[k]? = some y) (hk : keep y = false) (hj : k < j) (hl : j ≤ xs.length) : ((xs.take j).filter keep).length < j := by
  have h1 := List.length_filter_le keep (xs.take j)
  have h2 : (xs.take j).length = j := by rw [List.length_take]; omega
  rcases Nat.lt_or_ge ((xs.take j).filter keep).length j with h | h
  · exact h
  · have e : ((xs.take j).filter keep).length = (xs.take j).length := by omega
    rw [List.length_filter_eq_length_iff] at e
    have : y ∈ xs.take j := List.mem_of_getElem? (i := k) (by rw [List.getElem?_take, if_pos hj]; exact hy)
    rw [e y this] at hk
    cases hk
theorem Moved.start {w : World} {g : Nat} {xs : List SL} {k : Nat} {y : SL} (h : RowsAt w g xs) (hy : xs[k]? = some y) (hk : keep y = false) (ha : ∀ z ∈ xs.take k, keep z = true) : Moved w w g xs (k + 1) ∧ ((xs.take (k + 1)).filter keep).length = k := by
  obtain ⟨cs, h1, h2⟩ := h.row
  have e : (xs.take (k + 1)).filter keep = xs.take k := by
    rw [List.take_add_one, hy, List.filter_append, List.filter_eq_self.2 ha]
    simp [hk]
  have hl := (List.getElem?_eq_some_iff.1 hy).1
  have hs : xs.length ≤ cs.size := by
    obtain ⟨z, hz⟩ : ∃ z, xs[xs.length - 1]? = some z := ⟨xs[xs.length - 1], List.getElem?_eq_getElem _⟩
    have := (Array.getElem?_eq_some_iff.1 (h2 _ z hz)).1
    omega
  refine ⟨⟨⟨cs, h1, fun q z hz => ?_, fun q z _ hz => h2 q z hz, hs⟩, Only.refl _ _⟩, by rw [e, List.length_take]; omega⟩
  rw [e, List.getElem?_take] at hz
  split at hz
  · exact h2 q z hz
  · cases hz
theorem Moved.skip {w wr : World} {g : Nat} {xs : List SL} {j : Nat} {y : SL} (h : Moved w wr g xs j) (hy : xs[j]? = some y) (hk : keep y = false) : Moved w wr g xs (j + 1) ∧ ((xs.take (j + 1)).filter keep).length = ((xs.take j).filter keep).length := by
  obtain ⟨cs, h1, h2, h3, h4⟩ := h.row
  have e : (xs.take (j + 1)).filter keep = (xs.take j).filter keep := by
    rw [List.take_add_one, hy, List.filter_append]
    simp [hk]
  exact ⟨⟨⟨cs, h1, by rw [e]; exact h2, fun q z hq hz => h3 q z (by omega) hz, h4⟩, h.only⟩, by rw [e]⟩
theorem Moved.move {w wr : World} {g : Nat} {xs : List SL} {j m : Nat} {y : SL} (h : Moved w wr g xs j) (hy : xs[j]? = some y) (hk : keep y = true) (hm : ((xs.take j).filter keep).length = m) (hmj : m < j) :
    Moved w (wr.setCell ⟨g, m, none⟩ (sl y)) g xs (j + 1) ∧ ((xs.take (j + 1)).filter keep).length = m + 1 := by
  obtain ⟨cs, h1, h2, h3, h4⟩ := h.row
  have e : (xs.take (j + 1)).filter keep = (xs.take j).filter keep ++ [y] := by
    rw [List.take_add_one, hy, List.filter_append]
    simp [hk]
  have hsz : j < cs.size := (Array.getElem?_eq_some_iff.1 (h3 j y (Nat.le_refl _) hy)).1
  refine ⟨⟨⟨_, h1.set m (sl y), fun q z hz => ?_, fun q z hq hz => ?_, by rw [Array.size_setIfInBounds]; exact h4⟩, h.only.set (p := ⟨g, m, none⟩) (.inl (by simp)) _⟩, by rw [e]; simp [hm]⟩
  · rw [e] at hz
    rw [Array.getElem?_setIfInBounds]
    by_cases e1 : m = q
    · subst e1
      rw [List.getElem?_append_right (by omega), hm, Nat.sub_self] at hz
      simp at hz
      rw [if_pos rfl, if_pos (by omega), hz]
    · rw [if_neg e1]
      by_cases e2 : q < m
      · rw [List.getElem?_append_left (by omega)] at hz
        exact h2 q z hz
      · rw [List.getElem?_append_right (by omega), hm] at hz
        rw [List.getElem?_eq_none (by simp; omega)] at hz
        cases hz
  · rw [Array.getElem?_setIfInBounds, if_neg (by omega)]
    exact h3 q z (by omega) hz
theorem clear_rows (w : World) (ty : TypeId) (b o n c : Nat) (hn : 0 < n) (hc : ∀ j, j < n → (w.cell? ⟨b, o + j, none⟩).isSome = true) (hf : ∀ j, j < n → w.frozen? ⟨b, o + j, none⟩ = false) :
    (Builtin.clear_ #[106] ty #[.slice (some ⟨b, o, none⟩) n c]).run Tryz.prog w = .ok (.tuple #[]) (w.setCells b o (List.replicate n (.slice none 0 0))) :=
  Lib.run_clear_slice w _ _ ty _ Tryz.underlying106 (fun w => by kernel_rfl) rfl rfl b o n c hn hc hf
def DelEnds (w : World) (g c : Nat) (xs : List SL) (e : Ending) (w' : World) : Prop := e = .returned (.slice (some ⟨g, 0, none⟩) (xs.filter keep).length c) ∧ RowsAt w' g (xs.filter keep) ∧ Only [g] w w'
theorem Moved.cleared {w wr : World} {g n c m : Nat} {xs : List SL} (h : Moved w wr g xs n) (hn : xs.length = n) (hm : (xs.filter keep).length = m) (hmn : m ≤ n) : DelEnds w g c xs (.returned (.slice (some ⟨g, 0, none⟩) m c)) (wr.setCells g m (List.replicate (n - m) (.slice none 0 0))) := by
  obtain ⟨cs, h1, h2, h3, h4⟩ := h.row
  obtain ⟨cs', g1, g2⟩ := Blk.splice (List.replicate (n - m) (.slice none 0 0)) m wr cs h1 (by simp; omega)
  subst hm
  refine ⟨rfl, ⟨cs', g1, fun q z hz => ?_⟩, Only.setCells _ _ h.only (.inl (by simp))⟩
  rw [List.take_of_length_le (by omega)] at h2
  have := h2 q z hz
  have hq := (List.getElem?_eq_some_iff.1 hz).1
  rw [← Array.getElem?_toList] at this ⊢
  rw [g2, List.append_assoc, List.getElem?_append_left (by simp; omega), List.getElem?_take, if_pos hq]
  exact this
set_option maxHeartbeats 2000000 in
theorem deleteFunc_any (w : World) (g n c : Nat) (xs : List SL) (hx : xs.length = n) (h : RowsAt w g xs) (hn : n ≤ 1000000) (hc : n ≤ c) :
    Calls Tryz.prog 78 #[.slice (some ⟨g, 0, none⟩) n c, .func (.func 80) #[] #[]] w (DelEnds w g c xs) := by
  have HI := Lib.hid (index_any w g n c xs hx h hn)
  have H := Lib.hid h
  have HX := Lib.hid hx
  clear h hx
  go_enter Tryz.func78, Tryz.ntmps78
  go_wp2_with fail
  refine HI.out.mono ?_
  rintro e w1 ⟨⟨i, rfl, hi⟩, rfl⟩
  rcases hi with ⟨rfl, ha⟩ | ⟨i, y0, rfl, hy0, hk0, ha⟩
  · have HE := Lib.hid (show DelEnds w g c xs (.returned (.slice (some ⟨g, 0, none⟩) n c)) w from by
      have e : xs.filter keep = xs := List.filter_eq_self.2 ha
      unfold DelEnds
      rw [e, HX.out]
      exact ⟨rfl, H.out, Only.refl _ _⟩)
    clear ha
    go_wp2_with fail
    go_ret
    exact HE.out
  · have hil : i < n := by rw [← HX.out]; exact (List.getElem?_eq_some_iff.1 hy0).1
    have h0 : ((i : Int) == -1) = false := by simp
    have HS := Lib.hid (Moved.start H.out hy0 hk0 ha)
    have HY0 := Lib.hid hy0
    have HK0 := Lib.hid hk0
    clear hy0 hk0 ha
    go_wp2_with fail
    go_loopw [5, 6] (fun i' j' wr => ∃ j m : Nat, i < j ∧ j ≤ n ∧ m < j ∧ i' = .int .i64 m ∧ j' = .int .i64 j ∧ Moved w wr g xs j ∧ ((xs.take j).filter keep).length = m) (fun _ j' _ => n - (intOf j').toNat)
    case atStart => exact ⟨i + 1, i, by omega, by omega, by omega, rfl, by go_num, HS.out.1, HS.out.2⟩
    case round =>
      obtain ⟨j, m, hij, hjn, hmj, rfl, rfl, hM, hm⟩ := hrel
      have HM := Lib.hid hM
      have Hm := Lib.hid hm
      clear hM hm
      by_cases hlt : j < n
      · obtain ⟨y, hy⟩ : ∃ y, xs[j]? = some y := ⟨xs[j]'(by rw [HX.out]; exact hlt), List.getElem?_eq_getElem _⟩
        have hcell : wr.cell? ⟨g, j, none⟩ = some (sl y) := by
          obtain ⟨cs, h1, _, h3, _⟩ := HM.out.row
          exact (h1.cell _).trans (h3 j y (Nat.le_refl _) hy)
        have hw : RowKit.wrap64 ((j : Int) + 1) = (j : Int) + 1 := IntWalk.wrap64_in _ (by omega)
        have hwm : RowKit.wrap64 ((m : Int) + 1) = (m : Int) + 1 := IntWalk.wrap64_in _ (by omega)
        have HD := Lib.hid (del_any wr y)
        have HY := Lib.hid hy
        clear hy
        cases hkp : keep y
        · have HK := Lib.hid hkp
          have HN := Lib.hid (HM.out.skip HY.out HK.out)
          clear hkp
          obtain ⟨ya, yn, yc⟩ := y
          unfold sl at hcell HD
          dsimp only at hcell HD
          go_wp2_with fail
          refine HD.out.mono ?_
          rintro e w1 ⟨rfl, rfl⟩
          rw [HK.out]
          go_wp2_with fail
          go_roundw
          case rel => exact ⟨j + 1, m, by omega, by omega, by omega, rfl, by simp [hw], HN.out.1, HN.out.2.trans Hm.out⟩
          case measure => simp [intOf, hw]; omega
        · have HK := Lib.hid hkp
          have HN := Lib.hid (HM.out.move HY.out HK.out Hm.out hmj)
          clear hkp
          have hfz : wr.frozen? ⟨g, m, none⟩ = false := by
            obtain ⟨cs, h1, _⟩ := HM.out.row
            exact h1.frozen _
          have hcm : ∃ v, wr.cell? ⟨g, m, none⟩ = some v := by
            obtain ⟨cs, h1, _, h3, _⟩ := HM.out.row
            have := (Array.getElem?_eq_some_iff.1 (h3 j y (Nat.le_refl _) HY.out)).1
            exact ⟨cs[m], (h1.cell _).trans (Array.getElem?_eq_getElem (by omega))⟩
          obtain ⟨vm, hvm⟩ := hcm
          obtain ⟨ya, yn, yc⟩ := y
          unfold sl at hcell HD HN
          dsimp only at hcell HD HN
          go_wp2_with fail
          refine HD.out.mono ?_
          rintro e w1 ⟨rfl, rfl⟩
          rw [HK.out]
          go_wp2_with fail
          go_roundw
          case rel => exact ⟨j + 1, m + 1, by omega, by omega, by omega, by simp [hwm], by simp [hw], HN.out.1, HN.out.2⟩
          case measure => simp [intOf, hw]; omega
      · obtain rfl : n = j := by omega
        have Hm2 := Lib.hid (show (xs.filter keep).length = m by have := Hm.out; rwa [List.take_of_length_le (by rw [HX.out]; exact Nat.le_refl _)] at this)
        have HZ := Lib.hid (HM.out.cleared (c := c) HX.out Hm2.out (by omega))
        have hcl : ∀ ty, (Builtin.clear_ #[106] ty #[.slice (some ⟨g, m, none⟩) (n - m) (c - m)]).run Tryz.prog wr = .ok (.tuple #[]) (wr.setCells g m (List.replicate (n - m) (.slice none 0 0))) := by
          obtain ⟨cs, h1, _, _, h4⟩ := HM.out.row
          have hxl := HX.out
          exact fun ty => clear_rows wr ty g m (n - m) (c - m) (by omega) (fun j hj => by rw [h1.cell, Array.getElem?_eq_getElem (by omega)]; rfl) (fun j hj => h1.frozen _)
        have hcm : c ≠ m := by omega
        go_wp2_with fail
        go_ret
        exact HZ.out
end Go.Proofs.YtndkohocgfmamaaGreat.Runs

/- runs.merge: what its iterator keeps; plain. -/
namespace Go.Proofs.YtndkohocgfmamaaGreat.Runs
open Go.RowKit Go.Deep Go.Shelf Mem Crc Go.Proofs.YtndkohocgfmamaaGreat.Merge Go.Proofs.YtndkohocgfmamaaGreat.Heap

/-- Whoever is told leaves alone the blocks of U, and blocks of the types ts. -/
structure KeepT (U : Nat → Prop) (ts : List TypeId) (X Y : World) : Prop where
  os : Y.os = X.os
  tape : Y.tape = X.tape
  output : Y.output = X.output
  size : X.heap.size ≤ Y.heap.size
  block : ∀ k, k < X.heap.size → (U k ∨ typed ts X k) → Y.heap[k]? = X.heap[k]?
theorem KeepT.refl (U : Nat → Prop) (ts : List TypeId) (X : World) : KeepT U ts X X := ⟨rfl, rfl, rfl, Nat.le_refl _, fun _ _ _ => rfl⟩
theorem KeepT.trans {U : Nat → Prop} {ts : List TypeId} {X Y Z : World} (h : KeepT U ts X Y) (k : KeepT U ts Y Z) : KeepT U ts X Z :=
  ⟨k.os.trans h.os, k.tape.trans h.tape, k.output.trans h.output, Nat.le_trans h.size k.size, fun i hi hn => by
    have e := h.block i hi hn
    refine (k.block i (Nat.lt_of_lt_of_le hi h.size) ?_).trans e
    rcases hn with hn | ⟨cs, t, fr, h1, h2⟩
    · exact .inl hn
    · exact .inr ⟨cs, t, fr, e ▸ h1, h2⟩⟩
theorem KeepT.putObj {U : Nat → Prop} {ts : List TypeId} (W : World) (l : Nat) (o o' : Obj) (hU : ¬ U l) (hl : W.heap[l]? = some o) (ho : o.isCells = false) : KeepT U ts W (W.putObj l o') := by
  have hg := grownBy_putObj' W l o'
  refine ⟨hg.os, hg.tape, hg.output, hg.size, fun k hk hn => hg.block k hk (fun e => ?_)⟩
  have e : k = l := by simpa using e
  subst e
  rcases hn with hn | ⟨cs, t, fr, h1, h2⟩
  · exact hU hn
  · rw [hl] at h1
    cases h1
    cases ho
theorem KeepT.blk {U : Nat → Prop} {ts : List TypeId} {X Y : World} (h : KeepT U ts X Y) {g : Nat} {t : TypeId} {cs : Array Value} (hb : Blk X g t cs) (ht : t ∈ ts) : Blk Y g t cs := (h.block g hb.lt (.inr ⟨cs, t, (0, 0), hb, ht⟩)).trans hb
theorem KeepT.of_below {U : Nat → Prop} {ts : List TypeId} {X Y : World} (h : Below X.heap.size X Y) : KeepT U ts X Y := ⟨h.os, h.tape, h.output, h.size, fun k hk _ => h.block k hk⟩
/-- A body that writes blocks alone that are none of these. -/
theorem KeepT.of_upon {U : Nat → Prop} {ts : List TypeId} {X Y : World} {P : Nat → Prop} (h : Upon P X Y) (hb : ∀ k, P k → k < X.heap.size → ¬ U k ∧ ¬ typed ts X k) : KeepT U ts X Y :=
  ⟨h.os, h.tape, h.output, h.size, fun k hk hn => h.block k hk (fun hm => by
    have := hb k hm hk
    rcases hn with hn | hn
    · exact this.1 hn
    · exact this.2 hn)⟩
/-- What the iterator of a merge writes. -/
abbrev mineT : List TypeId := [148, 73]
theorem Heads.keep {w0 : Base} {X Y : World} {hb g N c : Nat} {x : Nat → SL} (h : Heads w0 X hb g N c x) (k : KeepT w0.U mineT X Y) : Heads w0 Y hb g N c x := by
  obtain ⟨cs, h1, h2⟩ := h.row
  exact ⟨k.blk h.cell (by simp), ⟨cs, k.blk h1 (by simp), h2⟩, h.le, ⟨Nat.le_trans h.below.size k.size, fun q hq => (k.block q (Nat.lt_of_lt_of_le (w0.lt q hq) h.below.size) (.inl hq)).trans (h.below.block q hq)⟩, h.old, h.few⟩
theorem Heads.fr {w0 : Base} {X Y : World} {hb g N c : Nat} {x : Nat → SL} (h : Heads w0 X hb g N c x) {bs : List Nat} (ho : Only bs X Y) (hs : ∀ k ∈ bs, k = hb ∨ k = g) : Fr w0.w.heap.size mineT X Y := by
  obtain ⟨cs, h1, h2⟩ := h.row
  refine ho.fr (fun k hk => .inl ?_)
  rcases hs k hk with rfl | rfl
  · exact ⟨h.old.1, ⟨_, _, (0, 0), h.cell, by simp⟩⟩
  · exact ⟨h.old.2, ⟨_, _, (0, 0), h1, by simp⟩⟩
/-- The rows' records, by what they read as. -/
def rw2 (f : Nat → El) : Nat → Row := fun k => (f k).2
theorem row_rw2 (f : Nat → El) (n : Nat) : (row f n).map Prod.snd = row (rw2 f) n := by simp [row, rw2, Function.comp_def]
theorem perm_rw2 {f f' : Nat → El} {n m : Nat} (h : (row f n).Perm (row f' m)) : (row (rw2 f) n).Perm (row (rw2 f') m) := by
  have := h.map Prod.snd
  rwa [row_rw2, row_rw2] at this
theorem mem_row {α : Type} {f : Nat → α} {n : Nat} {x : α} : x ∈ row f n ↔ ∃ k, k < n ∧ f k = x := by simp [row]
theorem rises_perm {f f' : Nat → El} {n m : Nat} (h : ∀ e ∈ row f m, Rises e.2.1) (hs : ∀ e ∈ row f' n, e ∈ row f m) : ∀ c, c < n → Rises (rw2 f' c).1 := fun c hc => h _ (hs _ (mem_row.2 ⟨c, hc, rfl⟩))
theorem inv_start {all : List B} {f f' : Nat → El} {n : Nat} (hh : Heap ltE f' 0 n) (hp : (row f' n).Perm (row f n)) (hr : ∀ e ∈ row f n, Rises e.2.1) (ha : (recs (rw2 f) n).Perm all) : Inv all [] (rw2 f') n :=
  ⟨hh, rises_perm hr (fun e he => hp.mem_iff.1 he), List.Pairwise.nil, fun o ho => (by simp at ho), (recs_perm (perm_rw2 hp)).trans ha⟩
theorem inv_pop {all out : List B} {f f' : Nat → El} {n : Nat} (h : Inv all out (rw2 f) (n + 1)) (he : (f 0).2.1 = [hd (f 0).2]) (hh : Heap ltE f' 0 n) (hp : (f 0 :: row f' n).Perm (row f (n + 1))) : Inv all (out ++ [hd (f 0).2]) (rw2 f') n := by
  have hp2 : (rw2 f 0 :: row (rw2 f') n).Perm (row (rw2 f) (n + 1)) := by
    have := hp.map Prod.snd
    rwa [List.map_cons, row_rw2, row_rw2] at this
  refine Merge.step h hh (fun c hc => ?_) (gone_perm he hp2)
  have h1 : rw2 f' c ∈ row (rw2 f) (n + 1) := hp2.mem_iff.1 (List.mem_cons_of_mem _ (mem_row.2 ⟨c, hc, rfl⟩))
  obtain ⟨k, hk, e⟩ := mem_row.1 h1
  rw [← e]
  exact h.rises k hk
theorem inv_fix {all out : List B} {f f' : Nat → El} {n : Nat} {y : El} (h : Inv all out (rw2 f) n) (hn : 0 < n) (he : (f 0).2.1 = hd (f 0).2 :: y.2.1) (hh : Heap ltE f' 0 n) (hp : (row f' n).Perm (row (put f 0 y) n)) : Inv all (out ++ [hd (f 0).2]) (rw2 f') n := by
  have e : rw2 (put f 0 y) = put (rw2 f) 0 y.2 := by
    funext k
    unfold rw2 put
    split <;> rfl
  have hp2 := perm_rw2 hp
  rw [e] at hp2
  refine Merge.step h hh (fun c hc => ?_) (rest_perm hn he hp2)
  obtain ⟨k, hk, e2⟩ := mem_row.1 (hp2.mem_iff.1 (mem_row.2 ⟨c, hc, rfl⟩))
  rw [← e2]
  by_cases h0 : k = 0
  · subst h0
    rw [put_same]
    have h1 := h.rises 0 hn
    rw [show (rw2 f 0).1 = hd (f 0).2 :: y.2.1 from he] at h1
    exact (List.pairwise_cons.1 h1).2
  · rw [put_other _ _ h0]
    exact h.rises k hk
theorem heap_put {f : Nat → El} {n : Nat} {y : El} (h : Heap ltE f 0 n) : Heap ltE (put f 0 y) 1 n := fun c h0 hc hp => by
  have := parent_lt h0
  rw [put_other _ _ (by omega), put_other _ _ (by omega)]
  exact h c h0 hc (Nat.zero_le _)
/-- What is left of a row behind its first record. -/
def tl (x : SL) : SL := (if x.2.2 = 1 then x.1 else x.1.map (·.add 1), x.2.1 - 1, x.2.2 - 1)
theorem rowB_tl {w : World} {U : Nat → Prop} {x : SL} {b : B} {t : List B} (h : RowB w U (x, b :: t)) : RowB w U (tl x, t) := by
  obtain ⟨a, c, vs, e, h1, h2, h3, h4, h5, h6⟩ := h
  dsimp only at e h1 h2 h5
  subst e
  simp only [List.length_cons] at h1 h2
  unfold tl
  dsimp only
  by_cases hc : c = 1
  · have ht : t = [] := List.eq_nil_of_length_eq_zero (by omega)
    subst ht
    refine ⟨if c = 1 then a else a.map (·.add 1), c - 1, [], rfl, by simp, rfl, .inl rfl, fun g hg => ?_, recsIn_nil w, fun y hy => by simp at hy⟩
    rw [if_pos hc] at hg
    exact h4 g hg
  · rw [if_neg hc]
    refine ⟨a.map (·.add 1), c - 1, vs.drop 1, by simp, by dsimp only; omega, by simp; omega, ?_, fun g hg => h4 g ?_, by have := h5.drop 1; simpa using this, fun y hy g hg => h6 y (List.mem_of_mem_drop hy) g hg⟩
    · rcases h3 with h3 | ⟨g, off, e, hg, hcl⟩
      · rw [List.map_eq_nil_iff] at h3
        rw [h3] at h2
        simp at h2
      · subst e
        have e2 : (⟨g, off, none⟩ : Addr).add 1 = ⟨g, off + 1, none⟩ := by unfold Addr.add; split <;> simp_all
        show Lies w (some ((⟨g, off, none⟩ : Addr).add 1)) _
        rw [e2, List.map_drop]
        exact Lies.drop (.inr ⟨g, off, rfl, hg, hcl⟩) 1
    · cases a with
      | none => cases hg
      | some p => exact hg
theorem slice_tl (x : SL) (h1 : 1 ≤ x.2.1) (h2 : x.2.1 ≤ x.2.2) (W : World) : (Instr.sliceAt 73 (sl x) (some (.int .i64 1)) none none).run Tryz.prog W = .ok (sl (tl x)) W := by
  obtain ⟨a, n, c⟩ := x
  have hel : Tryz.prog.elem 73 = 45 := by kernel_rfl
  have hu : Tryz.prog.underlying 73 = some (.slice (Tryz.prog.elem 73)) := by rw [hel]; exact Tryz.underlying73
  have hsz : ∀ W : World, (sizeOf 45).run Tryz.prog W = .ok 1 W := fun W => by kernel_rfl
  unfold sl tl
  dsimp only at h1 h2 ⊢
  rw [run_sliceAt_slice W _ _ _ _ _ hu, run_slice_l W _ _ _ _ hu .i64 (1 : Int) (by omega) (by omega), hel, hsz]
  simp [Result.andThen, sliced]
/-- The rows that have records. -/
theorem kept_rows (w : World) (U : Nat → Prop) : ∀ (rs : List (SL × List B)), (∀ r ∈ rs, RowB w U r ∧ Rises r.2) → ∃ L : List El, L.map Prod.fst = (rs.map Prod.fst).filter keep ∧ (∀ e ∈ L, RowB w U (e.1, e.2.1) ∧ Rises e.2.1) ∧ (L.map (fun e => e.2.1)).flatten = (rs.map Prod.snd).flatten
  | [], _ => ⟨[], rfl, fun _ h => (by simp at h), rfl⟩
  | r :: t, h => by
    obtain ⟨L, h1, h2, h3⟩ := kept_rows w U t (fun x hx => h x (List.mem_cons_of_mem _ hx))
    have hr := h r (by simp)
    obtain ⟨⟨a, n, c⟩, l⟩ := r
    obtain ⟨⟨a', c', vs, e, _⟩, _⟩ := id hr
    have en : n = l.length := by
      have := congrArg (fun q : SL => q.2.1) e
      simpa using this
    by_cases hl : l = []
    · subst hl
      refine ⟨L, ?_, h2, ?_⟩
      · rw [h1, List.map_cons, List.filter_cons, if_neg (by unfold keep; simp [en])]
      · rw [h3]; simp
    · have h0 : 0 < l.length := List.length_pos_iff.2 hl
      refine ⟨((a, n, c), ⟨l, hl⟩) :: L, ?_, fun e he => ?_, ?_⟩
      · rw [List.map_cons, h1, List.map_cons, List.filter_cons, if_pos (by unfold keep; simp [en]; omega)]
      · rcases List.mem_cons.1 he with rfl | he
        · exact hr
        · exact h2 e he
      · rw [List.map_cons, List.flatten_cons, h3]; simp
/-- A list as its places. -/
def places (L : List El) : Nat → El := fun k => L.getD k ((none, 0, 0), ⟨[[]], by simp⟩)
theorem row_places (L : List El) : row (places L) L.length = L := by
  apply List.ext_getElem
  · simp [row_length]
  · intro i h1 h2
    simp [row, places, h2]
theorem places_at (L : List El) {k : Nat} {e : El} (h : L[k]? = some e) : places L k = e := by simp [places, h]
end Go.Proofs.YtndkohocgfmamaaGreat.Runs

/- runs.merge's iterator: the walk. -/
namespace Go.Proofs.YtndkohocgfmamaaGreat.Runs
open Go.RowKit Go.Deep Go.Shelf Mem Crc Go.Proofs.YtndkohocgfmamaaGreat.Merge Go.Proofs.YtndkohocgfmamaaGreat.Heap

attribute [local go_sem] Oper.semAt_some
/-- A record that is told: a slice, and what it reads as. -/
abbrev Told := SL × B
def told (x : Told) : Array Value := #[sl x.1]
/-- What whoever is told knows of it. -/
def Tells (s : List B) (B0 : Nat) (pre : List Told) (x : Told) (W : World) : Prop := pre.map Prod.snd ++ [x.2] <+: s ∧ OwnB W B0 (sl x.1) x.2
/-- The state at a loop's head. -/
structure Going (w0 : Base) (wr : World) (hb g n c : Nat) (f : Nat → El) (all : List B) (pre : List Told) : Prop where
  heads : Heads w0 wr hb g n c (fun k => (f k).1)
  up : Up w0 f n
  inv : Inv all (pre.map Prod.snd) (rw2 f) n
def AtHead (w0 : Base) (hb g c : Nat) (all : List B) (J : List Told → World → Prop) (wr : World) : Prop :=
  ∃ (n : Nat) (f : Nat → El) (pre : List Told), Going w0 wr hb g n c f all pre ∧ J pre wr
theorem own_rows {w : World} {base : Nat} {v : Value} {xs : List SL} (h : OwnR w base v xs) (hp : 0 < xs.length) : ∃ g cap, v = .slice (some ⟨g, 0, none⟩) xs.length cap ∧ xs.length ≤ cap ∧ RowsAt w g xs ∧ base ≤ g ∧ g < w.heap.size := by
  rcases h.2 with ⟨_, e⟩ | ⟨g, cap, cur, rfl, hb, hg, h2, h3, h4, h5⟩
  · omega
  · refine ⟨g, cap, rfl, h2, ⟨cur, hg, fun k y hy => ?_⟩, hb, Blk.lt (t := 73) hg⟩
    have hk := (List.getElem?_eq_some_iff.1 hy).1
    rw [← Array.getElem?_toList]
    have e : (cur.toList.take (xs.length * 1))[k]? = some (sl y) := by rw [h5, List.getElem?_map, hy]; rfl
    rw [List.getElem?_take] at e
    split at e
    · exact e
    · cases e
theorem heads_made {w0 : Base} {w : World} {g c : Nat} {xs : List SL} {x : Nat → SL} (h : RowsAt w g xs) (hb : Keeps w0 w) (hg : w0.w.heap.size ≤ g) (hgl : g < w.heap.size) (hc : xs.length ≤ c) (hf : xs.length ≤ 1000000) (hx : ∀ (k : Nat) (y : SL), xs[k]? = some y → x k = y) :
    Heads w0 (w.alloc (.cells #[.slice (some ⟨g, 0, none⟩) xs.length c] 148)) w.heap.size g xs.length c x := by
  obtain ⟨cs, h1, h2⟩ := h.row
  refine ⟨Blk.new w _ _, ⟨cs, h1.alloc _, fun k hk => ?_⟩, hc, hb.below ((Below.refl _ w).alloc (Nat.le_refl _) _) hb.size, ⟨hb.size, hg⟩, hf⟩
  obtain ⟨y, hy⟩ : ∃ y, xs[k]? = some y := ⟨xs[k], List.getElem?_eq_getElem hk⟩
  rw [hx k y hy]
  exact h2 k y hy
/-- How many records are left, as the heads tell. -/
def left (hb g : Nat) (w : World) : Nat :=
  match w.cell? ⟨hb, 0, none⟩ with
  | some (.slice _ n _) => ((List.range n).map (fun k => match w.cell? ⟨g, k, none⟩ with | some (.slice _ m _) => m | _ => 0)).sum
  | _ => 0
theorem len_recs (f : Nat → El) (n : Nat) : (recs (rw2 f) n).length = ((List.range n).map (fun k => (f k).2.1.length)).sum := by
  unfold recs row rw2
  simp [List.length_flatten, Function.comp_def]
theorem left_is {w0 : Base} {w : World} {hb g n c : Nat} {f : Nat → El} (h : Heads w0 w hb g n c (fun k => (f k).1)) (hu : Up w0 f n) : left hb g w = (recs (rw2 f) n).length := by
  have c0 : w.cell? ⟨hb, 0, none⟩ = some (.slice (some ⟨g, 0, none⟩) n c) := (Down.refl 0 h hu).cell
  obtain ⟨cs, h1, h2⟩ := h.row
  unfold left
  rw [c0, len_recs]
  show (List.map _ _).sum = _
  congr 1
  apply List.map_congr_left
  intro k hk
  have hk := List.mem_range.1 hk
  have c1 := (h1.cell k).trans (h2 k hk)
  obtain ⟨a, q, vs, e, _⟩ := (hu k hk).at_
  rw [c1, e]
theorem Going.left {w0 : Base} {wr : World} {hb g n c : Nat} {f : Nat → El} {all : List B} {pre : List Told} (h : Going w0 wr hb g n c f all pre) : pre.length + left hb g wr = all.length := by
  rw [left_is h.heads h.up]
  have := h.inv.same.length_eq
  simpa using this
theorem Going.ends {w0 : Base} {wr : World} {hb g n c : Nat} {f : Nat → El} {all s : List B} {pre : List Told} (h : Going w0 wr hb g n c f all pre) (hn : n = 0) (h1 : Rises s) (h2 : s.Perm all) : pre.map Prod.snd = s := by
  subst hn
  have hd := Merge.done h.inv
  exact sorted_one hd.1 h1 (hd.2.trans h2.symm)
/-- The front's first record, as it lies. -/
theorem front_lies {w : World} {x : SL} {r : Row} (h : RowAt w (sl x) r.1) : ∃ (p : Addr) (ra : Option Addr) (rc : Nat), x.1 = some p ∧ x.2.1 = r.1.length ∧ x.2.1 ≤ x.2.2 ∧ w.cell? p = some (.slice ra (hd r).length rc) ∧ Lies w ra ((hd r).map bv) := by
  obtain ⟨a, c, vs, e, h1, h2, h3⟩ := h
  have hr : 0 < r.1.length := List.length_pos_iff.2 r.2
  have hl := h3.len
  obtain ⟨xa, xn, xc⟩ := x
  unfold sl at e
  injection e with ea en ec
  dsimp only at ea en ec ⊢
  subst ea en ec
  rcases h2 with h2 | ⟨q, o, eq, _, hc⟩
  · rw [h2] at hl
    simp at hl
    omega
  · obtain ⟨v, hv⟩ : ∃ v, vs[0]? = some v := ⟨vs[0], List.getElem?_eq_getElem (by omega)⟩
    have h0 : r.1[0]? = some (hd r) := by
      have := hd_some r
      rwa [List.head?_eq_getElem?] at this
    obtain ⟨ra, rc, rfl, hrc, hL⟩ := h3.at_ 0 v _ hv h0
    exact ⟨⟨q, o, none⟩, ra, rc, eq, rfl, h1, hc 0 _ hv, hL⟩
theorem row_cons (r : Row) : ∃ t, r.1 = hd r :: t := ⟨r.1.tail, by
  obtain ⟨l, hl⟩ := r
  cases l with
  | nil => exact absurd rfl hl
  | cons a t => rfl⟩
/-- Behind the store of what is left of the front. -/
theorem Heads.front {w0 : Base} {w : World} {hb g N c : Nat} {x : Nat → SL} (h : Heads w0 w hb g N c x) (hN : 0 < N) (y : SL) : Heads w0 ((w.setCell ⟨g, 0, none⟩ (sl y)).drew) hb g N c (put x 0 y) ∧ Only [g] w ((w.setCell ⟨g, 0, none⟩ (sl y)).drew) := by
  obtain ⟨cs, h1, h2⟩ := h.row
  have hne := h.ne
  have ho : Only [g] w ((w.setCell ⟨g, 0, none⟩ (sl y)).drew) := ((Only.refl [g] w).set (p := ⟨g, 0, none⟩) (.inl (by simp)) _).drew
  have hsz := (Array.getElem?_eq_some_iff.1 (h2 0 hN)).1
  refine ⟨⟨Blk.only h.cell ho (by simpa using hne), ⟨_, (h1.set 0 (sl y)).drew, fun j hj => ?_⟩, h.le, h.below.only ho (by simpa using h.old.2), h.old, h.few⟩, ho⟩
  rw [Array.getElem?_setIfInBounds]
  unfold put
  by_cases e : j = 0
  · subst e
    rw [if_pos rfl, if_pos rfl, if_pos hsz]
  · rw [if_neg (Ne.symm e), if_neg e]
    exact h2 j hj
/-- A record comes out next. -/
theorem Going.next {w0 : Base} {wr : World} {hb g n c : Nat} {f : Nat → El} {all s : List B} {pre : List Told} (h : Going w0 wr hb g (n + 1) c f all pre) (h1 : Rises s) (h2 : s.Perm all) : pre.map Prod.snd ++ [hd (f 0).2] <+: s ∧ pre.length < s.length := by
  have hst := prefix_of h.inv h1 h2
  obtain ⟨t, ht⟩ := hst
  have hlen : s.length = all.length := h2.length_eq
  have hl := h.inv.same.length_eq
  have hpos : 0 < (recs (rw2 f) (n + 1)).length := List.length_pos_iff.2 (fun e => by
    have : hd (f 0).2 ∈ recs (rw2 f) (n + 1) := mem_recs.2 ⟨0, by omega, by
      obtain ⟨t, ht⟩ := row_cons (f 0).2
      rw [show (rw2 f 0).1 = (f 0).2.1 from rfl, ht]
      simp⟩
    rw [e] at this
    cases this)
  simp at hl
  refine ⟨?_, by omega⟩
  have hls := congrArg List.length ht
  simp at hls
  cases t with
  | nil => simp at hls; omega
  | cons x t =>
    have hx : x = hd (f 0).2 := by
      have hp : (x :: t).Perm (recs (rw2 f) (n + 1)) := by
        have h3 := (h2.trans h.inv.same.symm)
        rw [← ht] at h3
        exact (List.perm_append_left_iff _).1 h3
      have hr : Rises (x :: t) := by
        rw [← ht] at h1
        exact (List.pairwise_append.1 h1).2.1
      have hm1 : hd (f 0).2 ∈ x :: t := hp.mem_iff.2 (mem_recs.2 ⟨0, by omega, by
        obtain ⟨t, ht⟩ := row_cons (f 0).2
        rw [show (rw2 f 0).1 = (f 0).2.1 from rfl, ht]
        simp⟩)
      have hm2 : hd (f 0).2 ≤ x := least h.inv x (hp.mem_iff.1 (by simp))
      rcases List.mem_cons.1 hm1 with e | hm
      · exact e.symm
      · exact List.le_antisymm ((List.pairwise_cons.1 hr).1 _ hm) hm2
    exact ⟨t, by rw [← ht, hx]; simp⟩
set_option maxRecDepth 100000 in
set_option maxHeartbeats 2000000 in
theorem merge1_in (n : Nat) (hn : 2 ≤ n) (l Bs : Nat) {w0 : Base} {rs : List (SL × List B)} {ad : Addr} {c : Nat} {all s : List B} (hL : Lies w0.w (some ad) (rs.map (fun r => sl r.1))) (hlc : rs.length ≤ c) (hpos : 0 < rs.length) (hmax : rs.length ≤ 1000000)
    (hrow : ∀ r ∈ rs, RowB w0.w w0.U r ∧ Rises r.2) (hall : ((rs.map Prod.snd).flatten).Perm all) (hs1 : Rises s) (hs2 : s.Perm all) (hsh : ∀ b ∈ all, b.length ≤ 1000000) (hBs : Bs < w0.w.heap.size) (J Jx : List Told → World → Prop)
    (hJ : ∀ s X Y, J s X → Fr w0.w.heap.size mineT X Y → J s Y) (hJx : ∀ s X Y, Jx s X → Fr w0.w.heap.size mineT X Y → Jx s Y)
    (hY : ∀ pre x W, J pre W → pre.length < s.length → Tells s w0.w.heap.size pre x W → YieldAt Fence.wide (n - 1) Tryz.prog l (told x) W fun e W' =>
      (e = .returned (.bool true) ∧ J (pre ++ [x]) W' ∧ KeepT w0.U mineT W W') ∨ (e = .returned (.bool false) ∧ Jx (pre ++ [x]) W'))
    (W : World) (hB : Below w0.w.heap.size w0.w W) (hcs : W.cell? ⟨Bs, 0, none⟩ = some (.slice (some ad) rs.length c)) (h0 : J [] W) :
    CallsIn Fence.wide n Tryz.prog 77 #[.func (.yield l) #[] #[], .pointer (some ⟨Bs, 0, none⟩)] W fun e W' => (∃ v, e = .returned v) ∧
      ((∃ xs, xs.map Prod.snd = s ∧ J xs W') ∨ (∃ pre, pre.map Prod.snd <+: s ∧ Jx pre W')) := by
  have HC := Lib.hid (cloneRows_any ad c (rs.map Prod.fst) W (by rw [List.map_map]; exact (hL.later hB)) (by simpa using hmax))
  rw [List.length_map] at HC
  have HB := Lib.hid hB
  have HROW := Lib.hid hrow
  have HALL := Lib.hid hall
  have HS1 := Lib.hid hs1
  have HS2 := Lib.hid hs2
  have HSH := Lib.hid hsh
  have HY := Lib.hid hY
  have HJ := Lib.hid hJ
  have HJX := Lib.hid hJx
  have H0 := Lib.hid h0
  clear hL hB hrow hall hs1 hs2 hsh hY hJ hJx h0
  refine callsIn_of_wp Tryz.func77 rfl trivial ?_ rfl
  simp only [Tryz.ntmps77, List.size_toArray, List.length_cons, List.length_nil, Nat.reduceAdd, Nat.reduceSub, Array.replicate_succ, Array.replicate_zero, List.push_toArray, List.append_toArray, List.nil_append, List.cons_append]
  refine wpIn_wide.2 (wp_scope_straight ((wpIn_wide (n := n)).1 ?_))
  gi_wp2_with fail
  refine ⟨trivial, (fun h => by cases h), CallsIn.mono (callsIn_wide.2 HC.out) ?_⟩
  rintro e w1 ⟨v, rfl, hO, hB1⟩
  have hOR := own_rows hO (by simpa using hpos)
  rw [List.length_map] at hOR
  obtain ⟨g, cap, rfl, hcap, hR1, hg1, hgl1⟩ := hOR
  have HD := Lib.hid (deleteFunc_any w1 g rs.length cap (rs.map Prod.fst) (by simp) hR1 hmax hcap)
  have HB1 := Lib.hid hB1
  clear hR1 hO hB1 HC
  gi_wp2_with fail
  refine ⟨trivial, (fun h => by cases h), CallsIn.mono (callsIn_wide.2 HD.out) ?_⟩
  rintro e w2 ⟨rfl, hR2, hO2⟩
  obtain ⟨L, hL1, hL2, hL3⟩ := kept_rows w0.w w0.U rs HROW.out
  have hLm : L.length ≤ rs.length := by
    have h1 : (L.map Prod.fst).length ≤ (rs.map Prod.fst).length := by rw [hL1]; exact List.length_filter_le _ _
    simpa using h1
  have hLl : ((rs.map Prod.fst).filter keep).length = L.length := by rw [← hL1, List.length_map]
  rw [← hL1] at hR2
  have hb2 : Below W.heap.size W w2 := HB1.out.trans (hO2.below HB1.out.size (by simpa using hg1))
  have hW0 := HB.out.size
  have hHM := heads_made (w0 := w0) (c := cap) (x := fun k => (places L k).1) hR2 (show Keeps w0 w2 from ⟨Nat.le_trans hW0 hb2.size, fun k hk => (hb2.block k (Nat.lt_of_lt_of_le (w0.lt k hk) hW0)).trans (HB.out.block k (w0.lt k hk))⟩) (by omega) (Nat.lt_of_lt_of_le hgl1 hO2.size) (by rw [List.length_map]; omega) (by rw [List.length_map]; omega) (fun k y hy => by
    rw [List.getElem?_map, Option.map_eq_some_iff] at hy
    obtain ⟨e, he, rfl⟩ := hy
    rw [places_at L he])
  rw [List.length_map] at hHM
  rw [hLl]
  have HHM := Lib.hid hHM
  have HB2 := Lib.hid hb2
  have HL := Lib.hid (And.intro hL2 hL3)
  clear hR2 hO2 hL1 hL2 hL3 hLl hHM hb2 HD
  gi_wp2_with fail
  refine ⟨trivial, (fun h => by cases h), CallsIn.mono (callsIn_wide.2 (init_any HHM.out (fun k hk => by
    obtain ⟨e, he⟩ : ∃ e, L[k]? = some e := ⟨L[k], List.getElem?_eq_getElem hk⟩
    rw [places_at L he]
    exact (HL.out.1 e (List.mem_of_getElem? he)).1))) ?_⟩
  rintro e w4 ⟨rfl, f0, hHp, hperm, honly⟩
  have hb4 : Below W.heap.size W w4 := (HB2.out.alloc HB2.out.size _).trans (honly.below (by have := HB2.out.size; simp; omega) (by simpa using hg1))
  have hst : AtHead w0 w2.heap.size g cap all J w4 := ⟨L.length, f0, [], ⟨hHp.heads, hHp.up, inv_start hHp.heap hperm (by rw [row_places]; exact fun e he => (HL.out.1 e he).2) (by
    unfold recs
    rw [← row_rw2, row_places, List.map_map]
    have := HL.out.2
    rw [show (L.map (Subtype.val ∘ Prod.snd)).flatten = (rs.map Prod.snd).flatten from this]
    exact HALL.out)⟩, HJ.out _ _ _ H0.out (Fr.of_below hb4)⟩
  have HST := Lib.hid hst
  obtain ⟨hb, hhb⟩ : ∃ hb, hb = w2.heap.size := ⟨_, rfl⟩
  rw [← hhb] at HST ⊢
  clear hHp hperm honly hb4 hst HHM HB2 HL hhb H0 hgl1 hg1 hW0
  gi_wp2_with fail
  refine wpIn_label ?_
  gi_wp2_with fail
  gi_loopw [] (AtHead w0 hb g cap all J) (fun wr => left hb g wr)
  case atStart => exact HST.out
  case round =>
    obtain ⟨m, f, pre, hG, hJp⟩ := hrel
    have c0 : wr.cell? ⟨hb, 0, none⟩ = some (.slice (some ⟨g, 0, none⟩) m cap) := (Down.refl 0 hG.heads hG.up).cell
    have hfew := hG.heads.few
    have HG := Lib.hid hG
    have HJP := Lib.hid hJp
    have HLEN := Lib.hid (len_of wr (some ⟨g, 0, none⟩) m cap)
    clear hG hJp
    cases m with
    | zero =>
      have HE := Lib.hid (HG.out.ends rfl HS1.out HS2.out)
      gi_wp2_with fail
      refine ⟨trivial, (fun h => by cases h), CallsIn.mono (callsIn_wide.2 HLEN.out) ?_⟩
      rintro e w5 ⟨rfl, rfl⟩
      gi_wp2_with fail
      simp only [Exit.noGoto_normal]
      go_end0
      exact ⟨⟨_, rfl⟩, .inl ⟨pre, HE.out, HJP.out⟩⟩
    | succ m =>
      obtain ⟨cs, g1, g2⟩ := HG.out.heads.row
      have c1 := (g1.cell 0).trans (g2 0 (by omega))
      obtain ⟨p, ra, rc, ep, en, enc, c2, hLr⟩ := front_lies ((HG.out.up 0 (by omega)).keep HG.out.heads.below).at_
      obtain ⟨x0, hx0⟩ : ∃ x0, x0 = (f 0).1 := ⟨_, rfl⟩
      obtain ⟨b, hb0⟩ : ∃ b, b = hd (f 0).2 := ⟨_, rfl⟩
      rw [← hx0] at c1 ep en enc
      rw [← hb0] at c2 hLr
      have hSL := slice_tl x0 (by rw [en]; exact List.length_pos_iff.2 (f 0).2.2) enc
      have HX0 := Lib.hid hx0
      have HB0 := Lib.hid hb0
      have HEN := Lib.hid en
      have HENC := Lib.hid enc
      obtain ⟨nx, hnx⟩ : ∃ nx, nx = m + 1 := ⟨_, rfl⟩
      have hb100 : b.length ≤ 1000000 := HSH.out b (HG.out.inv.same.mem_iff.1 (List.mem_append_right _ (mem_recs.2 ⟨0, by omega, by
        obtain ⟨t, ht⟩ := row_cons (f 0).2
        rw [show (rw2 f 0).1 = (f 0).2.1 from rfl, ht, hb0]
        simp⟩)))
      have HCL := Lib.hid (clone_any ra rc b wr hLr (by omega))
      obtain ⟨xa, xn, xc⟩ := x0
      dsimp only at ep
      subst ep
      unfold sl at c1 hSL
      dsimp only at c1 hSL
      have hxn : 1 ≤ xn := by have := HEN.out; dsimp only at this; rw [this]; exact List.length_pos_iff.2 (f 0).2.2
      obtain ⟨q, rfl⟩ : ∃ q, xn = q + 1 := ⟨xn - 1, by omega⟩
      obtain ⟨ta, hta⟩ : ∃ ta, ta = (tl ((some p, q + 1, xc) : SL)).1 := ⟨_, rfl⟩
      have htl : tl ((some p, q + 1, xc) : SL) = (ta, q, xc - 1) := by rw [hta]; rfl
      rw [htl] at hSL
      dsimp only at hSL
      have HTL := Lib.hid htl
      clear hta htl
      have fz := g1.frozen 0
      clear g1 g2 hx0 hb0 en enc hLr
      gi_wp2_with fail
      refine ⟨trivial, (fun h => by cases h), CallsIn.mono (callsIn_wide.2 HLEN.out) ?_⟩
      rintro e w5 ⟨rfl, rfl⟩
      gi_wp2_with fail
      refine ⟨trivial, (fun h => by cases h), CallsIn.mono (callsIn_wide.2 HCL.out) ?_⟩
      rintro e w6 ⟨v6, rfl, hO6, hB6⟩
      obtain ⟨va, vc, rfl, _, _, _, _⟩ := own_shape hO6
      have hnext := HG.out.next HS1.out HS2.out
      rw [← HB0.out] at hnext
      have hJ6 := HJ.out _ _ _ HJP.out (Fr.of_below hB6)
      have hw0 := HG.out.heads.below.size
      obtain ⟨fn, tmps, assign, body, hy, hR⟩ := HY.out pre ((va, b.length, vc), b) w6 hJ6 hnext.2 ⟨hnext.1, own_mono hO6 hw0⟩
      have HH6 := Lib.hid (HG.out.heads.keep (KeepT.of_below hB6))
      have HNX := Lib.hid hnext.1
      unfold told sl at hy
      dsimp only at hy
      clear hO6 hB6 hnext hJ6 HCL
      gi_wp2_with fail
      refine ⟨(fun h => by cases h), hR.mono ?_⟩
      rintro e W3 (⟨rfl, hJ3, hk3⟩ | ⟨rfl, hJx3⟩)
      · have hh3 := HH6.out.keep hk3
        have hfr := hh3.front (by omega) ((ta, q, xc - 1) : SL)
        obtain ⟨cs3, g1, g2⟩ := hh3.row
        have c13 := (g1.cell 0).trans (g2 0 (by omega))
        rw [← HX0.out] at c13
        unfold sl at c13
        dsimp only at c13
        have fz3 := g1.frozen 0
        have c03 : W3.cell? ⟨hb, 0, none⟩ = some (.slice (some ⟨g, 0, none⟩) (m + 1) cap) := by
          have := hh3.cell.cell 0
          simpa using this
        have HFR := Lib.hid hfr
        have HJ3 := Lib.hid hJ3
        have HH3 := Lib.hid hh3
        clear hk3 hh3 hfr hJ3 g1 g2 hy HH6 c0 c1 c2 fz
        gi_wp2_with fail
        gi_region
        obtain ⟨W4, hW4⟩ : ∃ W4, W4 = (W3.setCell ⟨g, 0, none⟩ (.slice ta q (xc - 1))).drew := ⟨_, rfl⟩
        have hfr := HFR.out
        unfold sl at hfr
        dsimp only at hfr
        rw [← hW4] at hfr ⊢
        obtain ⟨hh4, ho4⟩ := hfr
        obtain ⟨cs4, g1, g2⟩ := hh4.row
        have c14 := (g1.cell 0).trans (g2 0 (by omega))
        rw [put_same] at c14
        unfold sl at c14
        dsimp only at c14
        have c04 : W4.cell? ⟨hb, 0, none⟩ = some (.slice (some ⟨g, 0, none⟩) (m + 1) cap) := by
          have := hh4.cell.cell 0
          simpa using this
        have hJ4 := HJ.out _ _ _ HJ3.out (HH3.out.fr ho4 (by simp))
        have HH4 := Lib.hid hh4
        have HJ4 := Lib.hid hJ4
        clear hW4 hh4 ho4 g1 g2 hJ4 HFR HJ3 HH3 c03 c13 fz3
        by_cases hq : q = 0
        · subst hq
          have HPOP := Lib.hid (heapPop_any (w := W4) (n := m) (f := f) (x0 := (ta, 0, xc - 1)) HH4.out (fun k h0 hk => HG.out.up k hk) HG.out.inv.heap)
          have h1 : (f 0).2.1 = [hd (f 0).2] := by
            obtain ⟨t, ht⟩ := row_cons (f 0).2
            have := HEN.out
            try dsimp only at this
            rw [ht] at this ⊢
            simp only [List.length_cons] at this
            rw [List.eq_nil_of_length_eq_zero (show t.length = 0 by omega)]
          have HONE := Lib.hid h1
          clear h1
          gi_wp2_with fail
          refine ⟨trivial, (fun h => by cases h), CallsIn.mono (callsIn_wide.2 HPOP.out) ?_⟩
          rintro e w7 ⟨⟨v7, rfl⟩, f7, hHp, hperm, honly⟩
          have HR := Lib.hid (show AtHead w0 hb g cap all J w7 ∧ left hb g w7 < left hb g wr from by
            have hgo : Going w0 w7 hb g m cap f7 all (pre ++ [((va, b.length, vc), b)]) := ⟨hHp.heads, hHp.up, by
              rw [List.map_append, show [((va, b.length, vc), b)].map Prod.snd = [hd (f 0).2] by rw [← HB0.out]; rfl]
              exact inv_pop HG.out.inv HONE.out hHp.heap hperm⟩
            refine ⟨⟨m, f7, _, hgo, HJ.out _ _ _ HJ4.out (HH4.out.fr honly (by simp))⟩, ?_⟩
            have e1 := hgo.left
            have e2 := HG.out.left
            simp at e1
            omega)
          clear hHp hperm honly
          gi_wp2_with fail
          go_roundw
          case rel => exact HR.out.1
          case measure => exact HR.out.2
        · have hq0 : ((q : Int) == 0) = false := by simpa using hq
          obtain ⟨t, ht⟩ := row_cons (f 0).2
          have htl : t.length = q := by
            have := HEN.out
            try dsimp only at this
            rw [ht] at this
            simp only [List.length_cons] at this
            omega
          have ht0 : t ≠ [] := fun e => hq (by rw [← htl, e]; rfl)
          obtain ⟨y, hy0⟩ : ∃ y : El, y = ((ta, q, xc - 1), ⟨t, ht0⟩) := ⟨_, rfl⟩
          have hput : (fun k => (put f 0 y k).1) = put (fun k => (f k).1) 0 (ta, q, xc - 1) := by
            funext k
            unfold put
            split
            · rw [hy0]
            · rfl
          have hH4 := HH4.out
          rw [← hput] at hH4
          have hup : Up w0 (put f 0 y) (m + 1) := fun k hk => by
            by_cases e : k = 0
            · subst e
              rw [put_same, hy0]
              have h0 := HG.out.up 0 hk
              rw [← HX0.out, ht] at h0
              have h1 := rowB_tl h0
              rw [HTL.out] at h1
              exact h1
            · rw [put_other _ _ e]
              exact HG.out.up k hk
          have HFIX := Lib.hid (fix_any hH4 hup (heap_put HG.out.inv.heap))
          have HTT := Lib.hid (show (f 0).2.1 = hd (f 0).2 :: y.2.1 by rw [hy0]; exact ht)
          clear hH4 hup hput hy0 htl ht ht0
          gi_wp2_with fail
          refine ⟨trivial, (fun h => by cases h), CallsIn.mono (callsIn_wide.2 HFIX.out) ?_⟩
          rintro e w7 ⟨rfl, f7, hHp, hperm, honly⟩
          have HR := Lib.hid (show AtHead w0 hb g cap all J w7 ∧ left hb g w7 < left hb g wr from by
            have hgo : Going w0 w7 hb g (m + 1) cap f7 all (pre ++ [((va, b.length, vc), b)]) := ⟨hHp.heads, hHp.up, by
              rw [List.map_append, show [((va, b.length, vc), b)].map Prod.snd = [hd (f 0).2] by rw [← HB0.out]; rfl]
              exact inv_fix HG.out.inv (by omega) HTT.out hHp.heap hperm⟩
            refine ⟨⟨m + 1, f7, _, hgo, HJ.out _ _ _ HJ4.out (HH4.out.fr honly (by simp))⟩, ?_⟩
            have e1 := hgo.left
            have e2 := HG.out.left
            simp at e1
            omega)
          clear hHp hperm honly
          gi_wp2_with fail
          go_roundw
          case rel => exact HR.out.1
          case measure => exact HR.out.2
      · gi_wp2_with fail
        simp only [Exit.noGoto_ret]
        refine bodyPost_ret (results_none rfl _ _ _) rfl ?_
        exact ⟨⟨_, rfl⟩, .inr ⟨pre ++ [((va, b.length, vc), b)], by rw [List.map_append]; exact HNX.out, hJx3⟩⟩
set_option maxHeartbeats 400000 in
/-- What merge hands back. -/
theorem merge_any (w : World) (a : Option Addr) (n c : Nat) : Calls Tryz.prog 50 #[.slice a n c] w fun e w' => e = .returned (.func (.func 77) #[] #[.pointer (some ⟨w.heap.size, 0, none⟩)]) ∧ w' = w.alloc (.cells #[.slice a n c] 106) := by
  go_enter Tryz.func50, Tryz.ntmps50
  go_wp2_with fail
  go_ret
  exact ⟨rfl, rfl⟩
open Go.Proofs.YtndkohocgfmamaaGreat.Sees in
/-- A merge, ranged over. -/
theorem merge_sees (n : Nat) (hn : 2 ≤ n) (Bs : Nat) {w0 : Base} {rs : List (SL × List B)} {ad : Addr} {c : Nat} {all s : List B} (hL : Lies w0.w (some ad) (rs.map (fun r => sl r.1))) (hlc : rs.length ≤ c) (hpos : 0 < rs.length) (hmax : rs.length ≤ 1000000)
    (hrow : ∀ r ∈ rs, RowB w0.w w0.U r ∧ Rises r.2) (hall : ((rs.map Prod.snd).flatten).Perm all) (hs1 : Rises s) (hs2 : s.Perm all) (hsh : ∀ b ∈ all, b.length ≤ 1000000) (hBs : Bs < w0.w.heap.size) (hcs : w0.w.cell? ⟨Bs, 0, none⟩ = some (.slice (some ad) rs.length c)) :
    SeqSees Fence.wide n Tryz.prog 77 #[.pointer (some ⟨Bs, 0, none⟩)] told (Fr w0.w.heap.size mineT) (KeepT w0.U mineT) (Tells s w0.w.heap.size) (fun xs => xs.map Prod.snd = s) (fun pre => pre.map Prod.snd <+: s) s.length w0.w :=
  fun l J Jx W hB hJ hJx hY h0 => merge1_in n hn l Bs hL hlc hpos hmax hrow hall hs1 hs2 hsh hBs J Jx hJ hJx hY W hB ((hB.cell (p := ⟨Bs, 0, none⟩) hBs).trans hcs) h0
end Go.Proofs.YtndkohocgfmamaaGreat.Runs

/- Layer 13: a sorter's representation; the runs' names. -/
namespace Go.Proofs.YtndkohocgfmamaaGreat.Runs
open Go.RowKit Go.Deep Go.Shelf Mem Crc Go.Proofs.YtndkohocgfmamaaGreat.Merge
open Go.Proofs.YtndkohocgfmamaaGreat.Store (Sto Files setF nv)
open Go.Proofs.YtndkohocgfmamaaGreat.Text (dec)

attribute [local go_sem] Oper.semAt_some
/-- A run's name. -/
def rname (pf : List UInt8) (k : Nat) : List UInt8 := pf ++ dec k
/-- A sorter's fields. -/
structure Fi where
  s : Nat
  pf : List UInt8
  wd : Nat
  rm : Nat
def Fi.ok (A : Fi) : Prop := 1 ≤ A.pf.length ∧ A.pf.length ≤ 16 ∧ 1 ≤ A.wd ∧ A.wd ≤ 64 ∧ 1 ≤ A.rm ∧ A.rm ≤ 4096
def sorterC (A : Fi) (fi ne : Nat) (hv : Value) : Array Value := #[.pointer (some ⟨A.s, 0, none⟩), nv A.pf, .int .i64 A.wd, .int .i64 A.rm, .int .i64 fi, .int .i64 ne, hv]
/-- The memory's records: their row is hv's block, the records' blocks are in R. -/
structure HeldAt (w : World) (R : Nat → Prop) (wd : Nat) (hv : Value) (vs : List SL) (held : List B) : Prop where
  own : OwnL w 0 hv vs
  recs : RecsIn w (vs.map sl) held
  wide : ∀ b ∈ held, b.length = wd
  rb : ∀ y ∈ vs, ∀ g, Mem.blk y.1 = some g → R g
  rlt : ∀ g, R g → g < w.heap.size
  apart : ∀ g, R g → hv.ownBlock ≠ some g
/-- A sorter at block x over a store in Q. -/
structure Srt {s : Nat} (S : Store.Sto s) (A : Fi) (w : World) (Q R : Nat → Prop) (off : Bool) (F : Files) (n : Nat) (x ne : Nat) (hv : Value) (vs : List SL) (held : List B) : Prop where
  sIs : A.s = s
  blk : Blk w x 95 (sorterC A 0 ne hv)
  sto : S.At w Q off F n
  mem : HeldAt w R A.wd hv vs held
  rq : ∀ g, R g → ¬ Q g ∧ g ≠ x
  hq : ∀ g, hv.ownBlock = some g → ¬ Q g ∧ g ≠ x
  xq : ¬ Q x
  ok : A.ok
  room : List.length held ≤ A.rm
  few : ne ≤ 1000000
theorem HeldAt.keep {w w' : World} {R : Nat → Prop} {wd : Nat} {hv : Value} {vs : List SL} {held : List B} (h : HeldAt w R wd hv vs held) {P : Nat → Prop} (hu : Upon P w w') (hR : ∀ g, R g → ¬ P g) (hh : ∀ g, hv.ownBlock = some g → ¬ P g) : HeldAt w' R wd hv vs held :=
  ⟨own_upon h.own hu hh, ⟨h.recs.len, fun i v b hv' hb => by
    obtain ⟨a, c, e, h1, h2⟩ := h.recs.at_ i v b hv' hb
    refine ⟨a, c, e, h1, h2.upon hu (fun g hg => ?_)⟩
    rw [List.getElem?_map, Option.map_eq_some_iff] at hv'
    obtain ⟨y, hy, e2⟩ := hv'
    have ey : y.1 = a := by
      rw [e] at e2
      unfold sl at e2
      injection e2
    exact hR g (h.rb y (List.mem_of_getElem? hy) g (by rw [ey]; exact hg))⟩, h.wide, h.rb, fun g hg => Nat.lt_of_lt_of_le (h.rlt g hg) hu.size, h.apart⟩
theorem Srt.keep {s : Nat} {S : Sto s} {A : Fi} {w w' : World} {Q R : Nat → Prop} {off : Bool} {F : Files} {n x ne : Nat} {hv : Value} {vs : List SL} {held : List B} (h : Srt S A w Q R off F n x ne hv vs held) {P : Nat → Prop} (hu : Upon P w w') (hQ : ∀ g, Q g → ¬ P g) (hR : ∀ g, R g → ¬ P g) (hh : ∀ g, hv.ownBlock = some g → ¬ P g) (hx : ¬ P x) : Srt S A w' Q R off F n x ne hv vs held :=
  ⟨h.sIs, h.blk.upon hu hx, S.upon h.sto hu (fun k hp hq => hQ k hq hp), h.mem.keep hu hR hh, h.rq, h.hq, h.xq, h.ok, h.room, h.few⟩
theorem Srt.later {s : Nat} {S : Sto s} {A : Fi} {w w' : World} {Q R : Nat → Prop} {off : Bool} {F : Files} {n x ne : Nat} {hv : Value} {vs : List SL} {held : List B} (h : Srt S A w Q R off F n x ne hv vs held) (hB : Below w.heap.size w w') : Srt S A w' Q R off F n x ne hv vs held :=
  h.keep (P := fun _ => False) (Upon.of_below hB) (fun _ _ h => h) (fun _ _ h => h) (fun _ _ h => h) (fun h => h)
theorem Srt.cell {s : Nat} {S : Sto s} {A : Fi} {w : World} {Q R : Nat → Prop} {off : Bool} {F : Files} {n x ne : Nat} {hv : Value} {vs : List SL} {held : List B} (h : Srt S A w Q R off F n x ne hv vs held) (i : Nat) : w.cell? ⟨x, i, none⟩ = (sorterC A 0 ne hv)[i]? := h.blk.cell i
theorem app_name (pf ds : List UInt8) : ((⟨pf.toArray⟩ : ByteArray) ++ (⟨ds.toArray⟩ : ByteArray)) = ⟨(pf ++ ds).toArray⟩ := by
  apply ByteArray.ext
  simp
theorem dec_ne (k : Nat) : dec k ≠ [] := by
  have h : ∀ (f n : Nat) (acc : List UInt8), (f ≠ 0 ∨ acc ≠ []) → Go.Proofs.YtndkohocgfmamaaGreat.Text.decA f n acc ≠ [] := by
    intro f
    induction f with
    | zero =>
      intro n acc h
      rcases h with h | h
      · exact absurd rfl h
      · exact h
    | succ f ih =>
      intro n acc _
      unfold Go.Proofs.YtndkohocgfmamaaGreat.Text.decA
      split
      · simp
      · exact ih _ _ (.inr (by simp))
  exact h 20 k [] (.inl (by decide))
theorem dec_len (k : Nat) : (dec k).length ≤ 20 := by
  have := Go.Proofs.YtndkohocgfmamaaGreat.Text.decA_length 20 k []
  rw [List.length_nil, Nat.zero_add] at this
  exact this
theorem conv_dec (k : Nat) {va : Option Addr} {vc : Nat} {w : World} (hL : Lies w va ((dec k).map bv)) : (convert 45 9 (.slice va (dec k).length vc)).run Tryz.prog w = .ok (.string ⟨(dec k).toArray⟩) w := by
  obtain ⟨g, off, rfl, _, hc⟩ := hL.resolve_left (fun e => by
    rw [List.map_eq_nil_iff] at e
    exact dec_ne k e)
  exact run_convert_bytes_back w 45 9 5 _ vc _ Tryz.underlying45 Tryz.underlying5 Tryz.underlying9 (fun j hj => lies_add (.inr ⟨g, off, rfl, by assumption, hc⟩) j _ (by simp [hj, bv]))
set_option maxHeartbeats 1000000 in
set_option maxRecDepth 100000 in
theorem name_any (pf : List UInt8) (hpf : pf.length ≤ 16) (k : Nat) (hk : k ≤ 1000000) (x : Nat) (w : World) (h : w.cell? ⟨x, 1, none⟩ = some (nv pf)) (hx : x < w.heap.size) :
    Calls Tryz.prog 42 #[.pointer (some ⟨x, 0, none⟩), .int .i64 k] w fun e w' => e = .returned (nv (rname pf k)) ∧ Below w.heap.size w w' := by
  have hw : IntKind.u64.wrap (k : Int) = k := IntWalk.u64_in _ (by omega)
  have HP := Lib.hid (Go.Proofs.YtndkohocgfmamaaGreat.Text.put_nil k w.drew (by omega))
  have HX := Lib.hid hx
  have HD := Lib.hid (fun (va : Option Addr) (vc : Nat) (w2 : World) (hL : Lies w2 va ((dec k).map bv)) => conv_dec k (vc := vc) hL)
  obtain ⟨ds, hds⟩ : ∃ ds, ds = dec k := ⟨_, rfl⟩
  have hlim : pf.length + ds.length ≤ 9223372036854775807 := by rw [hds]; have := dec_len k; omega
  have HN := Lib.hid (show nv (rname pf k) = .string ((⟨pf.toArray⟩ : ByteArray) ++ (⟨ds.toArray⟩ : ByteArray)) by rw [app_name, hds]; rfl)
  rw [← hds] at HP HD
  unfold nv at h
  clear hx hds
  go_enter Tryz.func42, Tryz.ntmps42
  go_wp2_with fail
  go_region_with ((go_at_call 29; refine HP.out.mono ?_; rintro e w2 ⟨v, rfl, hO, hB2⟩; obtain ⟨va, vc, rfl, _, hL, _, _⟩ := own_shape hO; have hk2 := (hB2.cell (p := ⟨x, 1, none⟩) HX.out).trans h; have hcv := HD.out va vc w2 hL; clear hO hL))
  all_goals
    go_wp2_with fail
    go_ret
    exact ⟨by rw [HN.out]; rfl, ((Below.refl w.heap.size w).drew).trans hB2⟩
end Go.Proofs.YtndkohocgfmamaaGreat.Runs

/- Layer 13: Put and Flush of a sorter. -/
namespace Go.Proofs.YtndkohocgfmamaaGreat.Runs
open Go.RowKit Go.Deep Go.Shelf Mem Crc Go.Proofs.YtndkohocgfmamaaGreat.Merge
open Go.Proofs.YtndkohocgfmamaaGreat.Store (Sto Files setF nv)
open Go.Proofs.YtndkohocgfmamaaGreat.Text (dec)

attribute [local go_sem] Oper.semAt_some
/-- The memory's records, rising, as a fresh row. -/
structure SortedAt (w w' : World) (vs : List SL) (held : List B) (v : Value) (vs' : List SL) (l' : List B) : Prop where
  len : vs'.length = vs.length
  own : OwnL w' w.heap.size v vs'
  recs : RecsIn w' (vs'.map sl) l'
  perm : l'.Perm held
  rises : Rises l'
  sub : ∀ y ∈ vs', y ∈ vs
  below : Below w.heap.size w w'
set_option maxHeartbeats 1000000 in
theorem sorted_any (x : Nat) {w : World} {R : Nat → Prop} {wd : Nat} {hv : Value} {vs : List SL} {held : List B} (h : HeldAt w R wd hv vs held) (hx : w.cell? ⟨x, 6, none⟩ = some hv) (hne : 1 ≤ wd) (hn : vs.length ≤ 1000000) :
    Calls Tryz.prog 47 #[.pointer (some ⟨x, 0, none⟩)] w fun e w' => ∃ v vs' l', e = .returned v ∧ SortedAt w w' vs held v vs' l' := by
  obtain ⟨a, c, rfl, hc, hL, _, _⟩ := own_shape h.own
  have HV := Lib.hid (callsIn_wide.1 (values_in Fence.wide 0 trivial rfl a vs.length c w))
  obtain ⟨W, hW⟩ : ∃ W, W = w.alloc (.cells #[.slice a vs.length c] 73) := ⟨_, rfl⟩
  have hB : Below w.heap.size w W := by rw [hW]; exact (Below.refl _ w).alloc (Nat.le_refl _) _
  have hbc : W.cell? ⟨w.heap.size, 0, none⟩ = some (.slice a vs.length c) := by rw [hW, (Blk.new w _ _).cell]; rfl
  have hsz : w.heap.size < W.heap.size := by rw [hW]; simp
  have HS := Lib.hid (sortedFunc_any (w0 := w) (l := held) W w.heap.size hsz hL hc hn hB hbc (h.recs.later hB) (fun b hb e => by
    have := h.wide b hb
    rw [e] at this
    simp at this
    omega))
  have HB := Lib.hid hB
  rw [← hW] at HV
  clear h hL hB hbc hsz hW
  go_enter Tryz.func47, Tryz.ntmps47
  go_wp2_with fail
  refine HV.out.mono ?_
  rintro e w1 ⟨rfl, rfl⟩
  go_wp2_with fail
  refine HS.out.mono ?_
  rintro e w2 ⟨v, vs', l', rfl, h1, h2, h3, h4, h5, h6, h7⟩
  have HR := Lib.hid (show SortedAt w w2 vs held v vs' l' from ⟨h1, own_mono h2 HB.out.size, h3, h4, h5, h6, HB.out.trans (h7.mono HB.out.size)⟩)
  clear h1 h2 h3 h4 h5 h6 h7
  go_wp2_with fail
  go_ret
  exact ⟨_, vs', l', rfl, HR.out⟩
/-- Records, rising. -/
def sortB (l : List B) : List B := l.mergeSort (fun x y => decide (x ≤ y))
theorem sortB_perm (l : List B) : (sortB l).Perm l := List.mergeSort_perm _ _
theorem sortB_rises (l : List B) : Rises (sortB l) := by
  have := List.pairwise_mergeSort (le := fun x y : B => decide (x ≤ y)) (fun a b c h k => by simp at h k ⊢; exact List.le_trans h k) (fun a b => by simp; exact List.le_total a b) l
  exact this.imp (fun h => by simpa using h)
theorem sortB_eq {l l' : List B} (h1 : l'.Perm l) (h2 : Rises l') : l' = sortB l := sorted_one h2 (sortB_rises l) (h1.trans (sortB_perm l).symm)
/-- A run's bytes. -/
def runB (l : List B) : List UInt8 := Go.Proofs.YtndkohocgfmamaaGreat.Frame.frameL 82 (sortB l).flatten
theorem flat_wide {l : List B} {wd : Nat} (h : ∀ b ∈ l, b.length = wd) : l.flatten.length = l.length * wd := by
  induction l with
  | nil => simp
  | cons a t ih =>
    rw [List.flatten_cons, List.length_append, ih (fun b hb => h b (List.mem_cons_of_mem _ hb)), h a (by simp), List.length_cons, Nat.succ_mul]
    omega
theorem sort_wide {l : List B} {wd : Nat} (h : ∀ b ∈ l, b.length = wd) : ∀ b ∈ sortB l, b.length = wd := fun b hb => h b ((sortB_perm l).mem_iff.1 hb)
theorem flat_sort {l : List B} {wd : Nat} (h : ∀ b ∈ l, b.length = wd) : (sortB l).flatten.length = l.length * wd := by rw [flat_wide (sort_wide h), (sortB_perm l).length_eq]
theorem runB_len {l : List B} {wd : Nat} (h : ∀ b ∈ l, b.length = wd) : (runB l).length = l.length * wd + 13 := by unfold runB; rw [Go.Proofs.YtndkohocgfmamaaGreat.Frame.frameL_length, flat_sort h]
theorem decA_digits : ∀ (d f n : Nat) (acc : List UInt8), n < 10 ^ (d + 1) → d < f → (Go.Proofs.YtndkohocgfmamaaGreat.Text.decA f n acc).length ≤ acc.length + d + 1
  | _, 0, _, _, _, h => absurd h (Nat.not_lt_zero _)
  | 0, f + 1, n, acc, hn, _ => by
    unfold Go.Proofs.YtndkohocgfmamaaGreat.Text.decA
    rw [if_pos (by omega)]
    simp
  | d + 1, f + 1, n, acc, hn, hf => by
    unfold Go.Proofs.YtndkohocgfmamaaGreat.Text.decA
    split
    · simp
    · have := decA_digits d f (n / 10) (Go.Proofs.YtndkohocgfmamaaGreat.Text.dig n :: acc) (by rw [Nat.div_lt_iff_lt_mul (by decide), ← Nat.pow_succ]; exact hn) (by omega)
      simp at this
      omega
theorem rname_len {A : Fi} (h : A.ok) (k : Nat) (hk : k ≤ 1000000) : 1 ≤ (rname A.pf k).length ∧ (rname A.pf k).length ≤ 32 := by
  have h1 : (dec k).length ≤ 7 := by
    have := decA_digits 6 20 k [] (by omega) (by decide)
    unfold dec
    simpa using this
  obtain ⟨h2, h3, _⟩ := h
  unfold rname
  rw [List.length_append]
  omega
/-- A state and its files, behind a flush. -/
structure Flushed {s : Nat} (S : Store.Sto s) (A : Fi) (w w' : World) (Q : Nat → Prop) (F : Files) (n x ne : Nat) (held : List B) (Q' : Nat → Prop) : Prop where
  srt : Srt S A w' Q' (fun _ => False) false (setF F (rname A.pf ne) (some (runB held))) (n + 1) x (ne + 1) (.slice none 0 0) [] []
  q : ∀ k, Q' k → Q k ∨ w.heap.size ≤ k
  upon : Upon (fun k => Q k ∨ k = x) w w'
theorem held_none (w : World) (wd : Nat) : HeldAt w (fun _ => False) wd (.slice none 0 0) [] [] :=
  ⟨World.ownsRow_nil _ _ _ _, recsIn_nil w, fun _ h => by simp at h, fun _ h => by simp at h, fun _ h => h.elim, fun _ h => h.elim⟩
set_option maxHeartbeats 2000000 in
set_option maxRecDepth 100000 in
theorem flush_any {s : Nat} {S : Store.Sto s} {A : Fi} {w : World} {Q R : Nat → Prop} {F : Files} {n x ne : Nat} {hv : Value} {vs : List SL} {held : List B} (h : Srt S A w Q R false F n x ne hv vs held) (h0 : held ≠ []) (hn : n < 100000) (hne : ne < 100000) :
    Calls Tryz.prog 25 #[.pointer (some ⟨x, 0, none⟩)] w fun e w' => e = .returned (.int .i64 0) ∧ ∃ Q', Flushed S A w w' Q F n x ne held Q' := by
  obtain rfl := h.sIs
  have hok := h.ok
  obtain ⟨k1, k2, k3, k4, k5, k6⟩ := id hok
  have hlv : vs.length = held.length := by simpa using h.mem.recs.len
  have hroom := h.room
  have hpos : 0 < held.length := List.length_pos_iff.2 h0
  have c6 := h.cell 6
  simp [sorterC] at c6
  have HS := Lib.hid (sorted_any x h.mem c6 k3 (by omega))
  obtain ⟨a, c, rfl, hc, _, _, _⟩ := own_shape h.mem.own
  have h00 : ((vs.length : Int) == 0) = false := by
    have : ¬ (vs.length : Int) = 0 := by omega
    simpa using this
  have HXL := Lib.hid h.blk.lt
  have H := Lib.hid h
  have HLV := Lib.hid hlv
  clear h hlv
  go_enter Tryz.func25, Tryz.ntmps25
  go_wp2_with fail
  refine HS.out.mono ?_
  rintro e w1 ⟨v, vs', l', rfl, hS⟩
  have hl' : l' = sortB held := sortB_eq hS.perm hS.rises
  subst hl'
  obtain ⟨va, vc, rfl, hvc, hL, _, _⟩ := own_shape hS.own
  have HSEC := Lib.hid (section_any w1 hL hvc hS.recs (fun b hb e => by
    have := sort_wide H.out.mem.wide b hb
    rw [e] at this
    simp at this
    omega) (by
    rw [flat_sort H.out.mem.wide]
    have h2 := Nat.mul_le_mul (Nat.le_trans hroom k6) k4
    omega) (by rw [(sortB_perm held).length_eq]; omega))
  have HSR := Lib.hid hS.below
  clear hS hL HS c6
  go_wp2_with fail
  refine HSEC.out.mono ?_
  rintro e w2 ⟨v2, rfl, hO2, hB2⟩
  have h2 := H.out.later (HSR.out.trans (hB2.mono HSR.out.size))
  have hBB : Below w.heap.size w w2 := HSR.out.trans (hB2.mono HSR.out.size)
  obtain ⟨va2, vc2, rfl, hvc2, hL2, _, _⟩ := own_shape hO2
  have HH2 := Lib.hid h2
  have HBB := Lib.hid hBB
  have HL2 := Lib.hid hL2
  clear hBB hL2 hO2 hB2 h2 HSEC HSR
  obtain ⟨bs, hbs⟩ : ∃ bs, bs = Go.Proofs.YtndkohocgfmamaaGreat.Frame.frameL 82 (sortB held).flatten := ⟨_, rfl⟩
  rw [← hbs] at HL2 ⊢
  have hbl : bs.length ≤ 1048576 := by
    rw [hbs, Go.Proofs.YtndkohocgfmamaaGreat.Frame.frameL_length, flat_sort H.out.mem.wide]
    have h2 := Nat.mul_le_mul (Nat.le_trans hroom k6) k4
    omega
  have hnl := rname_len hok ne (by omega)
  have q0 := HH2.out.cell 0
  have q1 := HH2.out.cell 1
  have q5 := HH2.out.cell 5
  simp [sorterC] at q0 q1 q5
  have hxl : x < w2.heap.size := HH2.out.blk.lt
  have HNM := Lib.hid (name_any A.pf k2 ne (by omega) x w2.drew q1 hxl)
  have HWR := Lib.hid (fun (w3 : World) (hB3 : Below w2.heap.size w2 w3) => S.write (S.later HH2.out.sto hB3) hn (rname A.pf ne) hnl.1 hnl.2 va2 vc2 bs (HL2.out.later hB3) hbl)
  obtain ⟨nm, hnm⟩ : ∃ nm, nm = nv (rname A.pf ne) := ⟨_, rfl⟩
  rw [← hnm] at HNM HWR
  have HXQ := Lib.hid H.out.xq
  have HBS := Lib.hid hbs
  have HXL2 := Lib.hid hxl
  have HDR := Lib.hid ((Below.refl w2.heap.size w2).drew)
  clear hbs hnm hxl q1 hbl hnl HXL
  go_wp2_with fail
  go_region_held3 (fun w' => w'.cell? ⟨x, 0, none⟩ = some (.pointer (some ⟨A.s, 0, none⟩)) ∧ w'.cell? ⟨x, 5, none⟩ = some (.int .i64 (ne : Int))) (first | exact ⟨q0, q5⟩ | exact hk3 | exact hk4) ((first | (go_at_call 42; refine HNM.out.mono ?_; rintro e w3 ⟨rfl, hB3⟩; have hB3 := HDR.out.trans hB3; have hk3 := And.intro ((hB3.cell (p := ⟨x, 0, none⟩) HXL2.out).trans q0) ((hB3.cell (p := ⟨x, 5, none⟩) HXL2.out).trans q5); dsimp only) | (go_at_call 48; refine (HWR.out w3 hB3).mono ?_; rintro e w4 ⟨rfl, Q4, hst4, hq4, hu4⟩; have hk4 := And.intro ((World.cell?_of_block (a := ⟨x, 0, none⟩) (hu4.block x (Nat.lt_of_lt_of_le HXL2.out hB3.size) HXQ.out)).trans hk3.1) ((World.cell?_of_block (a := ⟨x, 5, none⟩) (hu4.block x (Nat.lt_of_lt_of_le HXL2.out hB3.size) HXQ.out)).trans hk3.2); dsimp only)))
  have hb4 : Blk w4 x 95 (sorterC A 0 ne (.slice a vs.length c)) := (HH2.out.blk.below hB3 HXL2.out).upon hu4 HXQ.out
  have hqx : ¬ Q4 x := fun h => (hq4 x h).elim HXQ.out (fun h => by have := Nat.lt_of_lt_of_le HXL2.out hB3.size; omega)
  have f5 := hb4.frozen 5
  have f6 := hb4.frozen 6
  have g5 := hk4.2
  have g6 := hb4.cell 6
  simp [sorterC] at g6
  have HE : Hid (∃ Q', Flushed S A w ((w4.setCell ⟨x, 5, none⟩ (.int .i64 ((ne : Int) + 1))).setCell ⟨x, 6, none⟩ (.slice none 0 0)) Q F n x ne held Q') := Lib.hid (by
    obtain ⟨W, hW⟩ : ∃ W, W = (w4.setCell ⟨x, 5, none⟩ (.int .i64 ((ne : Int) + 1))).setCell ⟨x, 6, none⟩ (.slice none 0 0) := ⟨_, rfl⟩
    have ho : Only [x] w4 W := by rw [hW]; exact ((Only.refl [x] w4).set (p := ⟨x, 5, none⟩) (.inl (by simp)) _).set (p := ⟨x, 6, none⟩) (.inl (by simp)) _
    have hbW : Blk W x 95 (sorterC A 0 (ne + 1) (.slice none 0 0)) := by
      have := (hb4.set 5 (.int .i64 ((ne : Int) + 1))).set 6 (.slice none 0 0)
      rw [← hW] at this
      simpa [sorterC] using this
    rw [← hW]
    refine ⟨Q4, ⟨⟨rfl, hbW, ?_, held_none W A.wd, fun _ h => h.elim, (fun _ h => by cases h), hqx, hok, by simp, by omega⟩, fun k hk => ?_, ?_⟩⟩
    · have := S.keep hst4 ho.size (fun k hk => ho.block k (S.lt hst4 k hk) (by rintro h; rw [List.mem_singleton.1 h] at hk; exact hqx hk))
      rw [HBS.out] at this
      exact this
    · rcases hq4 k hk with h | h
      · exact .inl h
      · right
        have := HBB.out.size
        have := hB3.size
        omega
    · have h1 : Upon (fun k => Q k ∨ k = x) w w2 := Upon.of_below HBB.out
      have h2 : Upon (fun k => Q k ∨ k = x) w2 w4 := ((Upon.of_below (P := fun k => Q k ∨ k = x) hB3).trans (hu4.mono (fun k h => .inl h)) (fun g h => .inl h))
      have h3 : Upon (fun k => Q k ∨ k = x) w4 W := Upon.of_only ho (fun g hg => .inl (.inr (List.mem_singleton.1 hg)))
      exact (h1.trans h2 (fun g h => .inl h)).trans h3 (fun g h => .inl h))
  clear hst4 hq4 hu4 hb4 hqx hB3 hk3 hk4 q0 q5 HWR HNM
  go_wp2_with fail
  go_ret
  exact ⟨rfl, HE.out⟩
end Go.Proofs.YtndkohocgfmamaaGreat.Runs

/- Layer 13: Put of a sorter. -/
namespace Go.Proofs.YtndkohocgfmamaaGreat.Runs
open Go.RowKit Go.Deep Go.Shelf Mem Crc Go.Proofs.YtndkohocgfmamaaGreat.Merge
open Go.Proofs.YtndkohocgfmamaaGreat.Store (Sto Files setF nv)

attribute [local go_sem] Oper.semAt_some
/-- A record more in memory. -/
structure Putted {s : Nat} (S : Store.Sto s) (A : Fi) (w w' : World) (Q R : Nat → Prop) (off : Bool) (F : Files) (n x ne : Nat) (hv : Value) (held : List B) (R' : Nat → Prop) (hv' : Value) (vs' : List SL) : Prop where
  srt : Srt S A w' Q R' off F n x ne hv' vs' held
  r : ∀ k, R' k → R k ∨ w.heap.size ≤ k
  r0 : ∀ k, R k → R' k
  h : ∀ k, hv'.ownBlock = some k → hv.ownBlock = some k ∨ w.heap.size ≤ k
  upon : Upon (fun k => k = x ∨ hv.ownBlock = some k) w w'
theorem own_len_shape {w : World} {base bl : Nat} {v : Value} {b : B} (h : bl = b.length) (hO : OwnB w base v b) : ∃ a c, v = .slice a bl c := by
  obtain ⟨a, c, e, _⟩ := own_shape hO
  exact ⟨a, c, by rw [e, h]⟩
set_option maxHeartbeats 2000000 in
set_option maxRecDepth 100000 in
theorem put_end {s : Nat} {S : Store.Sto s} {A : Fi} {w w1 w2 : World} {Q R : Nat → Prop} {off : Bool} {F : Files} {n x ne : Nat} {hv : Value} {vs : List SL} {held : List B} {b : B} (h : Srt S A w Q R off F n x ne hv vs held) (hb : b.length = A.wd) (hroom : held.length < A.rm)
    {va : Option Addr} {vc : Nat} (hB1 : Below w.heap.size w w1) (hO1 : OwnB w1 w.heap.size (.slice va b.length vc) b) {g3 cap3 : Nat} (hown : w2.ownsRow 0 45 1 (.slice (some ⟨g3, 0, none⟩) (vs.length + 1) cap3) (vs.length + 1) (vs.map sl ++ [.slice va b.length vc]))
    (hg : (w1.alloc (.cells #[.slice va b.length vc] 45)).grownBy w2 hv.ownBlock) (hat : hv.ownBlock = some g3 ∨ g3 = (w1.alloc (.cells #[.slice va b.length vc] 45)).heap.size) :
    ∃ R' hv' vs', Putted S A w (w2.setCell ⟨x, 6, none⟩ (.slice (some ⟨g3, 0, none⟩) (vs.length + 1) cap3)) Q R off F n x ne hv (held ++ [b]) R' hv' vs' := by
  obtain ⟨W, hW⟩ : ∃ W, W = w2.setCell ⟨x, 6, none⟩ (.slice (some ⟨g3, 0, none⟩) (vs.length + 1) cap3) := ⟨_, rfl⟩
  rw [← hW]
  obtain ⟨_, _, _, _, hL1, hbl, _⟩ := own_shape hO1
  have hz1 := hB1.size
  have hz2 := hg.size
  simp at hz2
  -- what stood before the append
  have hB2 : Below w.heap.size w (w1.alloc (.cells #[.slice va b.length vc] 45)) := hB1.alloc hz1 _
  have h2 := h.later hB2
  have hug : Upon (fun k => hv.ownBlock = some k) (w1.alloc (.cells #[.slice va b.length vc] 45)) w2 := Upon.of_grown hg (fun k hk => .inl hk)
  have huW : Upon (fun k => k = x) w2 W := by rw [hW]; exact (Upon.refl (fun k => k = x) w2).set (p := ⟨x, 6, none⟩) (.inl rfl) _
  have hu : Upon (fun k => k = x ∨ hv.ownBlock = some k) (w1.alloc (.cells #[.slice va b.length vc] 45)) W := (hug.mono (fun k h => .inr h)).trans (huW.mono (fun k h => .inl h)) (fun k h => .inl h)
  have hxo : hv.ownBlock ≠ some x := fun e => (h.hq x e).2 rfl
  have hg3x : g3 ≠ x := fun e => by
    rcases hat with e2 | e2
    · exact hxo (by rw [e2, e])
    · have := h2.blk.lt
      omega
  have hg3r : ∀ k, R k → k ≠ g3 := fun k hk e => by
    rcases hat with e2 | e2
    · exact h.mem.apart k hk (by rw [e2, e])
    · have := h2.mem.rlt k hk
      omega
  refine ⟨fun k => R k ∨ (w.heap.size ≤ k ∧ k < w1.heap.size), .slice (some ⟨g3, 0, none⟩) (vs.length + 1) cap3, vs ++ [(va, b.length, vc)], ⟨⟨h.sIs, ?_, ?_, ⟨?_, ?_, ?_, ?_, ?_, ?_⟩, ?_, ?_, h.xq, h.ok, ?_, h.few⟩, ?_, ?_, ?_, ?_⟩⟩
  · have hb := (h2.blk.upon hug hxo).set 6 (.slice (some ⟨g3, 0, none⟩) (vs.length + 1) cap3)
    rw [← hW] at hb
    simpa [sorterC] using hb
  · exact S.upon h2.sto hu (fun k hk hq => by
      rcases hk with rfl | hk
      · exact h.xq hq
      · exact (h.hq k hk).1 hq)
  · have := own_upon hown huW (fun g hg e => by
      have : g3 = g := by simpa [Value.ownBlock] using hg
      omega)
    simpa [OwnL, sl] using this
  · rw [List.map_append]
    refine RecsIn.snoc (recs_upon h2.mem.recs hu h2.mem.rb (fun g hg e => ?_)) ⟨va, vc, rfl, ?_, ?_⟩
    · rcases e with rfl | e
      · exact (h.rq _ hg).2 rfl
      · exact h.mem.apart g hg e
    · obtain ⟨_, _, e, h1, _⟩ := own_shape hO1
      cases e
      exact h1
    · obtain ⟨_, _, e, _, h3, h4, _⟩ := own_shape hO1
      cases e
      refine Lies.upon (h3.later ((Below.refl _ w1).alloc (Nat.le_refl _) _)) hu (fun g hg e => ?_)
      have := h4 g hg
      have hx := h.blk.lt
      rcases e with rfl | e
      · omega
      · have := (h.mem.own.lt g e).2
        omega
  · intro c hc
    rcases List.mem_append.1 hc with hc | hc
    · exact h.mem.wide c hc
    · rw [List.mem_singleton.1 hc]; exact hb
  · intro y hy g hg
    rcases List.mem_append.1 hy with hy | hy
    · exact .inl (h.mem.rb y hy g hg)
    · rw [List.mem_singleton.1 hy] at hg
      obtain ⟨_, _, e, _, _, h4, _⟩ := own_shape hO1
      cases e
      exact .inr (h4 g hg)
  · intro g hg
    have hs := huW.size
    rcases hg with hg | hg
    · have := h.mem.rlt g hg
      omega
    · omega
  · intro g hg e
    have e2 : g3 = g := by simpa [Value.ownBlock] using e
    rcases hg with hg | hg
    · exact hg3r g hg e2.symm
    · rcases hat with e3 | e3
      · have := (h.mem.own.lt g3 e3).2
        omega
      · simp at e3
        omega
  · intro g hg
    rcases hg with hg | hg
    · exact h.rq g hg
    · refine ⟨fun hq => ?_, ?_⟩
      · have := S.lt h.sto g hq
        omega
      · have := h.blk.lt
        omega
  · intro g hg
    have e2 : g3 = g := by simpa [Value.ownBlock] using hg
    rw [← e2]
    refine ⟨fun hq => ?_, hg3x⟩
    rcases hat with e3 | e3
    · exact (h.hq g3 e3).1 hq
    · have := S.lt h.sto g3 hq
      simp at e3
      omega
  · rw [List.length_append]; simp; omega
  · intro k hk
    rcases hk with hk | hk
    · exact .inl hk
    · exact .inr hk.1
  · exact fun k hk => .inl hk
  · intro k hk
    have e2 : g3 = k := by simpa [Value.ownBlock] using hk
    rw [← e2]
    rcases hat with e3 | e3
    · exact .inl e3
    · right
      simp at e3
      omega
  · exact (Upon.of_below hB2).trans hu (fun g h => .inl h)
set_option maxHeartbeats 2000000 in
set_option maxRecDepth 100000 in
theorem put_room {s : Nat} {S : Store.Sto s} {A : Fi} {w : World} {Q R : Nat → Prop} {off : Bool} {F : Files} {n x ne : Nat} {hv : Value} {vs : List SL} {held : List B} (h : Srt S A w Q R off F n x ne hv vs held) (hroom : held.length < A.rm) {b : B} (hb : b.length = A.wd) (a : Option Addr) (cp : Nat) (hL : Lies w a (b.map bv)) :
    Calls Tryz.prog 45 #[.pointer (some ⟨x, 0, none⟩), .slice a b.length cp] w fun e w' => e = .returned (.int .i64 0) ∧ ∃ R' hv' vs', Putted S A w w' Q R off F n x ne hv (held ++ [b]) R' hv' vs' := by
  obtain ⟨k1, k2, k3, k4, k5, k6⟩ := id h.ok
  have hlv : vs.length = held.length := by simpa using h.mem.recs.len
  have c2 := h.cell 2
  have c3 := h.cell 3
  have c6 := h.cell 6
  simp [sorterC] at c2 c3 c6
  obtain ⟨hva, hvc, ehv, hcc, _, _, hvo⟩ := own_shape h.mem.own
  obtain ⟨i0, hi0, hz0, hz1, hz2⟩ := info_parts infoSl
  have hne : ((vs.length : Int) == (A.rm : Int)) = false := by
    have : ¬ (vs.length : Int) = (A.rm : Int) := by omega
    simpa using this
  have hvl : vs.length ≤ 4096 := by omega
  have HC := Lib.hid (fun w0 (hB0 : Below w.heap.size w w0) => clone_any a cp b w0 (hL.later hB0) (by omega))
  have HXL := Lib.hid h.blk.lt
  have HF := Lib.hid (h.blk.frozen 6)
  have HEND := Lib.hid (fun (w1 w2 : World) (va : Option Addr) (vc g3 cap3 : Nat) (hB1 : Below w.heap.size w w1) hO1 hown hg hat => put_end (w1 := w1) (w2 := w2) (va := va) (vc := vc) (g3 := g3) (cap3 := cap3) h hb hroom hB1 hO1 hown hg hat)
  have HO := Lib.hid (fun (w1 : World) (hB1 : Below w.heap.size w w1) => own_later h.mem.own hB1)
  have HV := Lib.hid (show ∀ k, hv.ownBlock = some k → k < w.heap.size ∧ k ≠ x from fun k hk => ⟨(h.mem.own.lt k hk).2, (h.hq k hk).2⟩)
  have hq0 := Below.refl w.heap.size w
  obtain ⟨bl, hbl⟩ : ∃ bl, bl = b.length := ⟨_, rfl⟩
  rw [← hb, ← hbl] at c2
  rw [← hbl] at HC HEND ⊢
  obtain ⟨ln, hln⟩ : ∃ ln, ln = vs.length := ⟨_, rfl⟩
  rw [← hln] at hne ehv HEND hvl
  have HOL := Lib.hid (show ∀ w1 : World, w1.ownsRow 0 45 1 hv vs.length (vs.map sl) → w1.ownsRow 0 45 1 (.slice hva ln hvc) ln (vs.map sl) from fun w1 h => by rw [← ehv, hln]; exact h)
  subst ehv
  have hbl2 : bl ≤ 64 := by omega
  have HBLE := Lib.hid hbl
  clear h hb hL hbl hln hlv hcc hvo
  go_enter Tryz.func45, Tryz.ntmps45
  go_wp2_with fail
  go_quiet (fail)
  obtain ⟨V, hV⟩ : ∃ V, V = w.drewN nq := ⟨_, rfl⟩
  have hBV : Below w.heap.size w V := by rw [hV]; exact ⟨rfl, rfl, rfl, Nat.le_refl _, fun _ _ => rfl⟩
  have q6 : V.cell? ⟨x, 6, none⟩ = some (.slice hva ln hvc) := (hBV.cell (p := ⟨x, 6, none⟩) HXL.out).trans c6
  rw [← hV]
  have HBV := Lib.hid hBV
  have HDV := Lib.hid (hBV.drew)
  clear hV hBV c2 c3 hne
  go_wp2_with fail
  go_region_law ((first | (go_simp; go_at_call 66; refine (HC.out V.drew HDV.out).mono ?_; rintro e w1 ⟨v1, rfl, hO1, hB1⟩; obtain ⟨va, vc, rfl⟩ := own_len_shape HBLE.out hO1; have hB01 : Below w.heap.size w w1 := HDV.out.trans (hB1.mono HBV.out.size); have hk1 := (hB01.cell (p := ⟨x, 6, none⟩) HXL.out).trans ((hq0.cell (p := ⟨x, 6, none⟩) HXL.out).trans c6); have hB02 := hB01.alloc hB01.size (.cells #[.slice va bl vc] 45); have hk2 := (hB02.cell (p := ⟨x, 6, none⟩) HXL.out).trans c6; have HOW := Lib.hid (HOL.out _ (HO.out _ hB02)); have HB01 := Lib.hid hB01; have HB02 := Lib.hid hB02; have HO1 := Lib.hid (own_mono hO1 HBV.out.size); clear hO1 hB1 hB01 hB02; dsimp only) | (refine step_append_lies _ rfl (.tmp 37) (.tmp 40) 73 rfl 0 45 i0 (.slice none 0 0) 1 24 Tryz.underlying73 hi0 hz0 hz1 hz2 rfl (by decide) (.slice hva ln hvc) ln (vs.map sl) (by simp [Act.eval]) HOW.out ⟨w1.heap.size, 0, none⟩ 1 1 [.slice va bl vc] (by simp [Act.eval]) rfl (one_at rfl) (by simp [Value.oneCell']) (by decide) (by unfold maxLen; omega) (by omega) (Nat.zero_le _) _ rfl ?_; intro g3 cap3 w3 hown3 hgrow3 hat3 hlt3; have hk3 := (hgrow3.cell_far ⟨x, 6, none⟩ (Nat.lt_of_lt_of_le HXL.out HB02.out.size) (fun e => (HV.out x e.symm).2 rfl)).trans hk2; have f3 := (hgrow3.frozen_far ⟨x, 6, none⟩ (Nat.lt_of_lt_of_le HXL.out HB02.out.size) (fun e => (HV.out x e.symm).2 rfl)).trans ((HB02.out.frozen (p := ⟨x, 6, none⟩) HXL.out).trans HF.out))))
  all_goals
    go_wp2_with fail
    go_ret
    exact ⟨rfl, HEND.out w1 w3 va vc g3 cap3 HB01.out HO1.out hown3 hgrow3 hat3⟩
end Go.Proofs.YtndkohocgfmamaaGreat.Runs

/- Layer 13: Put of a sorter whose memory is full; on a store that is down. -/
namespace Go.Proofs.YtndkohocgfmamaaGreat.Runs
open Go.RowKit Go.Deep Go.Shelf Mem Crc Go.Proofs.YtndkohocgfmamaaGreat.Merge
open Go.Proofs.YtndkohocgfmamaaGreat.Store (Sto Files setF nv)

attribute [local go_sem] Oper.semAt_some
set_option maxHeartbeats 2000000 in
set_option maxRecDepth 100000 in
theorem put_full {s : Nat} {S : Store.Sto s} {A : Fi} {w0 : World} {Q0 R0 : Nat → Prop} {F0 : Files} {n0 x ne0 : Nat} {hv0 : Value} {vs0 : List SL} {held0 : List B} (h0 : Srt S A w0 Q0 R0 false F0 n0 x ne0 hv0 vs0 held0) (hfull : held0.length = A.rm) (hn0 : n0 < 100000) (hne0 : ne0 < 100000) {b : B} (hb : b.length = A.wd) (a : Option Addr) (cp : Nat) (hL0 : Lies w0 a (b.map bv)) (hLQ : ∀ g, Mem.blk a = some g → ¬ Q0 g ∧ g ≠ x) :
    Calls Tryz.prog 45 #[.pointer (some ⟨x, 0, none⟩), .slice a b.length cp] w0 fun e w' => e = .returned (.int .i64 0) ∧ ∃ w1 Q1 R' hv' vs', Flushed S A w0 w1 Q0 F0 n0 x ne0 held0 Q1 ∧ Putted S A w1 w' Q1 (fun _ => False) false (setF F0 (rname A.pf ne0) (some (runB held0))) (n0 + 1) x (ne0 + 1) (.slice none 0 0) [b] R' hv' vs' := by
  obtain ⟨k1, k2, k3, k4, k5, k6⟩ := id h0.ok
  have hlv : vs0.length = held0.length := by simpa using h0.mem.recs.len
  have c2 := h0.cell 2
  have c3 := h0.cell 3
  have c6 := h0.cell 6
  simp [sorterC] at c2 c3 c6
  obtain ⟨hva0, hvc0, ehv0, hcc, _, _, _⟩ := own_shape h0.mem.own
  obtain ⟨i0, hi0, hz0, hz1, hz2⟩ := info_parts infoSl
  have hne : ((vs0.length : Int) == (A.rm : Int)) = true := by
    have : (vs0.length : Int) = (A.rm : Int) := by omega
    simpa using this
  obtain ⟨bl, hbl⟩ : ∃ bl, bl = b.length := ⟨_, rfl⟩
  rw [← hb, ← hbl] at c2
  rw [← hbl]
  obtain ⟨ln0, hln0⟩ : ∃ ln0, ln0 = vs0.length := ⟨_, rfl⟩
  rw [← hln0] at hne ehv0
  subst ehv0
  have hvl0 : ln0 ≤ 4096 := by omega
  have hbl2 : bl ≤ 64 := by omega
  have H0 := Lib.hid h0
  have HFULL := Lib.hid hfull
  have HL0 := Lib.hid hL0
  have HLQ := Lib.hid hLQ
  have HB := Lib.hid hb
  have HBLE := Lib.hid hbl
  clear h0 hfull hL0 hLQ hb hbl hln0 hlv hcc
  go_enter Tryz.func45, Tryz.ntmps45
  go_wp2_with fail
  go_quiet (fail)
  obtain ⟨V0, hV0⟩ : ∃ V0, V0 = w0.drewN nq := ⟨_, rfl⟩
  have hBV0 : Below w0.heap.size w0 V0 := by rw [hV0]; exact ⟨rfl, rfl, rfl, Nat.le_refl _, fun _ _ => rfl⟩
  rw [← hV0]
  have HBV0 := Lib.hid hBV0
  have HFL := Lib.hid (flush_any (H0.out.later hBV0) (fun e => by
    have := HFULL.out
    rw [e] at this
    simp at this
    omega) hn0 hne0)
  clear hV0 hBV0 c2 c3 c6 hne
  go_wp2_with fail
  refine HFL.out.mono ?_
  rintro e w ⟨rfl, Q, hfl⟩
  have HFD := Lib.hid (show Flushed S A w0 w Q0 F0 n0 x ne0 held0 Q from ⟨hfl.srt, fun k hk => (hfl.q k hk).imp id (fun h => Nat.le_trans HBV0.out.size h), (Upon.of_below HBV0.out).trans hfl.upon (fun g h => .inl h)⟩)
  have h := hfl.srt
  obtain ⟨F, hF⟩ : ∃ F, F = setF F0 (rname A.pf ne0) (some (runB held0)) := ⟨_, rfl⟩
  obtain ⟨n, hn⟩ : ∃ n, n = n0 + 1 := ⟨_, rfl⟩
  obtain ⟨ne, hne⟩ : ∃ ne, ne = ne0 + 1 := ⟨_, rfl⟩
  rw [← hF, ← hn, ← hne] at h
  have hL : Lies w a (b.map bv) := (HL0.out.later HBV0.out).upon hfl.upon (fun g hg e => e.elim (HLQ.out g hg).1 (HLQ.out g hg).2)
  obtain ⟨hva, hhva⟩ : ∃ hva : Option Addr, hva = none := ⟨_, rfl⟩
  obtain ⟨hvc, hhvc⟩ : ∃ hvc : Nat, hvc = 0 := ⟨_, rfl⟩
  obtain ⟨ln, hln⟩ : ∃ ln : Nat, ln = 0 := ⟨_, rfl⟩
  obtain ⟨vs, hvs⟩ : ∃ vs : List SL, vs = [] := ⟨_, rfl⟩
  obtain ⟨R, hR⟩ : ∃ R : Nat → Prop, R = fun _ => False := ⟨_, rfl⟩
  obtain ⟨held, hheld⟩ : ∃ held : List B, held = [] := ⟨_, rfl⟩
  have eh : (Value.slice none 0 0) = .slice hva ln hvc := by rw [hhva, hln, hhvc]
  rw [eh, ← hvs, ← hR, ← hheld] at h
  have hlnv : ln = vs.length := by rw [hln, hvs]; rfl
  have hvl : ln ≤ 4096 := by omega
  have c6 := h.cell 6
  simp [sorterC] at c6
  have HC := Lib.hid (fun w0 (hB0 : Below w.heap.size w w0) => clone_any a cp b w0 (hL.later hB0) (by have := HBLE.out; omega))
  have HXL := Lib.hid h.blk.lt
  have HF := Lib.hid (h.blk.frozen 6)
  have HEND := Lib.hid (fun (w1 w2 : World) (va : Option Addr) (vc g3 cap3 : Nat) (hB1 : Below w.heap.size w w1) hO1 hown hg hat => put_end (w1 := w1) (w2 := w2) (va := va) (vc := vc) (g3 := g3) (cap3 := cap3) h HB.out (by rw [hheld]; simp; omega) hB1 hO1 hown hg hat)
  have HO := Lib.hid (fun (w1 : World) (hB1 : Below w.heap.size w w1) => own_later h.mem.own hB1)
  have HV := Lib.hid (show ∀ k, (Value.slice hva ln hvc).ownBlock = some k → k < w.heap.size ∧ k ≠ x from fun k hk => ⟨(h.mem.own.lt k hk).2, (h.hq k hk).2⟩)
  have hq0 := Below.refl w.heap.size w
  rw [← hlnv] at HEND
  rw [← HBLE.out] at HC HEND
  have HOL := Lib.hid (show ∀ w1 : World, w1.ownsRow 0 45 1 (.slice hva ln hvc) vs.length (vs.map sl) → w1.ownsRow 0 45 1 (.slice hva ln hvc) ln (vs.map sl) from fun w1 h => by rw [← hlnv] at h; exact h)
  have HEQ := Lib.hid (And.intro hF (And.intro hn (And.intro hne (And.intro eh (And.intro hR hheld)))))
  clear h hL hF hn hne hhva hhvc hln hvs hR hheld eh hlnv hfl HFL
  go_wp2_with fail
  obtain ⟨V, hV⟩ : ∃ V, V = w := ⟨_, rfl⟩
  have HBV := Lib.hid (show Below w.heap.size w V from hV ▸ hq0)
  have HDV := Lib.hid (HBV.out.drew)
  have q6 : V.cell? ⟨x, 6, none⟩ = some (.slice hva ln hvc) := (HBV.out.cell (p := ⟨x, 6, none⟩) HXL.out).trans c6
  rw [← hV]
  clear hV
  go_region_law ((first | (go_simp; go_at_call 66; refine (HC.out V.drew HDV.out).mono ?_; rintro e w1 ⟨v1, rfl, hO1, hB1⟩; obtain ⟨va, vc, rfl⟩ := own_len_shape HBLE.out hO1; have hB01 : Below w.heap.size w w1 := HDV.out.trans (hB1.mono HBV.out.size); have hk1 := (hB01.cell (p := ⟨x, 6, none⟩) HXL.out).trans ((hq0.cell (p := ⟨x, 6, none⟩) HXL.out).trans c6); have hB02 := hB01.alloc hB01.size (.cells #[.slice va bl vc] 45); have hk2 := (hB02.cell (p := ⟨x, 6, none⟩) HXL.out).trans c6; have HOW := Lib.hid (HOL.out _ (HO.out _ hB02)); have HB01 := Lib.hid hB01; have HB02 := Lib.hid hB02; have HO1 := Lib.hid (own_mono hO1 HBV.out.size); clear hO1 hB1 hB01 hB02; dsimp only) | (refine step_append_lies _ rfl (.tmp 37) (.tmp 40) 73 rfl 0 45 i0 (.slice none 0 0) 1 24 Tryz.underlying73 hi0 hz0 hz1 hz2 rfl (by decide) (.slice hva ln hvc) ln (vs.map sl) (by simp [Act.eval]) HOW.out ⟨w1.heap.size, 0, none⟩ 1 1 [.slice va bl vc] (by simp [Act.eval]) rfl (one_at rfl) (by simp [Value.oneCell']) (by decide) (by unfold maxLen; omega) (by omega) (Nat.zero_le _) _ rfl ?_; intro g3 cap3 w3 hown3 hgrow3 hat3 hlt3; have hk3 := (hgrow3.cell_far ⟨x, 6, none⟩ (Nat.lt_of_lt_of_le HXL.out HB02.out.size) (fun e => (HV.out x e.symm).2 rfl)).trans hk2; have f3 := (hgrow3.frozen_far ⟨x, 6, none⟩ (Nat.lt_of_lt_of_le HXL.out HB02.out.size) (fun e => (HV.out x e.symm).2 rfl)).trans ((HB02.out.frozen (p := ⟨x, 6, none⟩) HXL.out).trans HF.out))))
  all_goals
    go_wp2_with fail
    go_ret
    obtain ⟨R', hv', vs', hp⟩ := HEND.out w1 w3 va vc g3 cap3 HB01.out HO1.out hown3 hgrow3 hat3
    obtain ⟨e1, e2, e3, e4, e5, e6⟩ := HEQ.out
    rw [e6] at hp
    rw [e5] at hp
    rw [← e4] at hp
    rw [e3] at hp
    rw [e2] at hp
    rw [e1] at hp
    exact ⟨rfl, w, Q, R', hv', vs', HFD.out, hp⟩
set_option maxHeartbeats 2000000 in
set_option maxRecDepth 100000 in
/-- On a store that is down: what must be written isn't. -/
theorem flush_off {s : Nat} {S : Store.Sto s} {A : Fi} {w : World} {Q R : Nat → Prop} {F : Files} {n x ne : Nat} {hv : Value} {vs : List SL} {held : List B} (h : Srt S A w Q R true F n x ne hv vs held) (h0 : held ≠ []) (hne : ne < 100000) :
    Calls Tryz.prog 25 #[.pointer (some ⟨x, 0, none⟩)] w fun e w' => e = .returned (.int .i64 6) ∧ Below w.heap.size w w' := by
  obtain rfl := h.sIs
  have hok := h.ok
  obtain ⟨k1, k2, k3, k4, k5, k6⟩ := id hok
  have hlv : vs.length = held.length := by simpa using h.mem.recs.len
  have hroom := h.room
  have hpos : 0 < held.length := List.length_pos_iff.2 h0
  have c6 := h.cell 6
  simp [sorterC] at c6
  have HS := Lib.hid (sorted_any x h.mem c6 k3 (by omega))
  obtain ⟨a, c, rfl, hc, _, _, _⟩ := own_shape h.mem.own
  have h00 : ((vs.length : Int) == 0) = false := by
    have : ¬ (vs.length : Int) = 0 := by omega
    simpa using this
  have HXL := Lib.hid h.blk.lt
  have H := Lib.hid h
  have HLV := Lib.hid hlv
  clear h hlv
  go_enter Tryz.func25, Tryz.ntmps25
  go_wp2_with fail
  refine HS.out.mono ?_
  rintro e w1 ⟨v, vs', l', rfl, hS⟩
  have hl' : l' = sortB held := sortB_eq hS.perm hS.rises
  subst hl'
  obtain ⟨va, vc, rfl, hvc, hL, _, _⟩ := own_shape hS.own
  have HSEC := Lib.hid (section_any w1 hL hvc hS.recs (fun b hb e => by
    have := sort_wide H.out.mem.wide b hb
    rw [e] at this
    simp at this
    omega) (by
    rw [flat_sort H.out.mem.wide]
    have h2 := Nat.mul_le_mul (Nat.le_trans hroom k6) k4
    omega) (by rw [(sortB_perm held).length_eq]; omega))
  have HSR := Lib.hid hS.below
  clear hS hL HS c6
  go_wp2_with fail
  refine HSEC.out.mono ?_
  rintro e w2 ⟨v2, rfl, hO2, hB2⟩
  have h2 := H.out.later (HSR.out.trans (hB2.mono HSR.out.size))
  have hBB : Below w.heap.size w w2 := HSR.out.trans (hB2.mono HSR.out.size)
  obtain ⟨va2, vc2, rfl, hvc2, hL2, _, _⟩ := own_shape hO2
  have HH2 := Lib.hid h2
  have HBB := Lib.hid hBB
  have HL2 := Lib.hid hL2
  clear hBB hL2 hO2 hB2 h2 HSEC HSR
  obtain ⟨bs, hbs⟩ : ∃ bs, bs = Go.Proofs.YtndkohocgfmamaaGreat.Frame.frameL 82 (sortB held).flatten := ⟨_, rfl⟩
  rw [← hbs] at HL2 ⊢
  have q0 := HH2.out.cell 0
  have q1 := HH2.out.cell 1
  have q5 := HH2.out.cell 5
  simp [sorterC] at q0 q1 q5
  have hxl : x < w2.heap.size := HH2.out.blk.lt
  have HNM := Lib.hid (name_any A.pf k2 ne (by omega) x w2.drew q1 hxl)
  have HWR := Lib.hid (fun (w3 : World) (hB3 : Below w2.heap.size w2 w3) => S.write_off (S.later HH2.out.sto hB3) (nv (rname A.pf ne)) va2 bs.length vc2)
  obtain ⟨nm, hnm⟩ : ∃ nm, nm = nv (rname A.pf ne) := ⟨_, rfl⟩
  rw [← hnm] at HNM HWR
  have HXQ := Lib.hid H.out.xq
  have HBS := Lib.hid hbs
  have HXL2 := Lib.hid hxl
  have HDR := Lib.hid ((Below.refl w2.heap.size w2).drew)
  clear hbs hnm hxl q1 HXL
  go_wp2_with fail
  go_region_held3 (fun w' => w'.cell? ⟨x, 0, none⟩ = some (.pointer (some ⟨A.s, 0, none⟩)) ∧ w'.cell? ⟨x, 5, none⟩ = some (.int .i64 (ne : Int))) (first | exact ⟨q0, q5⟩ | exact hk3 | exact hk4) ((first | (go_at_call 42; refine HNM.out.mono ?_; rintro e w3 ⟨rfl, hB3⟩; have hB3 := HDR.out.trans hB3; have hk3 := And.intro ((hB3.cell (p := ⟨x, 0, none⟩) HXL2.out).trans q0) ((hB3.cell (p := ⟨x, 5, none⟩) HXL2.out).trans q5); dsimp only) | (go_at_call 48; refine (HWR.out w3 hB3).mono ?_; rintro e w4 ⟨rfl, hB4⟩; have hk4 := And.intro ((hB4.cell (p := ⟨x, 0, none⟩) (Nat.lt_of_lt_of_le HXL2.out hB3.size)).trans hk3.1) ((hB4.cell (p := ⟨x, 5, none⟩) (Nat.lt_of_lt_of_le HXL2.out hB3.size)).trans hk3.2); dsimp only)))
  have HE := Lib.hid (HBB.out.trans ((hB3.trans (hB4.mono hB3.size)).mono HBB.out.size))
  clear hB3 hB4 hk3 hk4 q0 q5 HWR HNM
  go_wp2_with fail
  go_ret
  exact ⟨rfl, HE.out⟩
set_option maxHeartbeats 1000000 in
theorem put_down {s : Nat} {S : Store.Sto s} {A : Fi} {w : World} {Q R : Nat → Prop} {F : Files} {n x ne : Nat} {hv : Value} {vs : List SL} {held : List B} (h : Srt S A w Q R true F n x ne hv vs held) (hfull : held.length = A.rm) (hne0 : ne < 100000) {bl : Nat} (hb : bl = A.wd) (a : Option Addr) (cp : Nat) :
    Calls Tryz.prog 45 #[.pointer (some ⟨x, 0, none⟩), .slice a bl cp] w fun e w' => e = .returned (.int .i64 6) ∧ Below w.heap.size w w' := by
  obtain ⟨k1, k2, k3, k4, k5, k6⟩ := id h.ok
  have hlv : vs.length = held.length := by simpa using h.mem.recs.len
  have c2 := h.cell 2
  have c3 := h.cell 3
  have c6 := h.cell 6
  simp [sorterC] at c2 c3 c6
  obtain ⟨hva0, hvc0, ehv0, hcc, _, _, _⟩ := own_shape h.mem.own
  have hne : ((vs.length : Int) == (A.rm : Int)) = true := by
    have : (vs.length : Int) = (A.rm : Int) := by omega
    simpa using this
  rw [← hb] at c2
  obtain ⟨ln0, hln0⟩ : ∃ ln0, ln0 = vs.length := ⟨_, rfl⟩
  rw [← hln0] at hne ehv0
  subst ehv0
  have hvl0 : ln0 ≤ 4096 := by omega
  have hbl2 : bl ≤ 64 := by omega
  have H0 := Lib.hid h
  have hpos : held ≠ [] := fun e => by
    rw [e] at hfull
    simp at hfull
    omega
  clear h hfull hb hln0 hlv hcc
  go_enter Tryz.func45, Tryz.ntmps45
  go_wp2_with fail
  go_quiet (fail)
  obtain ⟨V0, hV0⟩ : ∃ V0, V0 = w.drewN nq := ⟨_, rfl⟩
  have hBV0 : Below w.heap.size w V0 := by rw [hV0]; exact ⟨rfl, rfl, rfl, Nat.le_refl _, fun _ _ => rfl⟩
  rw [← hV0]
  have HBV0 := Lib.hid hBV0
  have HFL := Lib.hid (flush_off (H0.out.later hBV0) hpos hne0)
  clear hV0 hBV0 c2 c3 c6 hne
  go_wp2_with fail
  refine HFL.out.mono ?_
  rintro e w2 ⟨rfl, hB2⟩
  have HE := Lib.hid (HBV0.out.trans (hB2.mono HBV0.out.size))
  clear hB2 HFL
  go_wp2_with fail
  go_ret
  exact ⟨rfl, HE.out⟩
end Go.Proofs.YtndkohocgfmamaaGreat.Runs

/- Layer 13: New; and the small ones: Held, Runs, Forget, Flush of nothing; a nil sorter. -/
namespace Go.Proofs.YtndkohocgfmamaaGreat.Runs
open Go.RowKit Go.Deep Go.Shelf Mem Crc Go.Maps Go.Proofs.YtndkohocgfmamaaGreat.Merge
open Go.Proofs.YtndkohocgfmamaaGreat.Store (Sto Files setF nv len_name contains_name)
open Go.Proofs.YtndkohocgfmamaaGreat.Text (dec decA dig)

attribute [local go_sem] Oper.semAt_some
/-- What digits tell. -/
def val : List UInt8 → Nat
  | [] => 0
  | c :: t => (c.toNat - 48) * 10 ^ t.length + val t
theorem val_decA : ∀ (f n : Nat) (acc : List UInt8), n < 10 ^ f → val (decA f n acc) = n * 10 ^ acc.length + val acc
  | 0, n, acc, h => by
    have : n = 0 := by simpa using h
    subst this
    simp [decA]
  | f + 1, n, acc, h => by
    have hd : val (dig n :: acc) = (n % 10) * 10 ^ acc.length + val acc := by
      have := Go.Proofs.YtndkohocgfmamaaGreat.Text.dig_nat n
      show ((dig n).toNat - 48) * 10 ^ acc.length + val acc = _
      rw [this]
      congr 2
      omega
    unfold decA
    split
    · rw [hd, show n % 10 = n by omega]
    · rw [val_decA f (n / 10) _ (by rw [Nat.div_lt_iff_lt_mul (by decide), ← Nat.pow_succ]; exact h), hd, List.length_cons, Nat.pow_succ, ← Nat.add_assoc]
      congr 1
      have : n * 10 ^ acc.length = (n / 10 * 10 + n % 10) * 10 ^ acc.length := by rw [Nat.div_add_mod' n 10]
      rw [this, Nat.add_mul, Nat.mul_assoc, Nat.mul_comm 10 (10 ^ acc.length)]
theorem val_dec (n : Nat) (h : n < 10 ^ 20) : val (dec n) = n := by
  unfold dec
  rw [val_decA 20 n [] h]
  simp [val]
theorem dec_inj {i j : Nat} (hi : i < 10 ^ 20) (hj : j < 10 ^ 20) (h : dec i = dec j) : i = j := by rw [← val_dec i hi, ← val_dec j hj, h]
theorem rname_inj {pf : List UInt8} {i j : Nat} (hi : i < 10 ^ 20) (hj : j < 10 ^ 20) (h : rname pf i = rname pf j) : i = j := dec_inj hi hj (by unfold rname at h; exact List.append_cancel_left h)
/-- So many names among others are no more than these. -/
theorem among_le {α : Type} [DecidableEq α] (g : Nat → α) : ∀ (k : Nat) (l : List α), (∀ i j, i < k → j < k → g i = g j → i = j) → (∀ j, j < k → g j ∈ l) → k ≤ l.length
  | 0, _, _, _ => Nat.zero_le _
  | k + 1, l, hi, hm => by
    have hk := hm k (by omega)
    have := among_le g k (l.erase (g k)) (fun i j h1 h2 => hi i j (by omega) (by omega)) (fun j hj => by
      have hne : g j ≠ g k := fun e => by have := hi j k (by omega) (by omega) e; omega
      exact (List.mem_erase_of_ne hne).2 (hm j (by omega)))
    rw [List.length_erase_of_mem hk] at this
    have hpos : 0 < l.length := List.length_pos_of_mem hk
    omega
/-- Contains, on a row of names. -/
theorem contains_any (v : Value) (B0 : Nat) (ss : List (List UInt8)) (nm : List UInt8) (w : World) (h : w.ownsRow B0 9 1 v ss.length (ss.map encStr)) (hm : ss.length ≤ 1000000) :
    Calls Tryz.prog 41 #[v, nv nm] w fun e w' => ∃ b : Bool, e = .returned (.bool b) ∧ (b = true ↔ nm ∈ ss) ∧ w = w' := by
  obtain ⟨a, cap, rfl, hc, hL, _, _⟩ := own_shape h
  by_cases h0 : ss = []
  · subst h0
    refine (Tryz.slices_Contains_string_empty a cap ⟨nm.toArray⟩ w).mono ?_
    rintro e w' ⟨rfl, rfl⟩
    exact ⟨false, rfl, by simp, rfl⟩
  · obtain ⟨g, off, rfl, _, hcs⟩ := hL.resolve_left (fun e => by
      rw [List.map_eq_nil_iff] at e
      exact h0 e)
    refine (Tryz.slices_Contains_string g off ss.length cap (ss.map fun l => (⟨l.toArray⟩ : ByteArray)) ⟨nm.toArray⟩ w (by simp) (by omega) (fun j hj => by
      rw [List.length_map] at hj
      have := hcs j (encStr ss[j]) (by simp [hj])
      rw [this]
      simp [hj])).mono ?_
    rintro e w' ⟨rfl, rfl⟩
    refine ⟨_, rfl, ?_, rfl⟩
    rw [Lib.containsS_iff, List.take_of_length_le (by simp), List.mem_map]
    constructor
    · rintro ⟨l, hl, e⟩
      have : l = nm := by
        have := congrArg (fun b : ByteArray => b.data.toList) e
        simpa using this
      rw [← this]; exact hl
    · exact fun h => ⟨nm, h, rfl⟩
/-- A new sorter. -/
structure Newed {s : Nat} (S : Store.Sto s) (A : Fi) (w w' : World) (Q : Nat → Prop) (off : Bool) (F : Files) (n x ne : Nat) : Prop where
  srt : Srt S A w' Q (fun _ => False) off F n x ne (.slice none 0 0) [] []
  fresh : w.heap.size ≤ x
  below : Below w.heap.size w w'
  runs : ∀ j, j < ne → F (rname A.pf j) ≠ none
  last : F (rname A.pf ne) = none
/-- The loop's head. -/
structure Counts {s : Nat} (S : Store.Sto s) (A : Fi) (w wr : World) (Q : Nat → Prop) (off : Bool) (F : Files) (n x k : Nat) (v : Value) (ss : List (List UInt8)) : Prop where
  srt : Srt S A wr Q (fun _ => False) off F n x k (.slice none 0 0) [] []
  below : Below w.heap.size w wr
  runs : ∀ j, j < k → F (rname A.pf j) ≠ none
  names : wr.ownsRow w.heap.size 9 1 v ss.length (ss.map encStr)
  few : k ≤ ss.length
/-- x.next, read. -/
def nextOf (x : Nat) (w : World) : Nat := match w.cell? ⟨x, 5, none⟩ with
  | some (.int _ i) => i.toNat
  | _ => 0
theorem Counts.next {s : Nat} {S : Store.Sto s} {A : Fi} {w wr : World} {Q : Nat → Prop} {off : Bool} {F : Files} {n x k : Nat} {v : Value} {ss : List (List UInt8)} (h : Counts S A w wr Q off F n x k v ss) : nextOf x wr = k := by
  have c := h.srt.cell 5
  simp [sorterC] at c
  unfold nextOf
  rw [c]
  simp
set_option maxHeartbeats 2000000 in
set_option maxRecDepth 100000 in
theorem new_any {s : Nat} (S : Store.Sto s) (A : Fi) (hs : A.s = s) (hok : A.ok) {w : World} {Q : Nat → Prop} {off : Bool} {F : Files} {n : Nat} (h : S.At w Q off F n) :
    Calls Tryz.prog 22 #[.pointer (some ⟨A.s, 0, none⟩), nv A.pf, .int .i64 A.wd, .int .i64 A.rm] w fun e w' => ∃ x ne, e = .returned (.tuple #[.pointer (some ⟨x, 0, none⟩), .int .i64 0]) ∧ Newed S A w w' Q off F n x ne := by
  subst hs
  obtain ⟨k1, k2, k3, k4, k5, k6⟩ := id hok
  obtain ⟨pf, hpf⟩ : ∃ pf : ByteArray, .string pf = nv A.pf := ⟨_, rfl⟩
  obtain ⟨ln, hln⟩ : ∃ ln, ln = A.pf.length := ⟨_, rfl⟩
  have hlen := len_name A.pf
  rw [← hpf, ← hln] at hlen
  have t1 : ((ln : Int) == 0) = false := by
    have : ¬ (ln : Int) = 0 := by omega
    simpa using this
  have t2 : decide (16 < (ln : Int)) = false := by simp; omega
  have t3 : decide ((A.wd : Int) < 1) = false := by simp; omega
  have t4 : decide (64 < (A.wd : Int)) = false := by simp; omega
  have t5 : decide ((A.rm : Int) < 1) = false := by simp; omega
  have t6 : decide (4096 < (A.rm : Int)) = false := by simp; omega
  rw [← hpf]
  have HPF := Lib.hid hpf
  have H := Lib.hid h
  have HOK := Lib.hid hok
  clear h hpf hln hok
  go_enter Tryz.func22, Tryz.ntmps22
  go_wp2_with fail
  obtain ⟨W, hW⟩ : ∃ W, W = w.alloc (.cells #[.pointer (some ⟨A.s, 0, none⟩), .string pf, .int .i64 A.wd, .int .i64 A.rm, .int .i64 0, .int .i64 0, .slice none 0 0] 95) := ⟨_, rfl⟩
  have hBW : Below w.heap.size w W := by rw [hW]; exact (Below.refl _ w).alloc (Nat.le_refl _) _
  have hbk : Blk W w.heap.size 95 (sorterC A 0 0 (.slice none 0 0)) := by rw [hW]; unfold sorterC; rw [← HPF.out]; exact Blk.new w _ _
  rw [← hW]
  obtain ⟨x, hx⟩ : ∃ x, x = w.heap.size := ⟨_, rfl⟩
  rw [← hx] at hbk ⊢
  have hst : Srt S A W Q (fun _ => False) off F n x 0 (.slice none 0 0) [] [] := ⟨rfl, hbk, S.later H.out hBW, held_none W A.wd, (fun _ h => h.elim), (fun _ h => by cases h), (fun hq => by have := S.lt H.out x hq; omega), HOK.out, by simp, by omega⟩
  have HNM := Lib.hid (S.names hst.sto)
  have HST := Lib.hid hst
  have HBW := Lib.hid hBW
  have HXW := Lib.hid (show w.heap.size ≤ x by omega)
  clear hW hBW hbk hx hst t1 t2 t3 t4 t5 t6 hlen
  refine HNM.out.mono ?_
  rintro e w1 ⟨v, ss, rfl, hO, hmem, hle, hB1⟩
  have HC := Lib.hid (show Counts S A w w1 Q off F n x 0 v ss from ⟨HST.out.later hB1, HBW.out.trans (hB1.mono HBW.out.size), fun j hj => by omega, own_mono hO HBW.out.size, Nat.zero_le _⟩)
  have HMEM := Lib.hid hmem
  clear hO hmem hB1 HNM HST
  go_wp2_with fail
  go_loopw [] (fun wr => ∃ k, Counts S A w wr Q off F n x k v ss) (fun wr => ss.length - nextOf x wr)
  case atStart => exact ⟨0, HC.out⟩
  case round =>
    obtain ⟨k, hk⟩ := hrel
    have hnx := hk.next
    have hkf := hk.few
    have c1 := hk.srt.cell 1
    have c5 := hk.srt.cell 5
    simp [sorterC] at c1 c5
    have HNA := Lib.hid (name_any A.pf k2 k (by omega) x wr c1 hk.srt.blk.lt)
    have HK := Lib.hid hk
    have HNX := Lib.hid hnx
    clear hk hnx c1
    go_wp2_with fail
    refine HNA.out.mono ?_
    rintro e w2 ⟨rfl, hB2⟩
    have HB2 := Lib.hid hB2
    have HCO := Lib.hid (contains_any v _ ss (rname A.pf k) w2 (own_later HK.out.names hB2) (by omega))
    obtain ⟨nm, hnm⟩ : ∃ nm, nm = nv (rname A.pf k) := ⟨_, rfl⟩
    rw [← hnm] at HCO ⊢
    clear hB2 HNA hnm
    go_wp2_with fail
    refine HCO.out.mono ?_
    rintro e w3 ⟨b, rfl, hb, rfl⟩
    have hk2 := HK.out.srt.later HB2.out
    have d5 := hk2.cell 5
    have f5 := hk2.blk.frozen 5
    simp [sorterC] at d5
    cases b
    · have HE := Lib.hid (show Newed S A w w2 Q off F n x k from ⟨hk2, HXW.out, HK.out.below.trans (HB2.out.mono HK.out.below.size), HK.out.runs, by
        have : ¬ rname A.pf k ∈ ss := fun h => by have := hb.2 h; simp at this
        rw [HMEM.out] at this
        simpa using this⟩)
      clear hk2 hb f5 d5
      go_wp2_with fail
      go_ret2
      exact ⟨x, k, rfl, HE.out⟩
    · have hin := hb.1 rfl
      have HE := Lib.hid (show Counts S A w (w2.setCell ⟨x, 5, none⟩ (.int .i64 ((k : Int) + 1))) Q off F n x (k + 1) v ss from by
        have hB2 := HB2.out
        have hal : ∀ j, j < k + 1 → F (rname A.pf j) ≠ none := fun j hj => by
          by_cases e : j = k
          · rw [e]; exact (HMEM.out _).1 hin
          · exact HK.out.runs j (by omega)
        have hku : k + 1 ≤ ss.length := among_le (rname A.pf) (k + 1) ss (fun i j hi hj e => rname_inj (by omega) (by omega) e) (fun j hj => (HMEM.out _).2 (hal j hj))
        have ho : Only [x] w2 (w2.setCell ⟨x, 5, none⟩ (.int .i64 ((k : Int) + 1))) := (Only.refl [x] w2).set (p := ⟨x, 5, none⟩) (.inl (by simp)) _
        have hbk : Blk (w2.setCell ⟨x, 5, none⟩ (.int .i64 ((k : Int) + 1))) x 95 (sorterC A 0 (k + 1) (.slice none 0 0)) := by
          have := hk2.blk.set 5 (.int .i64 ((k : Int) + 1))
          simpa [sorterC] using this
        refine ⟨⟨rfl, hbk, S.keep hk2.sto ho.size (fun q hq => ho.block q (S.lt hk2.sto q hq) (by rintro h; rw [List.mem_singleton.1 h] at hq; exact hk2.xq hq)), held_none _ A.wd, (fun _ h => h.elim), (fun _ h => by cases h), hk2.xq, hk2.ok, by simp, by omega⟩, ?_, hal, ?_, hku⟩
        · exact (HK.out.below.trans (hB2.mono HK.out.below.size)).setCell (by exact HXW.out) _
        · exact own_past (own_later HK.out.names hB2) hk2.blk (by decide) 5 _)
      have HM := Lib.hid (show ss.length - nextOf x (w2.setCell ⟨x, 5, none⟩ (.int .i64 ((k : Int) + 1))) < ss.length - nextOf x wr from by
        rw [HE.out.next, HNX.out]
        have := HE.out.few
        omega)
      clear hk2 hb hin
      go_wp2_with fail
      go_roundw
      case rel => exact ⟨k + 1, HE.out⟩
      case measure => exact HM.out
end Go.Proofs.YtndkohocgfmamaaGreat.Runs

/- Layer 13: a run is read. -/
namespace Go.Proofs.YtndkohocgfmamaaGreat.Runs
open Go.RowKit Go.Deep Go.Shelf Mem Crc Go.Proofs.YtndkohocgfmamaaGreat.Merge
open Go.Proofs.YtndkohocgfmamaaGreat.Store (Sto Files setF nv)

attribute [local go_sem] Oper.semAt_some
/-- The pieces of records' bytes are the records. -/
theorem pieces_recs {w : World} {g off wd : Nat} : ∀ (l : List B) (k : Nat), (∀ b ∈ l, b.length = wd) → (∀ i u, (l.flatten.map bv)[i]? = some u → w.cell? ⟨g, off + k * wd + i, none⟩ = some u) → g < w.heap.size → RecsIn w (((List.range l.length).map fun j => ((some ⟨g, off + (k + j) * wd, none⟩, wd, wd) : SL)).map sl) l
  | [], _, _, _, _ => recsIn_nil w
  | b :: t, k, hw, hc, hg => by
    have hb := hw b (by simp)
    have ih := pieces_recs t (k + 1) (fun c hc => hw c (List.mem_cons_of_mem _ hc)) (fun i u hu => by
      have := hc (wd + i) u (by
        rw [List.flatten_cons, List.map_append, List.getElem?_append_right (by rw [List.length_map]; omega), List.length_map, hb, show wd + i - wd = i by omega]
        exact hu)
      rw [show off + (k + 1) * wd + i = off + k * wd + (wd + i) by rw [Nat.succ_mul]; omega]
      exact this) hg
    refine ⟨by simp, fun i v c hv hcl => ?_⟩
    cases i with
    | zero =>
      have ev : v = sl (some ⟨g, off + k * wd, none⟩, wd, wd) := by simpa using hv.symm
      have ec : c = b := by simpa using hcl.symm
      subst ev ec
      refine ⟨_, wd, by rw [← hb]; rfl, by omega, .inr ⟨g, off + k * wd, rfl, hg, fun i u hu => hc i u ?_⟩⟩
      rw [List.flatten_cons, List.map_append, List.getElem?_append_left (List.getElem?_eq_some_iff.1 hu).1]
      exact hu
    | succ i =>
      refine ih.at_ i v c ?_ (by simpa using hcl)
      rw [← hv]
      simp only [List.length_cons, List.range_succ_eq_map, List.map_cons, List.map_map, List.getElem?_cons_succ]
      congr 1
      apply List.map_congr_left
      intro j _
      simp only [Function.comp_apply]
      rw [show k + 1 + j = k + (j + 1) by omega]
/-- A run's records. -/
structure RunAt (w w' : World) (l : List B) (v : Value) (vs : List SL) : Prop where
  own : OwnL w' w.heap.size v vs
  recs : RecsIn w' (vs.map sl) (sortB l)
  fresh : ∀ y ∈ vs, ∀ g, Mem.blk y.1 = some g → w.heap.size ≤ g
  below : Below w.heap.size w w'
theorem one_sec {l : List Go.Proofs.YtndkohocgfmamaaGreat.Frame.Sec} {k : UInt8} {b : List UInt8} (h : l.map Go.Proofs.YtndkohocgfmamaaGreat.Frame.Sec.kb = [(k, b)]) : ∃ s, l = [s] ∧ s.kind = k ∧ s.body = b := by
  match l, h with
  | [s], h =>
    have h : s.kb = (k, b) := by simpa using h
    exact ⟨s, rfl, congrArg Prod.fst h, congrArg Prod.snd h⟩
/-- Chunk, and where its closure's variables lie. -/
theorem chunk_of (a : Option Addr) (len c wd : Nat) (hwd : 0 < wd) (w : World) :
    Calls Tryz.prog 60 #[.slice a len c, .int .i64 wd] w fun e w' => e = .returned (.func (.func 91) #[] #[.pointer (some ⟨w.heap.size, 0, none⟩), .pointer (some ⟨w.heap.size + 1, 0, none⟩)]) ∧ Below w.heap.size w w' ∧ w'.cell? ⟨w.heap.size, 0, none⟩ = some (.slice a len c) ∧ w'.cell? ⟨w.heap.size + 1, 0, none⟩ = some (.int .i64 wd) ∧ w.heap.size + 1 < w'.heap.size := by
  refine (chunk_any a len c wd hwd w).mono ?_
  rintro e w' ⟨rfl, rfl⟩
  refine ⟨rfl, ((Below.refl _ w).alloc (Nat.le_refl _) _).alloc (by simp) _, ?_, ?_, by simp⟩
  · rw [((Blk.new w 45 #[.slice a len c]).alloc _).cell]; rfl
  · have := (Blk.new (w.alloc (.cells #[.slice a len c] 45)) 3 #[.int .i64 wd]).cell 0
    rw [World.size_alloc] at this
    rw [this]; rfl
set_option maxHeartbeats 2000000 in
set_option maxRecDepth 100000 in
theorem run_good {s : Nat} {S : Store.Sto s} {A : Fi} {w : World} {Q R : Nat → Prop} {F : Files} {n x ne : Nat} {hv : Value} {vs : List SL} {held : List B} (h : Srt S A w Q R false F n x ne hv vs held) (k : Nat) (hk : k ≤ 1000000) (l : List B) (hl : ∀ b ∈ l, b.length = A.wd) (h0 : l ≠ []) (hmax : l.length ≤ 4096) (hF : F (rname A.pf k) = some (runB l)) :
    Calls Tryz.prog 49 #[.pointer (some ⟨x, 0, none⟩), .int .i64 k] w fun e w' => ∃ v vs', e = .returned (.tuple #[v, .int .i64 0]) ∧ RunAt w w' l v vs' := by
  obtain rfl := h.sIs
  obtain ⟨k1, k2, k3, k4, k5, k6⟩ := id h.ok
  have q0 := h.cell 0
  have q1 := h.cell 1
  have q2 := h.cell 2
  simp [sorterC] at q0 q1 q2
  have hml : l.length * A.wd ≤ 262144 := Nat.mul_le_mul hmax k4
  obtain ⟨body, hbody⟩ : ∃ body, body = (sortB l).flatten := ⟨_, rfl⟩
  have hbl : body.length = l.length * A.wd := by rw [hbody]; exact flat_sort hl
  have hrun : runB l = Go.Proofs.YtndkohocgfmamaaGreat.Frame.frameL 82 body := by rw [hbody]; rfl
  rw [hrun] at hF
  have HNM := Lib.hid (name_any A.pf k2 k hk x w.drew q1 h.blk.lt)
  have HRD := Lib.hid (fun (W : World) (hW : Below w.heap.size w W) => S.read_some (S.later h.sto hW) (rname A.pf k) _ hF)
  have HFR := Lib.hid (Go.Proofs.YtndkohocgfmamaaGreat.Frame.all_frame 82 body (by omega))
  have HBL := Lib.hid hbl
  have HXL := Lib.hid h.blk.lt
  have HBO := Lib.hid hbody
  have H0 := Lib.hid h0
  have HL := Lib.hid hl
  obtain ⟨nm, hnm⟩ : ∃ nm, nm = nv (rname A.pf k) := ⟨_, rfl⟩
  rw [← hnm] at HNM HRD
  have HDR := Lib.hid ((Below.refl w.heap.size w).drew)
  clear h hF hbl hrun hbody hnm h0 hl q1
  go_enter Tryz.func49, Tryz.ntmps49
  go_wp2_with fail
  go_region_held3 (fun w' => w'.cell? ⟨x, 0, none⟩ = some (.pointer (some ⟨A.s, 0, none⟩))) (first | exact q0 | exact hk3 | exact hk2) ((first | (go_at_call 42; refine HNM.out.mono ?_; rintro e w1 ⟨rfl, hB1⟩; have hBd := HDR.out.trans hB1; have hk2 := (hBd.cell (p := ⟨x, 0, none⟩) HXL.out).trans q0; dsimp only) | (go_at_call 73; refine (HRD.out _ hBd).mono ?_; rintro e w2 ⟨v2, rfl, hO2, hB2⟩; have hBe := hBd.trans (hB2.mono hBd.size); have hk3 := (hBe.cell (p := ⟨x, 0, none⟩) HXL.out).trans q0; dsimp only)))
  obtain ⟨va, vc, rfl, hvc, hL, _, _⟩ := own_shape hO2
  have hAll := Go.Proofs.YtndkohocgfmamaaGreat.Frame.all_any va vc _ w2 hL hvc (by rw [Go.Proofs.YtndkohocgfmamaaGreat.Frame.frameL_length, HBL.out]; omega)
  have HAL := Lib.hid hAll
  have HBE := Lib.hid hBe
  clear hAll hL hO2 hB2 hBe hB1 hBd hk2 hk3
  go_wp2_with fail
  refine HAL.out.mono ?_
  rintro e w3 ⟨⟨v3, secs, rfl, hO3, hkb, hbod⟩, hB3⟩
  rw [HFR.out] at hkb ⊢
  obtain ⟨sec, rfl, hsk, hsb⟩ := one_sec hkb
  obtain ⟨va3, vc3, rfl, hvc3, hL3, hbl3, _⟩ := own_shape hO3
  have hbd := hbod sec (by simp)
  obtain ⟨g3, off3, rfl, hg3, hc3⟩ := hL3.resolve_left (fun e => by simp [Go.Proofs.YtndkohocgfmamaaGreat.Frame.flatS, Go.Proofs.YtndkohocgfmamaaGreat.Frame.Sec.vs] at e)
  have p0 := hc3 0 (.int .u8 82) (by simp [Go.Proofs.YtndkohocgfmamaaGreat.Frame.flatS, Go.Proofs.YtndkohocgfmamaaGreat.Frame.Sec.vs, hsk, bv])
  have p1 := hc3 1 (.slice sec.a sec.body.length sec.cp) (by simp [Go.Proofs.YtndkohocgfmamaaGreat.Frame.flatS, Go.Proofs.YtndkohocgfmamaaGreat.Frame.Sec.vs])
  rw [hsb] at p1 hbd
  rw [Nat.add_zero] at p0
  simp only [List.length_singleton]
  obtain ⟨va4, vc4, ev4, hvc4, hL4, hbl4, _⟩ := own_shape hbd
  injection ev4 with ea4 _ ec4
  rw [← ea4] at hL4 hbl4
  rw [← ec4] at hvc4
  have hBZ := HBE.out.trans (hB3.mono HBE.out.size)
  have q23 := (hBZ.cell (p := ⟨x, 2, none⟩) HXL.out).trans q2
  obtain ⟨M, hM⟩ : ∃ M, M = body.length := ⟨_, rfl⟩
  rw [← hM] at p1 hvc4
  have hMM : M = l.length * A.wd := hM.trans HBL.out
  have hM1 : M ≤ 1000000 := by omega
  have hl0 : 0 < l.length := List.length_pos_iff.2 H0.out
  have hM0 : 0 < M := by rw [hMM]; exact Nat.mul_pos hl0 k3
  obtain ⟨gb, ob, eb, hgb, hcb⟩ := hL4.resolve_left (fun e => by
    have := congrArg List.length e
    rw [List.length_map, ← hM] at this
    simp at this
    omega)
  have hmod : (M : Int).tmod (A.wd : Int) = 0 := by
    rw [hMM, Int.natCast_mul]
    exact Int.mul_tmod_left _ _
  have hwd0 : ((A.wd : Int) == 0) = false := by
    have : ¬ (A.wd : Int) = 0 := by omega
    simpa using this
  have hgbf : w.heap.size ≤ gb := by
    have := hbl4 gb (by rw [eb]; rfl)
    have := HBE.out.size
    omega
  rw [eb] at p1
  have HCB := Lib.hid hcb
  have HM := Lib.hid hMM
  have HBZ := Lib.hid hBZ
  have HG3 := Lib.hid hg3
  have HGB := Lib.hid hgb
  have HVC4 := Lib.hid hvc4
  clear hkb hbod hO3 hL3 hc3 hL4 hB3 ea4 ec4 eb hbd hMM hM hBZ q2 q0 hcb hgb hvc4 hbl3 hbl4 hg3
  go_wp2_with fail
  go_quiet (fail)
  obtain ⟨V, hV⟩ : ∃ V, V = w3.drewN nq := ⟨_, rfl⟩
  have hBV : Below w3.heap.size w3 V := by rw [hV]; exact ⟨rfl, rfl, rfl, Nat.le_refl _, fun _ _ => rfl⟩
  rw [← hV]
  have v1 := (hBV.cell (p := ⟨g3, off3 + 1, none⟩) HG3.out).trans p1
  have v2 := (hBV.cell (p := ⟨x, 2, none⟩) (Nat.lt_of_lt_of_le HXL.out HBZ.out.size)).trans q23
  have HBV := Lib.hid hBV
  have HG3V := Lib.hid (Nat.lt_of_lt_of_le HG3.out hBV.size)
  have HXV := Lib.hid (Nat.lt_of_lt_of_le (Nat.lt_of_lt_of_le HXL.out HBZ.out.size) hBV.size)
  have HDV := Lib.hid ((Below.refl V.heap.size V).drew)
  have HCH := Lib.hid (chunk_of (some ⟨gb, ob, none⟩) M sec.cp A.wd k3 V.drew)
  have HCP := Lib.hid (fun (w4 : World) (hBs : V.drew.heap.size + 1 < w4.heap.size) (hcs : w4.cell? ⟨V.drew.heap.size, 0, none⟩ = some (.slice (some ⟨gb, ob, none⟩) M sec.cp)) (hcn : w4.cell? ⟨V.drew.heap.size + 1, 0, none⟩ = some (.int .i64 A.wd)) =>
    collect_pieces (g := gb) (off := ob) (m := l.length) (c := sec.cp) k3 (by rw [← HM.out]; exact HVC4.out) (by rw [← HM.out]; exact hM1) w4 V.drew.heap.size (V.drew.heap.size + 1) (by omega) hBs (by rw [← HM.out]; exact hcs) hcn)
  clear hV hBV p0 p1 q23 hmod hwd0
  go_wp2_with fail
  go_region_held3 (fun w' => w'.cell? ⟨g3, off3 + 1, none⟩ = some (.slice (some ⟨gb, ob, none⟩) M sec.cp) ∧ w'.cell? ⟨x, 2, none⟩ = some (.int .i64 (A.wd : Int))) (first | exact ⟨v1, v2⟩ | exact hk4 | exact hk5) ((first | (go_at_call 60; refine HCH.out.mono ?_; rintro e w4 ⟨rfl, hB4, b1, b2, b3⟩; have hB4 := HDV.out.trans hB4; have hk4 := And.intro ((hB4.cell (p := ⟨g3, off3 + 1, none⟩) HG3V.out).trans v1) ((hB4.cell (p := ⟨x, 2, none⟩) HXV.out).trans v2); dsimp only) | (go_at_call 75; refine (HCP.out w4 b3 b1 b2).mono ?_; rintro e w5 ⟨v5, rfl, hO5, hB5⟩; have hB5 := hB4.trans (hB5.mono hB4.size); have hk5 := And.intro ((hB5.cell (p := ⟨g3, off3 + 1, none⟩) HG3V.out).trans v1) ((hB5.cell (p := ⟨x, 2, none⟩) HXV.out).trans v2); dsimp only)))
  have hB35 : Below w3.heap.size w3 w5 := HBV.out.trans (hB5.mono HBV.out.size)
  have hRE : RecsIn w5 ((pieces gb ob A.wd l.length).map sl) (sortB l) := by
    have hpe : pieces gb ob A.wd l.length = (List.range (sortB l).length).map fun j => ((some ⟨gb, ob + (0 + j) * A.wd, none⟩, A.wd, A.wd) : SL) := by
      rw [(sortB_perm l).length_eq]
      unfold pieces
      apply List.map_congr_left
      intro j _
      rw [Nat.zero_add]
    rw [hpe]
    refine pieces_recs (sortB l) 0 (sort_wide HL.out) (fun i u hu => ?_) (Nat.lt_of_lt_of_le HGB.out hB35.size)
    rw [Nat.zero_mul, Nat.add_zero, ← HBO.out] at *
    exact (hB35.cell (p := ⟨gb, ob + i, none⟩) HGB.out).trans (HCB.out i u hu)
  have hgb5 : gb < w4.heap.size := by
    have h1 := HGB.out
    have h2 := HBV.out.size
    have h3 := hB4.size
    omega
  have HIS := Lib.hid (isSorted_any hO5 hRE (fun y hy g hg e => by
    obtain ⟨j, _, rfl⟩ := List.mem_map.1 hy
    have e1 : gb = g := by simpa [Mem.blk] using hg
    have := (hO5.lt g e.symm).1
    omega) (by rw [pieces_len]; omega) (by rw [pieces_len]; exact hl0) (sortB_rises l))
  have HB5 := Lib.hid (HBZ.out.trans (hB35.mono HBZ.out.size))
  have HO5 := Lib.hid (own_mono hO5 (show w.heap.size ≤ w4.heap.size from by
    have h1 := HBZ.out.size
    have h2 := HBV.out.size
    have h3 := hB4.size
    omega))
  have HRE := Lib.hid hRE
  clear hB35 hRE hgb5 hO5 hB5 hB4 hk4 hk5 b1 b2 b3 v1 v2
  go_wp2_with fail
  refine HIS.out.mono ?_
  rintro e w6 ⟨rfl, hB6⟩
  have HR := Lib.hid (show RunAt w w6 l v5 (pieces gb ob A.wd l.length) from ⟨own_later HO5.out hB6, HRE.out.later hB6, fun y hy g hg => by
    obtain ⟨j, _, rfl⟩ := List.mem_map.1 hy
    have e1 : gb = g := by simpa [Mem.blk] using hg
    omega, HB5.out.trans (hB6.mono HB5.out.size)⟩)
  clear hB6 HIS
  go_wp2_with fail
  go_ret2
  exact ⟨_, _, rfl, HR.out⟩
end Go.Proofs.YtndkohocgfmamaaGreat.Runs

/- Layer 13: Rows: the memory and the runs, merged. -/
namespace Go.Proofs.YtndkohocgfmamaaGreat.Runs
open Go.RowKit Go.Deep Go.Shelf Mem Crc Go.Proofs.YtndkohocgfmamaaGreat.Merge
open Go.Proofs.YtndkohocgfmamaaGreat.Store (Sto Files setF nv)

attribute [local go_sem] Oper.semAt_some
/-- In R, or made between two worlds. -/
def Mid (R : Nat → Prop) (w w' : World) (g : Nat) : Prop := R g ∨ (w.heap.size ≤ g ∧ g < w'.heap.size)
theorem RowB.of_sorted {w w' : World} {R : Nat → Prop} {vs : List SL} {held : List B} {v : Value} {vs' : List SL} {l' : List B} (h : SortedAt w w' vs held v vs' l') (hr : ∀ y ∈ vs, ∀ g, Mem.blk y.1 = some g → R g) : ∃ a c, v = .slice a l'.length c ∧ RowB w' (Mid R w w') ((a, l'.length, c), l') := by
  obtain ⟨a, c, rfl, hc, hL, hb, _⟩ := own_shape h.own
  have hl : vs'.length = l'.length := by simpa using h.recs.len
  exact ⟨a, c, by rw [← hl], a, c, vs', rfl, by rw [← hl]; exact hc, hl, hL, fun g hg => .inr (hb g hg), h.recs, fun y hy g hg => .inl (hr y (h.sub y hy) g hg)⟩
theorem RowB.of_run {w w' : World} (R : Nat → Prop) {l : List B} {v : Value} {vs : List SL} (h : RunAt w w' l v vs) (hne : ∀ b ∈ l, b ≠ []) : ∃ a c, v = .slice a (sortB l).length c ∧ RowB w' (Mid R w w') ((a, (sortB l).length, c), sortB l) := by
  obtain ⟨a, c, rfl, hc, hL, hb, _⟩ := own_shape h.own
  have hl : vs.length = (sortB l).length := by simpa using h.recs.len
  refine ⟨a, c, by rw [← hl], a, c, vs, rfl, by rw [← hl]; exact hc, hl, hL, fun g hg => .inr (hb g hg), h.recs, fun y hy g hg => .inr ⟨h.fresh y hy g hg, ?_⟩⟩
  obtain ⟨i, hi⟩ := List.getElem?_of_mem hy
  have hil : i < (sortB l).length := by rw [← hl]; exact (List.getElem?_eq_some_iff.1 hi).1
  exact rec_block (h.recs.at_ i (sl y) (sortB l)[i] (by simp [hi]) (List.getElem?_eq_getElem hil)) (hne _ ((sortB_perm l).mem_iff.1 (List.getElem_mem hil))) g hg
/-- The runs as files. -/
structure RunFiles (A : Fi) (F : Files) (ls : List (List B)) : Prop where
  at_ : ∀ (j : Nat) (l : List B), ls[j]? = some l → F (rname A.pf j) = some (runB l)
  wide : ∀ l ∈ ls, ∀ b ∈ l, b.length = A.wd
  some_ : ∀ l ∈ ls, l ≠ []
  few : ∀ l ∈ ls, l.length ≤ 4096
/-- All rows in memory, as Rows hands them to merge. -/
structure AllRows (w0 w : World) (R : Nat → Prop) (rs : List (SL × List B)) (v : Value) : Prop where
  own : OwnR w w0.heap.size v (rs.map Prod.fst)
  rows : ∀ r ∈ rs, RowB w (fun g => Mid R w0 w g ∧ some g ≠ v.ownBlock) r ∧ Rises r.2
/-- What a merge's closure has caught: all of it lies in U. -/
structure Merging (w : World) (U : Nat → Prop) (Bs : Nat) (rs : List (SL × List B)) (ad : Addr) (c : Nat) : Prop where
  box : Blk w Bs 106 #[.slice (some ad) rs.length c]
  boxU : U Bs
  row : Lies w (some ad) (rs.map (fun r => sl r.1))
  rowU : U ad.block
  cap : rs.length ≤ c
  pos : 0 < rs.length
  rows : ∀ r ∈ rs, RowB w U r ∧ Rises r.2
theorem Merging.upon {w w' : World} {U P : Nat → Prop} {Bs : Nat} {rs : List (SL × List B)} {ad : Addr} {c : Nat} (h : Merging w U Bs rs ad c) (hu : Upon P w w') (hP : ∀ g, U g → ¬ P g) : Merging w' U Bs rs ad c :=
  ⟨h.box.upon hu (hP _ h.boxU), h.boxU, h.row.upon hu (fun g hg => by
    have e : ad.block = g := by simpa [Mem.blk] using hg
    rw [← e]; exact hP _ h.rowU), h.rowU, h.cap, h.pos, fun r hr => ⟨(h.rows r hr).1.upon hu hP, (h.rows r hr).2⟩⟩
set_option maxHeartbeats 4000000 in
set_option maxRecDepth 100000 in
theorem rows_any {s : Nat} {S : Store.Sto s} {A : Fi} {w : World} {Q R : Nat → Prop} {off : Bool} {F : Files} {n x ne : Nat} {hv : Value} {vs : List SL} {held : List B} (h : Srt S A w Q R off F n x ne hv vs held) (ls : List (List B)) (hls : ls.length = ne) (hne : ne ≤ 1000) (hF : RunFiles A F ls) (hoff : off = false ∨ ne = 0) :
    Calls Tryz.prog 27 #[.pointer (some ⟨x, 0, none⟩)] w fun e w' => ∃ Bs rs ad c, e = .returned (.tuple #[.func (.func 77) #[] #[.pointer (some ⟨Bs, 0, none⟩)], .int .i64 0]) ∧ Merging w' (Mid R w w') Bs rs ad c ∧ rs.length = ne + 1 ∧ ((rs.map Prod.snd).flatten).Perm (held ++ ls.flatten) ∧ Below w.heap.size w w' := by
  obtain ⟨k1, k2, k3, k4, k5, k6⟩ := id h.ok
  have hlv : vs.length = held.length := by simpa using h.mem.recs.len
  have hroom := h.room
  have q4 := h.cell 4
  have q5 := h.cell 5
  have q6 := h.cell 6
  simp [sorterC] at q4 q5 q6
  have HS := Lib.hid (sorted_any x h.mem q6 k3 (by omega))
  have H := Lib.hid h
  have HXL := Lib.hid h.blk.lt
  have HLS := Lib.hid hls
  have HOFF := Lib.hid hoff
  obtain ⟨i0, hi0, hz0, hz1, hz2⟩ := info_parts infoRow
  clear h hlv q6 hls hoff
  go_enter Tryz.func27, Tryz.ntmps27
  go_wp2_with fail
  refine HS.out.mono ?_
  rintro e w1 ⟨v, vs', l', rfl, hS⟩
  obtain ⟨a1, c1, rfl, hrow1⟩ := RowB.of_sorted hS H.out.mem.rb
  have hB1 := hS.below
  have hl1 := hS.perm
  have hr1 := hS.rises
  obtain ⟨y1, hy1⟩ : ∃ y1 : SL × List B, y1 = ((a1, l'.length, c1), l') := ⟨_, rfl⟩
  obtain ⟨N1, hN1⟩ : ∃ N1, N1 = l'.length := ⟨_, rfl⟩
  have hB2 : Below w.heap.size w (w1.alloc (.cells #[.slice a1 N1 c1] 73)) := hB1.alloc hB1.size _
  have q42 := (hB2.cell (p := ⟨x, 4, none⟩) HXL.out).trans q4
  have hst : AllRows w (w1.alloc (.cells #[.slice a1 N1 c1] 73)) R [y1] (.slice (some ⟨w1.heap.size, 0, none⟩) 1 1) := by
    refine ⟨?_, fun r hr => ?_⟩
    · have := World.ownsRow_lit (base := w.heap.size) (e := 73) (size := 1) w1 #[.slice a1 N1 c1] 1 hB1.size (by decide) rfl
      rw [hy1]
      simpa [OwnR, sl, hN1] using this
    · rw [List.mem_singleton.1 hr, hy1]
      refine ⟨(hrow1.later ((Below.refl _ w1).alloc (Nat.le_refl _) _)).mono (fun g hg => ⟨hg.imp id (fun h => ⟨h.1, by simp; omega⟩), fun e => ?_⟩), hr1⟩
      have e : g = w1.heap.size := by simpa [Value.ownBlock] using e
      rcases hg with hg | hg
      · have := H.out.mem.rlt g hg
        have := hB1.size
        omega
      · omega
  have HST := Lib.hid hst
  have HB2 := Lib.hid hB2
  have HP1 := Lib.hid (show (([y1].map Prod.snd).flatten).Perm (held ++ (ls.take 0).flatten) from by rw [hy1]; simpa using hl1)
  rw [← hN1]
  clear hst hB2 hrow1 hl1 hr1 hy1 hN1 hB1 hS HS
  go_wp2_with fail
  go_loopw [4, 5] (fun o i wr => ∃ (k : Nat) (rs : List (SL × List B)), k ≤ ne ∧ i = .int .i64 k ∧ rs.length = k + 1 ∧ AllRows w wr R rs o ∧ ((rs.map Prod.snd).flatten).Perm (held ++ (ls.take k).flatten) ∧ Below w.heap.size w wr) (fun _ i _ => ne - (intOf i).toNat)
  case atStart => exact ⟨0, [y1], Nat.zero_le _, rfl, rfl, HST.out, HP1.out, HB2.out⟩
  case round =>
    obtain ⟨k, rs, hk, rfl, hrl, hA, hP, hBr⟩ := hrel
    rename_i o _
    have q5r := (hBr.cell (p := ⟨x, 5, none⟩) HXL.out).trans q5
    obtain ⟨oa, oc, rfl, hoc, hoL, hob, hobk⟩ := own_shape hA.own
    rw [List.length_map, hrl] at hA hobk
    rw [List.length_map] at hoc ⊢
    have HA := Lib.hid hA
    have HP := Lib.hid hP
    have HBR := Lib.hid hBr
    have HRL := Lib.hid hrl
    have HOL := Lib.hid hoL
    have HOB := Lib.hid hob
    have HOBK := Lib.hid hobk
    clear hA hP hBr hoL hob hobk
    rw [hrl] at hoc ⊢
    clear hrl
    by_cases hlt : k < ne
    · have hfo : off = false := HOFF.out.resolve_right (by omega)
      obtain ⟨lk, hlk⟩ : ∃ lk, ls[k]? = some lk := ⟨ls[k]'(by rw [HLS.out]; exact hlt), List.getElem?_eq_getElem _⟩
      have hmem := List.mem_of_getElem? hlk
      have HRUN := Lib.hid (run_good ((hfo ▸ H.out).later HBR.out) k (by omega) lk (hF.wide lk hmem) (hF.some_ lk hmem) (hF.few lk hmem) (hF.at_ k lk hlk))
      have HLK := Lib.hid hlk
      clear hlk hmem hfo
      go_wp2_with fail
      refine HRUN.out.mono ?_
      rintro e w2 ⟨v2, vs2, rfl, hR2⟩
      obtain ⟨a2, c2, rfl, hrow2⟩ := RowB.of_run R hR2 (fun b hb e => by
        have := hF.wide lk (List.mem_of_getElem? HLK.out) b hb
        rw [e] at this
        simp at this
        omega)
      obtain ⟨y2, hy2⟩ : ∃ y2 : SL × List B, y2 = ((a2, (sortB lk).length, c2), sortB lk) := ⟨_, rfl⟩
      obtain ⟨N2, hN2⟩ : ∃ N2, N2 = (sortB lk).length := ⟨_, rfl⟩
      have hBr2 : Below w.heap.size w w2 := HBR.out.trans (hR2.below.mono HBR.out.size)
      have hown2 : w2.ownsRow w.heap.size 73 1 (.slice oa (k + 1) oc) (k + 1) ((rs.map Prod.fst).map sl) := by
        have : w2.ownsRow w.heap.size 73 1 (.slice oa (k + 1) oc) (rs.map Prod.fst).length ((rs.map Prod.fst).map sl) := own_later HA.out.own hR2.below
        rw [List.length_map, HRL.out] at this
        exact this
      have HOW := Lib.hid (hown2.alloc (.cells #[.slice a2 N2 c2] 73))
      have HWS := Lib.hid (show w.heap.size ≤ (w2.alloc (.cells #[.slice a2 N2 c2] 73)).heap.size from by have := hBr2.size; simp; omega)
      have HBR2 := Lib.hid hBr2
      have HR2 := Lib.hid hR2
      have HROW2 := Lib.hid hrow2
      have HY2 := Lib.hid hy2
      have HN2 := Lib.hid hN2
      rw [← hN2]
      clear hown2 hBr2 hR2 hrow2 hy2 hN2 HRUN
      go_wp2_with (at_builtin; refine wpList_append_lies _ rfl _ _ 106 rfl w.heap.size 73 i0 (.slice none 0 0) 1 24 Tryz.underlying106 hi0 hz0 hz1 hz2 rfl (by decide) _ _ _ rfl HOW.out ⟨w2.heap.size, 0, none⟩ 1 1 [.slice a2 N2 c2] rfl rfl (one_at rfl) (by simp [Value.oneCell']) (by decide) (by unfold maxLen; omega) (by omega) HWS.out _ rfl ?_; intro g3 c3 w3 hown3 hg3 hat3 hlt3; have HO3 := Lib.hid hown3; have HG3 := Lib.hid hg3; have HAT := Lib.hid hat3; have HLT := Lib.hid hlt3; clear hown3 hg3 hat3 hlt3)
      have hBA : Below w2.heap.size w2 (w2.alloc (.cells #[.slice a2 N2 c2] 73)) := (Below.refl _ w2).alloc (Nat.le_refl _) _
      have hu3 : Upon (fun g => (Value.slice oa (k + 1) oc).ownBlock = some g) (w2.alloc (.cells #[.slice a2 N2 c2] 73)) w3 := Upon.of_grown HG3.out (fun g hg => .inl hg)
      have HB3 := Lib.hid (show Below w.heap.size w w3 from (HBR2.out.alloc HBR2.out.size _).trans (hu3.below HWS.out (fun g hg => (HOW.out.lt g hg).1)))
      have HA3 := Lib.hid (show AllRows w w3 R (rs ++ [y2]) (.slice (some ⟨g3, 0, none⟩) (k + 1 + 1) c3) from by
        have hown3 := HO3.out
        have hsz := hu3.size
        simp at hsz
        refine ⟨?_, fun r hr => ?_⟩
        · show w3.ownsRow w.heap.size 73 1 _ ((rs ++ [y2]).map Prod.fst).length (((rs ++ [y2]).map Prod.fst).map sl)
          rw [List.length_map, List.length_append, HRL.out, List.map_append, List.map_append, HY2.out]
          simpa [sl, HN2.out] using hown3
        · have hat : (Value.slice oa (k + 1) oc).ownBlock = some g3 ∨ g3 = (w2.alloc (.cells #[.slice a2 N2 c2] 73)).heap.size := HAT.out
          have hrs := HBR.out.size
          have hr2 := HR2.out.below.size
          have hoa : ∀ g, (Value.slice oa (k + 1) oc).ownBlock = some g → w.heap.size ≤ g ∧ g < wr.heap.size := fun g hg => HOB.out g (by rw [← HOBK.out]; exact hg)
          rw [World.size_alloc] at hat
          have hgo : ∀ g, Mid R wr w2 g ∨ Mid R w wr g → some g ≠ (Value.slice oa (k + 1) oc).ownBlock → Mid R w w3 g ∧ some g ≠ (Value.slice (some ⟨g3, 0, none⟩) (k + 1 + 1) c3).ownBlock := fun g hg hne => by
            refine ⟨?_, fun e => ?_⟩
            · rcases hg with (hg | hg) | (hg | hg)
              · exact .inl hg
              · exact .inr ⟨by omega, by omega⟩
              · exact .inl hg
              · exact .inr ⟨by omega, by omega⟩
            · have e : g = g3 := by simpa [Value.ownBlock] using e
              rcases hat with h3 | h3
              · exact hne (by rw [e, h3])
              · rcases hg with (hg | hg) | (hg | hg)
                · have := H.out.mem.rlt g hg
                  have := HBR.out.size
                  omega
                · omega
                · have := H.out.mem.rlt g hg
                  omega
                · omega
          rcases List.mem_append.1 hr with hr | hr
          · have h1 := HA.out.rows r hr
            refine ⟨(((h1.1.later HR2.out.below).later hBA).upon hu3 (fun g hg e => hg.2 e.symm)).mono (fun g hg => hgo g (.inr hg.1) hg.2), h1.2⟩
          · rw [List.mem_singleton.1 hr, HY2.out]
            have hne2 : ∀ g, Mid R wr w2 g → some g ≠ (Value.slice oa (k + 1) oc).ownBlock := fun g hg e => by
              have := hoa g e.symm
              rcases hg with hg | hg
              · have := H.out.mem.rlt g hg
                omega
              · omega
            exact ⟨((HROW2.out.later hBA).upon hu3 (fun g hg e => hne2 g hg e.symm)).mono (fun g hg => hgo g (.inl hg) (hne2 g hg)), sortB_rises lk⟩)
      go_roundw
      case rel => exact ⟨k + 1, rs ++ [y2], by omega, by simp, by simp [HRL.out], HA3.out, by
        rw [List.map_append, List.flatten_append, List.take_add_one, HLK.out, List.flatten_append, ← List.append_assoc]
        refine List.Perm.append HP.out ?_
        rw [HY2.out]
        simpa using sortB_perm lk, HB3.out⟩
      case measure => simp [intOf]; omega
    · have HKE := Lib.hid (show k = ne by omega)
      have HP2 := Lib.hid (show ((rs.map Prod.snd).flatten).Perm (held ++ ls.flatten) from by
        have := HP.out
        rwa [List.take_of_length_le (by rw [HLS.out, HKE.out]; exact Nat.le_refl _)] at this)
      obtain ⟨ad, had⟩ : ∃ ad, oa = some ad := by
        obtain ⟨g, off, e, _⟩ := HOL.out.resolve_left (fun e => by
          have := congrArg List.length e
          rw [List.length_map, List.length_map, HRL.out] at this
          simp at this)
        exact ⟨_, e⟩
      subst had
      have HMG := Lib.hid (merge_any wr (some ad) (k + 1) oc)
      obtain ⟨W, hW⟩ : ∃ W, W = wr.alloc (.cells #[.slice (some ad) (k + 1) oc] 106) := ⟨_, rfl⟩
      have hBW : Below wr.heap.size wr W := by rw [hW]; exact (Below.refl _ wr).alloc (Nat.le_refl _) _
      have hsz := HBR.out.size
      have hsw : wr.heap.size < W.heap.size := by rw [hW]; simp
      have HE := Lib.hid (show Merging W (Mid R w W) wr.heap.size rs ad oc from by
        refine ⟨by rw [hW, HRL.out]; exact Blk.new wr _ _, .inr ⟨hsz, hsw⟩, ?_, ?_, by rw [HRL.out]; exact hoc, by rw [HRL.out]; omega, fun r hr => ?_⟩
        · have := HOL.out.later hBW
          rwa [List.map_map] at this
        · have := HOB.out ad.block rfl
          exact .inr ⟨this.1, by omega⟩
        · have h1 := HA.out.rows r hr
          exact ⟨(h1.1.later hBW).mono (fun g hg => hg.1.imp id (fun h => ⟨h.1, by omega⟩)), h1.2⟩)
      have HEB := Lib.hid (HBR.out.trans (hBW.mono hsz))
      rw [← hW] at HMG
      clear hW hBW hsz hsw
      go_wp2_with fail
      refine HMG.out.mono ?_
      rintro e w2 ⟨rfl, rfl⟩
      go_wp2_with fail
      go_ret2
      exact ⟨_, rs, ad, oc, rfl, HE.out, by rw [HRL.out, HKE.out], HP2.out, HEB.out⟩
end Go.Proofs.YtndkohocgfmamaaGreat.Runs

/- Layer 13, as the layers above it use it: a sorter in a set of blocks. -/
namespace Go.Proofs.YtndkohocgfmamaaGreat.Runs
open Go.RowKit Go.Deep Go.Shelf Mem Crc Go.Maps Go.Proofs.YtndkohocgfmamaaGreat.Merge Go.Proofs.YtndkohocgfmamaaGreat.Sees
open Go.Proofs.YtndkohocgfmamaaGreat.Store (Sto Files setF setF_same setF_other nv bare Bare St Chg none' filesOf)
open Go.Proofs.YtndkohocgfmamaaGreat.Disk (Blank)

attribute [local go_sem] Oper.semAt_some
/-- No files. -/
def noF : Files := fun _ => none
theorem bare_new {w : World} {Q : Nat → Prop} {s d g N cm : Nat} (h : St w Q s d g N cm false none') : (bare s d g N cm).At w Q false noF 0 := ⟨⟨none', [], h, rfl, fun _ h => absurd rfl h, Nat.le_refl _, fun _ h => by simp at h⟩, by omega, fun _ _ h => by cases h⟩
theorem bare_off {w w' : World} {Q : Nat → Prop} {s d g N cm n : Nat} (h : (bare s d g N cm).At w Q false noF n) (hb : Blank w' d g N true) (ho : Only [d] w w') : (bare s d g N cm).At w' Q true noF n := by
  obtain ⟨⟨C, L, hs, hF, r⟩, h2, h3⟩ := h
  refine ⟨⟨C, L, ?_, hF, r⟩, h2, h3⟩
  obtain ⟨f, h4, h5, h6⟩ := hs.map
  have hds : s ≠ d := hs.store.ne hs.disk.disk (by decide)
  have hdm : cm ≠ d := fun e => by
    obtain ⟨D, n, ⟨es, cl, hb, _⟩, _⟩ := h4
    have hd := hs.disk.disk
    unfold Blk at hd
    rw [← e, hb] at hd
    cases hd
  refine ⟨hs.store.only ho (by simpa using hds), hb, ⟨f, h4.keep (ho.block _ h4.lt (by simpa using hdm)), h5, fun nm => ?_⟩, hs.qs, hs.qd, hs.qg, hs.qm, fun k hq => Nat.lt_of_lt_of_le (hs.lt k hq) ho.size⟩
  have hx := h6 nm
  have hn : filesOf C nm = none := by rw [← hF]; rfl
  unfold filesOf at hn
  unfold Go.Proofs.YtndkohocgfmamaaGreat.Store.isChg at hx ⊢
  cases hc : C nm with
  | none => rw [hc] at hx; exact hx
  | some c =>
    rw [hc] at hn hx
    dsimp only at hn
    subst hn
    exact hx
theorem own_block {w : World} {base : Nat} {y : SL} {b : B} (h : OwnB w base (sl y) b) (h0 : b ≠ []) : ∃ g cap cs, y = (some ⟨g, 0, none⟩, b.length, cap) ∧ base ≤ g ∧ Lies w (some ⟨g, 0, none⟩) (b.map bv) ∧ Blk w g 5 cs ∧ b.length ≤ cs.size := by
  obtain ⟨a, c, e, _, hL, _, _⟩ := own_shape h
  obtain ⟨ya, yn, yc⟩ := y
  rcases h.2 with ⟨_, e2⟩ | ⟨g, cap, cur, e2, hb, hg, h2, h3, h4, h5⟩
  · exact absurd (List.eq_nil_of_length_eq_zero e2) h0
  · unfold sl at e e2
    injection e with e3 e4 e5
    injection e2 with e6 e7 e8
    dsimp only at *
    refine ⟨g, cap, cur, by rw [e6, e7, e8], hb, by rw [← e6, e3]; exact hL, hg, ?_⟩
    rw [h4]
    omega
theorem not_typed {w : World} {g : Nat} {t : TypeId} {cs : Array Value} {ts : List TypeId} (h : Blk w g t cs) (ht : t ∉ ts) : ¬ typed ts w g := fun ⟨cs', t', fr, h1, h2⟩ => by
  unfold Blk at h
  rw [h] at h1
  injection h1 with h1
  injection h1 with _ h1
  exact ht (h1 ▸ h2)
theorem own_not_typed {w : World} {base : Nat} {e : TypeId} {size n : Nat} {v : Value} {xs : List Value} {ts : List TypeId} (h : w.ownsRow base e size v n xs) (ht : e ∉ ts) (g : Nat) (hg : v.ownBlock = some g) : ¬ typed ts w g := by
  rcases h.2 with ⟨rfl, _⟩ | ⟨g', cap, cur, rfl, _, hb, _⟩
  · cases hg
  · have e : g' = g := by simpa [Value.ownBlock] using hg
    subst e
    exact not_typed (t := e) hb ht
theorem keepsFrom_cells {B0 : Nat} {X Y : World} {gb : Nat} {t : TypeId} {cs : Array Value} (h : Only [gb] X Y) (hb : Blk X gb t cs) : KeepsFrom B0 X Y :=
  ⟨h.size, fun k o _ ho hc => (h.block k (Array.getElem?_eq_some_iff.1 ho).1 (fun hm => by
    rw [List.mem_singleton.1 hm] at ho
    unfold Blk at hb
    rw [hb] at ho
    cases ho
    cases hc)).trans ho⟩
theorem seq_not_nil (B0 : Nat) (w : World) : (binOp .eql 67 (.func (.func 77) #[] #[.pointer (some ⟨B0, 0, none⟩)]) .nilFunc).run Tryz.prog w = .ok (.bool false) w := by kernel_rfl
theorem files_more {A : Fi} {F : Files} {ls : List (List B)} {held : List B} (h : RunFiles A F ls) (hl : ls.length ≤ 1000000) (hw : ∀ b ∈ held, b.length = A.wd) (h0 : held ≠ []) (hm : held.length ≤ 4096) : RunFiles A (setF F (rname A.pf ls.length) (some (runB held))) (ls ++ [held]) := by
  refine ⟨fun j l hj => ?_, fun l hl' => ?_, fun l hl' => ?_, fun l hl' => ?_⟩
  · by_cases e : j < ls.length
    · rw [List.getElem?_append_left e] at hj
      rw [setF_other _ (fun e2 => by have := rname_inj (by omega) (by omega) e2; omega)]
      exact h.at_ j l hj
    · rw [List.getElem?_append_right (by omega)] at hj
      have : j - ls.length = 0 := by
        have := (List.getElem?_eq_some_iff.1 hj).1
        simp at this
        omega
      rw [this] at hj
      simp at hj
      subst hj
      have e2 : j = ls.length := by omega
      rw [e2, setF_same]
  · rcases List.mem_append.1 hl' with hl' | hl'
    · exact h.wide l hl'
    · rw [List.mem_singleton.1 hl']; exact hw
  · rcases List.mem_append.1 hl' with hl' | hl'
    · exact h.some_ l hl'
    · rw [List.mem_singleton.1 hl']; exact h0
  · rcases List.mem_append.1 hl' with hl' | hl'
    · exact h.few l hl'
    · rw [List.mem_singleton.1 hl']; exact hm
/-- A sorter with its runs and its memory; all its blocks are of D. -/
structure InAt {s : Nat} (S : Store.Sto s) (A : Fi) (D : Nat → Prop) (w : World) (x : Nat) (off : Bool) (ls : List (List B)) (held : List B) (n : Nat) (Q R : Nat → Prop) (F : Files) (hv : Value) (vs : List SL) : Prop where
  srt : Srt S A w Q R off F n x ls.length hv vs held
  files : RunFiles A F ls
  q : ∀ k, Q k → D k
  r : ∀ k, R k → D k
  x : D x
  h : ∀ k, hv.ownBlock = some k → D k
def LiveIn {s : Nat} (S : Store.Sto s) (A : Fi) (D : Nat → Prop) (w : World) (x : Nat) (off : Bool) (ls : List (List B)) (held : List B) (n : Nat) : Prop := ∃ m Q R F hv vs, m ≤ n ∧ InAt S A D w x off ls held m Q R F hv vs
theorem LiveIn.keep {s : Nat} {S : Store.Sto s} {A : Fi} {D P : Nat → Prop} {w w' : World} {x : Nat} {off : Bool} {ls : List (List B)} {held : List B} {n : Nat} (h : LiveIn S A D w x off ls held n) (hu : Upon P w w') (hP : ∀ g, D g → ¬ P g) : LiveIn S A D w' x off ls held n := by
  obtain ⟨m, Q, R, F, hv, vs, hm, h⟩ := h
  exact ⟨m, Q, R, F, hv, vs, hm, h.srt.keep hu (fun g hg => hP g (h.q g hg)) (fun g hg => hP g (h.r g hg)) (fun g hg => hP g (h.h g hg)) (hP x h.x), h.files, h.q, h.r, h.x, h.h⟩
theorem LiveIn.later {s : Nat} {S : Store.Sto s} {A : Fi} {D : Nat → Prop} {w w' : World} {x : Nat} {off : Bool} {ls : List (List B)} {held : List B} {n : Nat} (h : LiveIn S A D w x off ls held n) (hB : Below w.heap.size w w') : LiveIn S A D w' x off ls held n := h.keep (P := fun _ => False) (Upon.of_below hB) (fun _ _ h => h)
theorem LiveIn.more {s : Nat} {S : Store.Sto s} {A : Fi} {D : Nat → Prop} {w : World} {x : Nat} {off : Bool} {ls : List (List B)} {held : List B} {n n' : Nat} (h : LiveIn S A D w x off ls held n) (hn : n ≤ n') : LiveIn S A D w x off ls held n' := by
  obtain ⟨m, Q, R, F, hv, vs, hm, h⟩ := h
  exact ⟨m, Q, R, F, hv, vs, Nat.le_trans hm hn, h⟩
theorem Flushed.inAt {s : Nat} {S : Store.Sto s} {A : Fi} {D : Nat → Prop} {w w' : World} {x : Nat} {ls : List (List B)} {held : List B} {n : Nat} {Q R Q' : Nat → Prop} {F : Files} {hv : Value} {vs : List SL} (h : InAt S A D w x false ls held n Q R F hv vs) (h0 : held ≠ []) (hf : Flushed S A w w' Q F n x ls.length held Q') (hl : ls.length ≤ 1000000) : InAt S A (Mid D w w') w' x false (ls ++ [held]) [] (n + 1) Q' (fun _ => False) (setF F (rname A.pf ls.length) (some (runB held))) (.slice none 0 0) [] ∧ Upon D w w' :=
  ⟨⟨by have := hf.srt; simpa using this, files_more h.files hl h.srt.mem.wide h0 (Nat.le_trans h.srt.room h.srt.ok.2.2.2.2.2), fun k hk => (hf.q k hk).imp (h.q k) (fun hg => ⟨hg, S.lt hf.srt.sto k hk⟩), fun _ h => h.elim, .inl h.x, fun _ h => by cases h⟩, hf.upon.mono (fun g hg => hg.elim (h.q g) (fun e => by rw [e]; exact h.x))⟩
theorem in_flush {s : Nat} {S : Store.Sto s} {A : Fi} {D : Nat → Prop} {w : World} {x : Nat} {ls : List (List B)} {held : List B} {n : Nat} (h : LiveIn S A D w x false ls held n) (h0 : held ≠ []) (hn : n < 10000) (hl : ls.length < 10000) :
    Calls Tryz.prog 25 #[.pointer (some ⟨x, 0, none⟩)] w fun e w' => e = .returned (.int .i64 0) ∧ LiveIn S A (Mid D w w') w' x false (ls ++ [held]) [] (n + 1) ∧ Upon D w w' := by
  obtain ⟨m, Q, R, F, hv, vs, hm, h⟩ := h
  refine (flush_any h.srt h0 (by omega) (by omega)).mono ?_
  rintro e w' ⟨rfl, Q', hf⟩
  have := hf.inAt h h0 (by omega)
  exact ⟨rfl, ⟨_, _, _, _, _, _, by omega, this.1⟩, this.2⟩
theorem own_lt {w : World} {base : Nat} {e : TypeId} {size n : Nat} {v : Value} {xs : List Value} (h : w.ownsRow base e size v n xs) (g : Nat) (hg : v.ownBlock = some g) : g < w.heap.size := (h.lt g hg).2
theorem Putted.inAt {s : Nat} {S : Store.Sto s} {A : Fi} {D : Nat → Prop} {w w' : World} {x : Nat} {off : Bool} {ls : List (List B)} {held held' : List B} {n : Nat} {Q R R' : Nat → Prop} {F : Files} {hv hv' : Value} {vs vs' : List SL} (h : InAt S A D w x off ls held n Q R F hv vs) (hp : Putted S A w w' Q R off F n x ls.length hv held' R' hv' vs') : InAt S A (Mid D w w') w' x off ls held' n Q R' F hv' vs' ∧ Upon D w w' :=
  ⟨⟨hp.srt, h.files, fun k hk => .inl (h.q k hk), fun k hk => (hp.r k hk).imp (h.r k) (fun hg => ⟨hg, hp.srt.mem.rlt k hk⟩), .inl h.x, fun k hk => (hp.h k hk).imp (h.h k) (fun hg => ⟨hg, own_lt hp.srt.mem.own k hk⟩)⟩, hp.upon.mono (fun g hg => hg.elim (fun e => by rw [e]; exact h.x) (h.h g))⟩
theorem runs_any {s : Nat} {S : Store.Sto s} {A : Fi} {w : World} {Q R : Nat → Prop} {off : Bool} {F : Files} {n x ne : Nat} {hv : Value} {vs : List SL} {held : List B} (h : Srt S A w Q R off F n x ne hv vs held) :
    Calls Tryz.prog 34 #[.pointer (some ⟨x, 0, none⟩)] w fun e w' => e = .returned (.int .i64 ne) ∧ ∃ m, w' = w.drewN m := by
  have q4 := h.cell 4
  have q5 := h.cell 5
  simp [sorterC] at q4 q5
  have hf := h.few
  clear h
  go_enter Tryz.func34, Tryz.ntmps34
  go_wp2_with fail
  go_quiet (fail)
  go_wp2_with fail
  go_ret
  exact ⟨by simp, _, rfl⟩
theorem LiveIn.room {s : Nat} {S : Store.Sto s} {A : Fi} {D : Nat → Prop} {w : World} {x : Nat} {off : Bool} {ls : List (List B)} {held : List B} {n : Nat} (h : LiveIn S A D w x off ls held n) : held.length ≤ A.rm := by
  obtain ⟨m, Q, R, F, hv, vs, hm, h⟩ := h
  exact h.srt.room
/-- Put of a record that lies outside, where there is room. -/
theorem in_putr {s : Nat} {S : Store.Sto s} {A : Fi} {D : Nat → Prop} {w : World} {x : Nat} {off : Bool} {ls : List (List B)} {held : List B} {n : Nat} (h : LiveIn S A D w x off ls held n) (hr : held.length < A.rm) {b : B} (hb : b.length = A.wd) (a : Option Addr) (cp : Nat) (hL : Lies w a (b.map bv)) :
    Calls Tryz.prog 45 #[.pointer (some ⟨x, 0, none⟩), .slice a b.length cp] w fun e w' => e = .returned (.int .i64 0) ∧ LiveIn S A (Mid D w w') w' x off ls (held ++ [b]) n ∧ Upon D w w' := by
  obtain ⟨m, Q, R, F, hv, vs, hm, h1⟩ := h
  refine (put_room h1.srt hr hb a cp hL).mono ?_
  rintro e w' ⟨rfl, R', hv', vs', hp⟩
  have hl2 := hp.inAt h1
  exact ⟨rfl, ⟨_, _, _, _, _, _, hm, hl2.1⟩, hl2.2⟩
/-- Flush of nothing. -/
theorem in_flush0 {s : Nat} {S : Store.Sto s} {A : Fi} {D : Nat → Prop} {w : World} {x : Nat} {off : Bool} {ls : List (List B)} {n : Nat} (h : LiveIn S A D w x off ls [] n) :
    Calls Tryz.prog 25 #[.pointer (some ⟨x, 0, none⟩)] w fun e w' => e = .returned (.int .i64 0) ∧ w = w' := by
  obtain ⟨m, Q, R, F, hv, vs, hm, h⟩ := h
  have h := h.srt
  have q6 := h.cell 6
  simp [sorterC] at q6
  have hlv : vs.length = 0 := by simpa using h.mem.recs.len
  obtain ⟨a, c, rfl, _, _, _, _⟩ := own_shape h.mem.own
  rw [hlv] at q6
  clear h hlv
  go_enter Tryz.func25, Tryz.ntmps25
  go_wp2_with fail
  go_ret
  exact ⟨rfl, rfl⟩
theorem in_flush_off {s : Nat} {S : Store.Sto s} {A : Fi} {D : Nat → Prop} {w : World} {x : Nat} {ls : List (List B)} {held : List B} {n : Nat} (h : LiveIn S A D w x true ls held n) (h0 : held ≠ []) (hl : ls.length < 10000) :
    Calls Tryz.prog 25 #[.pointer (some ⟨x, 0, none⟩)] w fun e w' => e = .returned (.int .i64 6) ∧ LiveIn S A D w' x true ls held n ∧ Below w.heap.size w w' := by
  have h' := h
  obtain ⟨m, Q, R, F, hv, vs, hm, h⟩ := h
  refine (flush_off h.srt h0 (by omega)).mono ?_
  rintro e w' ⟨rfl, hB⟩
  exact ⟨rfl, h'.later hB, hB⟩
theorem in_runs {s : Nat} {S : Store.Sto s} {A : Fi} {D : Nat → Prop} {w : World} {x : Nat} {off : Bool} {ls : List (List B)} {held : List B} {n : Nat} (h : LiveIn S A D w x off ls held n) :
    Calls Tryz.prog 34 #[.pointer (some ⟨x, 0, none⟩)] w fun e w' => e = .returned (.int .i64 ls.length) ∧ Below w.heap.size w w' := by
  obtain ⟨m, Q, R, F, hv, vs, hm, h⟩ := h
  refine (runs_any h.srt).mono ?_
  rintro e w' ⟨rfl, m, rfl⟩
  exact ⟨rfl, rfl, rfl, rfl, Nat.le_refl _, fun _ _ => rfl⟩
theorem LiveIn.forget {s : Nat} {S : Store.Sto s} {A : Fi} {D : Nat → Prop} {w : World} {x : Nat} {off : Bool} {ls : List (List B)} {held : List B} {n : Nat} (h : LiveIn S A D w x off ls held n) : w.cell? ⟨x, 6, none⟩ ≠ none ∧ w.frozen? ⟨x, 6, none⟩ = false ∧ D x ∧ LiveIn S A D (w.setCell ⟨x, 6, none⟩ (.slice none 0 0)) x off ls [] n := by
  obtain ⟨m, Q, R, F, hv, vs, hm, h1⟩ := h
  have h := h1.srt
  have q6 := h.cell 6
  simp [sorterC] at q6
  have ho : Only [x] w (w.setCell ⟨x, 6, none⟩ (.slice none 0 0)) := (Only.refl [x] w).set (p := ⟨x, 6, none⟩) (.inl (by simp)) _
  refine ⟨by rw [q6]; simp, h.blk.frozen 6, h1.x, m, Q, fun _ => False, F, .slice none 0 0, [], hm, ⟨h.sIs, by have := h.blk.set 6 (.slice none 0 0); simpa [sorterC] using this, S.keep h.sto ho.size (fun q hq => ho.block q (S.lt h.sto q hq) (by rintro e; rw [List.mem_singleton.1 e] at hq; exact h.xq hq)), held_none _ A.wd, (fun _ h => h.elim), (fun _ h => by cases h), h.xq, h.ok, by simp, h.few⟩, h1.files, h1.q, fun _ h => h.elim, h1.x, fun _ h => by cases h⟩
theorem Merging.mono {w : World} {U U' : Nat → Prop} {Bs : Nat} {rs : List (SL × List B)} {ad : Addr} {c : Nat} (h : Merging w U Bs rs ad c) (hU : ∀ g, U g → U' g) : Merging w U' Bs rs ad c :=
  ⟨h.box, hU _ h.boxU, h.row, hU _ h.rowU, h.cap, h.pos, fun r hr => ⟨(h.rows r hr).1.mono hU, (h.rows r hr).2⟩⟩
theorem in_rows {s : Nat} {S : Store.Sto s} {A : Fi} {D : Nat → Prop} {w : World} {x : Nat} {off : Bool} {ls : List (List B)} {held : List B} {n : Nat} (h : LiveIn S A D w x off ls held n) (hl : ls.length ≤ 1000) (hoff : off = false ∨ ls = []) :
    Calls Tryz.prog 27 #[.pointer (some ⟨x, 0, none⟩)] w fun e w' => ∃ Bs rs ad c, e = .returned (.tuple #[.func (.func 77) #[] #[.pointer (some ⟨Bs, 0, none⟩)], .int .i64 0]) ∧ Merging w' (Mid D w w') Bs rs ad c ∧ rs.length = ls.length + 1 ∧ ((rs.map Prod.snd).flatten).Perm (held ++ ls.flatten) ∧ Below w.heap.size w w' := by
  obtain ⟨m, Q, R, F, hv, vs, hm, h⟩ := h
  refine (rows_any h.srt ls rfl hl h.files (hoff.imp id (fun e => by rw [e]; rfl))).mono ?_
  rintro e w' ⟨Bs, rs, ad, c, rfl, hM, h1, h2, hB⟩
  exact ⟨Bs, rs, ad, c, rfl, hM.mono (fun g hg => hg.imp (h.r g) id), h1, h2, hB⟩
/-- "v". -/
def vpf : List UInt8 := [118]
def fiV (s rm : Nat) : Fi := ⟨s, vpf, 16, rm⟩
/-- begin, and a new sorter. -/
theorem in_new {d s g cm : Nat} {w : World} {Q : Nat → Prop} (h : St w Q s d g 400 cm false none') (B0 : Nat) (hQ : ∀ k, Q k → B0 ≤ k) (hB0 : B0 ≤ w.heap.size) (rm : Nat) (h3 : 1 ≤ rm) (h4 : rm ≤ 4096) :
    Calls Tryz.prog 22 #[.pointer (some ⟨s, 0, none⟩), .string ⟨#[118]⟩, .int .i64 16, .int .i64 rm] w fun e w' => ∃ x, e = .returned (.tuple #[.pointer (some ⟨x, 0, none⟩), .int .i64 0]) ∧ LiveIn (bare s d g 400 cm) (fiV s rm) (fun k => B0 ≤ k ∧ k < w'.heap.size) w' x false [] [] 0 ∧ Below w.heap.size w w' := by
  refine (new_any (bare s d g 400 cm) (fiV s rm) rfl ⟨by simp [fiV, vpf], by simp [fiV, vpf], by simp [fiV], by simp [fiV], h3, h4⟩ (bare_new h)).mono ?_
  rintro e w' ⟨x, ne, rfl, hn⟩
  have hne : ne = 0 := by
    rcases Nat.eq_zero_or_pos ne with h | h
    · exact h
    · exact absurd rfl (hn.runs 0 h)
  subst hne
  exact ⟨x, rfl, ⟨0, Q, _, noF, _, _, Nat.le_refl _, hn.srt, ⟨fun j l hj => by simp at hj, fun l hl => by simp at hl, fun l hl => by simp at hl, fun l hl => by simp at hl⟩, fun k hk => ⟨hQ k hk, (bare s d g 400 cm).lt hn.srt.sto k hk⟩, fun _ h => h.elim, ⟨by have := hn.fresh; omega, hn.srt.blk.lt⟩, fun _ h => by cases h⟩, hn.below⟩
set_option maxHeartbeats 400000 in
theorem new_bad (s : Value) (w : World) (rm : Int) (h : rm < 1 ∨ 4096 < rm) :
    Calls Tryz.prog 22 #[s, .string ⟨#[118]⟩, .int .i64 16, .int .i64 rm] w fun e w' => e = .returned (.tuple #[.pointer none, .int .i64 1]) ∧ Below w.heap.size w w' := by
  have go : ∀ (t3 t4 : Bool), decide (rm < 1) = t3 → decide (4096 < rm) = t4 → (t3 || t4) = true → Calls Tryz.prog 22 #[s, .string ⟨#[118]⟩, .int .i64 16, .int .i64 rm] w fun e w' => e = .returned (.tuple #[.pointer none, .int .i64 1]) ∧ Below w.heap.size w w' := by
    intro t3 t4 h3 h4 hor
    clear h
    cases t3 <;> cases t4 <;> first | (cases hor; done) | skip
    all_goals (
      clear hor
      go_enter Tryz.func22, Tryz.ntmps22
      go_wp2_with fail
      exact bodyPost_ret (v := .tuple #[.pointer none, .int .i64 1]) (by simp [results, Tryz.results22, go_sem]) rfl ⟨rfl, rfl, rfl, rfl, Nat.le_refl _, fun _ _ => rfl⟩)
  refine go _ _ rfl rfl ?_
  rcases h with h | h <;> simp [h]
end Go.Proofs.YtndkohocgfmamaaGreat.Runs

/- A region that draws its order, inside a round of a range over a function: the plain laws (wpAny, wpAnyH) serve it, where no operation defers. -/
namespace Go.Proofs.YtndkohocgfmamaaGreat.Round
open Go

def noDefer (l : List Oper) : Bool := l.all (fun o => match o.op with
  | .defer _ => false
  | _ => true)
theorem noDefer_at {l : List Oper} (h : noDefer l = true) : ∀ (i : Nat) (o : Oper), l.toArray[i]? = some o → ∀ c, o.op ≠ .defer c := fun i o ho c e => by
  have h1 := List.all_eq_true.1 h o (List.mem_of_getElem? (by simpa using ho))
  rw [e] at h1
  cases h1
section
variable {P : Program} {Q : Exit → Act → World → Prop} {l n : Nat}
theorem rows_wide {row : String} {args : Array Value} {w : World} {R : Value → World → Prop} (h : Rows P row args w R) : RowsIn (Fence.wide.inRound l) n P row args w R := fun c cs _ =>
  let ⟨v, w', r, s⟩ := h c cs
  ⟨v, w', r, stepsIn_wide.2 s⟩
theorem upon_round {o : Oper} {a : Act} {next : Act → World → Prop} : ∀ {r : Result Next}, o.upon P a next Q r → o.uponIn (Fence.wide.inRound l) n P a next Q r
  | .ok (.value _) _, h => h
  | .ok .skip _, h => h
  | .ok (.defer _) _, h => h
  | .ok (.enter _ _) _, h => ⟨fun e => by simp [Fence.wide] at e, callsIn_wide.2 h⟩
  | .ok (.row _ _) _, h => ⟨fun e => by simp [Fence.wide] at e, rows_wide h⟩
  | .halt (.panic _) _, h => h
theorem op_round {o : Oper} {a : Act} {w : World} {next : Act → World → Prop} (hnd : ∀ c, o.op ≠ .defer c) (h : o.wp P a w next Q) : o.wpIn (Fence.wide.inRound l) n P a w next Q :=
  ⟨fun _ _ => trivial, by rw [Oper.semAt_plain (Fence.wide.inRound l) _ _ hnd]; exact upon_round h⟩
theorem any_round {md : Region.Mode} {ops : Array Oper} (hnd : ∀ (i : Nat) (o : Oper), ops[i]? = some o → ∀ c, o.op ≠ .defer c) (hq : ¬ LetsOut Q) : ∀ (fuel : Nat) (listed : Array Bool) (a : Act) (w : World), wpAny P md ops Q fuel listed a w → wpAnyIn (Fence.wide.inRound l) n P md ops Q fuel listed a w
  | 0, _, _, _, h => h
  | fuel + 1, listed, a, w, h => ⟨h.1, fun i hi => by
    have h1 := h.2 i hi
    unfold wpOp at h1
    unfold wpOpIn
    cases ho : ops[i]? with
    | none =>
      rw [ho] at h1
      exact any_round hnd hq fuel _ _ _ h1
    | some o =>
      rw [ho] at h1
      dsimp only at h1 ⊢
      by_cases hw : Region.wanted o (yielded ops a.tmps) = true
      · rw [if_pos hw] at h1 ⊢
        rcases h1 with h1 | h1
        · exact Oper.wpIn_mono (fun a w h => any_round hnd hq fuel _ a w h) (op_round (hnd i o ho) h1)
        · exact absurd h1.2 hq
      · rw [if_neg hw] at h1 ⊢
        exact ⟨fun _ _ => trivial, any_round hnd hq fuel _ _ _ h1⟩⟩
/-- A region that draws, in a round. -/
theorem region_round {id : Nat} {ops : List Oper} {a : Act} {w : World} (hm : P.follows .mixedOrders = true) (hd : noDefer ops = true) (hq : ¬ LetsOut Q) (h : wpAny P .any ops.toArray Q ops.toArray.size (Array.replicate ops.toArray.size false) a w.drew) : (Code.region id ops.toArray true).wpIn (Fence.wide.inRound l) n P Q a w :=
  wpIn_region_any hm (any_round (noDefer_at hd) hq _ _ _ _ h)
/-- A post that asks for the normal end. -/
def Calm (Q : Exit → Act → World → Prop) : Exit → Act → World → Prop
  | .normal, a, w => Q .normal a w
  | _, _, _ => False
/-- A region that draws, in a round: under a condition S on the world, which the loads need. -/
theorem region_round_held {S : World → Prop} {id : Nat} {ops : List Oper} {a : Act} {w : World} (hm : P.follows .mixedOrders = true) (hd : noDefer ops = true) (hS : S w.drew) (h : S w.drew → wpAnyH P .any ops.toArray (Calm Q) S ops.toArray.size (Array.replicate ops.toArray.size false) a w.drew) : (Code.region id ops.toArray true).wpIn (Fence.wide.inRound l) n P Q a w :=
  wpIn_mono (region_round (Q := Calm Q) hm hd (by rintro ⟨a, w, h⟩; exact h) (wpAny_of_held _ _ _ _ (h hS))) (fun e a w h => by
    cases e <;> first | exact h | exact h.elim)
end
end Go.Proofs.YtndkohocgfmamaaGreat.Round

/- Regions that draw their order, inside a round of a range over a function: reads alone; reads and quiet calls ahead of a tail. -/
namespace Go.Proofs.YtndkohocgfmamaaGreat.Round
open Go
section
variable {P : Program} {Q : Exit → Act → World → Prop} {l n : Nat}
theorem not_letsOut : ¬ LetsOut (Calm Q) := by rintro ⟨a, w, h⟩; exact h
theorem calm_imp : ∀ e a w, Calm Q e a w → Q e a w := fun e a w h => by cases e <;> first | exact h | exact h.elim
theorem calm_of {a : Act} {w : World} (h : Q .normal a w) : Calm Q .normal a w := h
/-- Reads alone. -/
theorem region_round_quiet {id : Nat} {ops : List Oper} {a : Act} {w : World} (hm : P.follows .mixedOrders = true) (hd : noDefer ops = true) (hB : Region.lexB .any ops.toArray = true)
    (h : wpQuiet P ops.toArray (fun w' => ∃ n, w' = w.drewN n) (fun a' => ∀ w', (∃ n, w' = w.drewN n) → Q .normal a' w') ops a) : (Code.region id ops.toArray true).wpIn (Fence.wide.inRound l) n P Q a w := by
  refine wpIn_mono (region_round (Q := Calm Q) hm hd not_letsOut ?_) calm_imp
  simp only [Region.lexB, Bool.and_eq_true] at hB
  refine wpAny_of_quiet (C := fun w' => ∃ n, w' = w.drewN n) (Q := fun a' => ∀ w', (∃ n, w' = w.drewN n) → Q .normal a' w') (Q' := Calm Q) (w := w.drew) (fun _ w' hw' h => h w' hw') _ _ _ ⟨1, rfl⟩ ?_
  have := wpAnyQ_lex (C := fun w' => ∃ n, w' = w.drewN n) (md := .any) hB.1 ops.toArray.toList 0 (Array.replicate ops.toArray.size false) a (by simp) (by simpa using hB.2) (by simpa using h)
  simpa using this
/-- Reads and quiet calls ahead of a tail in one order. -/
theorem region_round_still_tail {id : Nat} {a : Act} {w : World} {ops : List Oper} (m : Nat) (hm : P.follows .mixedOrders = true) (hd : noDefer ops = true) (hB : Region.lexTailB .any ops.toArray m = true)
    (h : wpStill P ops.toArray w.drew (fun a' => wpList P ops.toArray (Calm Q) (ops.drop m) a' w.drew) (ops.take m) a) : (Code.region id ops.toArray true).wpIn (Fence.wide.inRound l) n P Q a w := by
  refine wpIn_mono (region_round (Q := Calm Q) hm hd not_letsOut ?_) calm_imp
  simp only [Region.lexTailB, Bool.and_eq_true, decide_eq_true_eq] at hB
  obtain ⟨⟨⟨⟨hsel, hn⟩, hs⟩, hc⟩, hlex⟩ := hB
  have hn' : m < ops.length := by simpa using hn
  have htl : (ops.take m).length = m := by simp; omega
  have hdl : (ops.drop m).length = ops.toArray.size - m := by simp
  have inv0 : HeadInv .any ops.toArray m (Array.replicate ops.toArray.size false) :=
    ⟨by simp, fun j oj _ hl => (by rw [getD_replicate_false] at hl; cases hl), fun t _ ht => getD_in (by simpa using ht) (getD_replicate_false _ _)⟩
  have H := wpAnyL_lex (md := .any) (g := ops.toArray.size - m) hsel hs hc hn (ops.take m) 0 _ a (fun j hj => by
    have hj' : j < m := by rw [htl] at hj; exact hj
    simp [hj']) (by simpa using htl) inv0 (by rw [htl]; exact hlex) h
  have := wpAny_of_head (Q' := Calm Q) (g := ops.toArray.size - m) (fun listed a' hL => by
    have := wpAny_of_seq (md := .any) (Q' := Calm Q) (ops.drop m) m listed a' w.drew (fun j => by simp [List.getElem?_drop]) (by rw [hdl]; exact hL.1) hL.2
    rwa [hdl] at this) _ _ _ H
  rw [htl, show m + (ops.toArray.size - m) = ops.toArray.size by omega] at this
  exact this
end
end Go.Proofs.YtndkohocgfmamaaGreat.Round

/- Layer 27, plain: records that rise. -/
namespace Go.Proofs.YtndkohocgfmamaaGreat.Visit
open Go.Proofs.YtndkohocgfmamaaGreat.Merge
open Go.Proofs.YtndkohocgfmamaaGreat.Runs (sortB sortB_perm sortB_rises)

/-- Records that rise are those of pairs that rise. -/
theorem sorted_pairs {K : List KC} (h : ∀ p ∈ K, okP p) : ∃ K' : List KC, sortB (K.map recB) = K'.map recB ∧ K'.Perm K ∧ K'.Pairwise (fun p q => p.1 ≤ q.1) := by
  -- a row of records of pairs is the map of some pairs
  have key : ∀ (l : List B) (K : List KC), l.Perm (K.map recB) → ∃ K' : List KC, l = K'.map recB ∧ K'.Perm K := by
    intro l
    induction l with
    | nil =>
      intro K hp
      have : K = [] := by simpa using hp.nil_eq
      subst this
      exact ⟨[], rfl, List.Perm.refl _⟩
    | cons b t ih =>
      intro K hp
      obtain ⟨p, hpm, rfl⟩ := List.mem_map.1 (hp.mem_iff.1 (List.mem_cons_self))
      obtain ⟨s, u, rfl⟩ := List.append_of_mem hpm
      have hp2 : t.Perm ((s ++ u).map recB) := by
        have h2 : (recB p :: t).Perm (recB p :: (s ++ u).map recB) := by
          refine hp.trans ?_
          rw [List.map_append, List.map_append, List.map_cons]
          exact List.perm_middle
        exact h2.cons_inv
      obtain ⟨K', e, hK'⟩ := ih _ hp2
      exact ⟨p :: K', by rw [List.map_cons, e], (hK'.cons p).trans List.perm_middle.symm⟩
  obtain ⟨K', e, hK'⟩ := key _ K (sortB_perm _)
  refine ⟨K', e, hK', ?_⟩
  have hr := sortB_rises (K.map recB)
  rw [e] at hr
  have hr2 : K'.Pairwise (fun p q => recB p ≤ recB q) := List.pairwise_map.1 hr
  exact hr2.imp_of_mem (fun {a b} ha _ hab => recB_le (h a (hK'.mem_iff.1 ha)) hab)
end Go.Proofs.YtndkohocgfmamaaGreat.Visit
