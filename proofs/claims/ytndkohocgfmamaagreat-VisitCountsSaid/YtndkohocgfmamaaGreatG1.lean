/- Base, Bytes, Crc, Mark, HeapLaw, MergeLaw, VisitLaw, VisitSum, VisitRec, VisitCount, in one text. -/
import Derived.Test.YtndkohocgfmamaaGreatRows
import Derived.WalkKit
import Derived.Lib.Hide
import Derived.Below
import Derived.Laws.OwnMore
import Derived.Laws.Rows
import Derived.Laws.IdiomCopy
import Derived.Deep.Draws
import Derived.WalkSmall
import Derived.BigQuiet
import Derived.Deep.QuietTactic
import Derived.Deep.Slices
import Derived.Deep.OwnRows
import Derived.IntWalk
import Derived.Laws.BitsAllLaws
import Derived.Laws.CopyOwn
import Derived.Laws.Tables
import Derived.WalkSpells
import Derived.Laws.Externs
import Derived.Outline
/- Words on memory used by all texts of this seat: a block known whole; the frame of a call that may write blocks of certain types from a base on. -/
namespace Go.Proofs.YtndkohocgfmamaaGreat.Mem
open Go.RowKit

/-- Block g holds just the cells cs of element type t, none frozen. -/
def Blk (w : World) (g : Nat) (t : TypeId) (cs : Array Value) : Prop := w.heap[g]? = some (.cells cs t (0, 0))

theorem Blk.lt {w : World} {g : Nat} {t : TypeId} {cs : Array Value} (h : Blk w g t cs) : g < w.heap.size := (Array.getElem?_eq_some_iff.1 h).1
theorem Blk.cell {w : World} {g : Nat} {t : TypeId} {cs : Array Value} (h : Blk w g t cs) (i : Nat) : w.cell? ⟨g, i, none⟩ = cs[i]? := cell_of_row w g i cs t (0, 0) h
theorem Blk.frozen {w : World} {g : Nat} {t : TypeId} {cs : Array Value} (h : Blk w g t cs) (i : Nat) : w.frozen? ⟨g, i, none⟩ = false := by
  unfold Blk at h
  simp [World.frozen?, h]
theorem Blk.new (w : World) (t : TypeId) (cs : Array Value) : Blk (w.alloc (.cells cs t)) w.heap.size t cs := heap_alloc_new w _
theorem Blk.at_ {w : World} {g : Nat} {t : TypeId} {cs : Array Value} (h : g = w.heap.size) : Blk (w.alloc (.cells cs t)) g t cs := by subst h; exact Blk.new w t cs
theorem Blk.drew {w : World} {g : Nat} {t : TypeId} {cs : Array Value} (h : Blk w g t cs) : Blk w.drew g t cs := h
theorem Blk.drewN {w : World} {g : Nat} {t : TypeId} {cs : Array Value} (h : Blk w g t cs) (n : Nat) : Blk (w.drewN n) g t cs := h
theorem Blk.alloc {w : World} {g : Nat} {t : TypeId} {cs : Array Value} (h : Blk w g t cs) (o : Obj) : Blk (w.alloc o) g t cs := (Below.heap_alloc w o g h.lt).trans h
theorem Blk.set {w : World} {g : Nat} {t : TypeId} {cs : Array Value} (h : Blk w g t cs) (i : Nat) (u : Value) : Blk (w.setCell ⟨g, i, none⟩ u) g t (cs.setIfInBounds i u) := by
  unfold Blk at h ⊢
  simp [World.setCell, Array.getElem?_modify, h]
theorem Blk.far {w : World} {g : Nat} {t : TypeId} {cs : Array Value} (h : Blk w g t cs) {p : Addr} (hp : g ≠ p.block) (u : Value) : Blk (w.setCell p u) g t cs := (Below.heap_setCell w p u g hp).trans h
theorem Blk.below {B : Nat} {w w' : World} {g : Nat} {t : TypeId} {cs : Array Value} (h : Blk w g t cs) (hb : Below B w w') (hg : g < B) : Blk w' g t cs := (hb.block g hg).trans h
theorem Blk.ne {w : World} {g g' : Nat} {t t' : TypeId} {cs cs' : Array Value} (h : Blk w g t cs) (h' : Blk w g' t' cs') (hne : t ≠ t') : g ≠ g' := by
  rintro rfl
  unfold Blk at h h'
  rw [h] at h'
  injection h' with h'
  injection h' with _ ht
  exact hne ht

/-- Many cells stored into a block that is known whole. -/
theorem Blk.splice {g : Nat} {t : TypeId} : ∀ (vs : List Value) (o : Nat) (w : World) (cs : Array Value), Blk w g t cs → o + vs.length ≤ cs.size →
    ∃ cs' : Array Value, Blk (w.setCells g o vs) g t cs' ∧ cs'.toList = cs.toList.take o ++ vs ++ cs.toList.drop (o + vs.length)
  | [], o, w, cs, h, _ => ⟨cs, h, by simp⟩
  | v :: r, o, w, cs, h, ho => by
    have ho' : o < cs.toList.length := by simp at ho ⊢; omega
    obtain ⟨cs', h1, h2⟩ := Blk.splice r (o + 1) (w.setCell ⟨g, o, none⟩ v) (cs.setIfInBounds o v) (h.set o v) (by simp at ho ⊢; omega)
    refine ⟨cs', h1, ?_⟩
    rw [h2, Array.toList_setIfInBounds, List.set_eq_take_append_cons_drop, if_pos ho']
    obtain ⟨A, hA⟩ : ∃ A, cs.toList.take o = A := ⟨_, rfl⟩
    obtain ⟨D, hD⟩ : ∃ D, cs.toList.drop (o + 1) = D := ⟨_, rfl⟩
    have e1 : A.length = o := by rw [← hA, List.length_take]; omega
    have e2 : cs.toList.drop (o + (v :: r).length) = D.drop r.length := by
      rw [← hD, List.drop_drop]
      congr 1
      simp only [List.length_cons]
      omega
    rw [e2, hA, hD, List.take_append, List.drop_append, e1, List.take_of_length_le (l := A) (by omega), @List.drop_eq_nil_of_le _ A _ (by omega), show o + 1 - o = 1 by omega, show o + 1 + r.length - o = r.length + 1 by omega]
    simp

/-- Is block k one of cells of one of the types ts? -/
def typed (ts : List TypeId) (w : World) (k : Nat) : Prop := ∃ (cs : Array Value) (t : TypeId) (fr : Nat × Nat), w.heap[k]? = some (.cells cs t fr) ∧ t ∈ ts

/-- What a call may have done: new blocks; writes to blocks from B on whose type is one of ts. -/
structure Fr (B : Nat) (ts : List TypeId) (w w' : World) : Prop where
  os : w'.os = w.os
  tape : w'.tape = w.tape
  output : w'.output = w.output
  size : w.heap.size ≤ w'.heap.size
  block : ∀ k, k < w.heap.size → (k < B ∨ ¬ typed ts w k) → w'.heap[k]? = w.heap[k]?

theorem Fr.refl (B : Nat) (ts : List TypeId) (w : World) : Fr B ts w w := ⟨rfl, rfl, rfl, Nat.le_refl _, fun _ _ _ => rfl⟩
theorem Fr.trans {B : Nat} {ts : List TypeId} {a b c : World} (h : Fr B ts a b) (k : Fr B ts b c) : Fr B ts a c :=
  ⟨k.os.trans h.os, k.tape.trans h.tape, k.output.trans h.output, Nat.le_trans h.size k.size, fun i hi hn => by
    have e := h.block i hi hn
    refine (k.block i (Nat.lt_of_lt_of_le hi h.size) ?_).trans e
    rcases hn with hn | hn
    · exact .inl hn
    · refine .inr (fun ht => hn ?_)
      obtain ⟨cs, t, fr, h1, h2⟩ := ht
      exact ⟨cs, t, fr, e ▸ h1, h2⟩⟩
theorem typed_lt {ts : List TypeId} {w : World} {k : Nat} (h : typed ts w k) : k < w.heap.size := by
  obtain ⟨cs, t, fr, h1, _⟩ := h
  exact (Array.getElem?_eq_some_iff.1 h1).1
theorem Fr.of_below {B : Nat} {ts : List TypeId} {w w' : World} (h : Below w.heap.size w w') : Fr B ts w w' :=
  ⟨h.os, h.tape, h.output, h.size, fun k hk _ => h.block k hk⟩
theorem Fr.alloc {B : Nat} {ts : List TypeId} {a w : World} (h : Fr B ts a w) (o : Obj) : Fr B ts a (w.alloc o) := h.trans (Fr.of_below ((Below.refl _ w).alloc (Nat.le_refl _) o))
theorem Fr.drew {B : Nat} {ts : List TypeId} {a w : World} (h : Fr B ts a w) : Fr B ts a w.drew := h.trans (Fr.of_below (Below.refl _ w).drew)
theorem Fr.drewN {B : Nat} {ts : List TypeId} {a w : World} (h : Fr B ts a w) (n : Nat) : Fr B ts a (w.drewN n) := ⟨h.os, h.tape, h.output, h.size, h.block⟩
theorem Fr.mono {B B' : Nat} {ts ts' : List TypeId} {w w' : World} (h : Fr B ts w w') (hB : B' ≤ B) (hts : ∀ t ∈ ts, t ∈ ts') : Fr B' ts' w w' :=
  ⟨h.os, h.tape, h.output, h.size, fun k hk hn => h.block k hk (by
    rcases hn with hn | hn
    · exact .inl (by omega)
    · exact .inr (fun ⟨cs, t, fr, h1, h2⟩ => hn ⟨cs, t, fr, h1, hts t h2⟩))⟩
theorem Fr.set {B : Nat} {ts : List TypeId} {a w : World} (h : Fr B ts a w) {g i : Nat} {t : TypeId} {cs : Array Value} (hb : Blk w g t cs) (hB : B ≤ g) (ht : t ∈ ts) (u : Value) : Fr B ts a (w.setCell ⟨g, i, none⟩ u) :=
  h.trans ⟨rfl, rfl, rfl, by simp [World.setCell], fun k hk hn => Below.heap_setCell w _ u k (by
    show k ≠ g
    rintro rfl
    rcases hn with hn | hn
    · omega
    · exact hn ⟨cs, t, (0, 0), hb, ht⟩)⟩
theorem Fr.setCells {B : Nat} {ts : List TypeId} {g : Nat} {t : TypeId} (hB : B ≤ g) (ht : t ∈ ts) : ∀ (vs : List Value) (o : Nat) {a w : World} (cs : Array Value), Fr B ts a w → Blk w g t cs → Fr B ts a (w.setCells g o vs)
  | [], _, _, _, _, h, _ => h
  | v :: r, o, _, _, _, h, hb => Fr.setCells hB ht r (o + 1) _ (h.set hb hB ht v) (hb.set o v)
theorem Fr.below {B : Nat} {ts : List TypeId} {w w' : World} (h : Fr B ts w w') (hB : B ≤ w.heap.size) : Below B w w' := ⟨h.os, h.tape, h.output, h.size, fun k hk => h.block k (by omega) (.inl hk)⟩
/-- A block of another type, or below B, is as it was. -/
theorem Fr.keep {B : Nat} {ts : List TypeId} {w w' : World} (h : Fr B ts w w') {g : Nat} {t : TypeId} {cs : Array Value} (hb : Blk w g t cs) (hn : g < B ∨ t ∉ ts) : Blk w' g t cs :=
  (h.block g hb.lt (hn.imp id (fun hn ⟨cs', t', fr, h1, h2⟩ => by
    rw [show w.heap[g]? = _ from hb] at h1
    cases h1
    exact hn h2))).trans hb
theorem Fr.row {B : Nat} {ts : List TypeId} {w w' : World} (h : Fr B ts w w') {base size n : Nat} {e : TypeId} {v : Value} {xs : List Value} (ho : w.ownsRow base e size v n xs) (hn : e ∉ ts) : w'.ownsRow base e size v n xs := by
  refine ⟨ho.1, ?_⟩
  rcases ho.2 with h0 | ⟨g, cap, cur, rfl, hb, hg, r⟩
  · exact .inl h0
  · exact .inr ⟨g, cap, cur, rfl, hb, h.keep hg (.inr hn), r⟩
/-- Behind an append to a row of the call's own. -/
theorem Fr.grown {B : Nat} {ts : List TypeId} {a w w' : World} (h : Fr B ts a w) {size n : Nat} {e : TypeId} {v : Value} {xs : List Value} (ho : w.ownsRow B e size v n xs) (hg : w.grownBy w' v.ownBlock) (ht : e ∈ ts) : Fr B ts a w' :=
  h.trans ⟨hg.os, hg.tape, hg.output, hg.size, fun k hk hn => hg.block k hk (fun e' => by
    have hlt := ho.lt k e'.symm
    rcases ho.2 with ⟨rfl, _⟩ | ⟨g, cap, cur, rfl, hb, hgg, r⟩
    · cases e'
    · have : g = k := by simpa [Value.ownBlock] using e'.symm
      subst this
      rcases hn with hn | hn
      · omega
      · exact hn ⟨cur, e, (0, 0), hgg, ht⟩)⟩

/-- Stores into one block alone. -/
theorem only_setCells (g : Nat) : ∀ (vs : List Value) (o : Nat) (w : World), w.grownBy (w.setCells g o vs) (some g)
  | [], _, w => World.grownBy.refl w _
  | v :: r, o, w => by
    have h := only_setCells g r (o + 1) (w.setCell ⟨g, o, none⟩ v)
    refine ⟨h.os, h.tape, h.output, ?_, fun k hk hn => ?_⟩
    · have := h.size
      simpa [World.setCell, World.setCells] using this
    · refine (h.block k (by simpa [World.setCell] using hk) hn).trans (Below.heap_setCell w _ v k (fun e => hn (by rw [e])))
theorem grown_trans {a b c : World} {row : Option Nat} (h : a.grownBy b row) (k : b.grownBy c row) : a.grownBy c row :=
  ⟨k.os.trans h.os, k.tape.trans h.tape, k.output.trans h.output, Nat.le_trans h.size k.size, fun i hi hn => (k.block i (Nat.lt_of_lt_of_le hi h.size) hn).trans (h.block i hi hn)⟩
theorem grown_drew {a : World} {row : Option Nat} : a.grownBy a.drew row := ⟨rfl, rfl, rfl, Nat.le_refl _, fun _ _ _ => rfl⟩
theorem grown_below {a b : World} {row : Option Nat} (h : Below a.heap.size a b) : a.grownBy b row := ⟨h.os, h.tape, h.output, h.size, fun i hi _ => h.block i hi⟩
theorem grown_alloc {a w : World} {row : Option Nat} (h : a.grownBy w row) (o : Obj) : a.grownBy (w.alloc o) row :=
  ⟨h.os, h.tape, h.output, Nat.le_trans h.size (by simp), fun i hi hne => (Below.heap_alloc w o i (Nat.lt_of_lt_of_le hi h.size)).trans (h.block i hi hne)⟩
theorem grown_new {a w : World} {row : Option Nat} (h : a.grownBy w row) {p : Addr} (hp : a.heap.size ≤ p.block) (u : Value) : a.grownBy (w.setCell p u) row :=
  ⟨h.os, h.tape, h.output, by simpa [World.setCell] using h.size, fun i hi hne => (Below.heap_setCell w p u i (by omega)).trans (h.block i hi hne)⟩
theorem grown_set {a w : World} {g : Nat} (h : a.grownBy w (some g)) (i : Nat) (u : Value) : a.grownBy (w.setCell ⟨g, i, none⟩ u) (some g) :=
  ⟨h.os, h.tape, h.output, by simpa [World.setCell] using h.size, fun k hi hne => (Below.heap_setCell w _ u k (fun e => hne (by rw [e]))).trans (h.block k hi hne)⟩
/-- What is done in a world of new blocks, seen from an elder one. -/
theorem grown_later {a b c : World} {row : Option Nat} (h : Below a.heap.size a b) (k : b.grownBy c row) : a.grownBy c row := grown_trans (grown_below h) k
theorem own_far {w : World} {base : Nat} {e : TypeId} {size : Nat} {v : Value} {n : Nat} {xs : List Value} (h : w.ownsRow base e size v n xs) {p : Addr} (hp : v.ownBlock ≠ some p.block) (u : Value) : (w.setCell p u).ownsRow base e size v n xs :=
  h.kept (row := some p.block) ⟨rfl, rfl, rfl, by simp [World.setCell], fun k _ hn => Below.heap_setCell w p u k (fun e => hn (by rw [e]))⟩ (.inr hp)
theorem Blk.grown {w w' : World} {g : Nat} {t : TypeId} {cs : Array Value} {row : Option Nat} (h : Blk w g t cs) (hb : w.grownBy w' row) (hg : some g ≠ row) : Blk w' g t cs := (hb.block g h.lt hg).trans h
theorem Fr.of_only {B : Nat} {ts : List TypeId} {w w' : World} {g : Nat} {t : TypeId} {cs : Array Value} (h : w.grownBy w' (some g)) (hb : Blk w g t cs) (hB : B ≤ g) (ht : t ∈ ts) : Fr B ts w w' :=
  ⟨h.os, h.tape, h.output, h.size, fun k hk hn => h.block k hk (fun e => by
    have e : k = g := by simpa using e
    subst e
    rcases hn with hn | hn
    · omega
    · exact hn ⟨cs, t, (0, 0), hb, ht⟩)⟩

/-- What a call may have done: new blocks; writes to the blocks bs. -/
structure Only (bs : List Nat) (w w' : World) : Prop where
  os : w'.os = w.os
  tape : w'.tape = w.tape
  output : w'.output = w.output
  size : w.heap.size ≤ w'.heap.size
  block : ∀ k, k < w.heap.size → k ∉ bs → w'.heap[k]? = w.heap[k]?
theorem Only.refl (bs : List Nat) (w : World) : Only bs w w := ⟨rfl, rfl, rfl, Nat.le_refl _, fun _ _ _ => rfl⟩
theorem Only.trans {bs : List Nat} {a b c : World} (h : Only bs a b) (k : Only bs b c) : Only bs a c :=
  ⟨k.os.trans h.os, k.tape.trans h.tape, k.output.trans h.output, Nat.le_trans h.size k.size, fun i hi hn => (k.block i (Nat.lt_of_lt_of_le hi h.size) hn).trans (h.block i hi hn)⟩
/-- Blocks that are new since a need not be named. -/
theorem Only.later {bs bs' : List Nat} {a b c : World} (h : Only bs a b) (k : Only bs' b c) (hs : ∀ g ∈ bs', g ∈ bs ∨ a.heap.size ≤ g) : Only bs a c :=
  ⟨k.os.trans h.os, k.tape.trans h.tape, k.output.trans h.output, Nat.le_trans h.size k.size, fun i hi hn => (k.block i (Nat.lt_of_lt_of_le hi h.size) (fun hm => (hs i hm).elim hn (fun hg => by omega))).trans (h.block i hi hn)⟩
theorem Only.alloc {bs : List Nat} {a w : World} (h : Only bs a w) (o : Obj) : Only bs a (w.alloc o) :=
  ⟨h.os, h.tape, h.output, Nat.le_trans h.size (by simp), fun i hi hne => (Below.heap_alloc w o i (Nat.lt_of_lt_of_le hi h.size)).trans (h.block i hi hne)⟩
theorem Only.drew {bs : List Nat} {a w : World} (h : Only bs a w) : Only bs a w.drew := ⟨h.os, h.tape, h.output, h.size, h.block⟩
theorem Only.drewN {bs : List Nat} {a w : World} (h : Only bs a w) (n : Nat) : Only bs a (w.drewN n) := ⟨h.os, h.tape, h.output, h.size, h.block⟩
theorem Only.set {bs : List Nat} {a w : World} (h : Only bs a w) {p : Addr} (hp : p.block ∈ bs ∨ a.heap.size ≤ p.block) (u : Value) : Only bs a (w.setCell p u) :=
  ⟨h.os, h.tape, h.output, by simpa [World.setCell] using h.size, fun i hi hne => (Below.heap_setCell w p u i (by
    rintro rfl
    rcases hp with hp | hp
    · exact hne hp
    · omega)).trans (h.block i hi hne)⟩
theorem Only.setCells {bs : List Nat} {g : Nat} : ∀ (vs : List Value) (o : Nat) {a w : World}, Only bs a w → (g ∈ bs ∨ a.heap.size ≤ g) → Only bs a (w.setCells g o vs)
  | [], _, _, _, h, _ => h
  | v :: r, o, _, _, h, hg => Only.setCells r (o + 1) (h.set (p := ⟨g, o, none⟩) hg v) hg
theorem Only.of_below {bs : List Nat} {w w' : World} (h : Below w.heap.size w w') : Only bs w w' := ⟨h.os, h.tape, h.output, h.size, fun k hk _ => h.block k hk⟩
theorem Only.of_grown {bs : List Nat} {w w' : World} {row : Option Nat} (h : w.grownBy w' row) (hr : ∀ g, row = some g → g ∈ bs ∨ w.heap.size ≤ g) : Only bs w w' :=
  ⟨h.os, h.tape, h.output, h.size, fun k hk hn => h.block k hk (fun e => by
    rcases hr k e.symm with h1 | h1
    · exact hn h1
    · omega)⟩
theorem Only.mono {bs bs' : List Nat} {w w' : World} (h : Only bs w w') (hs : ∀ g ∈ bs, g ∈ bs') : Only bs' w w' := ⟨h.os, h.tape, h.output, h.size, fun k hk hn => h.block k hk (fun hm => hn (hs k hm))⟩
theorem Blk.only {bs : List Nat} {w w' : World} {g : Nat} {t : TypeId} {cs : Array Value} (h : Blk w g t cs) (hb : Only bs w w') (hg : g ∉ bs) : Blk w' g t cs := (hb.block g h.lt hg).trans h
theorem own_only {bs : List Nat} {w w' : World} {base : Nat} {e : TypeId} {size : Nat} {v : Value} {n : Nat} {xs : List Value} (h : w.ownsRow base e size v n xs) (hb : Only bs w w') (hv : ∀ g, v.ownBlock = some g → g ∉ bs) : w'.ownsRow base e size v n xs := by
  refine ⟨h.1, ?_⟩
  rcases h.2 with h0 | ⟨g, cap, cur, rfl, hg, hgg, r⟩
  · exact .inl h0
  · exact .inr ⟨g, cap, cur, rfl, hg, Blk.only (t := e) hgg hb (hv g rfl), r⟩
theorem Only.below {bs : List Nat} {B : Nat} {w w' : World} (h : Only bs w w') (hB : B ≤ w.heap.size) (hs : ∀ g ∈ bs, B ≤ g) : Below B w w' :=
  ⟨h.os, h.tape, h.output, h.size, fun k hk => h.block k (by omega) (fun hm => by have := hs k hm; omega)⟩
/-- All blocks that are written are of the types ts and lie from B on. -/
theorem Only.fr {bs : List Nat} {B : Nat} {ts : List TypeId} {w w' : World} (h : Only bs w w') (hs : ∀ g ∈ bs, (B ≤ g ∧ typed ts w g) ∨ w.heap.size ≤ g) : Fr B ts w w' :=
  ⟨h.os, h.tape, h.output, h.size, fun k hk hn => h.block k hk (fun hm => by
    rcases hs k hm with ⟨h1, h2⟩ | h1
    · rcases hn with hn | hn
      · omega
      · exact hn h2
    · omega)⟩
end Go.Proofs.YtndkohocgfmamaaGreat.Mem

/- Rows of bytes (and of any cells) in memory: read only, or the call's own. -/
namespace Go.Proofs.YtndkohocgfmamaaGreat.Mem
open Go.RowKit

/-- A byte as a cell holds it. -/
def bv (b : UInt8) : Value := .int .u8 (b.toNat : Int)
/-- Cells that lie in a row, which is read only. -/
def Lies (w : World) (a : Option Addr) (xs : List Value) : Prop := xs = [] ∨ ∃ g off, a = some ⟨g, off, none⟩ ∧ g < w.heap.size ∧ ∀ i u, xs[i]? = some u → w.cell? ⟨g, off + i, none⟩ = some u
/-- The block of a slice's address. -/
def blk (a : Option Addr) : Option Nat := a.map (·.block)
theorem Lies.keep {w w' : World} {a : Option Addr} {xs : List Value} (h : Lies w a xs) (hs : w.heap.size ≤ w'.heap.size) (hk : ∀ g, blk a = some g → w'.heap[g]? = w.heap[g]?) : Lies w' a xs := by
  rcases h with h | ⟨g, off, rfl, hg, hc⟩
  · exact .inl h
  · exact .inr ⟨g, off, rfl, by omega, fun i u hu => by
      have e := hk g rfl
      have := hc i u hu
      unfold World.cell? at this ⊢
      rw [e]
      exact this⟩
theorem Lies.below {w w' : World} {a : Option Addr} {xs : List Value} {B : Nat} (h : Lies w a xs) (hB : Below B w w') (hb : ∀ g, blk a = some g → g < B) : Lies w' a xs := h.keep hB.size (fun g hg => hB.block g (hb g hg))
theorem Lies.later {w w' : World} {a : Option Addr} {xs : List Value} (h : Lies w a xs) (hB : Below w.heap.size w w') : Lies w' a xs := by
  rcases h with h | ⟨g, off, rfl, hg, hc⟩
  · exact .inl h
  · exact .inr ⟨g, off, rfl, Nat.lt_of_lt_of_le hg hB.size, fun i u hu => (hB.cell (p := ⟨g, off + i, none⟩) hg).trans (hc i u hu)⟩
theorem Lies.drewN {w : World} {a : Option Addr} {xs : List Value} (h : Lies w a xs) (n : Nat) : Lies (w.drewN n) a xs := h
theorem Lies.only {w w' : World} {a : Option Addr} {xs : List Value} {F : List Nat} (h : Lies w a xs) (ho : Only F w w') (hn : ∀ g, blk a = some g → g ∉ F) : Lies w' a xs := by
  rcases h with h | ⟨g, off, rfl, hg, hc⟩
  · exact .inl h
  · exact Lies.keep (.inr ⟨g, off, rfl, hg, hc⟩) ho.size (fun q hq => by cases hq; exact ho.block g hg (hn g rfl))
theorem Lies.take {w : World} {a : Option Addr} {xs : List Value} (h : Lies w a xs) (n : Nat) : Lies w a (xs.take n) := by
  rcases h with h | ⟨g, off, rfl, hg, hc⟩
  · exact .inl (by rw [h]; simp)
  · exact .inr ⟨g, off, rfl, hg, fun i u hu => hc i u (by
      rw [List.getElem?_take] at hu
      split at hu
      · exact hu
      · cases hu)⟩
theorem Lies.drop {w : World} {g off : Nat} {xs : List Value} (h : Lies w (some ⟨g, off, none⟩) xs) (n : Nat) : Lies w (some ⟨g, off + n, none⟩) (xs.drop n) := by
  rcases h with h | ⟨g', off', e, hg, hc⟩
  · exact .inl (by rw [h]; simp)
  · cases e
    exact .inr ⟨g, off + n, rfl, hg, fun i u hu => by
      rw [List.getElem?_drop] at hu
      have := hc (n + i) u hu
      rwa [← Nat.add_assoc] at this⟩
/-- What a row of the call's own is as a value, and that it lies there. -/
theorem own_shape {w : World} {base : Nat} {e : TypeId} {size n : Nat} {v : Value} {xs : List Value} (h : w.ownsRow base e size v n xs) : ∃ a cap, v = .slice a n cap ∧ n ≤ cap ∧ Lies w a xs ∧ (∀ g, blk a = some g → base ≤ g ∧ g < w.heap.size) ∧ v.ownBlock = blk a := by
  rcases h.2 with ⟨rfl, rfl⟩ | ⟨g, cap, cur, rfl, r⟩
  · exact ⟨none, 0, rfl, Nat.le_refl _, .inl (List.eq_nil_of_length_eq_zero (by rw [h.1, Nat.zero_mul])), (fun g hg => by cases hg), rfl⟩
  · refine ⟨some ⟨g, 0, none⟩, cap, rfl, r.2.2.1, .inr ⟨g, 0, rfl, (h.lt g rfl).2, fun j u hj => ?_⟩, (fun q hq => by cases hq; exact h.lt g rfl), rfl⟩
    have := h.cells (g := g) rfl j u hj
    have e : (⟨g, 0, none⟩ : Addr).add j = ⟨g, j, none⟩ := by unfold Addr.add; split <;> simp_all
    rw [e] at this
    rw [Nat.zero_add]
    exact this
theorem own_mono {w : World} {base base' : Nat} {e : TypeId} {size n : Nat} {v : Value} {xs : List Value} (h : w.ownsRow base e size v n xs) (hb : base' ≤ base) : w.ownsRow base' e size v n xs := by
  refine ⟨h.1, ?_⟩
  rcases h.2 with h0 | ⟨g, cap, cur, rfl, hg, r⟩
  · exact .inl h0
  · exact .inr ⟨g, cap, cur, rfl, Nat.le_trans hb hg, r⟩
theorem own_below {w w' : World} {B base : Nat} {e : TypeId} {size n : Nat} {v : Value} {xs : List Value} (h : w.ownsRow base e size v n xs) (hB : Below B w w') (hl : ∀ q, v.ownBlock = some q → q < B) : w'.ownsRow base e size v n xs := by
  refine ⟨h.1, ?_⟩
  rcases h.2 with h0 | ⟨g, cap, cur, rfl, hg, hgg, r⟩
  · exact .inl h0
  · exact .inr ⟨g, cap, cur, rfl, hg, (hB.block g (hl g rfl)).trans hgg, r⟩
theorem own_later {w w' : World} {base : Nat} {e : TypeId} {size n : Nat} {v : Value} {xs : List Value} (h : w.ownsRow base e size v n xs) (hB : Below w.heap.size w w') : w'.ownsRow base e size v n xs := own_below h hB (fun q hq => (h.lt q hq).2)
theorem own_len {w : World} {base : Nat} {e : TypeId} {size n : Nat} {v : Value} {xs : List Value} (h : w.ownsRow base e size v n xs) : xs.length = n * size := h.1
/-- Rows of the call's own of two element types are two blocks. -/
theorem own_apart {w : World} {b1 b2 : Nat} {e1 e2 : TypeId} {s1 s2 n1 n2 : Nat} {v1 v2 : Value} {xs ys : List Value} (h1 : w.ownsRow b1 e1 s1 v1 n1 xs) (h2 : w.ownsRow b2 e2 s2 v2 n2 ys) (hne : e1 ≠ e2) : v1.ownBlock = none ∨ v1.ownBlock ≠ v2.ownBlock := by
  rcases h1.2 with ⟨rfl, _⟩ | ⟨g1, c1, cur1, rfl, _, hb1, _⟩
  · exact .inl rfl
  · right
    rcases h2.2 with ⟨rfl, _⟩ | ⟨g2, c2, cur2, rfl, _, hb2, _⟩
    · intro e; cases e
    · intro e
      have e : g1 = g2 := by simpa [Value.ownBlock] using e
      subst e
      rw [hb1] at hb2
      injection hb2 with hb2
      injection hb2 with _ ht
      exact hne ht
theorem own_ne_blk {w : World} {b1 : Nat} {e1 t : TypeId} {s1 n1 g : Nat} {v1 : Value} {xs : List Value} {cs : Array Value} (h1 : w.ownsRow b1 e1 s1 v1 n1 xs) (h2 : Blk w g t cs) (hne : e1 ≠ t) : v1.ownBlock ≠ some g := by
  rcases h1.2 with ⟨rfl, _⟩ | ⟨g1, c1, cur1, rfl, _, hb1, _⟩
  · intro e; cases e
  · intro e
    have e : g1 = g := by simpa [Value.ownBlock] using e
    subst e
    unfold Blk at h2
    rw [hb1] at h2
    injection h2 with h2
    injection h2 with _ ht
    exact hne ht
/-- A store into another block leaves a row as it was. -/
theorem own_past {w : World} {b1 : Nat} {e1 t : TypeId} {s1 n1 g : Nat} {v1 : Value} {xs : List Value} {cs : Array Value} (h1 : w.ownsRow b1 e1 s1 v1 n1 xs) (h2 : Blk w g t cs) (hne : e1 ≠ t) (i : Nat) (u : Value) : (w.setCell ⟨g, i, none⟩ u).ownsRow b1 e1 s1 v1 n1 xs := own_far h1 (own_ne_blk h1 h2 hne) u
/-- An empty row that a literal has made. -/
theorem own_empty (w : World) (e : TypeId) (size : Nat) : (w.alloc (.cells #[] e)).ownsRow w.heap.size e size (.slice (some ⟨w.heap.size, 0, none⟩) 0 0) 0 [] := World.ownsRow_lit w #[] 0 (Nat.le_refl _) (by decide) (by simp)
theorem lies_add {w : World} {a : Addr} {xs : List Value} (h : Lies w (some a) xs) : ∀ j u, xs[j]? = some u → w.cell? (a.add j) = some u := fun j u hu => by
  rcases h with rfl | ⟨g, off, e, _, hc⟩
  · simp at hu
  · cases e
    have e : (⟨g, off, none⟩ : Addr).add j = ⟨g, off + j, none⟩ := by unfold Addr.add; split <;> simp_all
    rw [e]
    exact hc j u hu
theorem oneCell_bytes (bs : List UInt8) : ∀ u ∈ bs.map bv, u.oneCell' = true := fun u hu => by
  obtain ⟨b, _, rfl⟩ := List.mem_map.1 hu
  rfl
theorem infoB8 : (Tryz.prog.info? 5).map (fun i => (i.zero, i.size, i.bytes)) = some (some (.int .u8 0), 1, 1) := by kernel_rfl
theorem bv_at {bs : List UInt8} {i : Nat} {x : UInt8} (h : bs[i]? = some x) : (bs.map bv)[i]? = some (bv x) := by simp [h]
/-- Of a new block at the heap's end. -/
theorem new_lies (w : World) (t : TypeId) (cs : Array Value) : Lies (w.alloc (.cells cs t)) (some ⟨w.heap.size, 0, none⟩) cs.toList := .inr ⟨w.heap.size, 0, rfl, by simp, fun i u hu => by
  rw [Nat.zero_add, (Blk.new w t cs).cell i]
  simpa using hu⟩
end Go.Proofs.YtndkohocgfmamaaGreat.Mem

/- Layer 2: the sum of bytes. -/
namespace Go.Proofs.YtndkohocgfmamaaGreat.Crc
open Go.RowKit Go.Deep Mem

def tabStep (x : Nat) : Nat := x / 2 ^^^ 3988292384 * (x % 2)
def steps : Nat → Nat → Nat
  | 0, x => x
  | n + 1, x => tabStep (steps n x)
def tabF (i : Nat) : Nat := steps 8 i
theorem tabStep_lt {x : Nat} (h : x < 2 ^ 32) : tabStep x < 2 ^ 32 := Nat.xor_lt_two_pow (by omega) (by omega)
theorem steps_lt {x : Nat} (h : x < 2 ^ 32) : ∀ n, steps n x < 2 ^ 32
  | 0 => h
  | n + 1 => tabStep_lt (steps_lt h n)
def tabV : List Value := (List.range 256).map (fun i => .int .u32 (tabF i : Int))

theorem tab_int (x : Nat) (h : x < 2 ^ 32) : bits .xor .u32 ((x : Int) / 2) (3988292384 * bits .and .u32 (x : Int) 1 % 4294967296) = (tabStep x : Int) := by
  have e1 : bits .and .u32 (x : Int) 1 = ((x % 2 : Nat) : Int) := by
    have := u32_and_nat x 1 h (by decide)
    rw [nat_mask1] at this
    exact this
  rw [e1, show (3988292384 * ((x % 2 : Nat) : Int) % 4294967296) = ((3988292384 * (x % 2) : Nat) : Int) by omega, show (x : Int) / 2 = ((x / 2 : Nat) : Int) by omega]
  exact u32_xor_nat _ _ (by omega) (by omega)
theorem zeros : Tryz.zeroCells220.toList = List.replicate 256 (Value.int .u32 0) := by kernel_rfl
/-- The table's block behind k rounds. -/
structure Tabbed (g k : Nat) (w : World) : Prop where
  blk : ∃ cs, Blk w g 220 cs ∧ cs.size = 256 ∧ ∀ j, j < 256 → cs[j]? = some (.int .u32 (if j < k then (tabF j : Int) else 0))
set_option maxHeartbeats 1000000 in
set_option maxRecDepth 100000 in
theorem table_any (w : World) : Calls Tryz.prog 145 #[] w fun e w' => e = .returned (.agg tabV.toArray) ∧ Below w.heap.size w w' := by
  have hz : Tryz.zeroCells220.size = 256 := by rw [← Array.length_toList, zeros, List.length_replicate]
  have hb0 : Blk ((w.alloc (Obj.cells Tryz.zeroCells220 220)).alloc (Obj.cells Tryz.zeroCells220 220)) w.heap.size 220 Tryz.zeroCells220 := (Blk.new w _ _).alloc _
  have hb1 : Tabbed (w.heap.size + 1) 0 ((w.alloc (Obj.cells Tryz.zeroCells220 220)).alloc (Obj.cells Tryz.zeroCells220 220)) := by
    refine ⟨_, Blk.at_ (by simp), hz, fun j hj => ?_⟩
    rw [← Array.getElem?_toList, zeros, List.getElem?_replicate, if_pos hj]
    rfl
  have hB : Below w.heap.size w ((w.alloc (Obj.cells Tryz.zeroCells220 220)).alloc (Obj.cells Tryz.zeroCells220 220)) := ((Below.refl _ w).alloc (Nat.le_refl _) _).alloc (by simp) _
  have HB0 := Lib.hid hb0
  have HB1 := Lib.hid hb1
  have HB := Lib.hid hB
  clear hb0 hb1 hB hz
  go_enter Tryz.func145, Tryz.ntmps145
  go_wp2_with fail
  go_loopw [5] (fun i wr => ∃ k : Nat, k ≤ 256 ∧ i = .int .i64 k ∧ Hid (Blk wr w.heap.size 220 Tryz.zeroCells220) ∧ Hid (Tabbed (w.heap.size + 1) k wr) ∧ Hid (Below w.heap.size w wr)) (fun i _ => 256 - (intOf i).toNat)
  case atStart => exact ⟨0, by omega, rfl, HB0, HB1, HB⟩
  case round =>
    obtain ⟨k, hk, rfl, h0, h1, hB⟩ := hrel
    by_cases hlt : k < 256
    · obtain ⟨cs, hcs, hsz, hat⟩ := h1.out.blk
      have c0 := (hcs.cell k).trans (hat k hlt)
      have fz := hcs.frozen k
      rw [if_neg (Nat.lt_irrefl k)] at c0
      have hk32 : IntKind.u32.wrap (k : Int) = k := by
        have : IntKind.u32.wrap (k : Int) = (k : Int) % 4294967296 := by simp [IntKind.wrap, IntKind.bits, IntKind.signed]
        omega
      have HCS := Lib.hid hcs
      have HAT := Lib.hid hat
      have HSZ := Lib.hid hsz
      clear hcs hat hsz
      go_wp2_with fail
      go_loopw [3, 10] (fun x i wq => ∃ n : Nat, n ≤ 8 ∧ i = .int .i64 n ∧ x = .int .u32 (steps n k : Int) ∧ wr = wq) (fun _ i _ => 8 - (intOf i).toNat)
      case atStart => exact ⟨0, by omega, rfl, rfl, rfl⟩
      case round =>
        obtain ⟨n, hn, rfl, rfl, rfl⟩ := hrel
        by_cases hl8 : n < 8
        · obtain ⟨x, hx⟩ : ∃ x, x = steps n k := ⟨_, rfl⟩
          have hx32 : x < 2 ^ 32 := by rw [hx]; exact steps_lt (by omega) n
          rw [← hx]
          have hx1 : tabStep x = steps (n + 1) k := by rw [hx]; rfl
          clear hx
          go_wp2_with fail
          refine ⟨⟨n + 1, by omega, by simp, ?_, trivial⟩, ?_⟩
          · rw [tab_int x hx32, hx1]
          · simp [intOf]; omega
        · obtain rfl : n = 8 := by omega
          have hst := Blk.set HCS.out k (.int .u32 (steps 8 k : Int))
          have hfar := h0.out.far (p := ⟨w.heap.size + 1, k, none⟩) (by show w.heap.size ≠ w.heap.size + 1; omega) (.int .u32 (steps 8 k : Int))
          have hbel := hB.out.setCell (show w.heap.size ≤ (⟨w.heap.size + 1, k, none⟩ : Addr).block from Nat.le_succ _) (.int .u32 (steps 8 k : Int))
          have HST := Lib.hid hst
          have HFA := Lib.hid hfar
          have HBE := Lib.hid hbel
          clear hst hfar hbel
          go_wp2_with fail
          refine ⟨⟨k + 1, by omega, by simp, HFA, Lib.hid ⟨_, HST.out, by rw [Array.size_setIfInBounds]; exact HSZ.out, fun j hj => ?_⟩, HBE⟩, ?_⟩
          · rw [Array.getElem?_setIfInBounds]
            by_cases e : k = j
            · subst e
              rw [if_pos rfl, if_pos (by rw [HSZ.out]; exact hj), if_pos (by omega)]
              rfl
            · rw [if_neg e, HAT.out j hj]
              by_cases e2 : j < k
              · rw [if_pos e2, if_pos (by omega)]
              · rw [if_neg e2, if_neg (by omega)]
          · simp [intOf]; omega
    · obtain rfl : k = 256 := by omega
      obtain ⟨cs, hcs, hsz, hat⟩ := h1.out.blk
      have hcs2 : cs = tabV.toArray := by
        apply Array.ext_getElem?
        intro j
        by_cases hj : j < 256
        · rw [hat j hj, if_pos hj]
          simp [tabV, hj]
        · rw [Array.getElem?_eq_none (by omega), Array.getElem?_eq_none (by simp [tabV]; omega)]
      subst hcs2
      have hone : (tabV.toArray).all (·.oneCell') = true := by
        rw [Array.all_eq_true_iff_forall_mem]
        intro u hu
        simp [tabV] at hu
        obtain ⟨j, _, rfl⟩ := hu
        rfl
      have hzs : Tryz.zeroCells220.size = 256 := by rw [← Array.length_toList, zeros, List.length_replicate]
      have hbel : Below w.heap.size w (wr.setRow w.heap.size tabV.toArray) := below_setRow hB.out (Nat.le_refl _) _
      have H0 := h0.out
      have hsz2 : Tryz.zeroCells220.size = tabV.toArray.size := by rw [hzs]; simp [tabV]
      clear hat hsz h0 h1
      go_wp2_with (first | (refine wpList_load_row rfl 220 _ rfl (w.heap.size + 1) rfl 220 tabV.toArray (0, 0) _ hcs Tryz.underlying220 rfl (by kernel_rfl) ?_) | (refine wpList_store_row rfl 220 _ _ rfl w.heap.size tabV.toArray rfl rfl 220 _ H0 (by kernel_rfl) hsz2 hone ?_))
      refine bodyPost_ret (results_cell_row Tryz.results145 _ _ w.heap.size 220 tabV.toArray (0, 0) _ rfl (setRow_heap _ _ _ _ _ _ H0) Tryz.underlying220 rfl (by kernel_rfl)) rfl ⟨rfl, hbel⟩

/-- A register behind a byte. -/
def crcStep (x : Nat) (c : UInt8) : Nat := tabF (x % 256 ^^^ c.toNat) ^^^ x / 256
def crcRun (x : Nat) (bs : List UInt8) : Nat := bs.foldl crcStep x
/-- The sum of bytes. -/
def sumF (bs : List UInt8) : Nat := 4294967295 - crcRun 4294967295 bs
theorem tabF_lt {i : Nat} (h : i < 256) : tabF i < 2 ^ 32 := steps_lt (by omega) 8
theorem idx_lt (x : Nat) (c : UInt8) : x % 256 ^^^ c.toNat < 256 := Nat.xor_lt_two_pow (n := 8) (Nat.mod_lt _ (by decide)) c.toNat_lt
theorem step_lt {x : Nat} (h : x < 2 ^ 32) (c : UInt8) : crcStep x c < 2 ^ 32 := Nat.xor_lt_two_pow (tabF_lt (idx_lt x c)) (by omega)
theorem run_lt : ∀ (bs : List UInt8) {x : Nat}, x < 2 ^ 32 → crcRun x bs < 2 ^ 32
  | [], _, h => h
  | c :: r, _, h => run_lt r (step_lt h c)
theorem run_snoc (x : Nat) (bs : List UInt8) (n : Nat) (c : UInt8) (h : bs[n]? = some c) : crcRun x (bs.take (n + 1)) = crcStep (crcRun x (bs.take n)) c := by
  unfold crcRun
  rw [List.take_add_one, h, List.foldl_append]
  rfl
theorem sumF_lt (bs : List UInt8) : sumF bs < 2 ^ 32 := by unfold sumF; omega

theorem not_u32 (y : Nat) (h : y < 2 ^ 32) : bits .xor .u32 IntKind.u32.max (y : Int) = ((4294967295 - y : Nat) : Int) := by
  have := u32_xor_nat 4294967295 y (by decide) h
  show bits .xor .u32 ((4294967295 : Nat) : Int) (y : Int) = _
  rw [this]
  congr 1
  apply Nat.eq_of_testBit_eq
  intro i
  have h1 := Nat.testBit_two_pow_sub_succ (x := y) (n := 32) h i
  rw [show 2 ^ 32 - (y + 1) = 4294967295 - y by omega] at h1
  rw [h1, Nat.testBit_xor, show (4294967295 : Nat) = 2 ^ 32 - 1 by decide, Nat.testBit_two_pow_sub_one]
  by_cases hi : i < 32
  · simp [hi]
  · simp [hi]
    exact Nat.testBit_lt_two_pow (Nat.lt_of_lt_of_le h (Nat.pow_le_pow_right (by decide) (by omega)))
set_option maxHeartbeats 1000000 in
set_option maxRecDepth 100000 in
theorem sum_any (a b : Option Addr) (cp cb : Nat) (bs : List UInt8) (w : World) (hb : Lies w b (bs.map bv)) (ha : Lies w a [.slice b bs.length cb]) (hlen : bs.length ≤ 4000000000) :
    Calls Tryz.prog 123 #[.slice a 1 cp] w fun e w' => e = .returned (.int .u32 (sumF bs : Int)) ∧ Below w.heap.size w w' := by
  have HT := Lib.hid (table_any w)
  have HB := Lib.hid hb
  have HA := Lib.hid ha
  clear hb ha
  go_enter Tryz.func123, Tryz.ntmps123
  go_wp2_with fail
  refine HT.out.mono ?_
  rintro e w1 ⟨rfl, hB1⟩
  have hzs : Tryz.zeroCells220.size = tabV.toArray.size := by rw [← Array.length_toList, zeros, List.length_replicate]; simp [tabV]
  have hone : (tabV.toArray).all (·.oneCell') = true := by
    rw [Array.all_eq_true_iff_forall_mem]
    intro u hu
    simp [tabV] at hu
    obtain ⟨j, _, rfl⟩ := hu
    rfl
  have hg := heap_alloc_new w1 (.cells Tryz.zeroCells220 220)
  have hal := (Below.refl w1.heap.size w1).alloc (Nat.le_refl _) (.cells Tryz.zeroCells220 220)
  have HBT := Lib.hid (show Blk ((w1.alloc (.cells Tryz.zeroCells220 220)).setRow w1.heap.size tabV.toArray) w1.heap.size 220 tabV.toArray from setRow_heap _ _ _ _ _ _ hg)
  have HBB := Lib.hid (below_setRow (hB1.trans (hal.mono hB1.size)) hB1.size tabV.toArray)
  have hs1 := hB1.size
  clear hal hB1
  go_wp2_with (first | (refine wpList_store_row rfl 220 _ _ rfl w1.heap.size tabV.toArray rfl rfl 220 Tryz.zeroCells220 hg (by kernel_rfl) hzs hone ?_))
  go_loopw [4, 12] (fun x i wr => ∃ k : Nat, k ≤ 1 ∧ i = .int .i64 k ∧ x = .int .u32 ((if k = 0 then 4294967295 else crcRun 4294967295 bs : Nat) : Int) ∧ Hid (Blk wr w1.heap.size 220 tabV.toArray) ∧ Hid (Below w.heap.size w wr)) (fun _ i _ => 1 - (intOf i).toNat)
  case atStart => exact ⟨0, by omega, rfl, rfl, HBT, HBB⟩
  case round =>
    obtain ⟨k, hk, rfl, rfl, hT, hB⟩ := hrel
    by_cases hk0 : k = 0
    · subst hk0
      obtain ⟨ga, oa, rfl, hga, hca⟩ := HA.out.resolve_left (by simp)
      have c0 := (hB.out.cell (p := ⟨ga, oa, none⟩) hga).trans (hca 0 _ rfl)
      simp only [if_pos]
      go_wp2_with fail
      go_loopw [4, 18] (fun x i wq => ∃ n : Nat, n ≤ bs.length ∧ i = .int .i64 n ∧ x = .int .u32 (crcRun 4294967295 (bs.take n) : Int) ∧ wr = wq) (fun _ i _ => bs.length - (intOf i).toNat)
      case atStart => exact ⟨0, Nat.zero_le _, rfl, rfl, rfl⟩
      case round =>
        obtain ⟨n, hn, rfl, rfl, rfl⟩ := hrel
        obtain ⟨x, hx⟩ : ∃ x, x = crcRun 4294967295 (bs.take n) := ⟨_, rfl⟩
        have hx32 : x < 2 ^ 32 := by rw [hx]; exact run_lt _ (by decide)
        rw [← hx]
        by_cases hlt : n < bs.length
        · obtain ⟨c, hc⟩ : ∃ c, bs[n]? = some c := ⟨_, List.getElem?_eq_getElem hlt⟩
          have hrun := run_snoc 4294967295 bs n c hc
          rw [← hx] at hrun
          obtain ⟨gb, ob, rfl, hgb, hcb⟩ := HB.out.resolve_left (by intro e; rw [List.map_eq_nil_iff] at e; subst e; exact absurd hlt (Nat.not_lt_zero _))
          have c1 := (hB.out.cell (p := ⟨gb, ob + n, none⟩) hgb).trans (hcb n _ (bv_at hc))
          unfold bv at c1
          obtain ⟨j, hj⟩ : ∃ j, j = x % 256 ^^^ c.toNat := ⟨_, rfl⟩
          have i1 : j < 256 := by rw [hj]; exact idx_lt x c
          have c2 := (hT.out.cell j).trans (show tabV.toArray[j]? = some (.int .u32 (tabF j : Int)) by simp [tabV, i1])
          obtain ⟨t, ht⟩ : ∃ t, t = tabF j := ⟨_, rfl⟩
          have ht32 : t < 2 ^ 32 := by rw [ht]; exact tabF_lt i1
          rw [← ht] at c2
          have b1 : bits .xor .u8 ((x : Int) % 256) (c.toNat : Int) = (j : Int) := by
            rw [hj, show (x : Int) % 256 = ((x % 256 : Nat) : Int) by omega]
            exact u8_xor_nat _ _ (Nat.mod_lt _ (by decide)) c.toNat_lt
          have b2 : bits .xor .u32 (t : Int) ((x : Int) / 256) = ((t ^^^ x / 256 : Nat) : Int) := by
            rw [show (x : Int) / 256 = ((x / 256 : Nat) : Int) by omega]
            exact u32_xor_nat _ _ ht32 (by omega)
          have hst : t ^^^ x / 256 = crcStep x c := by rw [ht, hj]; rfl
          rw [hst] at b2
          have HR := Lib.hid hrun
          clear hst hj ht hx hc hrun
          go_wp2_with fail
          refine ⟨⟨n + 1, by omega, by simp, ?_, trivial⟩, ?_⟩
          · rw [HR.out]
          · simp [intOf]; omega
        · have e : n = bs.length := by omega
          rw [e, List.take_of_length_le (Nat.le_refl _)] at hx
          have hn2 : bs.length ≤ n := by omega
          have HX := Lib.hid hx
          clear hx e
          go_wp2_with fail
          refine ⟨⟨1, by omega, by simp, ?_, hT, hB⟩, ?_⟩
          · rw [if_neg (by decide), HX.out]
          · simp [intOf]
    · obtain rfl : k = 1 := by omega
      simp only [if_neg hk0]
      obtain ⟨x, hx⟩ : ∃ x, x = crcRun 4294967295 bs := ⟨_, rfl⟩
      have hx32 : x < 2 ^ 32 := by rw [hx]; exact run_lt _ (by decide)
      have hs : sumF bs = 4294967295 - x := by rw [hx]; rfl
      rw [← hx]
      have HS := Lib.hid hs
      clear hx hs
      go_wp2_with fail
      go_ret
      refine ⟨?_, hB.out⟩
      rw [HS.out]
      exact congrArg (fun z => Ending.returned (Value.int .u32 z)) (not_u32 x hx32)
end Go.Proofs.YtndkohocgfmamaaGreat.Crc

/- Layer 2: slices.Clone and Equal on bytes; Mark, Fits. -/
namespace Go.Proofs.YtndkohocgfmamaaGreat.Crc
open Go.RowKit Go.Deep Mem

/-- A row of bytes of the call's own. -/
abbrev OwnB (w : World) (base : Nat) (v : Value) (bs : List UInt8) : Prop := w.ownsRow base 5 1 v bs.length (bs.map bv)
theorem lies_none {w : World} {xs : List Value} (h : Lies w none xs) : xs = [] := by
  rcases h with h | ⟨g, off, e, _⟩
  · exact h
  · cases e

set_option maxHeartbeats 1000000 in
theorem clone_any (a : Option Addr) (cp : Nat) (bs : List UInt8) (w : World) (h : Lies w a (bs.map bv)) (hm : bs.length ≤ 4000000000) :
    Calls Tryz.prog 66 #[.slice a bs.length cp] w fun e w' => ∃ v, e = .returned v ∧ OwnB w' w.heap.size v bs ∧ Below w.heap.size w w' := by
  cases a with
  | none =>
    have hb : bs = [] := by simpa using lies_none h
    subst hb
    have hne := fun w => Lib.run_eql_slice_nil (P := Tryz.prog) w 45 5 none 0 cp 0 0 Tryz.underlying45
    clear h hm
    go_enter Tryz.func66, Tryz.ntmps66
    go_wp2_with fail
    go_ret
    exact ⟨_, rfl, World.ownsRow_nil _ _ _ _, Below.refl _ _⟩
  | some ad =>
    obtain ⟨i0, hi0, hz0, hz1, hz2⟩ := info_parts infoB8
    have hne := fun w => Lib.run_eql_slice_nil (P := Tryz.prog) w 45 5 (some ad) bs.length cp 0 0 Tryz.underlying45
    have hal := (Below.refl w.heap.size w).alloc (Nat.le_refl _) (.cells #[] 5)
    have hown := own_empty w 5 1
    have HC := Lib.hid (lies_add (h.later hal))
    have H1 := Lib.hid (oneCell_bytes bs)
    have HA := Lib.hid hal
    clear h hal
    go_enter Tryz.func66, Tryz.ntmps66
    go_wp2_with (first | (at_builtin; refine wpList_append_own _ rfl _ _ 45 rfl w.heap.size 5 i0 (.int .u8 0) 1 1 Tryz.underlying45 hi0 hz0 hz1 hz2 rfl (by decide) _ _ _ rfl hown ad bs.length cp (bs.map bv) rfl ?c1 HC.out H1.out ?c3 ?c4 ?c5 ?_))
    case c1 => simp
    case c3 => unfold maxLen; omega
    case c4 => omega
    case c5 => simp
    intro v' w1 hown1 hgrow1 hv
    have hB1 : Below w.heap.size w w1 := HA.out.grown hgrow1 (by simp) (fun q hq => (hown.lt q hq).1)
    have HO := Lib.hid (show OwnB w1 w.heap.size v' bs by simpa using hown1)
    clear hown1 hgrow1 hv
    go_wp2_with fail
    go_ret
    exact ⟨v', rfl, HO.out, hB1⟩

set_option maxHeartbeats 1000000 in
theorem equal_any (a b : Option Addr) (ca cb : Nat) (bs cs : List UInt8) (w : World) (h1 : Lies w a (bs.map bv)) (h2 : Lies w b (cs.map bv)) (hm : bs.length ≤ 4000000000) :
    Calls Tryz.prog 130 #[.slice a bs.length ca, .slice b cs.length cb] w fun e w' => e = .returned (.bool (bs == cs)) ∧ ∃ n, w' = w.drewN n := by
  by_cases hlm : bs.length = cs.length
  · have hc : ∀ n, n < bs.length → ∃ b1 o1 b2 o2 x y, a = some ⟨b1, o1, none⟩ ∧ b = some ⟨b2, o2, none⟩ ∧ bs[n]? = some x ∧ cs[n]? = some y ∧ w.cell? ⟨b1, o1 + n, none⟩ = some (bv x) ∧ w.cell? ⟨b2, o2 + n, none⟩ = some (bv y) := fun n hn => by
      rcases h1 with h1 | ⟨b1, o1, e1, _, i1⟩
      · exact absurd hn (by have : bs = [] := by simpa using h1
                            subst this; exact Nat.not_lt_zero _)
      · rcases h2 with h2 | ⟨b2, o2, e2, _, i2⟩
        · exact absurd hn (by have : cs = [] := by simpa using h2
                              subst this; rw [hlm]; exact Nat.not_lt_zero _)
        · exact ⟨b1, o1, b2, o2, bs[n], cs[n], e1, e2, List.getElem?_eq_getElem hn, List.getElem?_eq_getElem (by omega), i1 n _ (bv_at (List.getElem?_eq_getElem hn)), i2 n _ (bv_at (List.getElem?_eq_getElem (by omega)))⟩
    have HC := Lib.hid hc
    have HL := Lib.hid hlm
    clear hc h1 h2
    rw [← hlm]
    clear hlm
    go_enter Tryz.func130, Tryz.ntmps130
    go_wp2_with fail
    go_loopw [13] (fun i wr => ∃ n : Nat, n ≤ bs.length ∧ i = .int .i64 n ∧ Hid (bs.take n = cs.take n) ∧ ∃ q, wr = w.drewN q) (fun i _ => bs.length - (intOf i).toNat)
    case atStart => exact ⟨0, Nat.zero_le _, rfl, Lib.hid rfl, 0, rfl⟩
    case round =>
      obtain ⟨n, hn, rfl, htk, q, rfl⟩ := hrel
      by_cases hlt : n < bs.length
      · obtain ⟨b1, o1, b2, o2, x, y, rfl, rfl, hx, hy, c1, c2⟩ := HC.out n hlt
        unfold bv at c1 c2
        have hp0 : (0 : Int) ≤ (n : Int) := by omega
        have hp1 : (n : Int) < (bs.length : Int) := by omega
        have HX := Lib.hid hx
        have HY := Lib.hid hy
        clear HC hx hy
        by_cases exy : x = y
        · subst exy
          go_wp2_with fail
          go_quiet (fail)
          go_wp2_with fail
          refine ⟨⟨n + 1, by omega, by simp, Lib.hid (by rw [List.take_add_one, List.take_add_one, HX.out, HY.out, htk.out]), ⟨_, rfl⟩⟩, ?_⟩
          simp [intOf]; omega
        · have exy2 : ((x.toNat : Int) == (y.toNat : Int)) = false := by
            simp
            intro e
            exact exy (UInt8.toNat_inj.1 (by omega))
          have hno : (bs == cs) = false := by
            simp
            intro e
            subst e
            exact exy (Option.some.inj (HX.out.symm.trans HY.out))
          have HNO := Lib.hid hno
          clear hno
          go_wp2_with fail
          go_quiet (fail)
          go_wp2_with fail
          go_ret
          exact ⟨by rw [HNO.out]; rfl, q + nq, by rw [World.drewN_drewN]⟩
      · have e : n = bs.length := by omega
        have hyes : (bs == cs) = true := by
          have h := htk.out
          rw [e, List.take_of_length_le (Nat.le_refl _), HL.out, List.take_of_length_le (Nat.le_refl _)] at h
          simp [h]
        have HY := Lib.hid hyes
        clear hyes e
        go_wp2_with fail
        go_ret
        exact ⟨by rw [HY.out]; rfl, q, rfl⟩
  · have hne : decide (bs.length = cs.length) = false := by simpa using hlm
    have hne2 : ((bs.length : Int) == (cs.length : Int)) = false := by simp; omega
    have hno : (bs == cs) = false := by
      simp
      intro e
      exact hlm (by rw [e])
    rw [hno]
    clear h1 h2 hlm hno
    go_enter Tryz.func130, Tryz.ntmps130
    go_wp2_with fail
    go_ret
    exact ⟨rfl, 0, rfl⟩

/-- A number's four bytes. -/
def four (n : Nat) : List UInt8 := [UInt8.ofNat n, UInt8.ofNat (n / 256), UInt8.ofNat (n / 65536), UInt8.ofNat (n / 16777216)]
theorem four_length (n : Nat) : (four n).length = 4 := rfl
/-- Bytes with their sum. -/
def marked (bs : List UInt8) : List UInt8 := bs ++ four (sumF bs)
theorem mark_length (bs : List UInt8) : (marked bs).length = bs.length + 4 := by unfold marked; rw [List.length_append, four_length]
theorem bv_of (n : Nat) : Value.int .u8 ((n % 256 : Nat) : Int) = bv (UInt8.ofNat n) := by unfold bv; simp
theorem bvI {y : Int} {n : Nat} (h : y = ((n % 256 : Nat) : Int)) : Value.int .u8 y = bv (UInt8.ofNat n) := by rw [h, bv_of]
/-- A new block of one cell, as an append reads it. -/
theorem one_at {w : World} {t : TypeId} {u v : Value} (h : u = v) : ∀ j x, [v][j]? = some x → (w.alloc (.cells #[u] t)).cell? ((⟨w.heap.size, 0, none⟩ : Addr).add j) = some x := fun j x hx => by
  subst h
  match j, hx with
  | 0, hx =>
    have e : u = x := by simpa using hx
    subst e
    exact (Blk.new w t #[u]).cell 0
theorem one_cell (b : UInt8) : ∀ u ∈ [bv b], u.oneCell' = true := fun u hu => by simp at hu; subst hu; rfl
set_option maxHeartbeats 2000000 in
set_option maxRecDepth 100000 in
theorem mark_any (a : Option Addr) (cp : Nat) (bs : List UInt8) (w : World) (h : Lies w a (bs.map bv)) (hm : bs.length ≤ 3000000) :
    Calls Tryz.prog 98 #[.slice a bs.length cp] w fun e w' => ∃ v, e = .returned v ∧ OwnB w' w.heap.size v (marked bs) ∧ Below w.heap.size w w' := by
  obtain ⟨i0, hi0, hz0, hz1, hz2⟩ := info_parts infoB8
  have HC := Lib.hid (clone_any a cp bs w h (by omega))
  have HH := Lib.hid h
  clear h
  go_enter Tryz.func98, Tryz.ntmps98
  go_wp2_with fail
  refine HC.out.mono ?_
  rintro e w1 ⟨v, rfl, hown, hB1⟩
  have hal := (Below.refl w1.heap.size w1).alloc (Nat.le_refl _) (.cells #[.slice a bs.length cp] 45)
  have hL1 := (HH.out.later hB1).later hal
  have hsum := sum_any (some ⟨w1.heap.size, 0, none⟩) a 1 cp bs (w1.alloc (.cells #[.slice a bs.length cp] 45)) hL1 (new_lies w1 _ _) (by omega)
  have HS := Lib.hid hsum
  have HO := Lib.hid (own_later hown hal)
  have HB := Lib.hid (hB1.trans (hal.mono hB1.size))
  have hs1 := hB1.size
  clear hal hL1 hsum hown hB1
  go_wp2_with fail
  refine HS.out.mono ?_
  rintro e w2 ⟨rfl, hB2⟩
  have HO2 := Lib.hid (own_later HO.out hB2)
  have HB2 := Lib.hid (HB.out.trans (hB2.mono (by simp; omega)))
  obtain ⟨x, hx⟩ : ∃ x, x = sumF bs := ⟨_, rfl⟩
  have hx32 : x < 2 ^ 32 := by rw [hx]; exact sumF_lt bs
  have HM := Lib.hid (show marked bs = bs ++ four x by rw [hx]; rfl)
  rw [← hx]
  clear hB2 HS HO HB HC hx
  go_wp2_with fail
  go_loopw [3, 5] (fun o i wr => ∃ k : Nat, k ≤ 4 ∧ i = .int .i64 k ∧ Hid (OwnB wr w.heap.size o (bs ++ (four x).take k)) ∧ Hid (Below w.heap.size w wr)) (fun _ i _ => 4 - (intOf i).toNat)
  case atStart => exact ⟨0, by omega, rfl, Lib.hid (by simpa using HO2.out), HB2⟩
  case round =>
    obtain ⟨k, hk, rfl, hown, hB⟩ := hrel
    have hBs := hB.out.size
    have hbr := hown.out
    have hl : (bs ++ (four x).take k).length = bs.length + k := by rw [List.length_append, List.length_take, four_length]; omega
    by_cases h4 : k < 4
    · rcases (show k = 0 ∨ k = 1 ∨ k = 2 ∨ k = 3 by omega) with rfl | rfl | rfl | rfl
      · have E0 := Lib.hid (show Value.int .u8 ((x : Int) % 256) = bv (UInt8.ofNat x) from bvI (by omega))
        go_wp2_with (first | (at_builtin; refine wpList_append_own _ rfl _ _ 45 rfl w.heap.size 5 i0 (.int .u8 0) 1 1 Tryz.underlying45 hi0 hz0 hz1 hz2 rfl (by decide) _ _ _ rfl (hbr.alloc _) ⟨wr.heap.size, 0, none⟩ 1 1 [bv (UInt8.ofNat x)] rfl rfl (one_at E0.out) (one_cell _) ?c03 ?c04 ?c05 ?_))
        case c03 => rw [hl]; unfold maxLen; omega
        case c04 => rw [hl]; omega
        case c05 => simp; omega
        intro v' w3 hown3 hgrow3 _
        have hB3 : Below w.heap.size w w3 := (hB.out.alloc hBs _).grown hgrow3 (by simp; omega) (fun q hq => (hbr.lt q hq).1)
        have hO3 : OwnB w3 w.heap.size v' (bs ++ (four x).take 1) := by
          have e : bs ++ (four x).take 1 = (bs ++ (four x).take 0) ++ [UInt8.ofNat x] := by rw [List.append_assoc]; rfl
          rw [e]
          unfold OwnB
          rw [List.map_append, List.length_append]
          exact (show w3.ownsRow _ _ _ _ _ _ by simpa [four_length] using hown3)
        have HB3 := Lib.hid hB3
        have HO3 := Lib.hid hO3
        clear hown3 hgrow3 hB3 hO3
        go_wp2_with fail
        go_roundw
        case rel => exact ⟨1, by omega, rfl, HO3, HB3⟩
        case measure => simp [intOf]
      · have E1 := Lib.hid (show Value.int .u8 ((x : Int) / 256 % 256) = bv (UInt8.ofNat (x / 256)) from bvI (by omega))
        go_wp2_with (first | (at_builtin; refine wpList_append_own _ rfl _ _ 45 rfl w.heap.size 5 i0 (.int .u8 0) 1 1 Tryz.underlying45 hi0 hz0 hz1 hz2 rfl (by decide) _ _ _ rfl (hbr.alloc _) ⟨wr.heap.size, 0, none⟩ 1 1 [bv (UInt8.ofNat (x / 256))] rfl rfl (one_at E1.out) (one_cell _) ?c13 ?c14 ?c15 ?_))
        case c13 => rw [hl]; unfold maxLen; omega
        case c14 => rw [hl]; omega
        case c15 => simp; omega
        intro v' w3 hown3 hgrow3 _
        have hB3 : Below w.heap.size w w3 := (hB.out.alloc hBs _).grown hgrow3 (by simp; omega) (fun q hq => (hbr.lt q hq).1)
        have hO3 : OwnB w3 w.heap.size v' (bs ++ (four x).take 2) := by
          have e : bs ++ (four x).take 2 = (bs ++ (four x).take 1) ++ [UInt8.ofNat (x / 256)] := by rw [List.append_assoc]; rfl
          rw [e]
          unfold OwnB
          rw [List.map_append, List.length_append]
          exact (show w3.ownsRow _ _ _ _ _ _ by simpa [four_length] using hown3)
        have HB3 := Lib.hid hB3
        have HO3 := Lib.hid hO3
        clear hown3 hgrow3 hB3 hO3
        go_wp2_with fail
        go_roundw
        case rel => exact ⟨2, by omega, rfl, HO3, HB3⟩
        case measure => simp [intOf]
      · have E2 := Lib.hid (show Value.int .u8 ((x : Int) / 65536 % 256) = bv (UInt8.ofNat (x / 65536)) from bvI (by omega))
        go_wp2_with (first | (at_builtin; refine wpList_append_own _ rfl _ _ 45 rfl w.heap.size 5 i0 (.int .u8 0) 1 1 Tryz.underlying45 hi0 hz0 hz1 hz2 rfl (by decide) _ _ _ rfl (hbr.alloc _) ⟨wr.heap.size, 0, none⟩ 1 1 [bv (UInt8.ofNat (x / 65536))] rfl rfl (one_at E2.out) (one_cell _) ?c23 ?c24 ?c25 ?_))
        case c23 => rw [hl]; unfold maxLen; omega
        case c24 => rw [hl]; omega
        case c25 => simp; omega
        intro v' w3 hown3 hgrow3 _
        have hB3 : Below w.heap.size w w3 := (hB.out.alloc hBs _).grown hgrow3 (by simp; omega) (fun q hq => (hbr.lt q hq).1)
        have hO3 : OwnB w3 w.heap.size v' (bs ++ (four x).take 3) := by
          have e : bs ++ (four x).take 3 = (bs ++ (four x).take 2) ++ [UInt8.ofNat (x / 65536)] := by rw [List.append_assoc]; rfl
          rw [e]
          unfold OwnB
          rw [List.map_append, List.length_append]
          exact (show w3.ownsRow _ _ _ _ _ _ by simpa [four_length] using hown3)
        have HB3 := Lib.hid hB3
        have HO3 := Lib.hid hO3
        clear hown3 hgrow3 hB3 hO3
        go_wp2_with fail
        go_roundw
        case rel => exact ⟨3, by omega, rfl, HO3, HB3⟩
        case measure => simp [intOf]
      · have E3 := Lib.hid (show Value.int .u8 ((x : Int) / 16777216) = bv (UInt8.ofNat (x / 16777216)) from bvI (by omega))
        go_wp2_with (first | (at_builtin; refine wpList_append_own _ rfl _ _ 45 rfl w.heap.size 5 i0 (.int .u8 0) 1 1 Tryz.underlying45 hi0 hz0 hz1 hz2 rfl (by decide) _ _ _ rfl (hbr.alloc _) ⟨wr.heap.size, 0, none⟩ 1 1 [bv (UInt8.ofNat (x / 16777216))] rfl rfl (one_at E3.out) (one_cell _) ?c33 ?c34 ?c35 ?_))
        case c33 => rw [hl]; unfold maxLen; omega
        case c34 => rw [hl]; omega
        case c35 => simp; omega
        intro v' w3 hown3 hgrow3 _
        have hB3 : Below w.heap.size w w3 := (hB.out.alloc hBs _).grown hgrow3 (by simp; omega) (fun q hq => (hbr.lt q hq).1)
        have hO3 : OwnB w3 w.heap.size v' (bs ++ (four x).take 4) := by
          have e : bs ++ (four x).take 4 = (bs ++ (four x).take 3) ++ [UInt8.ofNat (x / 16777216)] := by rw [List.append_assoc]; rfl
          rw [e]
          unfold OwnB
          rw [List.map_append, List.length_append]
          exact (show w3.ownsRow _ _ _ _ _ _ by simpa [four_length] using hown3)
        have HB3 := Lib.hid hB3
        have HO3 := Lib.hid hO3
        clear hown3 hgrow3 hB3 hO3
        go_wp2_with fail
        go_roundw
        case rel => exact ⟨4, by omega, rfl, HO3, HB3⟩
        case measure => simp [intOf]
    · obtain rfl : k = 4 := by omega
      rw [List.take_of_length_le (by rw [four_length]; exact Nat.le_refl _), ← HM.out] at hbr
      have HBR := Lib.hid hbr
      clear hbr hown
      go_wp2_with fail
      go_ret
      exact ⟨_, rfl, HBR.out, hB.out⟩
end Go.Proofs.YtndkohocgfmamaaGreat.Crc

/- container/heap, plain: what down does to an order; the front is the least. -/
namespace Go.Proofs.YtndkohocgfmamaaGreat.Heap

variable {α : Type}
/-- Two places exchanged. -/
def swap (f : Nat → α) (i j : Nat) : Nat → α := fun k => if k = i then f j else if k = j then f i else f k
theorem swap_l (f : Nat → α) (i j : Nat) : swap f i j i = f j := if_pos rfl
theorem swap_r (f : Nat → α) (i j : Nat) : swap f i j j = f i := by
  unfold swap
  by_cases h : j = i
  · rw [if_pos h, h]
  · rw [if_neg h, if_pos rfl]
theorem swap_o (f : Nat → α) {i j k : Nat} (h1 : k ≠ i) (h2 : k ≠ j) : swap f i j k = f k := by unfold swap; rw [if_neg h1, if_neg h2]
/-- The first n. -/
def row (f : Nat → α) (n : Nat) : List α := (List.range n).map f
theorem row_succ (f : Nat → α) (n : Nat) : row f (n + 1) = row f n ++ [f n] := by simp [row, List.range_succ]
theorem row_congr {f g : Nat → α} {n : Nat} (h : ∀ k, k < n → f k = g k) : row f n = row g n := List.map_congr_left (fun k hk => h k (List.mem_range.1 hk))
theorem row_length (f : Nat → α) (n : Nat) : (row f n).length = n := by simp [row]
theorem row_at (f : Nat → α) (n k : Nat) (h : k < n) : (row f n)[k]? = some (f k) := by simp [row, h]
/-- One place anew. -/
def put (f : Nat → α) (i : Nat) (v : α) : Nat → α := fun k => if k = i then v else f k
theorem put_same (f : Nat → α) (i : Nat) (v : α) : put f i v i = v := if_pos rfl
theorem put_other (f : Nat → α) {i k : Nat} (v : α) (h : k ≠ i) : put f i v k = f k := if_neg h
theorem row_put (f : Nat → α) (i : Nat) (v : α) : ∀ n, i < n → (f i :: row (put f i v) n).Perm (v :: row f n) := by
  intro n
  induction n with
  | zero => intro h; omega
  | succ n ih =>
    intro h
    rw [row_succ, row_succ]
    by_cases e : i = n
    · subst e
      rw [put_same, row_congr (fun k hk => put_other f v (by omega) : ∀ k, k < i → put f i v k = f k)]
      have h1 : (f i :: (row f i ++ [v])).Perm (f i :: v :: row f i) := List.Perm.cons _ (List.perm_append_singleton _ _)
      have h2 : (v :: (row f i ++ [f i])).Perm (v :: f i :: row f i) := List.Perm.cons _ (List.perm_append_singleton _ _)
      exact (h1.trans (List.Perm.swap _ _ _)).trans h2.symm
    · rw [put_other f v (Ne.symm e)]
      have := (ih (by omega)).append_right [f n]
      simpa using this
theorem swap_puts (f : Nat → α) (i j : Nat) : swap f i j = put (put f j (f i)) i (f j) := by
  funext k
  unfold swap put
  by_cases h1 : k = i
  · simp [h1]
  · simp [h1]
theorem row_swap (f : Nat → α) {i j n : Nat} (hi : i < n) (hj : j < n) : (row (swap f i j) n).Perm (row f n) := by
  rw [swap_puts]
  have h1 := row_put (put f j (f i)) i (f j) n hi
  have h2 := row_put f j (f i) n hj
  have e : put f j (f i) i = f i := by
    by_cases e : i = j
    · subst e; exact put_same _ _ _
    · exact put_other _ _ e
  rw [e] at h1
  exact (List.perm_cons _).1 (h1.trans h2)
def parent (c : Nat) : Nat := (c - 1) / 2
/-- An order in which what is not below is passed on. -/
structure Ord (lt : α → α → Prop) : Prop where
  asym : ∀ a b, lt a b → ¬ lt b a
  trans : ∀ a b c, ¬ lt b a → ¬ lt c b → ¬ lt c a
/-- All whose parent is from k on are not below it. -/
def Heap (lt : α → α → Prop) (f : Nat → α) (k n : Nat) : Prop := ∀ c, 0 < c → c < n → k ≤ parent c → ¬ lt (f c) (f (parent c))
/-- .. but for those whose parent is i; and these are not below i's parent. -/
structure Dn (lt : α → α → Prop) (f : Nat → α) (k n i : Nat) : Prop where
  le : k ≤ i
  pairs : ∀ c, 0 < c → c < n → k ≤ parent c → parent c ≠ i → ¬ lt (f c) (f (parent c))
  grand : i ≠ k → k ≤ parent i → ∀ c, 0 < c → c < n → parent c = i → ¬ lt (f c) (f (parent i))
theorem dn_start {lt : α → α → Prop} {f : Nat → α} {k n : Nat} (h : Heap lt f (k + 1) n) : Dn lt f k n k :=
  ⟨Nat.le_refl _, fun c h0 hc hk hne => h c h0 hc (by omega), fun h => absurd rfl h⟩
theorem parent_lt {c : Nat} (h : 0 < c) : parent c < c := by unfold parent; omega
theorem dn_stop {lt : α → α → Prop} {f : Nat → α} {k n i : Nat} (h : Dn lt f k n i) (hs : ∀ c, 0 < c → c < n → parent c = i → ¬ lt (f c) (f i)) : Heap lt f k n := fun c h0 hc hk => by
  by_cases e : parent c = i
  · rw [e]; exact hs c h0 hc e
  · exact h.pairs c h0 hc hk e
theorem dn_step {lt : α → α → Prop} (O : Ord lt) {f : Nat → α} {k n i j : Nat} (h : Dn lt f k n i) (hj0 : 0 < j) (hjn : j < n) (hji : parent j = i) (hlt : lt (f j) (f i)) (hmin : ∀ c, 0 < c → c < n → parent c = i → ¬ lt (f c) (f j)) : Dn lt (swap f i j) k n j := by
  have hij : i < j := by rw [← hji]; exact parent_lt hj0
  refine ⟨by have := h.le; omega, fun c h0 hc hk hne => ?_, fun hjk hkp c h0 hc hcj => ?_⟩
  · have hcl := parent_lt h0
    by_cases e1 : c = j
    · subst e1
      rw [swap_r, hji, swap_l]
      exact O.asym _ _ hlt
    · by_cases e2 : c = i
      · subst e2
        rw [swap_l, swap_o f (by omega) (by omega)]
        by_cases e3 : c = k
        · omega
        · exact h.grand e3 hk j hj0 hjn hji
      · rw [swap_o f e2 e1]
        by_cases e3 : parent c = i
        · rw [e3, swap_l]
          exact hmin c h0 hc e3
        · rw [swap_o f e3 hne]
          exact h.pairs c h0 hc hk e3
  · have hcl := parent_lt h0
    rw [hji, swap_l, swap_o f (by omega) (by omega)]
    have := h.pairs c h0 hc (by rw [hcj]; have := h.le; omega) (by rw [hcj]; omega)
    rw [hcj] at this
    exact this
/-- The front is the least. -/
theorem front {lt : α → α → Prop} (O : Ord lt) {f : Nat → α} {n : Nat} (h : Heap lt f 0 n) : ∀ c, c < n → ¬ lt (f c) (f 0) := by
  intro c
  induction c using Nat.strongRecOn with
  | _ c ih =>
    intro hc
    by_cases h0 : c = 0
    · subst h0
      intro hl
      exact O.asym _ _ hl hl
    · have hp := parent_lt (Nat.pos_of_ne_zero h0)
      exact O.trans _ _ _ (ih _ hp (by omega)) (h c (by omega) hc (Nat.zero_le _))
end Go.Proofs.YtndkohocgfmamaaGreat.Heap

/- Layer 13, plain: rows that rise, merged by a heap of them, are all records, rising. -/
namespace Go.Proofs.YtndkohocgfmamaaGreat.Merge
open Go.Proofs.YtndkohocgfmamaaGreat.Heap

abbrev B := List UInt8
abbrev Rises (l : List B) : Prop := l.Pairwise (· ≤ ·)
/-- A row that is not at its end is below another if its first record is. -/
def hlt (r s : List B) : Prop := ∃ a b, r.head? = some a ∧ s.head? = some b ∧ a < b
theorem hlt_iff {r s : List B} {a b : B} (h1 : r.head? = some a) (h2 : s.head? = some b) : hlt r s ↔ a < b := by
  constructor
  · rintro ⟨a', b', e1, e2, h⟩
    rw [h1] at e1
    rw [h2] at e2
    cases e1
    cases e2
    exact h
  · exact fun h => ⟨a, b, h1, h2, h⟩
/-- The rows that are not at their ends. -/
abbrev Row := { r : List B // r ≠ [] }
def lt (r s : Row) : Prop := hlt r.1 s.1
def hd (r : Row) : B := r.1.head r.2
theorem hd_some (r : Row) : r.1.head? = some (hd r) := List.head?_eq_some_head r.2
theorem lt_iff (r s : Row) : lt r s ↔ hd r < hd s := hlt_iff (hd_some r) (hd_some s)
theorem ord : Ord lt where
  asym := fun a b h k => by
    rw [lt_iff] at h k
    exact absurd (List.le_of_lt k) (List.not_le.2 h)
  trans := fun a b c h k => by
    rw [lt_iff, List.not_lt] at h k ⊢
    exact List.le_trans h k
theorem rises_head {r : Row} (h : Rises r.1) : ∀ x ∈ r.1, hd r ≤ x := fun x hx => by
  obtain ⟨l, hl⟩ := r
  cases l with
  | nil => exact absurd rfl hl
  | cons a t =>
    rcases List.mem_cons.1 hx with rfl | hx
    · exact List.le_refl _
    · exact (List.pairwise_cons.1 h).1 x hx
/-- All records of the first n rows. -/
def recs (f : Nat → Row) (n : Nat) : List B := ((row f n).map Subtype.val).flatten
theorem recs_perm {f g : Nat → Row} {n m : Nat} (h : (row f n).Perm (row g m)) : (recs f n).Perm (recs g m) := (h.map _).flatten
/-- What has come out, and what is left. -/
structure Inv (all out : List B) (f : Nat → Row) (n : Nat) : Prop where
  heap : Heap lt f 0 n
  rises : ∀ c, c < n → Rises (f c).1
  up : Rises out
  low : ∀ o ∈ out, ∀ x ∈ recs f n, o ≤ x
  same : (out ++ recs f n).Perm all
theorem mem_recs {f : Nat → Row} {n : Nat} {x : B} : x ∈ recs f n ↔ ∃ c, c < n ∧ x ∈ (f c).1 := by
  unfold recs row
  simp only [List.mem_flatten, List.mem_map, List.mem_range]
  constructor
  · rintro ⟨l, ⟨r, ⟨c, hc, rfl⟩, rfl⟩, hx⟩
    exact ⟨c, hc, hx⟩
  · rintro ⟨c, hc, hx⟩
    exact ⟨_, ⟨_, ⟨c, hc, rfl⟩, rfl⟩, hx⟩
/-- The front's first record is the least of all. -/
theorem least {all out : List B} {f : Nat → Row} {n : Nat} (h : Inv all out f n) : ∀ x ∈ recs f n, hd (f 0) ≤ x := fun x hx => by
  obtain ⟨c, hc, hx⟩ := mem_recs.1 hx
  have h1 := front ord h.heap c hc
  rw [lt_iff, List.not_lt] at h1
  exact List.le_trans h1 (rises_head (h.rises c hc) x hx)
theorem recs_front {f : Nat → Row} {n : Nat} (hn : 0 < n) : recs f n = (f 0).1 ++ ((List.range (n - 1)).map (fun k => (f (k + 1)).1)).flatten := by
  obtain ⟨m, rfl⟩ : ∃ m, n = m + 1 := ⟨n - 1, by omega⟩
  unfold recs row
  rw [List.range_succ_eq_map]
  simp [Function.comp_def]
/-- The front's first record comes out: what is left of the front goes on as it may. -/
theorem step {all out : List B} {f g : Nat → Row} {n m : Nat} (h : Inv all out f n) (hg : Heap lt g 0 m) (hr : ∀ c, c < m → Rises (g c).1) (hp : (hd (f 0) :: recs g m).Perm (recs f n)) : Inv all (out ++ [hd (f 0)]) g m := by
  have hin : hd (f 0) ∈ recs f n := hp.mem_iff.1 (by simp)
  refine ⟨hg, hr, ?_, fun o ho x hx => ?_, ?_⟩
  · refine List.pairwise_append.2 ⟨h.up, by simp, fun a ha b hb => ?_⟩
    rw [List.mem_singleton.1 hb]
    exact h.low a ha _ hin
  · have hx' : x ∈ recs f n := hp.mem_iff.1 (List.mem_cons_of_mem _ hx)
    rcases List.mem_append.1 ho with ho | ho
    · exact h.low o ho x hx'
    · rw [List.mem_singleton.1 ho]
      exact least h x hx'
  · rw [List.append_assoc]
    exact (List.Perm.append_left out hp).trans h.same
/-- Where the front goes on with the rest of its row. -/
theorem rest_perm {f g : Nat → Row} {n : Nat} (hn : 0 < n) {r : Row} (hr : (f 0).1 = hd (f 0) :: r.1) (hg : (row g n).Perm (row (put f 0 r) n)) : (hd (f 0) :: recs g n).Perm (recs f n) := by
  refine (List.Perm.cons _ (recs_perm hg)).trans ?_
  rw [recs_front hn, recs_front hn, put_same, hr]
  have : (fun k => (put f 0 r (k + 1)).1) = fun k => (f (k + 1)).1 := by
    funext k
    rw [put_other f r (by omega)]
  rw [this]
  exact List.Perm.refl _
/-- Where the front's row is at its end. -/
theorem gone_perm {f g : Nat → Row} {n : Nat} (hr : (f 0).1 = [hd (f 0)]) (hg : (f 0 :: row g n).Perm (row f (n + 1))) : (hd (f 0) :: recs g n).Perm (recs f (n + 1)) := by
  have h := ((hg.map Subtype.val).flatten)
  rw [List.map_cons, List.flatten_cons, hr] at h
  exact h
/-- All has come out. -/
theorem done {all out : List B} {f : Nat → Row} (h : Inv all out f 0) : Rises out ∧ out.Perm all := by
  have := h.same
  have e : recs f 0 = [] := rfl
  rw [e, List.append_nil] at this
  exact ⟨h.up, this⟩
theorem sorted_one {a b : List B} (h1 : Rises a) (h2 : Rises b) (hp : a.Perm b) : a = b :=
  List.Perm.eq_of_pairwise (fun _ _ _ _ h k => List.le_antisymm h k) h1 h2 hp
/-- What has come out so far stands in front of the sorted list of all. -/
theorem prefix_of {all out s : List B} {f : Nat → Row} {n : Nat} (h : Inv all out f n) (hs : Rises s) (hp : s.Perm all) : out <+: s := by
  obtain ⟨t, ht1, ht2⟩ : ∃ t : List B, t.Perm (recs f n) ∧ Rises t := ⟨(recs f n).mergeSort (fun x y => decide (x ≤ y)), List.mergeSort_perm _ _, by
    have := List.pairwise_mergeSort (le := fun x y : B => decide (x ≤ y)) (fun a b c h k => by simp at h k ⊢; exact List.le_trans h k) (fun a b => by simp; exact List.le_total a b) (recs f n)
    exact this.imp (fun h => by simpa using h)⟩
  have e : out ++ t = s := sorted_one (List.pairwise_append.2 ⟨h.up, ht2, fun a ha b hb => h.low a ha b (ht1.mem_iff.1 hb)⟩) hs (((List.Perm.append_left out ht1).trans h.same).trans hp.symm)
  exact ⟨t, e⟩
end Go.Proofs.YtndkohocgfmamaaGreat.Merge

/- Layer 27, plain: records of counts; their order; counts of one pair put together. -/
namespace Go.Proofs.YtndkohocgfmamaaGreat.Visit
open Go.Proofs.YtndkohocgfmamaaGreat.Merge

/-- A number's bytes, the highest one first. -/
def beN : Nat → Nat → List UInt8
  | 0, _ => []
  | m + 1, n => UInt8.ofNat (n / 256 ^ m) :: beN m n
theorem beN_length (m n : Nat) : (beN m n).length = m := by
  induction m with
  | zero => rfl
  | succ m ih => simp [beN, ih]
theorem byte_eq {a b : Nat} (h : a % 256 = b % 256) : UInt8.ofNat a = UInt8.ofNat b := by
  apply UInt8.toNat_inj.1
  simpa using h
theorem beN_mod (m : Nat) : ∀ (n k : Nat), m ≤ k → beN m (n % 256 ^ k) = beN m n := by
  induction m with
  | zero => intro n k _; rfl
  | succ m ih =>
    intro n k hk
    unfold beN
    rw [ih n k (by omega)]
    congr 1
    apply byte_eq
    obtain ⟨d, rfl⟩ : ∃ d, k = m + (d + 1) := ⟨k - m - 1, by omega⟩
    rw [Nat.pow_add, Nat.mod_mul_right_div_self, Nat.pow_succ, Nat.mod_mul_left_mod]
/-- Lower numbers' bytes are lower, whatever comes behind. -/
theorem beN_lt (m : Nat) : ∀ (a b : Nat), a < b → b < 256 ^ m → ∀ s t : List UInt8, beN m a ++ s < beN m b ++ t := by
  induction m with
  | zero => intro a b h hb; simp at hb; omega
  | succ m ih =>
    intro a b h hb s t
    have hp : 0 < 256 ^ m := Nat.pow_pos (by decide)
    have hb' : b / 256 ^ m < 256 := by
      rw [Nat.div_lt_iff_lt_mul hp, Nat.mul_comm, ← Nat.pow_succ]
      exact hb
    have hle : a / 256 ^ m ≤ b / 256 ^ m := Nat.div_le_div_right (Nat.le_of_lt h)
    unfold beN
    rw [List.cons_append, List.cons_append, List.cons_lt_cons_iff]
    by_cases he : a / 256 ^ m = b / 256 ^ m
    · right
      refine ⟨by rw [he], ?_⟩
      rw [← beN_mod m a m (Nat.le_refl _), ← beN_mod m b m (Nat.le_refl _)]
      refine ih _ _ ?_ (Nat.mod_lt _ hp) s t
      have h1 := Nat.div_add_mod a (256 ^ m)
      have h2 := Nat.div_add_mod b (256 ^ m)
      rw [he] at h1
      omega
    · left
      have h3 : a / 256 ^ m < b / 256 ^ m := by omega
      rw [UInt8.lt_iff_toNat_lt, UInt8.toNat_ofNat', UInt8.toNat_ofNat']
      simp only [Nat.reducePow]
      rw [Nat.mod_eq_of_lt hb', Nat.mod_eq_of_lt (by omega)]
      exact h3
/-- A row of bytes as a number. -/
def numB : List UInt8 → Nat → Nat
  | [], n => n
  | c :: l, n => numB l (256 * n + c.toNat)
theorem numB_append (l m : List UInt8) (n : Nat) : numB (l ++ m) n = numB m (numB l n) := by
  induction l generalizing n with
  | nil => rfl
  | cons c l ih => exact ih _
theorem numB_beN (m : Nat) : ∀ (n a : Nat), n < 256 ^ m → numB (beN m n) a = a * 256 ^ m + n := by
  induction m with
  | zero => intro n a h; simp at h; subst h; simp [beN, numB]
  | succ m ih =>
    intro n a h
    have hp : 0 < 256 ^ m := Nat.pow_pos (by decide)
    have hb' : n / 256 ^ m < 256 := by
      rw [Nat.div_lt_iff_lt_mul hp, Nat.mul_comm, ← Nat.pow_succ]
      exact h
    unfold beN numB
    rw [← beN_mod m n m (Nat.le_refl _), ih _ _ (Nat.mod_lt _ hp), UInt8.toNat_ofNat']
    simp only [Nat.reducePow]
    rw [Nat.mod_eq_of_lt hb', Nat.add_mul, Nat.pow_succ]
    have h1 := Nat.div_add_mod n (256 ^ m)
    rw [Nat.mul_comm 256 a, Nat.mul_assoc a 256, Nat.mul_comm 256 (256 ^ m), Nat.mul_comm (n / 256 ^ m)]
    omega
theorem beN_inj {m a b : Nat} (ha : a < 256 ^ m) (hb : b < 256 ^ m) (h : beN m a = beN m b) : a = b := by
  have h1 := numB_beN m a 0 ha
  have h2 := numB_beN m b 0 hb
  rw [h] at h1
  omega
/-- Four bytes, and four more, are the eight of both. -/
theorem beN_two (a b : Nat) (hb : b < 4294967296) : beN 4 a ++ beN 4 b = beN 8 (a * 4294967296 + b) := by
  have e : ∀ (j : Nat), j < 4 → UInt8.ofNat ((a * 4294967296 + b) / 256 ^ (4 + j)) = UInt8.ofNat (a / 256 ^ j) := fun j _ => by
    congr 1
    rw [Nat.pow_add, ← Nat.div_div_eq_div_mul, show (256 : Nat) ^ 4 = 4294967296 from rfl, Nat.mul_comm a, Nat.mul_add_div (by decide), Nat.div_eq_of_lt hb]
    simp
  have f : beN 4 b = beN 4 (a * 4294967296 + b) := by
    rw [← beN_mod 4 (a * 4294967296 + b) 4 (Nat.le_refl _), show (256 : Nat) ^ 4 = 4294967296 from rfl, Nat.mul_comm, Nat.mul_add_mod, Nat.mod_eq_of_lt hb]
  rw [f]
  show [UInt8.ofNat (a / 256 ^ 3), UInt8.ofNat (a / 256 ^ 2), UInt8.ofNat (a / 256 ^ 1), UInt8.ofNat (a / 256 ^ 0)] ++ _ = [UInt8.ofNat ((a * 4294967296 + b) / 256 ^ (4 + 3)), UInt8.ofNat ((a * 4294967296 + b) / 256 ^ (4 + 2)), UInt8.ofNat ((a * 4294967296 + b) / 256 ^ (4 + 1)), UInt8.ofNat ((a * 4294967296 + b) / 256 ^ (4 + 0))] ++ beN 4 (a * 4294967296 + b)
  rw [e 3 (by decide), e 2 (by decide), e 1 (by decide), e 0 (by decide)]
/-- 2^64 - 1. -/
def top64 : Nat := 18446744073709551615
/-- No higher than that. -/
def sat (n : Nat) : Nat := if n ≤ top64 then n else top64
theorem sat_le (n : Nat) : sat n ≤ top64 := by unfold sat; split <;> omega
theorem sat_of {n : Nat} (h : n ≤ top64) : sat n = n := by unfold sat; rw [if_pos h]
theorem sat_sat (a b : Nat) : sat (sat a + b) = sat (a + b) := by
  unfold sat
  split <;> split <;> (try split) <;> omega
theorem sat_sat' (a b : Nat) : sat (a + sat b) = sat (a + b) := by rw [Nat.add_comm, sat_sat, Nat.add_comm]
/-- A pair (as one number) and its count. -/
abbrev KC := Nat × Nat
/-- A count's record. -/
def recB (p : KC) : List UInt8 := beN 8 p.1 ++ beN 8 p.2
theorem recB_length (p : KC) : (recB p).length = 16 := by unfold recB; rw [List.length_append, beN_length, beN_length]
def okP (p : KC) : Prop := p.1 ≤ top64 ∧ 0 < p.2 ∧ p.2 ≤ top64
theorem p64 {n : Nat} (h : n ≤ top64) : n < 256 ^ 8 := by have : (256 : Nat) ^ 8 = 18446744073709551616 := by decide
                                                          unfold top64 at h; omega
theorem recB_inj {p q : KC} (hp : okP p) (hq : okP q) (h : recB p = recB q) : p = q := by
  unfold recB at h
  obtain ⟨h1, h2⟩ := List.append_inj h (by rw [beN_length, beN_length])
  exact Prod.ext (beN_inj (p64 hp.1) (p64 hq.1) h1) (beN_inj (p64 hp.2.2) (p64 hq.2.2) h2)
theorem recB_le {p q : KC} (hp : okP p) (h : recB p ≤ recB q) : p.1 ≤ q.1 := by
  apply Nat.le_of_not_lt
  intro hlt
  exact absurd (beN_lt 8 q.1 p.1 hlt (p64 hp.1) (beN 8 q.2) (beN 8 p.2)) (List.not_lt.2 h)
/-- All counts of a pair together. -/
def tot (l : List KC) (k : Nat) : Nat := ((l.filter (fun p => p.1 == k)).map Prod.snd).sum
theorem tot_nil (k : Nat) : tot [] k = 0 := rfl
theorem tot_cons (p : KC) (l : List KC) (k : Nat) : tot (p :: l) k = (if p.1 = k then p.2 else 0) + tot l k := by
  unfold tot
  rw [List.filter_cons]
  by_cases h : p.1 = k
  · simp [h]
  · have : (p.1 == k) = false := by simpa using h
    simp [this, h]
theorem tot_append (l m : List KC) (k : Nat) : tot (l ++ m) k = tot l k + tot m k := by
  unfold tot
  rw [List.filter_append, List.map_append, List.sum_append]
theorem tot_perm {l m : List KC} (h : l.Perm m) (k : Nat) : tot l k = tot m k := by
  unfold tot
  exact ((h.filter _).map _).sum_nat
theorem tot_pos {l : List KC} (h : ∀ p ∈ l, 0 < p.2) (k : Nat) : 0 < tot l k ↔ ∃ p ∈ l, p.1 = k := by
  induction l with
  | nil => simp [tot_nil]
  | cons p l ih =>
    have ih := ih (fun q hq => h q (List.mem_cons_of_mem _ hq))
    have hp := h p (by simp)
    rw [tot_cons]
    constructor
    · intro ht
      by_cases e : p.1 = k
      · exact ⟨p, by simp, e⟩
      · rw [if_neg e, Nat.zero_add] at ht
        obtain ⟨q, hq, e2⟩ := ih.1 ht
        exact ⟨q, by simp [hq], e2⟩
    · rintro ⟨q, hq, e⟩
      rcases List.mem_cons.1 hq with rfl | hq
      · rw [if_pos e]; omega
      · have := ih.2 ⟨q, hq, e⟩
        omega
/-- One more record, put behind those that are put together already. -/
def mstep (out : List KC) (p : KC) : List KC :=
  match out.getLast? with
  | some q => if q.1 = p.1 then out.dropLast ++ [(q.1, sat (q.2 + p.2))] else out ++ [p]
  | none => [p]
def merged (l : List KC) : List KC := l.foldl mstep []
theorem merged_snoc (l : List KC) (p : KC) : merged (l ++ [p]) = mstep (merged l) p := by unfold merged; rw [List.foldl_append]; rfl
theorem merged_nil : merged [] = [] := rfl
theorem mstep_snoc (o : List KC) (q p : KC) : mstep (o ++ [q]) p = if q.1 = p.1 then o ++ [(q.1, sat (q.2 + p.2))] else o ++ [q] ++ [p] := by
  unfold mstep
  rw [List.getLast?_append]
  simp
theorem mstep_nil (p : KC) : mstep [] p = [p] := rfl
/-- What is put together, of records that rise. -/
structure IsMerged (l out : List KC) : Prop where
  rises : out.Pairwise (fun p q => p.1 < q.1)
  some_ : ∀ k, (∃ p ∈ out, p.1 = k) ↔ ∃ p ∈ l, p.1 = k
  sum : ∀ p ∈ out, p.2 = sat (tot l p.1)
theorem pairwise_key {out : List KC} (h : out.Pairwise (fun p q => p.1 < q.1)) {p q : KC} (hp : p ∈ out) (hq : q ∈ out) (e : p.1 = q.1) : p = q := by
  induction out with
  | nil => cases hp
  | cons a t ih =>
    obtain ⟨h1, h2⟩ := List.pairwise_cons.1 h
    rcases List.mem_cons.1 hp with hp | hp
    · rcases List.mem_cons.1 hq with hq | hq
      · rw [hp, hq]
      · have := h1 q hq
        rw [hp] at e
        omega
    · rcases List.mem_cons.1 hq with hq | hq
      · have := h1 p hp
        rw [hq] at e
        omega
      · exact ih h2 hp hq
theorem merged_is : ∀ (l : List KC), l.Pairwise (fun p q => p.1 ≤ q.1) → (∀ p ∈ l, p.2 ≤ top64) → IsMerged l (merged l) ∧ ∀ q, (merged l).getLast? = some q → (∃ p ∈ l, p.1 = q.1) ∧ ∀ p ∈ l, p.1 ≤ q.1 := by
  intro l
  -- from the end
  suffices h : ∀ (n : Nat) (l : List KC), l.length = n → l.Pairwise (fun p q => p.1 ≤ q.1) → (∀ p ∈ l, p.2 ≤ top64) → IsMerged l (merged l) ∧ ∀ q, (merged l).getLast? = some q → (∃ p ∈ l, p.1 = q.1) ∧ ∀ p ∈ l, p.1 ≤ q.1 from h l.length l rfl
  clear l
  intro n
  induction n with
  | zero =>
    intro l hl _ _
    have : l = [] := List.eq_nil_of_length_eq_zero hl
    subst this
    exact ⟨⟨by simp [merged_nil], by simp [merged_nil], by simp [merged_nil]⟩, by simp [merged_nil]⟩
  | succ n ih =>
    intro l hl hp hw
    obtain ⟨t, p, rfl⟩ : ∃ t p, l = t ++ [p] := ⟨l.dropLast, l.getLast (by intro e; rw [e] at hl; simp at hl), (List.dropLast_concat_getLast _).symm⟩
    have hl' : t.length = n := by simpa using hl
    obtain ⟨hpt, _, hpp⟩ := List.pairwise_append.1 hp
    have hpp : ∀ a ∈ t, a.1 ≤ p.1 := fun a ha => hpp a ha p (by simp)
    have hwt : ∀ a ∈ t, a.2 ≤ top64 := fun a ha => hw a (by simp [ha])
    have hwp : p.2 ≤ top64 := hw p (by simp)
    obtain ⟨⟨h1, h2, h3⟩, h4⟩ := ih t hl' hpt hwt
    rw [merged_snoc]
    obtain ⟨o, ho⟩ : ∃ o, o = merged t := ⟨_, rfl⟩
    rw [← ho] at h1 h2 h3 h4 ⊢
    rcases List.eq_nil_or_concat o with rfl | ⟨o', q, rfl⟩
    · -- the first record
      have ht : t = [] := by
        rcases t with _ | ⟨a, t⟩
        · rfl
        · obtain ⟨b, hb, _⟩ := (h2 a.1).2 ⟨a, by simp, rfl⟩
          cases hb
      subst ht
      rw [mstep_nil]
      refine ⟨⟨by simp, by simp, fun a ha => ?_⟩, fun a ha => ?_⟩
      · have e : a = p := by simpa using ha
        subst e
        simp [tot_cons, tot_nil, sat_of hwp]
      · have e : p = a := by simpa using ha
        subst e
        refine ⟨⟨p, by simp, rfl⟩, fun b hb => ?_⟩
        have eb : b = p := by simpa using hb
        rw [eb]
        exact Nat.le_refl _
    · rw [List.concat_eq_append] at h1 h2 h3 h4 ⊢
      obtain ⟨⟨r, hr, hrq⟩, hmax⟩ := h4 q (by simp)
      rw [mstep_snoc]
      obtain ⟨h11, _, h12⟩ := List.pairwise_append.1 h1
      have h12 : ∀ a ∈ o', a.1 < q.1 := fun a ha => h12 a ha q (by simp)
      by_cases e : q.1 = p.1
      · rw [if_pos e]
        refine ⟨⟨?_, fun k => ?_, fun a ha => ?_⟩, fun a ha => ?_⟩
        · refine List.pairwise_append.2 ⟨h11, by simp, fun a ha b hb => ?_⟩
          have eb : b = (q.1, sat (q.2 + p.2)) := by simpa using hb
          rw [eb]
          exact h12 a ha
        · constructor
          · rintro ⟨a, ha, rfl⟩
            rcases List.mem_append.1 ha with ha | ha
            · obtain ⟨b, hb, e2⟩ := (h2 a.1).1 ⟨a, by simp [ha], rfl⟩
              exact ⟨b, by simp [hb], e2⟩
            · have ea : a = (q.1, sat (q.2 + p.2)) := by simpa using ha
              exact ⟨p, by simp, by rw [ea, e]⟩
          · rintro ⟨b, hb, rfl⟩
            rcases List.mem_append.1 hb with hb | hb
            · obtain ⟨a, ha, e2⟩ := (h2 b.1).2 ⟨b, hb, rfl⟩
              rcases List.mem_append.1 ha with ha | ha
              · exact ⟨a, by simp [ha], e2⟩
              · have ea : a = q := by simpa using ha
                exact ⟨(q.1, sat (q.2 + p.2)), by simp, by rw [← e2, ea]⟩
            · have eb : b = p := by simpa using hb
              exact ⟨(q.1, sat (q.2 + p.2)), by simp, by rw [eb]; exact e⟩
        · rw [tot_append, tot_cons, tot_nil]
          rcases List.mem_append.1 ha with ha | ha
          · have := h12 a ha
            rw [if_neg (by omega), h3 a (by simp [ha])]
            simp
          · have ea : a = (q.1, sat (q.2 + p.2)) := by simpa using ha
            rw [ea]
            show sat (q.2 + p.2) = sat (tot t q.1 + ((if p.1 = q.1 then p.2 else 0) + 0))
            rw [if_pos e.symm, h3 q (by simp), sat_sat]
            rfl
        · have ea : (q.1, sat (q.2 + p.2)) = a := by simpa using ha
          rw [← ea]
          refine ⟨⟨p, by simp, e.symm⟩, fun b hb => ?_⟩
          rcases List.mem_append.1 hb with hb | hb
          · exact hmax b hb
          · have eb : b = p := by simpa using hb
            rw [eb]
            exact Nat.le_of_eq e.symm
      · rw [if_neg e]
        have hlt : q.1 < p.1 := by
          have := hpp r hr
          omega
        have hno : ∀ b ∈ t, b.1 ≠ p.1 := fun b hb eb => by
          have := hmax b hb
          omega
        refine ⟨⟨?_, fun k => ?_, fun a ha => ?_⟩, fun a ha => ?_⟩
        · refine List.pairwise_append.2 ⟨h1, by simp, fun a ha b hb => ?_⟩
          have eb : b = p := by simpa using hb
          rw [eb]
          rcases List.mem_append.1 ha with ha | ha
          · have := h12 a ha; omega
          · have ea : a = q := by simpa using ha
            rw [ea]
            exact hlt
        · constructor
          · rintro ⟨a, ha, rfl⟩
            rcases List.mem_append.1 ha with ha | ha
            · obtain ⟨b, hb, e2⟩ := (h2 a.1).1 ⟨a, ha, rfl⟩
              exact ⟨b, by simp [hb], e2⟩
            · have ea : a = p := by simpa using ha
              exact ⟨p, by simp, by rw [ea]⟩
          · rintro ⟨b, hb, rfl⟩
            rcases List.mem_append.1 hb with hb | hb
            · obtain ⟨a, ha, e2⟩ := (h2 b.1).2 ⟨b, hb, rfl⟩
              exact ⟨a, List.mem_append_left _ ha, e2⟩
            · have eb : b = p := by simpa using hb
              exact ⟨p, by simp, by rw [eb]⟩
        · rw [tot_append, tot_cons, tot_nil]
          rcases List.mem_append.1 ha with ha | ha
          · have hne : p.1 ≠ a.1 := fun ea => by
              obtain ⟨b, hb, e2⟩ := (h2 a.1).1 ⟨a, ha, rfl⟩
              exact hno b hb (by rw [e2, ea])
            rw [if_neg hne, h3 a ha]
            simp
          · have ea : a = p := by simpa using ha
            rw [ea, if_pos rfl]
            have : tot t p.1 = 0 := by
              unfold tot
              rw [List.filter_eq_nil_iff.2 (fun b hb => by simpa using hno b hb)]
              rfl
            rw [this, sat_of (by omega)]
            omega
        · have ea : p = a := by simpa using ha
          rw [← ea]
          refine ⟨⟨p, by simp, rfl⟩, fun b hb => ?_⟩
          rcases List.mem_append.1 hb with hb | hb
          · exact hpp b hb
          · have eb : b = p := by simpa using hb
            rw [eb]
            exact Nat.le_refl _
end Go.Proofs.YtndkohocgfmamaaGreat.Visit

/- Layer 27: two counts together; a count's record. -/
namespace Go.Proofs.YtndkohocgfmamaaGreat.Visit
open Go.RowKit Go.Deep Mem Crc

theorem add64 (a b : Nat) (w : World) : (callFunc 43 #[.int .u64 (a : Int), .int .u64 (b : Int), .int .u64 0]).run Tryz.prog w = .ok (.value (.tuple #[.int .u64 (((a + b) % 18446744073709551616 : Nat) : Int), .int .u64 (((a + b) / 18446744073709551616 : Nat) : Int)])) w := by
  rw [run_callFunc_extern Tryz.func43 (by kernel_rfl) (by kernel_rfl) (by kernel_rfl) (e := add64Entry) (by kernel_rfl), run_add64 a b 0 (by omega) (by omega) (by omega) (by omega)]
  simp only [Result.andThen]
  congr 5 <;> omega
theorem sum_any (a b : Nat) (ha : a ≤ top64) (hb : b ≤ top64) (w : World) :
    Calls Tryz.prog 23 #[.int .u64 (a : Int), .int .u64 (b : Int)] w fun e w' => e = .returned (.int .u64 ((sat (a + b) : Nat) : Int)) ∧ w = w' := by
  have hadd := add64 a b w
  unfold top64 at ha hb
  by_cases h : a + b ≤ 18446744073709551615
  · rw [Nat.mod_eq_of_lt (by omega), Nat.div_eq_of_lt (by omega)] at hadd
    have hs : sat (a + b) = a + b := sat_of h
    rw [hs]
    clear ha hb h hs
    go_enter Tryz.func23, Tryz.ntmps23
    go_wp2_with fail
    go_ret
    exact ⟨rfl, rfl⟩
  · have hd : (a + b) / 18446744073709551616 = 1 := by omega
    rw [hd] at hadd
    have hs : sat (a + b) = 18446744073709551615 := by unfold sat top64; rw [if_neg (by omega)]
    rw [hs]
    clear ha hb h hs hd
    go_enter Tryz.func23, Tryz.ntmps23
    go_wp2_with fail
    go_ret
    exact ⟨rfl, rfl⟩
end Go.Proofs.YtndkohocgfmamaaGreat.Visit

/- Layer 27: a count's record. -/
namespace Go.Proofs.YtndkohocgfmamaaGreat.Visit
open Go.RowKit Go.Deep Mem Crc

theorem join64 (s v k : Nat) (hk : k = s * 4294967296 + v) (hs : s < 4294967296) (hv : v < 4294967296) : bits .or .u64 ((s : Int) * 4294967296) (v : Int) = (k : Int) := by
  have := u64_or_nat (s * 4294967296) v (by omega) (by omega)
  rw [nat_join 32 (s * 4294967296) v (by simp) (by simpa using hv)] at this
  rw [hk]
  simpa using this
theorem byteV (x m : Nat) : Value.int .u8 ((x : Int) / (m : Int) % 256) = bv (UInt8.ofNat (x / m)) := by
  rw [← bv_of]
  congr 1
theorem byteV1 (x : Nat) : Value.int .u8 ((x : Int) % 256) = bv (UInt8.ofNat x) := by
  rw [← bv_of]
  congr 1
theorem byteV0 (x : Nat) (h : x < 18446744073709551616) : Value.int .u8 ((x : Int) / 72057594037927936) = bv (UInt8.ofNat (x / 72057594037927936)) := by
  rw [← byteV]
  congr 1
  omega
theorem take_next {l : List UInt8} {n : Nat} {b : UInt8} (h : l[n]? = some b) : l.take (n + 1) = l.take n ++ [b] := by rw [List.take_add_one, h]; rfl
theorem rec_at (k c : Nat) (j : Nat) (hj : j < 2) (q : Nat) (hq : q < 8) : (recB (k, c))[8 * j + q]? = some (UInt8.ofNat ((if j = 0 then k else c) / 256 ^ (7 - q))) := by
  have h0 : ∀ (x : Nat), (beN 8 x)[q]? = some (UInt8.ofNat (x / 256 ^ (7 - q))) := fun x => by
    rcases (show q = 0 ∨ q = 1 ∨ q = 2 ∨ q = 3 ∨ q = 4 ∨ q = 5 ∨ q = 6 ∨ q = 7 by omega) with rfl | rfl | rfl | rfl | rfl | rfl | rfl | rfl <;> rfl
  unfold recB
  rcases (show j = 0 ∨ j = 1 by omega) with rfl | rfl
  · rw [List.getElem?_append_left (by rw [beN_length]; omega)]
    simpa using h0 k
  · rw [List.getElem?_append_right (by rw [beN_length]; omega), beN_length, show 8 * 1 + q - 8 = q by omega]
    simpa using h0 c
set_option maxHeartbeats 4000000 in
set_option maxRecDepth 100000 in
theorem record_any (s v c k : Nat) (hk : k = s * 4294967296 + v) (hs : s < 4294967296) (hv : v < 4294967296) (hc : c < 18446744073709551616) (w : World) :
    Calls Tryz.prog 32 #[.agg #[.int .u32 (s : Int), .int .u32 (v : Int)], .int .u64 (c : Int)] w fun e w' => ∃ val, e = .returned val ∧ OwnB w' w.heap.size val (recB (k, c)) ∧ Below w.heap.size w w' := by
  obtain ⟨i0, hi0, hz0, hz1, hz2⟩ := info_parts infoB8
  have hj := join64 s v k hk hs hv
  have hk64 : k < 18446744073709551616 := by omega
  clear hk
  go_enter Tryz.func32, Tryz.ntmps32
  go_wp2_with fail
  clear hj
  have HB0 := Lib.hid ((Below.refl w.heap.size w).alloc (Nat.le_refl _) (.cells #[.int .u32 (s : Int), .int .u32 (v : Int)] 63))
  have HO0 := Lib.hid (World.ownsRow_nil (w.alloc (.cells #[.int .u32 (s : Int), .int .u32 (v : Int)] 63)) w.heap.size 5 1)
  go_loopw [5, 19] (fun o i wr => ∃ j : Nat, j ≤ 2 ∧ i = .int .i64 j ∧ Hid (OwnB wr w.heap.size o ((recB (k, c)).take (8 * j))) ∧ Hid (Below w.heap.size w wr)) (fun _ i _ => 2 - (intOf i).toNat)
  case atStart => exact ⟨0, by omega, rfl, HO0, HB0⟩
  case round =>
    obtain ⟨j, hj2, rfl, hown, hB⟩ := hrel
    obtain ⟨wo, rfl⟩ : ∃ wo : World, wo = wr := ⟨_, rfl⟩
    by_cases hlt : j < 2
    · obtain ⟨x, hx⟩ : ∃ x : Nat, x = (if j = 0 then k else c) := ⟨_, rfl⟩
      have hx64 : x < 18446744073709551616 := by rw [hx]; split <;> omega
      have HAT := Lib.hid (fun q hq => (rec_at k c j hlt q hq))
      rw [← hx] at HAT
      have hix : ∀ w : World, (Instr.index 114 (.agg #[.int .u64 (k : Int), .int .u64 (c : Int)]) (.int .i64 (j : Int))).run Tryz.prog w = .ok (.int .u64 (x : Int)) w := fun w => by
        rw [hx]
        rcases (show j = 0 ∨ j = 1 by omega) with rfl | rfl
        · kernel_rfl
        · kernel_rfl
      clear hx
      have hbj : decide ((j : Int) < 2) = true := by simp; omega
      go_wp2_with fail
      clear hbj
      go_loopw [5, 22] (fun o i wr => ∃ q : Nat, q ≤ 8 ∧ i = .int .i64 q ∧ Hid (OwnB wr w.heap.size o ((recB (k, c)).take (8 * j + q))) ∧ Hid (Below w.heap.size w wr)) (fun _ i _ => 8 - (intOf i).toNat)
      case atStart => exact ⟨0, by omega, rfl, hown, hB⟩
      case round =>
        obtain ⟨q, hq8, rfl, hown2, hB2⟩ := hrel
        have hBs := hB2.out.size
        have hbr := hown2.out
        have hl : ((recB (k, c)).take (8 * j + q)).length = 8 * j + q := by rw [List.length_take, recB_length]; omega
        by_cases hq : q < 8
        · rcases (show q = 0 ∨ q = 1 ∨ q = 2 ∨ q = 3 ∨ q = 4 ∨ q = 5 ∨ q = 6 ∨ q = 7 by omega) with rfl | rfl | rfl | rfl | rfl | rfl | rfl | rfl
          · have HN := Lib.hid (take_next (HAT.out 0 (by omega)))
            have E := Lib.hid (byteV0 x hx64)
            simp only [Nat.add_zero] at hbr hl HN
            go_wp2_with (first | (at_builtin; refine wpList_append_own _ rfl _ _ 45 rfl w.heap.size 5 i0 (.int .u8 0) 1 1 Tryz.underlying45 hi0 hz0 hz1 hz2 rfl (by decide) _ _ _ rfl (hbr.alloc _) ⟨wr.heap.size, 0, none⟩ 1 1 [bv (UInt8.ofNat (x / 256 ^ (7 - 0)))] rfl rfl (one_at E.out) (one_cell _) ?c03 ?c04 ?c05 ?_))
            case c03 => rw [hl]; unfold maxLen; omega
            case c04 => rw [hl]; omega
            case c05 => simp; omega
            intro v' w3 hown3 hgrow3 _
            have hB3 : Below w.heap.size w w3 := (hB2.out.alloc hBs _).grown hgrow3 (by simp; omega) (fun q hq => (hbr.lt q hq).1)
            have hO3 : OwnB w3 w.heap.size v' ((recB (k, c)).take (8 * j + (0 + 1))) := by
              unfold OwnB
              rw [show 8 * j + (0 + 1) = 8 * j + 0 + 1 by omega, HN.out, List.map_append, List.length_append, hl, List.map_take]
              exact hown3
            have HB3 := Lib.hid hB3
            have HO3 := Lib.hid hO3
            clear hown3 hgrow3 hB3 hO3
            go_wp2_with fail
            go_roundw
            case rel => exact ⟨0 + 1, by omega, rfl, HO3, HB3⟩
            case measure => simp [intOf]
          · have HN := Lib.hid (take_next (HAT.out 1 (by omega)))
            have E := Lib.hid (byteV x 281474976710656)
            go_wp2_with (first | (at_builtin; refine wpList_append_own _ rfl _ _ 45 rfl w.heap.size 5 i0 (.int .u8 0) 1 1 Tryz.underlying45 hi0 hz0 hz1 hz2 rfl (by decide) _ _ _ rfl (hbr.alloc _) ⟨wr.heap.size, 0, none⟩ 1 1 [bv (UInt8.ofNat (x / 256 ^ (7 - 1)))] rfl rfl (one_at E.out) (one_cell _) ?c13 ?c14 ?c15 ?_))
            case c13 => rw [hl]; unfold maxLen; omega
            case c14 => rw [hl]; omega
            case c15 => simp; omega
            intro v' w3 hown3 hgrow3 _
            have hB3 : Below w.heap.size w w3 := (hB2.out.alloc hBs _).grown hgrow3 (by simp; omega) (fun q hq => (hbr.lt q hq).1)
            have hO3 : OwnB w3 w.heap.size v' ((recB (k, c)).take (8 * j + (1 + 1))) := by
              unfold OwnB
              rw [show 8 * j + (1 + 1) = 8 * j + 1 + 1 by omega, HN.out, List.map_append, List.length_append, hl, List.map_take]
              exact hown3
            have HB3 := Lib.hid hB3
            have HO3 := Lib.hid hO3
            clear hown3 hgrow3 hB3 hO3
            go_wp2_with fail
            go_roundw
            case rel => exact ⟨1 + 1, by omega, rfl, HO3, HB3⟩
            case measure => simp [intOf]
          · have HN := Lib.hid (take_next (HAT.out 2 (by omega)))
            have E := Lib.hid (byteV x 1099511627776)
            go_wp2_with (first | (at_builtin; refine wpList_append_own _ rfl _ _ 45 rfl w.heap.size 5 i0 (.int .u8 0) 1 1 Tryz.underlying45 hi0 hz0 hz1 hz2 rfl (by decide) _ _ _ rfl (hbr.alloc _) ⟨wr.heap.size, 0, none⟩ 1 1 [bv (UInt8.ofNat (x / 256 ^ (7 - 2)))] rfl rfl (one_at E.out) (one_cell _) ?c23 ?c24 ?c25 ?_))
            case c23 => rw [hl]; unfold maxLen; omega
            case c24 => rw [hl]; omega
            case c25 => simp; omega
            intro v' w3 hown3 hgrow3 _
            have hB3 : Below w.heap.size w w3 := (hB2.out.alloc hBs _).grown hgrow3 (by simp; omega) (fun q hq => (hbr.lt q hq).1)
            have hO3 : OwnB w3 w.heap.size v' ((recB (k, c)).take (8 * j + (2 + 1))) := by
              unfold OwnB
              rw [show 8 * j + (2 + 1) = 8 * j + 2 + 1 by omega, HN.out, List.map_append, List.length_append, hl, List.map_take]
              exact hown3
            have HB3 := Lib.hid hB3
            have HO3 := Lib.hid hO3
            clear hown3 hgrow3 hB3 hO3
            go_wp2_with fail
            go_roundw
            case rel => exact ⟨2 + 1, by omega, rfl, HO3, HB3⟩
            case measure => simp [intOf]
          · have HN := Lib.hid (take_next (HAT.out 3 (by omega)))
            have E := Lib.hid (byteV x 4294967296)
            go_wp2_with (first | (at_builtin; refine wpList_append_own _ rfl _ _ 45 rfl w.heap.size 5 i0 (.int .u8 0) 1 1 Tryz.underlying45 hi0 hz0 hz1 hz2 rfl (by decide) _ _ _ rfl (hbr.alloc _) ⟨wr.heap.size, 0, none⟩ 1 1 [bv (UInt8.ofNat (x / 256 ^ (7 - 3)))] rfl rfl (one_at E.out) (one_cell _) ?c33 ?c34 ?c35 ?_))
            case c33 => rw [hl]; unfold maxLen; omega
            case c34 => rw [hl]; omega
            case c35 => simp; omega
            intro v' w3 hown3 hgrow3 _
            have hB3 : Below w.heap.size w w3 := (hB2.out.alloc hBs _).grown hgrow3 (by simp; omega) (fun q hq => (hbr.lt q hq).1)
            have hO3 : OwnB w3 w.heap.size v' ((recB (k, c)).take (8 * j + (3 + 1))) := by
              unfold OwnB
              rw [show 8 * j + (3 + 1) = 8 * j + 3 + 1 by omega, HN.out, List.map_append, List.length_append, hl, List.map_take]
              exact hown3
            have HB3 := Lib.hid hB3
            have HO3 := Lib.hid hO3
            clear hown3 hgrow3 hB3 hO3
            go_wp2_with fail
            go_roundw
            case rel => exact ⟨3 + 1, by omega, rfl, HO3, HB3⟩
            case measure => simp [intOf]
          · have HN := Lib.hid (take_next (HAT.out 4 (by omega)))
            have E := Lib.hid (byteV x 16777216)
            go_wp2_with (first | (at_builtin; refine wpList_append_own _ rfl _ _ 45 rfl w.heap.size 5 i0 (.int .u8 0) 1 1 Tryz.underlying45 hi0 hz0 hz1 hz2 rfl (by decide) _ _ _ rfl (hbr.alloc _) ⟨wr.heap.size, 0, none⟩ 1 1 [bv (UInt8.ofNat (x / 256 ^ (7 - 4)))] rfl rfl (one_at E.out) (one_cell _) ?c43 ?c44 ?c45 ?_))
            case c43 => rw [hl]; unfold maxLen; omega
            case c44 => rw [hl]; omega
            case c45 => simp; omega
            intro v' w3 hown3 hgrow3 _
            have hB3 : Below w.heap.size w w3 := (hB2.out.alloc hBs _).grown hgrow3 (by simp; omega) (fun q hq => (hbr.lt q hq).1)
            have hO3 : OwnB w3 w.heap.size v' ((recB (k, c)).take (8 * j + (4 + 1))) := by
              unfold OwnB
              rw [show 8 * j + (4 + 1) = 8 * j + 4 + 1 by omega, HN.out, List.map_append, List.length_append, hl, List.map_take]
              exact hown3
            have HB3 := Lib.hid hB3
            have HO3 := Lib.hid hO3
            clear hown3 hgrow3 hB3 hO3
            go_wp2_with fail
            go_roundw
            case rel => exact ⟨4 + 1, by omega, rfl, HO3, HB3⟩
            case measure => simp [intOf]
          · have HN := Lib.hid (take_next (HAT.out 5 (by omega)))
            have E := Lib.hid (byteV x 65536)
            go_wp2_with (first | (at_builtin; refine wpList_append_own _ rfl _ _ 45 rfl w.heap.size 5 i0 (.int .u8 0) 1 1 Tryz.underlying45 hi0 hz0 hz1 hz2 rfl (by decide) _ _ _ rfl (hbr.alloc _) ⟨wr.heap.size, 0, none⟩ 1 1 [bv (UInt8.ofNat (x / 256 ^ (7 - 5)))] rfl rfl (one_at E.out) (one_cell _) ?c53 ?c54 ?c55 ?_))
            case c53 => rw [hl]; unfold maxLen; omega
            case c54 => rw [hl]; omega
            case c55 => simp; omega
            intro v' w3 hown3 hgrow3 _
            have hB3 : Below w.heap.size w w3 := (hB2.out.alloc hBs _).grown hgrow3 (by simp; omega) (fun q hq => (hbr.lt q hq).1)
            have hO3 : OwnB w3 w.heap.size v' ((recB (k, c)).take (8 * j + (5 + 1))) := by
              unfold OwnB
              rw [show 8 * j + (5 + 1) = 8 * j + 5 + 1 by omega, HN.out, List.map_append, List.length_append, hl, List.map_take]
              exact hown3
            have HB3 := Lib.hid hB3
            have HO3 := Lib.hid hO3
            clear hown3 hgrow3 hB3 hO3
            go_wp2_with fail
            go_roundw
            case rel => exact ⟨5 + 1, by omega, rfl, HO3, HB3⟩
            case measure => simp [intOf]
          · have HN := Lib.hid (take_next (HAT.out 6 (by omega)))
            have E := Lib.hid (byteV x 256)
            go_wp2_with (first | (at_builtin; refine wpList_append_own _ rfl _ _ 45 rfl w.heap.size 5 i0 (.int .u8 0) 1 1 Tryz.underlying45 hi0 hz0 hz1 hz2 rfl (by decide) _ _ _ rfl (hbr.alloc _) ⟨wr.heap.size, 0, none⟩ 1 1 [bv (UInt8.ofNat (x / 256 ^ (7 - 6)))] rfl rfl (one_at E.out) (one_cell _) ?c63 ?c64 ?c65 ?_))
            case c63 => rw [hl]; unfold maxLen; omega
            case c64 => rw [hl]; omega
            case c65 => simp; omega
            intro v' w3 hown3 hgrow3 _
            have hB3 : Below w.heap.size w w3 := (hB2.out.alloc hBs _).grown hgrow3 (by simp; omega) (fun q hq => (hbr.lt q hq).1)
            have hO3 : OwnB w3 w.heap.size v' ((recB (k, c)).take (8 * j + (6 + 1))) := by
              unfold OwnB
              rw [show 8 * j + (6 + 1) = 8 * j + 6 + 1 by omega, HN.out, List.map_append, List.length_append, hl, List.map_take]
              exact hown3
            have HB3 := Lib.hid hB3
            have HO3 := Lib.hid hO3
            clear hown3 hgrow3 hB3 hO3
            go_wp2_with fail
            go_roundw
            case rel => exact ⟨6 + 1, by omega, rfl, HO3, HB3⟩
            case measure => simp [intOf]
          · have HN := Lib.hid (take_next (HAT.out 7 (by omega)))
            have E := Lib.hid (show Value.int .u8 ((x : Int) % 256) = bv (UInt8.ofNat (x / 256 ^ (7 - 7))) by rw [byteV1]; simp)
            go_wp2_with (first | (at_builtin; refine wpList_append_own _ rfl _ _ 45 rfl w.heap.size 5 i0 (.int .u8 0) 1 1 Tryz.underlying45 hi0 hz0 hz1 hz2 rfl (by decide) _ _ _ rfl (hbr.alloc _) ⟨wr.heap.size, 0, none⟩ 1 1 [bv (UInt8.ofNat (x / 256 ^ (7 - 7)))] rfl rfl (one_at E.out) (one_cell _) ?c73 ?c74 ?c75 ?_))
            case c73 => rw [hl]; unfold maxLen; omega
            case c74 => rw [hl]; omega
            case c75 => simp; omega
            intro v' w3 hown3 hgrow3 _
            have hB3 : Below w.heap.size w w3 := (hB2.out.alloc hBs _).grown hgrow3 (by simp; omega) (fun q hq => (hbr.lt q hq).1)
            have hO3 : OwnB w3 w.heap.size v' ((recB (k, c)).take (8 * j + (7 + 1))) := by
              unfold OwnB
              rw [show 8 * j + (7 + 1) = 8 * j + 7 + 1 by omega, HN.out, List.map_append, List.length_append, hl, List.map_take, show UInt8.ofNat (x / 256 ^ (7 - 7)) = UInt8.ofNat x by simp]
              exact hown3
            have HB3 := Lib.hid hB3
            have HO3 := Lib.hid hO3
            clear hown3 hgrow3 hB3 hO3
            go_wp2_with fail
            go_roundw
            case rel => exact ⟨7 + 1, by omega, rfl, HO3, HB3⟩
            case measure => simp [intOf]
        · obtain rfl : q = 8 := by omega
          have HBR := Lib.hid hbr
          clear hbr hl
          go_wp2_with fail
          go_roundw
          case rel => exact ⟨j + 1, by omega, by simp, by rw [show 8 * (j + 1) = 8 * j + 8 by omega]; exact HBR, hB2⟩
          case measure => simp [intOf]; omega
    · obtain rfl : j = 2 := by omega
      have HBR := Lib.hid hown.out
      rw [List.take_of_length_le (by rw [recB_length]; exact Nat.le_refl _)] at HBR
      go_wp2_with fail
      go_ret
      exact ⟨_, rfl, HBR.out, hB.out⟩
end Go.Proofs.YtndkohocgfmamaaGreat.Visit

/- Layer 27: the count of a record. -/
namespace Go.Proofs.YtndkohocgfmamaaGreat.Visit
open Go.RowKit Go.Deep Mem Crc

theorem numB_lt (l : List UInt8) : ∀ n, numB l n < (n + 1) * 256 ^ l.length := by
  induction l with
  | nil => intro n; simp [numB]
  | cons c l ih =>
    intro n
    unfold numB
    refine Nat.lt_of_lt_of_le (ih _) ?_
    have hc := c.toNat_lt
    rw [List.length_cons, Nat.pow_succ, Nat.mul_comm (256 ^ l.length) 256, ← Nat.mul_assoc]
    refine Nat.mul_le_mul_right _ ?_
    simp only [Nat.reducePow] at hc
    omega
/-- The two numbers, behind q bytes. -/
def x0 (k c q : Nat) : Nat := numB ((recB (k, c)).take (min q 8)) 0
def x1 (k c q : Nat) : Nat := numB (((recB (k, c)).drop 8).take (q - 8)) 0
theorem x0_end (k c q : Nat) (hk : k < 18446744073709551616) (hq : 8 ≤ q) : x0 k c q = k := by
  unfold x0
  rw [Nat.min_eq_right hq]
  unfold recB
  rw [List.take_append_of_le_length (by rw [beN_length]; exact Nat.le_refl _), List.take_of_length_le (by rw [beN_length]; exact Nat.le_refl _), numB_beN 8 k 0 (by rw [show (256 : Nat) ^ 8 = 18446744073709551616 by decide]; exact hk)]
  omega
theorem x1_start (k c q : Nat) (hq : q ≤ 8) : x1 k c q = 0 := by
  unfold x1
  rw [show q - 8 = 0 by omega]
  rfl
theorem x1_end (k c : Nat) (hc : c < 18446744073709551616) : x1 k c 16 = c := by
  unfold x1 recB
  rw [List.drop_append_of_le_length (by rw [beN_length]; exact Nat.le_refl _), List.drop_of_length_le (by rw [beN_length]; exact Nat.le_refl _), List.nil_append, List.take_of_length_le (by rw [beN_length]; omega), numB_beN 8 c 0 (by rw [show (256 : Nat) ^ 8 = 18446744073709551616 by decide]; exact hc)]
  omega
theorem numB_snoc (l : List UInt8) (b : UInt8) (n : Nat) : numB (l ++ [b]) n = 256 * numB l n + b.toNat := by rw [numB_append]; rfl
theorem x0_step {k c q : Nat} {b : UInt8} (hq : q < 8) (hb : (recB (k, c))[q]? = some b) : x0 k c (q + 1) = x0 k c q * 256 + b.toNat ∧ x0 k c q < 72057594037927936 := by
  unfold x0
  rw [Nat.min_eq_left (by omega), Nat.min_eq_left (by omega), take_next hb, numB_snoc]
  refine ⟨by omega, Nat.lt_of_lt_of_le (numB_lt _ _) ?_⟩
  rw [List.length_take, recB_length, Nat.min_eq_left (by omega), Nat.zero_add, Nat.one_mul]
  exact Nat.le_trans (Nat.pow_le_pow_right (by decide) (show q ≤ 7 by omega)) (by decide)
theorem x0_same {k c q : Nat} (hq : 8 ≤ q) : x0 k c (q + 1) = x0 k c q := by
  unfold x0
  rw [Nat.min_eq_right (by omega), Nat.min_eq_right (by omega)]
theorem x1_step {k c q : Nat} {b : UInt8} (h8 : 8 ≤ q) (hq : q < 16) (hb : (recB (k, c))[q]? = some b) : x1 k c (q + 1) = x1 k c q * 256 + b.toNat ∧ x1 k c q < 72057594037927936 := by
  unfold x1
  have hb2 : ((recB (k, c)).drop 8)[q - 8]? = some b := by rw [List.getElem?_drop, show 8 + (q - 8) = q by omega]; exact hb
  rw [show q + 1 - 8 = (q - 8) + 1 by omega, take_next hb2, numB_snoc]
  refine ⟨by omega, Nat.lt_of_lt_of_le (numB_lt _ _) ?_⟩
  rw [List.length_take, List.length_drop, recB_length, Nat.min_eq_left (by omega), Nat.zero_add, Nat.one_mul]
  exact Nat.le_trans (Nat.pow_le_pow_right (by decide) (show q - 8 ≤ 7 by omega)) (by decide)
theorem join8 (x : Nat) (hx : x < 72057594037927936) (b : UInt8) : bits .or .u64 ((x : Int) * 256) (b.toNat : Int) = ((x * 256 + b.toNat : Nat) : Int) := by
  have hb := b.toNat_lt
  simp only [Nat.reducePow] at hb
  have := u64_or_nat (x * 256) b.toNat (by omega) (by omega)
  rw [nat_join 8 (x * 256) b.toNat (by simp) (by simpa using hb)] at this
  simpa using this
/-- A visit as the memory's cells have it. -/
def visC (p : KC) : List Value := [.int .u32 ((p.1 / 4294967296 : Nat) : Int), .int .u32 ((p.1 % 4294967296 : Nat) : Int), .int .u64 (p.2 : Int)]
set_option maxHeartbeats 2000000 in
set_option maxRecDepth 100000 in
theorem count_any (a : Option Addr) (cp k c : Nat) (hk : k < 18446744073709551616) (hc : c < 18446744073709551616) (w : World) (hL : Lies w a ((recB (k, c)).map bv)) :
    Calls Tryz.prog 51 #[.slice a 16 cp] w fun e w' => e = .returned (.agg (visC (k, c)).toArray) ∧ Below w.heap.size w w' := by
  obtain ⟨g, off, rfl, hg, hcl⟩ := hL.resolve_left (fun e => by
    have := congrArg List.length e
    rw [List.length_map, recB_length] at this
    cases this)
  have HK := Lib.hid hk
  have HC := Lib.hid hc
  have HCL := Lib.hid hcl
  have HG := Lib.hid hg
  clear hk hc hL hcl hg
  go_enter Tryz.func51, Tryz.ntmps51
  go_wp2_with fail
  obtain ⟨W0, hW0⟩ : ∃ W0, W0 = (w.alloc (.cells #[.int .u32 0, .int .u32 0, .int .u64 0] 37)).alloc (.cells #[.int .u64 0, .int .u64 0] 114) := ⟨_, rfl⟩
  have hB0 : Below w.heap.size w W0 := by rw [hW0]; exact ((Below.refl _ w).alloc (Nat.le_refl _) _).alloc (by simp) _
  have hv0 : Blk W0 w.heap.size 37 #[.int .u32 0, .int .u32 0, .int .u64 0] := by rw [hW0]; exact (Blk.new w _ _).alloc _
  have ha0 : Blk W0 (w.heap.size + 1) 114 #[.int .u64 0, .int .u64 0] := by
    have := Blk.new (w.alloc (.cells #[.int .u32 0, .int .u32 0, .int .u64 0] 37)) 114 #[.int .u64 0, .int .u64 0]
    rw [World.size_alloc] at this
    rw [hW0]
    exact this
  rw [← hW0]
  obtain ⟨vb, hvb⟩ : ∃ vb, vb = w.heap.size := ⟨_, rfl⟩
  rw [← hvb] at hv0 ha0 ⊢
  have HG2 := Lib.hid (show g < vb by rw [hvb]; exact HG.out)
  have HVB := Lib.hid hvb
  have HB0 := Lib.hid hB0
  have HV0 := Lib.hid hv0
  have HA0 : Hid (Blk W0 (vb + 1) 114 #[.int .u64 ((x0 k c 0 : Nat) : Int), .int .u64 ((x1 k c 0 : Nat) : Int)]) := Lib.hid (by rw [x1_start k c 0 (by omega)]; exact ha0)
  clear hW0 hB0 hv0 ha0 hvb
  go_loopw [8] (fun i wr => ∃ q : Nat, q ≤ 16 ∧ i = .int .i64 q ∧ Hid (Blk wr (vb + 1) 114 #[.int .u64 ((x0 k c q : Nat) : Int), .int .u64 ((x1 k c q : Nat) : Int)]) ∧ Hid (Blk wr vb 37 #[.int .u32 0, .int .u32 0, .int .u64 0]) ∧ Hid (Below w.heap.size w wr)) (fun i _ => 16 - (intOf i).toNat)
  case atStart => exact ⟨0, by omega, rfl, HA0, HV0, HB0⟩
  case round =>
    obtain ⟨q, hq16, rfl, hA, hV, hB⟩ := hrel
    by_cases hlt : q < 16
    · obtain ⟨b, hb⟩ : ∃ b, (recB (k, c))[q]? = some b := ⟨_, List.getElem?_eq_getElem (by rw [recB_length]; exact hlt)⟩
      have hbn := b.toNat_lt
      simp only [Nat.reducePow] at hbn
      have hcb : wr.cell? ⟨g, off + q, none⟩ = some (.int .u8 (b.toNat : Int)) := (hB.out.cell (p := ⟨g, off + q, none⟩) HG.out).trans (HCL.out q _ (bv_at hb))
      by_cases h8 : q < 8
      · obtain ⟨hs0, hs1⟩ := x0_step h8 hb
        have hs2 : x1 k c (q + 1) = x1 k c q := by rw [x1_start k c (q + 1) (by omega), x1_start k c q (by omega)]
        obtain ⟨X, hX⟩ : ∃ X, X = x0 k c q := ⟨_, rfl⟩
        rw [← hX] at hs0 hs1 hA
        have hjn := join8 X hs1 b
        have c0 := hA.out.cell 0
        have f0 := hA.out.frozen 0
        simp at c0
        have hd : (q : Int) / 8 = 0 := by omega
        have HS0 := Lib.hid hs0
        have HS2 := Lib.hid hs2
        have HX := Lib.hid hX
        have hvne : vb ≠ vb + 1 := by omega
        have HNE := Lib.hid hvne
        clear hs0 hs2 hX hb hvne
        go_wp2_with fail
        go_roundw
        case rel => exact ⟨q + 1, by omega, by simp, Lib.hid (by
          have := hA.out.set 0 (.int .u64 ((X * 256 + b.toNat : Nat) : Int))
          rw [HS0.out, HS2.out]
          simpa using this), Lib.hid (hV.out.far (p := ⟨vb + 1, 0, none⟩) HNE.out _), Lib.hid (hB.out.setCell (p := ⟨vb + 1, 0, none⟩) (by rw [HVB.out]; exact Nat.le_succ _) _)⟩
        case measure => simp [intOf]; omega
      · obtain ⟨hs0, hs1⟩ := x1_step (by omega) hlt hb
        have hs2 : x0 k c (q + 1) = x0 k c q := x0_same (by omega)
        obtain ⟨X, hX⟩ : ∃ X, X = x1 k c q := ⟨_, rfl⟩
        rw [← hX] at hs0 hs1 hA
        have hjn := join8 X hs1 b
        have c0 := hA.out.cell 1
        have f0 := hA.out.frozen 1
        simp at c0
        have hd : (q : Int) / 8 = 1 := by omega
        have HS0 := Lib.hid hs0
        have HS2 := Lib.hid hs2
        have HX := Lib.hid hX
        have hvne : vb ≠ vb + 1 := by omega
        have HNE := Lib.hid hvne
        clear hs0 hs2 hX hb hvne
        go_wp2_with fail
        go_roundw
        case rel => exact ⟨q + 1, by omega, by simp, Lib.hid (by
          have := hA.out.set 1 (.int .u64 ((X * 256 + b.toNat : Nat) : Int))
          rw [HS0.out, HS2.out]
          simpa using this), Lib.hid (hV.out.far (p := ⟨vb + 1, 1, none⟩) HNE.out _), Lib.hid (hB.out.setCell (p := ⟨vb + 1, 1, none⟩) (by rw [HVB.out]; exact Nat.le_succ _) _)⟩
        case measure => simp [intOf]; omega
    · obtain rfl : q = 16 := by omega
      have hA := hA.out
      rw [x0_end k c 16 HK.out (by decide), x1_end k c HC.out] at hA
      have c0 := hA.cell 0
      have c1 := hA.cell 1
      simp at c0 c1
      have f0 := hV.out.frozen 0
      have f1 := hV.out.frozen 1
      have f2 := hV.out.frozen 2
      have v0 := hV.out.cell 0
      have v1 := hV.out.cell 1
      have v2 := hV.out.cell 2
      simp at v0 v1 v2
      have hk1 : k / 4294967296 < 4294967296 := by have := HK.out; omega
      go_wp2_with fail
      have hbW := ((hV.out.set 0 (.int .u32 ((k : Int) / 4294967296))).set 1 (.int .u32 ((k : Int) % 4294967296))).set 2 (.int .u64 (c : Int))
      have hBW : Below w.heap.size w (((wr.setCell ⟨vb, 0, none⟩ (.int .u32 ((k : Int) / 4294967296))).setCell ⟨vb, 1, none⟩ (.int .u32 ((k : Int) % 4294967296))).setCell ⟨vb, 2, none⟩ (.int .u64 (c : Int))) :=
        ((hB.out.setCell (p := ⟨vb, 0, none⟩) (by rw [HVB.out]; exact Nat.le_refl _) _).setCell (p := ⟨vb, 1, none⟩) (by rw [HVB.out]; exact Nat.le_refl _) _).setCell (p := ⟨vb, 2, none⟩) (by rw [HVB.out]; exact Nat.le_refl _) _
      obtain ⟨W, hW⟩ : ∃ W, W = (((wr.setCell ⟨vb, 0, none⟩ (.int .u32 ((k : Int) / 4294967296))).setCell ⟨vb, 1, none⟩ (.int .u32 ((k : Int) % 4294967296))).setCell ⟨vb, 2, none⟩ (.int .u64 (c : Int))) := ⟨_, rfl⟩
      rw [← hW] at hbW hBW ⊢
      have w0 := hbW.cell 0
      have w1 := hbW.cell 1
      have w2 := hbW.cell 2
      simp at w0 w1 w2
      refine bodyPost_ret (v := .agg #[.int .u32 ((k : Int) / 4294967296), .int .u32 ((k : Int) % 4294967296), .int .u64 (c : Int)]) (by simp [results, Tryz.results51, go_sem, w0, w1, w2]) rfl ⟨?_, hBW⟩
      simp [visC]
end Go.Proofs.YtndkohocgfmamaaGreat.Visit
