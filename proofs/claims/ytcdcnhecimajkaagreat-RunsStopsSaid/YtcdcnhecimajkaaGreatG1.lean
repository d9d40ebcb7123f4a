/- Base, Bytes, Crc, Mark, Fits, Frame, FrameGet, FrameAll, Text, Disk, Slot, ManRead, Map, Store, StoreRW, StoreR, Names, Remove, in one text. -/
import Derived.Test.YtcdcnhecimajkaaGreatRows
import Derived.WalkKit
import Derived.Lib.Hide
import Derived.Below
import Derived.Laws.OwnMore
import Derived.Laws.Rows
import Derived.Laws.IdiomCopy
import Derived.Deep.Draws
import Derived.WalkSmall
import Derived.BigQuiet
import Derived.Deep.QuietTactic
import Derived.Deep.Slices
import Derived.Deep.OwnRows
import Derived.IntWalk
import Derived.Laws.BitsAllLaws
import Derived.Laws.CopyOwn
import Derived.Laws.Tables
import Derived.WalkSpells
import Derived.Laws.ResultCell
import Derived.Deep.RegionHeld3
import Derived.Outline
import Derived.Test.YtcdcnhecimajkaaGreatIter
import Derived.RangeFuncBound
import Derived.RangeFuncNested
import Derived.Maps.OwnSet
import Derived.Maps.Range
import Derived.StringKeys
import Derived.Maps.RangeWalk
import Derived.Test.YtcdcnhecimajkaaGreatShelf
/- Words on memory used by all texts of this seat: a block known whole; the frame of a call that may write blocks of certain types from a base on. -/
namespace Go.Proofs.YtcdcnhecimajkaaGreat.Mem
open Go.RowKit

/-- Block g holds just the cells cs of element type t, none frozen. -/
def Blk (w : World) (g : Nat) (t : TypeId) (cs : Array Value) : Prop := w.heap[g]? = some (.cells cs t (0, 0))

theorem Blk.lt {w : World} {g : Nat} {t : TypeId} {cs : Array Value} (h : Blk w g t cs) : g < w.heap.size := (Array.getElem?_eq_some_iff.1 h).1
theorem Blk.cell {w : World} {g : Nat} {t : TypeId} {cs : Array Value} (h : Blk w g t cs) (i : Nat) : w.cell? ⟨g, i, none⟩ = cs[i]? := cell_of_row w g i cs t (0, 0) h
theorem Blk.frozen {w : World} {g : Nat} {t : TypeId} {cs : Array Value} (h : Blk w g t cs) (i : Nat) : w.frozen? ⟨g, i, none⟩ = false := by
  unfold Blk at h
  simp [World.frozen?, h]
theorem Blk.new (w : World) (t : TypeId) (cs : Array Value) : Blk (w.alloc (.cells cs t)) w.heap.size t cs := heap_alloc_new w _
theorem Blk.at_ {w : World} {g : Nat} {t : TypeId} {cs : Array Value} (h : g = w.heap.size) : Blk (w.alloc (.cells cs t)) g t cs := by subst h; exact Blk.new w t cs
theorem Blk.drew {w : World} {g : Nat} {t : TypeId} {cs : Array Value} (h : Blk w g t cs) : Blk w.drew g t cs := h
theorem Blk.drewN {w : World} {g : Nat} {t : TypeId} {cs : Array Value} (h : Blk w g t cs) (n : Nat) : Blk (w.drewN n) g t cs := h
theorem Blk.alloc {w : World} {g : Nat} {t : TypeId} {cs : Array Value} (h : Blk w g t cs) (o : Obj) : Blk (w.alloc o) g t cs := (Below.heap_alloc w o g h.lt).trans h
theorem Blk.set {w : World} {g : Nat} {t : TypeId} {cs : Array Value} (h : Blk w g t cs) (i : Nat) (u : Value) : Blk (w.setCell ⟨g, i, none⟩ u) g t (cs.setIfInBounds i u) := by
  unfold Blk at h ⊢
  simp [World.setCell, Array.getElem?_modify, h]
theorem Blk.far {w : World} {g : Nat} {t : TypeId} {cs : Array Value} (h : Blk w g t cs) {p : Addr} (hp : g ≠ p.block) (u : Value) : Blk (w.setCell p u) g t cs := (Below.heap_setCell w p u g hp).trans h
theorem Blk.below {B : Nat} {w w' : World} {g : Nat} {t : TypeId} {cs : Array Value} (h : Blk w g t cs) (hb : Below B w w') (hg : g < B) : Blk w' g t cs := (hb.block g hg).trans h
theorem Blk.ne {w : World} {g g' : Nat} {t t' : TypeId} {cs cs' : Array Value} (h : Blk w g t cs) (h' : Blk w g' t' cs') (hne : t ≠ t') : g ≠ g' := by
  rintro rfl
  unfold Blk at h h'
  rw [h] at h'
  injection h' with h'
  injection h' with _ ht
  exact hne ht

/-- Many cells stored into a block that is known whole. -/
theorem Blk.splice {g : Nat} {t : TypeId} : ∀ (vs : List Value) (o : Nat) (w : World) (cs : Array Value), Blk w g t cs → o + vs.length ≤ cs.size →
    ∃ cs' : Array Value, Blk (w.setCells g o vs) g t cs' ∧ cs'.toList = cs.toList.take o ++ vs ++ cs.toList.drop (o + vs.length)
  | [], o, w, cs, h, _ => ⟨cs, h, by simp⟩
  | v :: r, o, w, cs, h, ho => by
    have ho' : o < cs.toList.length := by simp at ho ⊢; omega
    obtain ⟨cs', h1, h2⟩ := Blk.splice r (o + 1) (w.setCell ⟨g, o, none⟩ v) (cs.setIfInBounds o v) (h.set o v) (by simp at ho ⊢; omega)
    refine ⟨cs', h1, ?_⟩
    rw [h2, Array.toList_setIfInBounds, List.set_eq_take_append_cons_drop, if_pos ho']
    obtain ⟨A, hA⟩ : ∃ A, cs.toList.take o = A := ⟨_, rfl⟩
    obtain ⟨D, hD⟩ : ∃ D, cs.toList.drop (o + 1) = D := ⟨_, rfl⟩
    have e1 : A.length = o := by rw [← hA, List.length_take]; omega
    have e2 : cs.toList.drop (o + (v :: r).length) = D.drop r.length := by
      rw [← hD, List.drop_drop]
      congr 1
      simp only [List.length_cons]
      omega
    rw [e2, hA, hD, List.take_append, List.drop_append, e1, List.take_of_length_le (l := A) (by omega), @List.drop_eq_nil_of_le _ A _ (by omega), show o + 1 - o = 1 by omega, show o + 1 + r.length - o = r.length + 1 by omega]
    simp

/-- Is block k one of cells of one of the types ts? -/
def typed (ts : List TypeId) (w : World) (k : Nat) : Prop := ∃ (cs : Array Value) (t : TypeId) (fr : Nat × Nat), w.heap[k]? = some (.cells cs t fr) ∧ t ∈ ts

/-- What a call may have done: new blocks; writes to blocks from B on whose type is one of ts. -/
structure Fr (B : Nat) (ts : List TypeId) (w w' : World) : Prop where
  os : w'.os = w.os
  tape : w'.tape = w.tape
  output : w'.output = w.output
  size : w.heap.size ≤ w'.heap.size
  block : ∀ k, k < w.heap.size → (k < B ∨ ¬ typed ts w k) → w'.heap[k]? = w.heap[k]?

theorem Fr.refl (B : Nat) (ts : List TypeId) (w : World) : Fr B ts w w := ⟨rfl, rfl, rfl, Nat.le_refl _, fun _ _ _ => rfl⟩
theorem Fr.trans {B : Nat} {ts : List TypeId} {a b c : World} (h : Fr B ts a b) (k : Fr B ts b c) : Fr B ts a c :=
  ⟨k.os.trans h.os, k.tape.trans h.tape, k.output.trans h.output, Nat.le_trans h.size k.size, fun i hi hn => by
    have e := h.block i hi hn
    refine (k.block i (Nat.lt_of_lt_of_le hi h.size) ?_).trans e
    rcases hn with hn | hn
    · exact .inl hn
    · refine .inr (fun ht => hn ?_)
      obtain ⟨cs, t, fr, h1, h2⟩ := ht
      exact ⟨cs, t, fr, e ▸ h1, h2⟩⟩
theorem typed_lt {ts : List TypeId} {w : World} {k : Nat} (h : typed ts w k) : k < w.heap.size := by
  obtain ⟨cs, t, fr, h1, _⟩ := h
  exact (Array.getElem?_eq_some_iff.1 h1).1
theorem Fr.of_below {B : Nat} {ts : List TypeId} {w w' : World} (h : Below w.heap.size w w') : Fr B ts w w' :=
  ⟨h.os, h.tape, h.output, h.size, fun k hk _ => h.block k hk⟩
theorem Fr.alloc {B : Nat} {ts : List TypeId} {a w : World} (h : Fr B ts a w) (o : Obj) : Fr B ts a (w.alloc o) := h.trans (Fr.of_below ((Below.refl _ w).alloc (Nat.le_refl _) o))
theorem Fr.drew {B : Nat} {ts : List TypeId} {a w : World} (h : Fr B ts a w) : Fr B ts a w.drew := h.trans (Fr.of_below (Below.refl _ w).drew)
theorem Fr.drewN {B : Nat} {ts : List TypeId} {a w : World} (h : Fr B ts a w) (n : Nat) : Fr B ts a (w.drewN n) := ⟨h.os, h.tape, h.output, h.size, h.block⟩
theorem Fr.mono {B B' : Nat} {ts ts' : List TypeId} {w w' : World} (h : Fr B ts w w') (hB : B' ≤ B) (hts : ∀ t ∈ ts, t ∈ ts') : Fr B' ts' w w' :=
  ⟨h.os, h.tape, h.output, h.size, fun k hk hn => h.block k hk (by
    rcases hn with hn | hn
    · exact .inl (by omega)
    · exact .inr (fun ⟨cs, t, fr, h1, h2⟩ => hn ⟨cs, t, fr, h1, hts t h2⟩))⟩
theorem Fr.set {B : Nat} {ts : List TypeId} {a w : World} (h : Fr B ts a w) {g i : Nat} {t : TypeId} {cs : Array Value} (hb : Blk w g t cs) (hB : B ≤ g) (ht : t ∈ ts) (u : Value) : Fr B ts a (w.setCell ⟨g, i, none⟩ u) :=
  h.trans ⟨rfl, rfl, rfl, by simp [World.setCell], fun k hk hn => Below.heap_setCell w _ u k (by
    show k ≠ g
    rintro rfl
    rcases hn with hn | hn
    · omega
    · exact hn ⟨cs, t, (0, 0), hb, ht⟩)⟩
theorem Fr.setCells {B : Nat} {ts : List TypeId} {g : Nat} {t : TypeId} (hB : B ≤ g) (ht : t ∈ ts) : ∀ (vs : List Value) (o : Nat) {a w : World} (cs : Array Value), Fr B ts a w → Blk w g t cs → Fr B ts a (w.setCells g o vs)
  | [], _, _, _, _, h, _ => h
  | v :: r, o, _, _, _, h, hb => Fr.setCells hB ht r (o + 1) _ (h.set hb hB ht v) (hb.set o v)
theorem Fr.below {B : Nat} {ts : List TypeId} {w w' : World} (h : Fr B ts w w') (hB : B ≤ w.heap.size) : Below B w w' := ⟨h.os, h.tape, h.output, h.size, fun k hk => h.block k (by omega) (.inl hk)⟩
/-- A block of another type, or below B, is as it was. -/
theorem Fr.keep {B : Nat} {ts : List TypeId} {w w' : World} (h : Fr B ts w w') {g : Nat} {t : TypeId} {cs : Array Value} (hb : Blk w g t cs) (hn : g < B ∨ t ∉ ts) : Blk w' g t cs :=
  (h.block g hb.lt (hn.imp id (fun hn ⟨cs', t', fr, h1, h2⟩ => by
    rw [show w.heap[g]? = _ from hb] at h1
    cases h1
    exact hn h2))).trans hb
theorem Fr.row {B : Nat} {ts : List TypeId} {w w' : World} (h : Fr B ts w w') {base size n : Nat} {e : TypeId} {v : Value} {xs : List Value} (ho : w.ownsRow base e size v n xs) (hn : e ∉ ts) : w'.ownsRow base e size v n xs := by
  refine ⟨ho.1, ?_⟩
  rcases ho.2 with h0 | ⟨g, cap, cur, rfl, hb, hg, r⟩
  · exact .inl h0
  · exact .inr ⟨g, cap, cur, rfl, hb, h.keep hg (.inr hn), r⟩
/-- Behind an append to a row of the call's own. -/
theorem Fr.grown {B : Nat} {ts : List TypeId} {a w w' : World} (h : Fr B ts a w) {size n : Nat} {e : TypeId} {v : Value} {xs : List Value} (ho : w.ownsRow B e size v n xs) (hg : w.grownBy w' v.ownBlock) (ht : e ∈ ts) : Fr B ts a w' :=
  h.trans ⟨hg.os, hg.tape, hg.output, hg.size, fun k hk hn => hg.block k hk (fun e' => by
    have hlt := ho.lt k e'.symm
    rcases ho.2 with ⟨rfl, _⟩ | ⟨g, cap, cur, rfl, hb, hgg, r⟩
    · cases e'
    · have : g = k := by simpa [Value.ownBlock] using e'.symm
      subst this
      rcases hn with hn | hn
      · omega
      · exact hn ⟨cur, e, (0, 0), hgg, ht⟩)⟩

/-- Stores into one block alone. -/
theorem only_setCells (g : Nat) : ∀ (vs : List Value) (o : Nat) (w : World), w.grownBy (w.setCells g o vs) (some g)
  | [], _, w => World.grownBy.refl w _
  | v :: r, o, w => by
    have h := only_setCells g r (o + 1) (w.setCell ⟨g, o, none⟩ v)
    refine ⟨h.os, h.tape, h.output, ?_, fun k hk hn => ?_⟩
    · have := h.size
      simpa [World.setCell, World.setCells] using this
    · refine (h.block k (by simpa [World.setCell] using hk) hn).trans (Below.heap_setCell w _ v k (fun e => hn (by rw [e])))
theorem grown_trans {a b c : World} {row : Option Nat} (h : a.grownBy b row) (k : b.grownBy c row) : a.grownBy c row :=
  ⟨k.os.trans h.os, k.tape.trans h.tape, k.output.trans h.output, Nat.le_trans h.size k.size, fun i hi hn => (k.block i (Nat.lt_of_lt_of_le hi h.size) hn).trans (h.block i hi hn)⟩
theorem grown_drew {a : World} {row : Option Nat} : a.grownBy a.drew row := ⟨rfl, rfl, rfl, Nat.le_refl _, fun _ _ _ => rfl⟩
theorem grown_below {a b : World} {row : Option Nat} (h : Below a.heap.size a b) : a.grownBy b row := ⟨h.os, h.tape, h.output, h.size, fun i hi _ => h.block i hi⟩
theorem grown_alloc {a w : World} {row : Option Nat} (h : a.grownBy w row) (o : Obj) : a.grownBy (w.alloc o) row :=
  ⟨h.os, h.tape, h.output, Nat.le_trans h.size (by simp), fun i hi hne => (Below.heap_alloc w o i (Nat.lt_of_lt_of_le hi h.size)).trans (h.block i hi hne)⟩
theorem grown_new {a w : World} {row : Option Nat} (h : a.grownBy w row) {p : Addr} (hp : a.heap.size ≤ p.block) (u : Value) : a.grownBy (w.setCell p u) row :=
  ⟨h.os, h.tape, h.output, by simpa [World.setCell] using h.size, fun i hi hne => (Below.heap_setCell w p u i (by omega)).trans (h.block i hi hne)⟩
theorem grown_set {a w : World} {g : Nat} (h : a.grownBy w (some g)) (i : Nat) (u : Value) : a.grownBy (w.setCell ⟨g, i, none⟩ u) (some g) :=
  ⟨h.os, h.tape, h.output, by simpa [World.setCell] using h.size, fun k hi hne => (Below.heap_setCell w _ u k (fun e => hne (by rw [e]))).trans (h.block k hi hne)⟩
/-- What is done in a world of new blocks, seen from an elder one. -/
theorem grown_later {a b c : World} {row : Option Nat} (h : Below a.heap.size a b) (k : b.grownBy c row) : a.grownBy c row := grown_trans (grown_below h) k
theorem own_far {w : World} {base : Nat} {e : TypeId} {size : Nat} {v : Value} {n : Nat} {xs : List Value} (h : w.ownsRow base e size v n xs) {p : Addr} (hp : v.ownBlock ≠ some p.block) (u : Value) : (w.setCell p u).ownsRow base e size v n xs :=
  h.kept (row := some p.block) ⟨rfl, rfl, rfl, by simp [World.setCell], fun k _ hn => Below.heap_setCell w p u k (fun e => hn (by rw [e]))⟩ (.inr hp)
theorem Blk.grown {w w' : World} {g : Nat} {t : TypeId} {cs : Array Value} {row : Option Nat} (h : Blk w g t cs) (hb : w.grownBy w' row) (hg : some g ≠ row) : Blk w' g t cs := (hb.block g h.lt hg).trans h
theorem Fr.of_only {B : Nat} {ts : List TypeId} {w w' : World} {g : Nat} {t : TypeId} {cs : Array Value} (h : w.grownBy w' (some g)) (hb : Blk w g t cs) (hB : B ≤ g) (ht : t ∈ ts) : Fr B ts w w' :=
  ⟨h.os, h.tape, h.output, h.size, fun k hk hn => h.block k hk (fun e => by
    have e : k = g := by simpa using e
    subst e
    rcases hn with hn | hn
    · omega
    · exact hn ⟨cs, t, (0, 0), hb, ht⟩)⟩

/-- What a call may have done: new blocks; writes to the blocks bs. -/
structure Only (bs : List Nat) (w w' : World) : Prop where
  os : w'.os = w.os
  tape : w'.tape = w.tape
  output : w'.output = w.output
  size : w.heap.size ≤ w'.heap.size
  block : ∀ k, k < w.heap.size → k ∉ bs → w'.heap[k]? = w.heap[k]?
theorem Only.refl (bs : List Nat) (w : World) : Only bs w w := ⟨rfl, rfl, rfl, Nat.le_refl _, fun _ _ _ => rfl⟩
theorem Only.trans {bs : List Nat} {a b c : World} (h : Only bs a b) (k : Only bs b c) : Only bs a c :=
  ⟨k.os.trans h.os, k.tape.trans h.tape, k.output.trans h.output, Nat.le_trans h.size k.size, fun i hi hn => (k.block i (Nat.lt_of_lt_of_le hi h.size) hn).trans (h.block i hi hn)⟩
/-- Blocks that are new since a need not be named. -/
theorem Only.later {bs bs' : List Nat} {a b c : World} (h : Only bs a b) (k : Only bs' b c) (hs : ∀ g ∈ bs', g ∈ bs ∨ a.heap.size ≤ g) : Only bs a c :=
  ⟨k.os.trans h.os, k.tape.trans h.tape, k.output.trans h.output, Nat.le_trans h.size k.size, fun i hi hn => (k.block i (Nat.lt_of_lt_of_le hi h.size) (fun hm => (hs i hm).elim hn (fun hg => by omega))).trans (h.block i hi hn)⟩
theorem Only.alloc {bs : List Nat} {a w : World} (h : Only bs a w) (o : Obj) : Only bs a (w.alloc o) :=
  ⟨h.os, h.tape, h.output, Nat.le_trans h.size (by simp), fun i hi hne => (Below.heap_alloc w o i (Nat.lt_of_lt_of_le hi h.size)).trans (h.block i hi hne)⟩
theorem Only.drew {bs : List Nat} {a w : World} (h : Only bs a w) : Only bs a w.drew := ⟨h.os, h.tape, h.output, h.size, h.block⟩
theorem Only.drewN {bs : List Nat} {a w : World} (h : Only bs a w) (n : Nat) : Only bs a (w.drewN n) := ⟨h.os, h.tape, h.output, h.size, h.block⟩
theorem Only.set {bs : List Nat} {a w : World} (h : Only bs a w) {p : Addr} (hp : p.block ∈ bs ∨ a.heap.size ≤ p.block) (u : Value) : Only bs a (w.setCell p u) :=
  ⟨h.os, h.tape, h.output, by simpa [World.setCell] using h.size, fun i hi hne => (Below.heap_setCell w p u i (by
    rintro rfl
    rcases hp with hp | hp
    · exact hne hp
    · omega)).trans (h.block i hi hne)⟩
theorem Only.setCells {bs : List Nat} {g : Nat} : ∀ (vs : List Value) (o : Nat) {a w : World}, Only bs a w → (g ∈ bs ∨ a.heap.size ≤ g) → Only bs a (w.setCells g o vs)
  | [], _, _, _, h, _ => h
  | v :: r, o, _, _, h, hg => Only.setCells r (o + 1) (h.set (p := ⟨g, o, none⟩) hg v) hg
theorem Only.of_below {bs : List Nat} {w w' : World} (h : Below w.heap.size w w') : Only bs w w' := ⟨h.os, h.tape, h.output, h.size, fun k hk _ => h.block k hk⟩
theorem Only.of_grown {bs : List Nat} {w w' : World} {row : Option Nat} (h : w.grownBy w' row) (hr : ∀ g, row = some g → g ∈ bs ∨ w.heap.size ≤ g) : Only bs w w' :=
  ⟨h.os, h.tape, h.output, h.size, fun k hk hn => h.block k hk (fun e => by
    rcases hr k e.symm with h1 | h1
    · exact hn h1
    · omega)⟩
theorem Only.mono {bs bs' : List Nat} {w w' : World} (h : Only bs w w') (hs : ∀ g ∈ bs, g ∈ bs') : Only bs' w w' := ⟨h.os, h.tape, h.output, h.size, fun k hk hn => h.block k hk (fun hm => hn (hs k hm))⟩
theorem Blk.only {bs : List Nat} {w w' : World} {g : Nat} {t : TypeId} {cs : Array Value} (h : Blk w g t cs) (hb : Only bs w w') (hg : g ∉ bs) : Blk w' g t cs := (hb.block g h.lt hg).trans h
theorem own_only {bs : List Nat} {w w' : World} {base : Nat} {e : TypeId} {size : Nat} {v : Value} {n : Nat} {xs : List Value} (h : w.ownsRow base e size v n xs) (hb : Only bs w w') (hv : ∀ g, v.ownBlock = some g → g ∉ bs) : w'.ownsRow base e size v n xs := by
  refine ⟨h.1, ?_⟩
  rcases h.2 with h0 | ⟨g, cap, cur, rfl, hg, hgg, r⟩
  · exact .inl h0
  · exact .inr ⟨g, cap, cur, rfl, hg, Blk.only (t := e) hgg hb (hv g rfl), r⟩
theorem Only.below {bs : List Nat} {B : Nat} {w w' : World} (h : Only bs w w') (hB : B ≤ w.heap.size) (hs : ∀ g ∈ bs, B ≤ g) : Below B w w' :=
  ⟨h.os, h.tape, h.output, h.size, fun k hk => h.block k (by omega) (fun hm => by have := hs k hm; omega)⟩
/-- All blocks that are written are of the types ts and lie from B on. -/
theorem Only.fr {bs : List Nat} {B : Nat} {ts : List TypeId} {w w' : World} (h : Only bs w w') (hs : ∀ g ∈ bs, (B ≤ g ∧ typed ts w g) ∨ w.heap.size ≤ g) : Fr B ts w w' :=
  ⟨h.os, h.tape, h.output, h.size, fun k hk hn => h.block k hk (fun hm => by
    rcases hs k hm with ⟨h1, h2⟩ | h1
    · rcases hn with hn | hn
      · omega
      · exact hn h2
    · omega)⟩
end Go.Proofs.YtcdcnhecimajkaaGreat.Mem

/- Rows of bytes (and of any cells) in memory: read only, or the call's own. -/
namespace Go.Proofs.YtcdcnhecimajkaaGreat.Mem
open Go.RowKit

/-- A byte as a cell holds it. -/
def bv (b : UInt8) : Value := .int .u8 (b.toNat : Int)
/-- Cells that lie in a row, which is read only. -/
def Lies (w : World) (a : Option Addr) (xs : List Value) : Prop := xs = [] ∨ ∃ g off, a = some ⟨g, off, none⟩ ∧ g < w.heap.size ∧ ∀ i u, xs[i]? = some u → w.cell? ⟨g, off + i, none⟩ = some u
/-- The block of a slice's address. -/
def blk (a : Option Addr) : Option Nat := a.map (·.block)
theorem Lies.keep {w w' : World} {a : Option Addr} {xs : List Value} (h : Lies w a xs) (hs : w.heap.size ≤ w'.heap.size) (hk : ∀ g, blk a = some g → w'.heap[g]? = w.heap[g]?) : Lies w' a xs := by
  rcases h with h | ⟨g, off, rfl, hg, hc⟩
  · exact .inl h
  · exact .inr ⟨g, off, rfl, by omega, fun i u hu => by
      have e := hk g rfl
      have := hc i u hu
      unfold World.cell? at this ⊢
      rw [e]
      exact this⟩
theorem Lies.below {w w' : World} {a : Option Addr} {xs : List Value} {B : Nat} (h : Lies w a xs) (hB : Below B w w') (hb : ∀ g, blk a = some g → g < B) : Lies w' a xs := h.keep hB.size (fun g hg => hB.block g (hb g hg))
theorem Lies.later {w w' : World} {a : Option Addr} {xs : List Value} (h : Lies w a xs) (hB : Below w.heap.size w w') : Lies w' a xs := by
  rcases h with h | ⟨g, off, rfl, hg, hc⟩
  · exact .inl h
  · exact .inr ⟨g, off, rfl, Nat.lt_of_lt_of_le hg hB.size, fun i u hu => (hB.cell (p := ⟨g, off + i, none⟩) hg).trans (hc i u hu)⟩
theorem Lies.drewN {w : World} {a : Option Addr} {xs : List Value} (h : Lies w a xs) (n : Nat) : Lies (w.drewN n) a xs := h
theorem Lies.only {w w' : World} {a : Option Addr} {xs : List Value} {F : List Nat} (h : Lies w a xs) (ho : Only F w w') (hn : ∀ g, blk a = some g → g ∉ F) : Lies w' a xs := by
  rcases h with h | ⟨g, off, rfl, hg, hc⟩
  · exact .inl h
  · exact Lies.keep (.inr ⟨g, off, rfl, hg, hc⟩) ho.size (fun q hq => by cases hq; exact ho.block g hg (hn g rfl))
theorem Lies.take {w : World} {a : Option Addr} {xs : List Value} (h : Lies w a xs) (n : Nat) : Lies w a (xs.take n) := by
  rcases h with h | ⟨g, off, rfl, hg, hc⟩
  · exact .inl (by rw [h]; simp)
  · exact .inr ⟨g, off, rfl, hg, fun i u hu => hc i u (by
      rw [List.getElem?_take] at hu
      split at hu
      · exact hu
      · cases hu)⟩
theorem Lies.drop {w : World} {g off : Nat} {xs : List Value} (h : Lies w (some ⟨g, off, none⟩) xs) (n : Nat) : Lies w (some ⟨g, off + n, none⟩) (xs.drop n) := by
  rcases h with h | ⟨g', off', e, hg, hc⟩
  · exact .inl (by rw [h]; simp)
  · cases e
    exact .inr ⟨g, off + n, rfl, hg, fun i u hu => by
      rw [List.getElem?_drop] at hu
      have := hc (n + i) u hu
      rwa [← Nat.add_assoc] at this⟩
/-- What a row of the call's own is as a value, and that it lies there. -/
theorem own_shape {w : World} {base : Nat} {e : TypeId} {size n : Nat} {v : Value} {xs : List Value} (h : w.ownsRow base e size v n xs) : ∃ a cap, v = .slice a n cap ∧ n ≤ cap ∧ Lies w a xs ∧ (∀ g, blk a = some g → base ≤ g ∧ g < w.heap.size) ∧ v.ownBlock = blk a := by
  rcases h.2 with ⟨rfl, rfl⟩ | ⟨g, cap, cur, rfl, r⟩
  · exact ⟨none, 0, rfl, Nat.le_refl _, .inl (List.eq_nil_of_length_eq_zero (by rw [h.1, Nat.zero_mul])), (fun g hg => by cases hg), rfl⟩
  · refine ⟨some ⟨g, 0, none⟩, cap, rfl, r.2.2.1, .inr ⟨g, 0, rfl, (h.lt g rfl).2, fun j u hj => ?_⟩, (fun q hq => by cases hq; exact h.lt g rfl), rfl⟩
    have := h.cells (g := g) rfl j u hj
    have e : (⟨g, 0, none⟩ : Addr).add j = ⟨g, j, none⟩ := by unfold Addr.add; split <;> simp_all
    rw [e] at this
    rw [Nat.zero_add]
    exact this
theorem own_mono {w : World} {base base' : Nat} {e : TypeId} {size n : Nat} {v : Value} {xs : List Value} (h : w.ownsRow base e size v n xs) (hb : base' ≤ base) : w.ownsRow base' e size v n xs := by
  refine ⟨h.1, ?_⟩
  rcases h.2 with h0 | ⟨g, cap, cur, rfl, hg, r⟩
  · exact .inl h0
  · exact .inr ⟨g, cap, cur, rfl, Nat.le_trans hb hg, r⟩
theorem own_below {w w' : World} {B base : Nat} {e : TypeId} {size n : Nat} {v : Value} {xs : List Value} (h : w.ownsRow base e size v n xs) (hB : Below B w w') (hl : ∀ q, v.ownBlock = some q → q < B) : w'.ownsRow base e size v n xs := by
  refine ⟨h.1, ?_⟩
  rcases h.2 with h0 | ⟨g, cap, cur, rfl, hg, hgg, r⟩
  · exact .inl h0
  · exact .inr ⟨g, cap, cur, rfl, hg, (hB.block g (hl g rfl)).trans hgg, r⟩
theorem own_later {w w' : World} {base : Nat} {e : TypeId} {size n : Nat} {v : Value} {xs : List Value} (h : w.ownsRow base e size v n xs) (hB : Below w.heap.size w w') : w'.ownsRow base e size v n xs := own_below h hB (fun q hq => (h.lt q hq).2)
theorem own_len {w : World} {base : Nat} {e : TypeId} {size n : Nat} {v : Value} {xs : List Value} (h : w.ownsRow base e size v n xs) : xs.length = n * size := h.1
/-- Rows of the call's own of two element types are two blocks. -/
theorem own_apart {w : World} {b1 b2 : Nat} {e1 e2 : TypeId} {s1 s2 n1 n2 : Nat} {v1 v2 : Value} {xs ys : List Value} (h1 : w.ownsRow b1 e1 s1 v1 n1 xs) (h2 : w.ownsRow b2 e2 s2 v2 n2 ys) (hne : e1 ≠ e2) : v1.ownBlock = none ∨ v1.ownBlock ≠ v2.ownBlock := by
  rcases h1.2 with ⟨rfl, _⟩ | ⟨g1, c1, cur1, rfl, _, hb1, _⟩
  · exact .inl rfl
  · right
    rcases h2.2 with ⟨rfl, _⟩ | ⟨g2, c2, cur2, rfl, _, hb2, _⟩
    · intro e; cases e
    · intro e
      have e : g1 = g2 := by simpa [Value.ownBlock] using e
      subst e
      rw [hb1] at hb2
      injection hb2 with hb2
      injection hb2 with _ ht
      exact hne ht
theorem own_ne_blk {w : World} {b1 : Nat} {e1 t : TypeId} {s1 n1 g : Nat} {v1 : Value} {xs : List Value} {cs : Array Value} (h1 : w.ownsRow b1 e1 s1 v1 n1 xs) (h2 : Blk w g t cs) (hne : e1 ≠ t) : v1.ownBlock ≠ some g := by
  rcases h1.2 with ⟨rfl, _⟩ | ⟨g1, c1, cur1, rfl, _, hb1, _⟩
  · intro e; cases e
  · intro e
    have e : g1 = g := by simpa [Value.ownBlock] using e
    subst e
    unfold Blk at h2
    rw [hb1] at h2
    injection h2 with h2
    injection h2 with _ ht
    exact hne ht
/-- A store into another block leaves a row as it was. -/
theorem own_past {w : World} {b1 : Nat} {e1 t : TypeId} {s1 n1 g : Nat} {v1 : Value} {xs : List Value} {cs : Array Value} (h1 : w.ownsRow b1 e1 s1 v1 n1 xs) (h2 : Blk w g t cs) (hne : e1 ≠ t) (i : Nat) (u : Value) : (w.setCell ⟨g, i, none⟩ u).ownsRow b1 e1 s1 v1 n1 xs := own_far h1 (own_ne_blk h1 h2 hne) u
/-- An empty row that a literal has made. -/
theorem own_empty (w : World) (e : TypeId) (size : Nat) : (w.alloc (.cells #[] e)).ownsRow w.heap.size e size (.slice (some ⟨w.heap.size, 0, none⟩) 0 0) 0 [] := World.ownsRow_lit w #[] 0 (Nat.le_refl _) (by decide) (by simp)
theorem lies_add {w : World} {a : Addr} {xs : List Value} (h : Lies w (some a) xs) : ∀ j u, xs[j]? = some u → w.cell? (a.add j) = some u := fun j u hu => by
  rcases h with rfl | ⟨g, off, e, _, hc⟩
  · simp at hu
  · cases e
    have e : (⟨g, off, none⟩ : Addr).add j = ⟨g, off + j, none⟩ := by unfold Addr.add; split <;> simp_all
    rw [e]
    exact hc j u hu
theorem oneCell_bytes (bs : List UInt8) : ∀ u ∈ bs.map bv, u.oneCell' = true := fun u hu => by
  obtain ⟨b, _, rfl⟩ := List.mem_map.1 hu
  rfl
theorem infoB8 : (Tryz.prog.info? 5).map (fun i => (i.zero, i.size, i.bytes)) = some (some (.int .u8 0), 1, 1) := by kernel_rfl
theorem bv_at {bs : List UInt8} {i : Nat} {x : UInt8} (h : bs[i]? = some x) : (bs.map bv)[i]? = some (bv x) := by simp [h]
/-- Of a new block at the heap's end. -/
theorem new_lies (w : World) (t : TypeId) (cs : Array Value) : Lies (w.alloc (.cells cs t)) (some ⟨w.heap.size, 0, none⟩) cs.toList := .inr ⟨w.heap.size, 0, rfl, by simp, fun i u hu => by
  rw [Nat.zero_add, (Blk.new w t cs).cell i]
  simpa using hu⟩
end Go.Proofs.YtcdcnhecimajkaaGreat.Mem

/- Layer 2: the sum of bytes. -/
namespace Go.Proofs.YtcdcnhecimajkaaGreat.Crc
open Go.RowKit Go.Deep Mem

def tabStep (x : Nat) : Nat := x / 2 ^^^ 3988292384 * (x % 2)
def steps : Nat → Nat → Nat
  | 0, x => x
  | n + 1, x => tabStep (steps n x)
def tabF (i : Nat) : Nat := steps 8 i
theorem tabStep_lt {x : Nat} (h : x < 2 ^ 32) : tabStep x < 2 ^ 32 := Nat.xor_lt_two_pow (by omega) (by omega)
theorem steps_lt {x : Nat} (h : x < 2 ^ 32) : ∀ n, steps n x < 2 ^ 32
  | 0 => h
  | n + 1 => tabStep_lt (steps_lt h n)
def tabV : List Value := (List.range 256).map (fun i => .int .u32 (tabF i : Int))

theorem tab_int (x : Nat) (h : x < 2 ^ 32) : bits .xor .u32 ((x : Int) / 2) (3988292384 * bits .and .u32 (x : Int) 1 % 4294967296) = (tabStep x : Int) := by
  have e1 : bits .and .u32 (x : Int) 1 = ((x % 2 : Nat) : Int) := by
    have := u32_and_nat x 1 h (by decide)
    rw [nat_mask1] at this
    exact this
  rw [e1, show (3988292384 * ((x % 2 : Nat) : Int) % 4294967296) = ((3988292384 * (x % 2) : Nat) : Int) by omega, show (x : Int) / 2 = ((x / 2 : Nat) : Int) by omega]
  exact u32_xor_nat _ _ (by omega) (by omega)
theorem zeros : Tryz.zeroCells188.toList = List.replicate 256 (Value.int .u32 0) := by kernel_rfl
/-- The table's block behind k rounds. -/
structure Tabbed (g k : Nat) (w : World) : Prop where
  blk : ∃ cs, Blk w g 188 cs ∧ cs.size = 256 ∧ ∀ j, j < 256 → cs[j]? = some (.int .u32 (if j < k then (tabF j : Int) else 0))
set_option maxHeartbeats 1000000 in
set_option maxRecDepth 100000 in
theorem table_any (w : World) : Calls Tryz.prog 126 #[] w fun e w' => e = .returned (.agg tabV.toArray) ∧ Below w.heap.size w w' := by
  have hz : Tryz.zeroCells188.size = 256 := by rw [← Array.length_toList, zeros, List.length_replicate]
  have hb0 : Blk ((w.alloc (Obj.cells Tryz.zeroCells188 188)).alloc (Obj.cells Tryz.zeroCells188 188)) w.heap.size 188 Tryz.zeroCells188 := (Blk.new w _ _).alloc _
  have hb1 : Tabbed (w.heap.size + 1) 0 ((w.alloc (Obj.cells Tryz.zeroCells188 188)).alloc (Obj.cells Tryz.zeroCells188 188)) := by
    refine ⟨_, Blk.at_ (by simp), hz, fun j hj => ?_⟩
    rw [← Array.getElem?_toList, zeros, List.getElem?_replicate, if_pos hj]
    rfl
  have hB : Below w.heap.size w ((w.alloc (Obj.cells Tryz.zeroCells188 188)).alloc (Obj.cells Tryz.zeroCells188 188)) := ((Below.refl _ w).alloc (Nat.le_refl _) _).alloc (by simp) _
  have HB0 := Lib.hid hb0
  have HB1 := Lib.hid hb1
  have HB := Lib.hid hB
  clear hb0 hb1 hB hz
  go_enter Tryz.func126, Tryz.ntmps126
  go_wp2_with fail
  go_loopw [5] (fun i wr => ∃ k : Nat, k ≤ 256 ∧ i = .int .i64 k ∧ Hid (Blk wr w.heap.size 188 Tryz.zeroCells188) ∧ Hid (Tabbed (w.heap.size + 1) k wr) ∧ Hid (Below w.heap.size w wr)) (fun i _ => 256 - (intOf i).toNat)
  case atStart => exact ⟨0, by omega, rfl, HB0, HB1, HB⟩
  case round =>
    obtain ⟨k, hk, rfl, h0, h1, hB⟩ := hrel
    by_cases hlt : k < 256
    · obtain ⟨cs, hcs, hsz, hat⟩ := h1.out.blk
      have c0 := (hcs.cell k).trans (hat k hlt)
      have fz := hcs.frozen k
      rw [if_neg (Nat.lt_irrefl k)] at c0
      have hk32 : IntKind.u32.wrap (k : Int) = k := by
        have : IntKind.u32.wrap (k : Int) = (k : Int) % 4294967296 := by simp [IntKind.wrap, IntKind.bits, IntKind.signed]
        omega
      have HCS := Lib.hid hcs
      have HAT := Lib.hid hat
      have HSZ := Lib.hid hsz
      clear hcs hat hsz
      go_wp2_with fail
      go_loopw [3, 10] (fun x i wq => ∃ n : Nat, n ≤ 8 ∧ i = .int .i64 n ∧ x = .int .u32 (steps n k : Int) ∧ wr = wq) (fun _ i _ => 8 - (intOf i).toNat)
      case atStart => exact ⟨0, by omega, rfl, rfl, rfl⟩
      case round =>
        obtain ⟨n, hn, rfl, rfl, rfl⟩ := hrel
        by_cases hl8 : n < 8
        · obtain ⟨x, hx⟩ : ∃ x, x = steps n k := ⟨_, rfl⟩
          have hx32 : x < 2 ^ 32 := by rw [hx]; exact steps_lt (by omega) n
          rw [← hx]
          have hx1 : tabStep x = steps (n + 1) k := by rw [hx]; rfl
          clear hx
          go_wp2_with fail
          refine ⟨⟨n + 1, by omega, by simp, ?_, trivial⟩, ?_⟩
          · rw [tab_int x hx32, hx1]
          · simp [intOf]; omega
        · obtain rfl : n = 8 := by omega
          have hst := Blk.set HCS.out k (.int .u32 (steps 8 k : Int))
          have hfar := h0.out.far (p := ⟨w.heap.size + 1, k, none⟩) (by show w.heap.size ≠ w.heap.size + 1; omega) (.int .u32 (steps 8 k : Int))
          have hbel := hB.out.setCell (show w.heap.size ≤ (⟨w.heap.size + 1, k, none⟩ : Addr).block from Nat.le_succ _) (.int .u32 (steps 8 k : Int))
          have HST := Lib.hid hst
          have HFA := Lib.hid hfar
          have HBE := Lib.hid hbel
          clear hst hfar hbel
          go_wp2_with fail
          refine ⟨⟨k + 1, by omega, by simp, HFA, Lib.hid ⟨_, HST.out, by rw [Array.size_setIfInBounds]; exact HSZ.out, fun j hj => ?_⟩, HBE⟩, ?_⟩
          · rw [Array.getElem?_setIfInBounds]
            by_cases e : k = j
            · subst e
              rw [if_pos rfl, if_pos (by rw [HSZ.out]; exact hj), if_pos (by omega)]
              rfl
            · rw [if_neg e, HAT.out j hj]
              by_cases e2 : j < k
              · rw [if_pos e2, if_pos (by omega)]
              · rw [if_neg e2, if_neg (by omega)]
          · simp [intOf]; omega
    · obtain rfl : k = 256 := by omega
      obtain ⟨cs, hcs, hsz, hat⟩ := h1.out.blk
      have hcs2 : cs = tabV.toArray := by
        apply Array.ext_getElem?
        intro j
        by_cases hj : j < 256
        · rw [hat j hj, if_pos hj]
          simp [tabV, hj]
        · rw [Array.getElem?_eq_none (by omega), Array.getElem?_eq_none (by simp [tabV]; omega)]
      subst hcs2
      have hone : (tabV.toArray).all (·.oneCell') = true := by
        rw [Array.all_eq_true_iff_forall_mem]
        intro u hu
        simp [tabV] at hu
        obtain ⟨j, _, rfl⟩ := hu
        rfl
      have hzs : Tryz.zeroCells188.size = 256 := by rw [← Array.length_toList, zeros, List.length_replicate]
      have hbel : Below w.heap.size w (wr.setRow w.heap.size tabV.toArray) := below_setRow hB.out (Nat.le_refl _) _
      have H0 := h0.out
      have hsz2 : Tryz.zeroCells188.size = tabV.toArray.size := by rw [hzs]; simp [tabV]
      clear hat hsz h0 h1
      go_wp2_with (first | (refine wpList_load_row rfl 188 _ rfl (w.heap.size + 1) rfl 188 tabV.toArray (0, 0) _ hcs Tryz.underlying188 rfl (by kernel_rfl) ?_) | (refine wpList_store_row rfl 188 _ _ rfl w.heap.size tabV.toArray rfl rfl 188 _ H0 (by kernel_rfl) hsz2 hone ?_))
      refine bodyPost_ret (results_cell_row Tryz.results126 _ _ w.heap.size 188 tabV.toArray (0, 0) _ rfl (setRow_heap _ _ _ _ _ _ H0) Tryz.underlying188 rfl (by kernel_rfl)) rfl ⟨rfl, hbel⟩

/-- A register behind a byte. -/
def crcStep (x : Nat) (c : UInt8) : Nat := tabF (x % 256 ^^^ c.toNat) ^^^ x / 256
def crcRun (x : Nat) (bs : List UInt8) : Nat := bs.foldl crcStep x
/-- The sum of bytes. -/
def sumF (bs : List UInt8) : Nat := 4294967295 - crcRun 4294967295 bs
theorem tabF_lt {i : Nat} (h : i < 256) : tabF i < 2 ^ 32 := steps_lt (by omega) 8
theorem idx_lt (x : Nat) (c : UInt8) : x % 256 ^^^ c.toNat < 256 := Nat.xor_lt_two_pow (n := 8) (Nat.mod_lt _ (by decide)) c.toNat_lt
theorem step_lt {x : Nat} (h : x < 2 ^ 32) (c : UInt8) : crcStep x c < 2 ^ 32 := Nat.xor_lt_two_pow (tabF_lt (idx_lt x c)) (by omega)
theorem run_lt : ∀ (bs : List UInt8) {x : Nat}, x < 2 ^ 32 → crcRun x bs < 2 ^ 32
  | [], _, h => h
  | c :: r, _, h => run_lt r (step_lt h c)
theorem run_snoc (x : Nat) (bs : List UInt8) (n : Nat) (c : UInt8) (h : bs[n]? = some c) : crcRun x (bs.take (n + 1)) = crcStep (crcRun x (bs.take n)) c := by
  unfold crcRun
  rw [List.take_add_one, h, List.foldl_append]
  rfl
theorem sumF_lt (bs : List UInt8) : sumF bs < 2 ^ 32 := by unfold sumF; omega

theorem not_u32 (y : Nat) (h : y < 2 ^ 32) : bits .xor .u32 IntKind.u32.max (y : Int) = ((4294967295 - y : Nat) : Int) := by
  have := u32_xor_nat 4294967295 y (by decide) h
  show bits .xor .u32 ((4294967295 : Nat) : Int) (y : Int) = _
  rw [this]
  congr 1
  apply Nat.eq_of_testBit_eq
  intro i
  have h1 := Nat.testBit_two_pow_sub_succ (x := y) (n := 32) h i
  rw [show 2 ^ 32 - (y + 1) = 4294967295 - y by omega] at h1
  rw [h1, Nat.testBit_xor, show (4294967295 : Nat) = 2 ^ 32 - 1 by decide, Nat.testBit_two_pow_sub_one]
  by_cases hi : i < 32
  · simp [hi]
  · simp [hi]
    exact Nat.testBit_lt_two_pow (Nat.lt_of_lt_of_le h (Nat.pow_le_pow_right (by decide) (by omega)))
set_option maxHeartbeats 1000000 in
set_option maxRecDepth 100000 in
theorem sum_any (a b : Option Addr) (cp cb : Nat) (bs : List UInt8) (w : World) (hb : Lies w b (bs.map bv)) (ha : Lies w a [.slice b bs.length cb]) (hlen : bs.length ≤ 4000000000) :
    Calls Tryz.prog 98 #[.slice a 1 cp] w fun e w' => e = .returned (.int .u32 (sumF bs : Int)) ∧ Below w.heap.size w w' := by
  have HT := Lib.hid (table_any w)
  have HB := Lib.hid hb
  have HA := Lib.hid ha
  clear hb ha
  go_enter Tryz.func98, Tryz.ntmps98
  go_wp2_with fail
  refine HT.out.mono ?_
  rintro e w1 ⟨rfl, hB1⟩
  have hzs : Tryz.zeroCells188.size = tabV.toArray.size := by rw [← Array.length_toList, zeros, List.length_replicate]; simp [tabV]
  have hone : (tabV.toArray).all (·.oneCell') = true := by
    rw [Array.all_eq_true_iff_forall_mem]
    intro u hu
    simp [tabV] at hu
    obtain ⟨j, _, rfl⟩ := hu
    rfl
  have hg := heap_alloc_new w1 (.cells Tryz.zeroCells188 188)
  have hal := (Below.refl w1.heap.size w1).alloc (Nat.le_refl _) (.cells Tryz.zeroCells188 188)
  have HBT := Lib.hid (show Blk ((w1.alloc (.cells Tryz.zeroCells188 188)).setRow w1.heap.size tabV.toArray) w1.heap.size 188 tabV.toArray from setRow_heap _ _ _ _ _ _ hg)
  have HBB := Lib.hid (below_setRow (hB1.trans (hal.mono hB1.size)) hB1.size tabV.toArray)
  have hs1 := hB1.size
  clear hal hB1
  go_wp2_with (first | (refine wpList_store_row rfl 188 _ _ rfl w1.heap.size tabV.toArray rfl rfl 188 Tryz.zeroCells188 hg (by kernel_rfl) hzs hone ?_))
  go_loopw [4, 12] (fun x i wr => ∃ k : Nat, k ≤ 1 ∧ i = .int .i64 k ∧ x = .int .u32 ((if k = 0 then 4294967295 else crcRun 4294967295 bs : Nat) : Int) ∧ Hid (Blk wr w1.heap.size 188 tabV.toArray) ∧ Hid (Below w.heap.size w wr)) (fun _ i _ => 1 - (intOf i).toNat)
  case atStart => exact ⟨0, by omega, rfl, rfl, HBT, HBB⟩
  case round =>
    obtain ⟨k, hk, rfl, rfl, hT, hB⟩ := hrel
    by_cases hk0 : k = 0
    · subst hk0
      obtain ⟨ga, oa, rfl, hga, hca⟩ := HA.out.resolve_left (by simp)
      have c0 := (hB.out.cell (p := ⟨ga, oa, none⟩) hga).trans (hca 0 _ rfl)
      simp only [if_pos]
      go_wp2_with fail
      go_loopw [4, 18] (fun x i wq => ∃ n : Nat, n ≤ bs.length ∧ i = .int .i64 n ∧ x = .int .u32 (crcRun 4294967295 (bs.take n) : Int) ∧ wr = wq) (fun _ i _ => bs.length - (intOf i).toNat)
      case atStart => exact ⟨0, Nat.zero_le _, rfl, rfl, rfl⟩
      case round =>
        obtain ⟨n, hn, rfl, rfl, rfl⟩ := hrel
        obtain ⟨x, hx⟩ : ∃ x, x = crcRun 4294967295 (bs.take n) := ⟨_, rfl⟩
        have hx32 : x < 2 ^ 32 := by rw [hx]; exact run_lt _ (by decide)
        rw [← hx]
        by_cases hlt : n < bs.length
        · obtain ⟨c, hc⟩ : ∃ c, bs[n]? = some c := ⟨_, List.getElem?_eq_getElem hlt⟩
          have hrun := run_snoc 4294967295 bs n c hc
          rw [← hx] at hrun
          obtain ⟨gb, ob, rfl, hgb, hcb⟩ := HB.out.resolve_left (by intro e; rw [List.map_eq_nil_iff] at e; subst e; exact absurd hlt (Nat.not_lt_zero _))
          have c1 := (hB.out.cell (p := ⟨gb, ob + n, none⟩) hgb).trans (hcb n _ (bv_at hc))
          unfold bv at c1
          obtain ⟨j, hj⟩ : ∃ j, j = x % 256 ^^^ c.toNat := ⟨_, rfl⟩
          have i1 : j < 256 := by rw [hj]; exact idx_lt x c
          have c2 := (hT.out.cell j).trans (show tabV.toArray[j]? = some (.int .u32 (tabF j : Int)) by simp [tabV, i1])
          obtain ⟨t, ht⟩ : ∃ t, t = tabF j := ⟨_, rfl⟩
          have ht32 : t < 2 ^ 32 := by rw [ht]; exact tabF_lt i1
          rw [← ht] at c2
          have b1 : bits .xor .u8 ((x : Int) % 256) (c.toNat : Int) = (j : Int) := by
            rw [hj, show (x : Int) % 256 = ((x % 256 : Nat) : Int) by omega]
            exact u8_xor_nat _ _ (Nat.mod_lt _ (by decide)) c.toNat_lt
          have b2 : bits .xor .u32 (t : Int) ((x : Int) / 256) = ((t ^^^ x / 256 : Nat) : Int) := by
            rw [show (x : Int) / 256 = ((x / 256 : Nat) : Int) by omega]
            exact u32_xor_nat _ _ ht32 (by omega)
          have hst : t ^^^ x / 256 = crcStep x c := by rw [ht, hj]; rfl
          rw [hst] at b2
          have HR := Lib.hid hrun
          clear hst hj ht hx hc hrun
          go_wp2_with fail
          refine ⟨⟨n + 1, by omega, by simp, ?_, trivial⟩, ?_⟩
          · rw [HR.out]
          · simp [intOf]; omega
        · have e : n = bs.length := by omega
          rw [e, List.take_of_length_le (Nat.le_refl _)] at hx
          have hn2 : bs.length ≤ n := by omega
          have HX := Lib.hid hx
          clear hx e
          go_wp2_with fail
          refine ⟨⟨1, by omega, by simp, ?_, hT, hB⟩, ?_⟩
          · rw [if_neg (by decide), HX.out]
          · simp [intOf]
    · obtain rfl : k = 1 := by omega
      simp only [if_neg hk0]
      obtain ⟨x, hx⟩ : ∃ x, x = crcRun 4294967295 bs := ⟨_, rfl⟩
      have hx32 : x < 2 ^ 32 := by rw [hx]; exact run_lt _ (by decide)
      have hs : sumF bs = 4294967295 - x := by rw [hx]; rfl
      rw [← hx]
      have HS := Lib.hid hs
      clear hx hs
      go_wp2_with fail
      go_ret
      refine ⟨?_, hB.out⟩
      rw [HS.out]
      exact congrArg (fun z => Ending.returned (Value.int .u32 z)) (not_u32 x hx32)
end Go.Proofs.YtcdcnhecimajkaaGreat.Crc

/- Layer 2: slices.Clone and Equal on bytes; Mark, Fits. -/
namespace Go.Proofs.YtcdcnhecimajkaaGreat.Crc
open Go.RowKit Go.Deep Mem

/-- A row of bytes of the call's own. -/
abbrev OwnB (w : World) (base : Nat) (v : Value) (bs : List UInt8) : Prop := w.ownsRow base 5 1 v bs.length (bs.map bv)
theorem lies_none {w : World} {xs : List Value} (h : Lies w none xs) : xs = [] := by
  rcases h with h | ⟨g, off, e, _⟩
  · exact h
  · cases e

set_option maxHeartbeats 1000000 in
theorem clone_any (a : Option Addr) (cp : Nat) (bs : List UInt8) (w : World) (h : Lies w a (bs.map bv)) (hm : bs.length ≤ 4000000000) :
    Calls Tryz.prog 27 #[.slice a bs.length cp] w fun e w' => ∃ v, e = .returned v ∧ OwnB w' w.heap.size v bs ∧ Below w.heap.size w w' := by
  cases a with
  | none =>
    have hb : bs = [] := by simpa using lies_none h
    subst hb
    have hne := fun w => Lib.run_eql_slice_nil (P := Tryz.prog) w 36 5 none 0 cp 0 0 Tryz.underlying36
    clear h hm
    go_enter Tryz.func27, Tryz.ntmps27
    go_wp2_with fail
    go_ret
    exact ⟨_, rfl, World.ownsRow_nil _ _ _ _, Below.refl _ _⟩
  | some ad =>
    obtain ⟨i0, hi0, hz0, hz1, hz2⟩ := info_parts infoB8
    have hne := fun w => Lib.run_eql_slice_nil (P := Tryz.prog) w 36 5 (some ad) bs.length cp 0 0 Tryz.underlying36
    have hal := (Below.refl w.heap.size w).alloc (Nat.le_refl _) (.cells #[] 5)
    have hown := own_empty w 5 1
    have HC := Lib.hid (lies_add (h.later hal))
    have H1 := Lib.hid (oneCell_bytes bs)
    have HA := Lib.hid hal
    clear h hal
    go_enter Tryz.func27, Tryz.ntmps27
    go_wp2_with (first | (at_builtin; refine wpList_append_own _ rfl _ _ 36 rfl w.heap.size 5 i0 (.int .u8 0) 1 1 Tryz.underlying36 hi0 hz0 hz1 hz2 rfl (by decide) _ _ _ rfl hown ad bs.length cp (bs.map bv) rfl ?c1 HC.out H1.out ?c3 ?c4 ?c5 ?_))
    case c1 => simp
    case c3 => unfold maxLen; omega
    case c4 => omega
    case c5 => simp
    intro v' w1 hown1 hgrow1 hv
    have hB1 : Below w.heap.size w w1 := HA.out.grown hgrow1 (by simp) (fun q hq => (hown.lt q hq).1)
    have HO := Lib.hid (show OwnB w1 w.heap.size v' bs by simpa using hown1)
    clear hown1 hgrow1 hv
    go_wp2_with fail
    go_ret
    exact ⟨v', rfl, HO.out, hB1⟩

set_option maxHeartbeats 1000000 in
theorem equal_any (a b : Option Addr) (ca cb : Nat) (bs cs : List UInt8) (w : World) (h1 : Lies w a (bs.map bv)) (h2 : Lies w b (cs.map bv)) (hm : bs.length ≤ 4000000000) :
    Calls Tryz.prog 137 #[.slice a bs.length ca, .slice b cs.length cb] w fun e w' => e = .returned (.bool (bs == cs)) ∧ ∃ n, w' = w.drewN n := by
  by_cases hlm : bs.length = cs.length
  · have hc : ∀ n, n < bs.length → ∃ b1 o1 b2 o2 x y, a = some ⟨b1, o1, none⟩ ∧ b = some ⟨b2, o2, none⟩ ∧ bs[n]? = some x ∧ cs[n]? = some y ∧ w.cell? ⟨b1, o1 + n, none⟩ = some (bv x) ∧ w.cell? ⟨b2, o2 + n, none⟩ = some (bv y) := fun n hn => by
      rcases h1 with h1 | ⟨b1, o1, e1, _, i1⟩
      · exact absurd hn (by have : bs = [] := by simpa using h1
                            subst this; exact Nat.not_lt_zero _)
      · rcases h2 with h2 | ⟨b2, o2, e2, _, i2⟩
        · exact absurd hn (by have : cs = [] := by simpa using h2
                              subst this; rw [hlm]; exact Nat.not_lt_zero _)
        · exact ⟨b1, o1, b2, o2, bs[n], cs[n], e1, e2, List.getElem?_eq_getElem hn, List.getElem?_eq_getElem (by omega), i1 n _ (bv_at (List.getElem?_eq_getElem hn)), i2 n _ (bv_at (List.getElem?_eq_getElem (by omega)))⟩
    have HC := Lib.hid hc
    have HL := Lib.hid hlm
    clear hc h1 h2
    rw [← hlm]
    clear hlm
    go_enter Tryz.func137, Tryz.ntmps137
    go_wp2_with fail
    go_loopw [13] (fun i wr => ∃ n : Nat, n ≤ bs.length ∧ i = .int .i64 n ∧ Hid (bs.take n = cs.take n) ∧ ∃ q, wr = w.drewN q) (fun i _ => bs.length - (intOf i).toNat)
    case atStart => exact ⟨0, Nat.zero_le _, rfl, Lib.hid rfl, 0, rfl⟩
    case round =>
      obtain ⟨n, hn, rfl, htk, q, rfl⟩ := hrel
      by_cases hlt : n < bs.length
      · obtain ⟨b1, o1, b2, o2, x, y, rfl, rfl, hx, hy, c1, c2⟩ := HC.out n hlt
        unfold bv at c1 c2
        have hp0 : (0 : Int) ≤ (n : Int) := by omega
        have hp1 : (n : Int) < (bs.length : Int) := by omega
        have HX := Lib.hid hx
        have HY := Lib.hid hy
        clear HC hx hy
        by_cases exy : x = y
        · subst exy
          go_wp2_with fail
          go_quiet (fail)
          go_wp2_with fail
          refine ⟨⟨n + 1, by omega, by simp, Lib.hid (by rw [List.take_add_one, List.take_add_one, HX.out, HY.out, htk.out]), ⟨_, rfl⟩⟩, ?_⟩
          simp [intOf]; omega
        · have exy2 : ((x.toNat : Int) == (y.toNat : Int)) = false := by
            simp
            intro e
            exact exy (UInt8.toNat_inj.1 (by omega))
          have hno : (bs == cs) = false := by
            simp
            intro e
            subst e
            exact exy (Option.some.inj (HX.out.symm.trans HY.out))
          have HNO := Lib.hid hno
          clear hno
          go_wp2_with fail
          go_quiet (fail)
          go_wp2_with fail
          go_ret
          exact ⟨by rw [HNO.out]; rfl, q + nq, by rw [World.drewN_drewN]⟩
      · have e : n = bs.length := by omega
        have hyes : (bs == cs) = true := by
          have h := htk.out
          rw [e, List.take_of_length_le (Nat.le_refl _), HL.out, List.take_of_length_le (Nat.le_refl _)] at h
          simp [h]
        have HY := Lib.hid hyes
        clear hyes e
        go_wp2_with fail
        go_ret
        exact ⟨by rw [HY.out]; rfl, q, rfl⟩
  · have hne : decide (bs.length = cs.length) = false := by simpa using hlm
    have hne2 : ((bs.length : Int) == (cs.length : Int)) = false := by simp; omega
    have hno : (bs == cs) = false := by
      simp
      intro e
      exact hlm (by rw [e])
    rw [hno]
    clear h1 h2 hlm hno
    go_enter Tryz.func137, Tryz.ntmps137
    go_wp2_with fail
    go_ret
    exact ⟨rfl, 0, rfl⟩

/-- A number's four bytes. -/
def four (n : Nat) : List UInt8 := [UInt8.ofNat n, UInt8.ofNat (n / 256), UInt8.ofNat (n / 65536), UInt8.ofNat (n / 16777216)]
theorem four_length (n : Nat) : (four n).length = 4 := rfl
/-- Bytes with their sum. -/
def marked (bs : List UInt8) : List UInt8 := bs ++ four (sumF bs)
theorem mark_length (bs : List UInt8) : (marked bs).length = bs.length + 4 := by unfold marked; rw [List.length_append, four_length]
theorem bv_of (n : Nat) : Value.int .u8 ((n % 256 : Nat) : Int) = bv (UInt8.ofNat n) := by unfold bv; simp
theorem bvI {y : Int} {n : Nat} (h : y = ((n % 256 : Nat) : Int)) : Value.int .u8 y = bv (UInt8.ofNat n) := by rw [h, bv_of]
/-- A new block of one cell, as an append reads it. -/
theorem one_at {w : World} {t : TypeId} {u v : Value} (h : u = v) : ∀ j x, [v][j]? = some x → (w.alloc (.cells #[u] t)).cell? ((⟨w.heap.size, 0, none⟩ : Addr).add j) = some x := fun j x hx => by
  subst h
  match j, hx with
  | 0, hx =>
    have e : u = x := by simpa using hx
    subst e
    exact (Blk.new w t #[u]).cell 0
theorem one_cell (b : UInt8) : ∀ u ∈ [bv b], u.oneCell' = true := fun u hu => by simp at hu; subst hu; rfl
set_option maxHeartbeats 2000000 in
set_option maxRecDepth 100000 in
theorem mark_any (a : Option Addr) (cp : Nat) (bs : List UInt8) (w : World) (h : Lies w a (bs.map bv)) (hm : bs.length ≤ 3000000) :
    Calls Tryz.prog 74 #[.slice a bs.length cp] w fun e w' => ∃ v, e = .returned v ∧ OwnB w' w.heap.size v (marked bs) ∧ Below w.heap.size w w' := by
  obtain ⟨i0, hi0, hz0, hz1, hz2⟩ := info_parts infoB8
  have HC := Lib.hid (clone_any a cp bs w h (by omega))
  have HH := Lib.hid h
  clear h
  go_enter Tryz.func74, Tryz.ntmps74
  go_wp2_with fail
  refine HC.out.mono ?_
  rintro e w1 ⟨v, rfl, hown, hB1⟩
  have hal := (Below.refl w1.heap.size w1).alloc (Nat.le_refl _) (.cells #[.slice a bs.length cp] 36)
  have hL1 := (HH.out.later hB1).later hal
  have hsum := sum_any (some ⟨w1.heap.size, 0, none⟩) a 1 cp bs (w1.alloc (.cells #[.slice a bs.length cp] 36)) hL1 (new_lies w1 _ _) (by omega)
  have HS := Lib.hid hsum
  have HO := Lib.hid (own_later hown hal)
  have HB := Lib.hid (hB1.trans (hal.mono hB1.size))
  have hs1 := hB1.size
  clear hal hL1 hsum hown hB1
  go_wp2_with fail
  refine HS.out.mono ?_
  rintro e w2 ⟨rfl, hB2⟩
  have HO2 := Lib.hid (own_later HO.out hB2)
  have HB2 := Lib.hid (HB.out.trans (hB2.mono (by simp; omega)))
  obtain ⟨x, hx⟩ : ∃ x, x = sumF bs := ⟨_, rfl⟩
  have hx32 : x < 2 ^ 32 := by rw [hx]; exact sumF_lt bs
  have HM := Lib.hid (show marked bs = bs ++ four x by rw [hx]; rfl)
  rw [← hx]
  clear hB2 HS HO HB HC hx
  go_wp2_with fail
  go_loopw [3, 5] (fun o i wr => ∃ k : Nat, k ≤ 4 ∧ i = .int .i64 k ∧ Hid (OwnB wr w.heap.size o (bs ++ (four x).take k)) ∧ Hid (Below w.heap.size w wr)) (fun _ i _ => 4 - (intOf i).toNat)
  case atStart => exact ⟨0, by omega, rfl, Lib.hid (by simpa using HO2.out), HB2⟩
  case round =>
    obtain ⟨k, hk, rfl, hown, hB⟩ := hrel
    have hBs := hB.out.size
    have hbr := hown.out
    have hl : (bs ++ (four x).take k).length = bs.length + k := by rw [List.length_append, List.length_take, four_length]; omega
    by_cases h4 : k < 4
    · rcases (show k = 0 ∨ k = 1 ∨ k = 2 ∨ k = 3 by omega) with rfl | rfl | rfl | rfl
      · have E0 := Lib.hid (show Value.int .u8 ((x : Int) % 256) = bv (UInt8.ofNat x) from bvI (by omega))
        go_wp2_with (first | (at_builtin; refine wpList_append_own _ rfl _ _ 36 rfl w.heap.size 5 i0 (.int .u8 0) 1 1 Tryz.underlying36 hi0 hz0 hz1 hz2 rfl (by decide) _ _ _ rfl (hbr.alloc _) ⟨wr.heap.size, 0, none⟩ 1 1 [bv (UInt8.ofNat x)] rfl rfl (one_at E0.out) (one_cell _) ?c03 ?c04 ?c05 ?_))
        case c03 => rw [hl]; unfold maxLen; omega
        case c04 => rw [hl]; omega
        case c05 => simp; omega
        intro v' w3 hown3 hgrow3 _
        have hB3 : Below w.heap.size w w3 := (hB.out.alloc hBs _).grown hgrow3 (by simp; omega) (fun q hq => (hbr.lt q hq).1)
        have hO3 : OwnB w3 w.heap.size v' (bs ++ (four x).take 1) := by
          have e : bs ++ (four x).take 1 = (bs ++ (four x).take 0) ++ [UInt8.ofNat x] := by rw [List.append_assoc]; rfl
          rw [e]
          unfold OwnB
          rw [List.map_append, List.length_append]
          exact (show w3.ownsRow _ _ _ _ _ _ by simpa [four_length] using hown3)
        have HB3 := Lib.hid hB3
        have HO3 := Lib.hid hO3
        clear hown3 hgrow3 hB3 hO3
        go_wp2_with fail
        go_roundw
        case rel => exact ⟨1, by omega, rfl, HO3, HB3⟩
        case measure => simp [intOf]
      · have E1 := Lib.hid (show Value.int .u8 ((x : Int) / 256 % 256) = bv (UInt8.ofNat (x / 256)) from bvI (by omega))
        go_wp2_with (first | (at_builtin; refine wpList_append_own _ rfl _ _ 36 rfl w.heap.size 5 i0 (.int .u8 0) 1 1 Tryz.underlying36 hi0 hz0 hz1 hz2 rfl (by decide) _ _ _ rfl (hbr.alloc _) ⟨wr.heap.size, 0, none⟩ 1 1 [bv (UInt8.ofNat (x / 256))] rfl rfl (one_at E1.out) (one_cell _) ?c13 ?c14 ?c15 ?_))
        case c13 => rw [hl]; unfold maxLen; omega
        case c14 => rw [hl]; omega
        case c15 => simp; omega
        intro v' w3 hown3 hgrow3 _
        have hB3 : Below w.heap.size w w3 := (hB.out.alloc hBs _).grown hgrow3 (by simp; omega) (fun q hq => (hbr.lt q hq).1)
        have hO3 : OwnB w3 w.heap.size v' (bs ++ (four x).take 2) := by
          have e : bs ++ (four x).take 2 = (bs ++ (four x).take 1) ++ [UInt8.ofNat (x / 256)] := by rw [List.append_assoc]; rfl
          rw [e]
          unfold OwnB
          rw [List.map_append, List.length_append]
          exact (show w3.ownsRow _ _ _ _ _ _ by simpa [four_length] using hown3)
        have HB3 := Lib.hid hB3
        have HO3 := Lib.hid hO3
        clear hown3 hgrow3 hB3 hO3
        go_wp2_with fail
        go_roundw
        case rel => exact ⟨2, by omega, rfl, HO3, HB3⟩
        case measure => simp [intOf]
      · have E2 := Lib.hid (show Value.int .u8 ((x : Int) / 65536 % 256) = bv (UInt8.ofNat (x / 65536)) from bvI (by omega))
        go_wp2_with (first | (at_builtin; refine wpList_append_own _ rfl _ _ 36 rfl w.heap.size 5 i0 (.int .u8 0) 1 1 Tryz.underlying36 hi0 hz0 hz1 hz2 rfl (by decide) _ _ _ rfl (hbr.alloc _) ⟨wr.heap.size, 0, none⟩ 1 1 [bv (UInt8.ofNat (x / 65536))] rfl rfl (one_at E2.out) (one_cell _) ?c23 ?c24 ?c25 ?_))
        case c23 => rw [hl]; unfold maxLen; omega
        case c24 => rw [hl]; omega
        case c25 => simp; omega
        intro v' w3 hown3 hgrow3 _
        have hB3 : Below w.heap.size w w3 := (hB.out.alloc hBs _).grown hgrow3 (by simp; omega) (fun q hq => (hbr.lt q hq).1)
        have hO3 : OwnB w3 w.heap.size v' (bs ++ (four x).take 3) := by
          have e : bs ++ (four x).take 3 = (bs ++ (four x).take 2) ++ [UInt8.ofNat (x / 65536)] := by rw [List.append_assoc]; rfl
          rw [e]
          unfold OwnB
          rw [List.map_append, List.length_append]
          exact (show w3.ownsRow _ _ _ _ _ _ by simpa [four_length] using hown3)
        have HB3 := Lib.hid hB3
        have HO3 := Lib.hid hO3
        clear hown3 hgrow3 hB3 hO3
        go_wp2_with fail
        go_roundw
        case rel => exact ⟨3, by omega, rfl, HO3, HB3⟩
        case measure => simp [intOf]
      · have E3 := Lib.hid (show Value.int .u8 ((x : Int) / 16777216) = bv (UInt8.ofNat (x / 16777216)) from bvI (by omega))
        go_wp2_with (first | (at_builtin; refine wpList_append_own _ rfl _ _ 36 rfl w.heap.size 5 i0 (.int .u8 0) 1 1 Tryz.underlying36 hi0 hz0 hz1 hz2 rfl (by decide) _ _ _ rfl (hbr.alloc _) ⟨wr.heap.size, 0, none⟩ 1 1 [bv (UInt8.ofNat (x / 16777216))] rfl rfl (one_at E3.out) (one_cell _) ?c33 ?c34 ?c35 ?_))
        case c33 => rw [hl]; unfold maxLen; omega
        case c34 => rw [hl]; omega
        case c35 => simp; omega
        intro v' w3 hown3 hgrow3 _
        have hB3 : Below w.heap.size w w3 := (hB.out.alloc hBs _).grown hgrow3 (by simp; omega) (fun q hq => (hbr.lt q hq).1)
        have hO3 : OwnB w3 w.heap.size v' (bs ++ (four x).take 4) := by
          have e : bs ++ (four x).take 4 = (bs ++ (four x).take 3) ++ [UInt8.ofNat (x / 16777216)] := by rw [List.append_assoc]; rfl
          rw [e]
          unfold OwnB
          rw [List.map_append, List.length_append]
          exact (show w3.ownsRow _ _ _ _ _ _ by simpa [four_length] using hown3)
        have HB3 := Lib.hid hB3
        have HO3 := Lib.hid hO3
        clear hown3 hgrow3 hB3 hO3
        go_wp2_with fail
        go_roundw
        case rel => exact ⟨4, by omega, rfl, HO3, HB3⟩
        case measure => simp [intOf]
    · obtain rfl : k = 4 := by omega
      rw [List.take_of_length_le (by rw [four_length]; exact Nat.le_refl _), ← HM.out] at hbr
      have HBR := Lib.hid hbr
      clear hbr hown
      go_wp2_with fail
      go_ret
      exact ⟨_, rfl, HBR.out, hB.out⟩
end Go.Proofs.YtcdcnhecimajkaaGreat.Crc

/- Layer 2: Fits. -/
namespace Go.Proofs.YtcdcnhecimajkaaGreat.Crc
open Go.RowKit Go.Deep Mem

/-- The bytes bodyOf of a sum. -/
def bodyOf (bs : List UInt8) : List UInt8 := bs.take (bs.length - 4)
def fitsL (bs : List UInt8) : List UInt8 := if 4 ≤ bs.length ∧ marked (bodyOf bs) = bs then bodyOf bs else []
def fitsE (bs : List UInt8) : Int := if bs.length < 4 then 2 else if marked (bodyOf bs) = bs then 0 else 5
theorem bodyOf_length (bs : List UInt8) : (bodyOf bs).length = bs.length - 4 := by unfold bodyOf; rw [List.length_take]; omega
theorem bodyOf_mark (bs : List UInt8) : bodyOf (marked bs) = bs := by
  unfold bodyOf
  rw [mark_length, Nat.add_sub_cancel]
  unfold marked
  rw [List.take_append_of_le_length (Nat.le_refl _), List.take_of_length_le (Nat.le_refl _)]
theorem fits_mark (bs : List UInt8) : fitsL (marked bs) = bs ∧ fitsE (marked bs) = 0 := by
  unfold fitsL fitsE
  rw [bodyOf_mark, mark_length]
  exact ⟨by rw [if_pos ⟨by omega, rfl⟩], by rw [if_neg (by omega), if_pos rfl]⟩
set_option maxHeartbeats 2000000 in
theorem fits_any (a : Option Addr) (cp : Nat) (bs : List UInt8) (w : World) (h : Lies w a (bs.map bv)) (hcp : bs.length ≤ cp) (hm : bs.length ≤ 3000000) :
    Calls Tryz.prog 104 #[.slice a bs.length cp] w fun e w' => ∃ v, e = .returned (.tuple #[v, .int .i64 (fitsE bs)]) ∧ OwnB w' w.heap.size v (fitsL bs) ∧ Below w.heap.size w w' := by
  by_cases h4 : bs.length < 4
  · have e1 : fitsE bs = 2 := if_pos h4
    have e2 : fitsL bs = [] := if_neg (by omega)
    rw [e1, e2]
    clear h e1 e2
    go_enter Tryz.func104, Tryz.ntmps104
    go_wp2_with fail
    go_ret2
    exact ⟨_, rfl, World.ownsRow_nil _ _ _ _, Below.refl _ _⟩
  · obtain ⟨g, off, rfl, hg, hc⟩ := h.resolve_left (fun e => by
      rw [List.map_eq_nil_iff] at e
      subst e
      exact h4 (by decide))
    have hL : Lies w (some ⟨g, off, none⟩) (bs.map bv) := .inr ⟨g, off, rfl, hg, hc⟩
    have hL2 : Lies w (some ⟨g, off, none⟩) ((bodyOf bs).map bv) := by unfold bodyOf; rw [List.map_take]; exact hL.take _
    obtain ⟨m, hm4⟩ : ∃ m, bs.length = m + 4 := ⟨bs.length - 4, by omega⟩
    have hol : (bodyOf bs).length = m := by rw [bodyOf_length]; omega
    have hcl := clone_any (some ⟨g, off, none⟩) cp (bodyOf bs) w hL2 (by omega)
    rw [hol] at hcl
    have HCL := Lib.hid hcl
    have HL := Lib.hid hL
    have HO := Lib.hid hol
    have HM4 := Lib.hid hm4
    have hw : IntKind.i64.wrap ((m : Int) + 4 - 4) = m := by rw [show (m : Int) + 4 - 4 = m by omega]; exact IntWalk.i64_in _ (by omega)
    have hmc : m ≤ cp := by omega
    have e1 : fitsE bs = if marked (bodyOf bs) = bs then 0 else 5 := if_neg h4
    have E1 := Lib.hid e1
    rw [hm4]
    clear hc hg hL hL2 hol hcl e1 h4
    go_enter Tryz.func104, Tryz.ntmps104
    go_wp2_with fail
    refine HCL.out.mono ?_
    rintro e w1 ⟨v, rfl, hown, hB1⟩
    have hown2 : OwnB w1 w.heap.size v (bodyOf bs) := hown
    obtain ⟨a1, c1, e1, _, hl1, _, _⟩ := own_shape hown2
    subst e1
    have hmk := mark_any a1 c1 (bodyOf bs) w1 hl1 (by rw [HO.out]; omega)
    have HMK := Lib.hid hmk
    have HOW := Lib.hid hown2
    have HB1 := Lib.hid hB1
    have hs1 := hB1.size
    clear hown hown2 hl1 hmk hB1
    go_wp2_with fail
    refine HMK.out.mono ?_
    rintro e w2 ⟨v2, rfl, hown3, hB2⟩
    obtain ⟨a2, c2, e2, _, hl2, _, _⟩ := own_shape hown3
    subst e2
    have hs2 := hB2.size
    have heq := equal_any a2 (some ⟨g, off, none⟩) c2 cp (marked (bodyOf bs)) bs w2 hl2 ((HL.out.later HB1.out).later hB2) (by rw [mark_length, HO.out]; omega)
    have hml : (marked (bodyOf bs)).length = m + 4 := by rw [mark_length, HO.out]
    rw [hml, HM4.out] at heq
    rw [hml]
    have HE := Lib.hid heq
    have HB2 := Lib.hid (HB1.out.trans (hB2.mono hs1))
    have HO2 := Lib.hid (own_later HOW.out hB2)
    clear hl2 heq hB2 hown3 hml
    go_wp2_with fail
    refine HE.out.mono ?_
    rintro e w3 ⟨rfl, q, rfl⟩
    by_cases hy : marked (bodyOf bs) = bs
    · have hb : (marked (bodyOf bs) == bs) = true := by simpa using hy
      have e3 : fitsE bs = 0 := by rw [E1.out, if_pos hy]
      have e4 : fitsL bs = bodyOf bs := if_pos ⟨by rw [HM4.out]; omega, hy⟩
      rw [hb]
      have E3 := Lib.hid e3
      have E4 := Lib.hid e4
      clear hy hb e3 e4 HE
      go_wp2_with fail
      go_ret2
      refine ⟨_, by rw [E3.out]; rfl, ?_, below_drewN HB2.out q⟩
      rw [E4.out]
      exact HO2.out
    · have hb : (marked (bodyOf bs) == bs) = false := by simpa using hy
      have e3 : fitsE bs = 5 := by rw [E1.out, if_neg hy]
      have e4 : fitsL bs = [] := if_neg (fun h => hy h.2)
      rw [hb]
      have E3 := Lib.hid e3
      have E4 := Lib.hid e4
      clear hy hb e3 e4 HE
      go_wp2_with fail
      go_ret2
      refine ⟨_, by rw [E3.out]; rfl, ?_, below_drewN HB2.out q⟩
      rw [E4.out]
      exact World.ownsRow_nil _ _ _ _
end Go.Proofs.YtcdcnhecimajkaaGreat.Crc

/- Layer 5: Put of a section (behind nothing). -/
namespace Go.Proofs.YtcdcnhecimajkaaGreat.Frame
open Go.RowKit Go.Deep Mem Crc

/-- A section's head. -/
def head (kind : UInt8) (n : Nat) : List UInt8 := [kind, UInt8.ofNat n, UInt8.ofNat (n / 256), UInt8.ofNat (n / 65536), UInt8.ofNat (n / 16777216)]
/-- A section's bytes. -/
def frameL (kind : UInt8) (body : List UInt8) : List UInt8 := marked (head kind body.length) ++ marked body
theorem frameL_length (kind : UInt8) (body : List UInt8) : (frameL kind body).length = body.length + 13 := by
  unfold frameL
  rw [List.length_append, mark_length, mark_length]
  simp [head]
  omega
/-- A row of the call's own that is not empty has an address. -/
theorem own_some {w : World} {base : Nat} {v : Value} {bs : List UInt8} (h : OwnB w base v bs) (h0 : 0 < bs.length) : ∃ g cap, v = .slice (some ⟨g, 0, none⟩) bs.length cap ∧ bs.length ≤ cap ∧ base ≤ g ∧ g < w.heap.size := by
  rcases h.2 with ⟨_, e⟩ | ⟨g, cap, cur, e, r⟩
  · omega
  · subst e
    exact ⟨g, cap, rfl, r.2.2.1, World.ownsRow.lt h g rfl⟩
set_option maxHeartbeats 400000 in
set_option maxRecDepth 100000 in
theorem put_nil (kind : UInt8) (a : Option Addr) (cp : Nat) (body : List UInt8) (w : World) (h : Lies w a (body.map bv)) (hm : body.length ≤ 1048576) :
    Calls Tryz.prog 44 #[.slice none 0 0, .agg #[.int .u8 (kind.toNat : Int), .slice a body.length cp]] w fun e w' => ∃ v, e = .returned (.tuple #[v, .int .i64 0]) ∧ OwnB w' w.heap.size v (frameL kind body) ∧ Below w.heap.size w w' := by
  obtain ⟨i0, hi0, hz0, hz1, hz2⟩ := info_parts infoB8
  have hal := (Below.refl w.heap.size w).alloc (Nat.le_refl _) (.cells #[.int .u8 (kind.toNat : Int), .slice a body.length cp] 104)
  have hbx := Blk.new w 104 #[.int .u8 (kind.toNat : Int), .slice a body.length cp]
  obtain ⟨n, hn⟩ : ∃ n, n = body.length := ⟨_, rfl⟩
  obtain ⟨W, hW⟩ : ∃ W, W = w.alloc (.cells #[.int .u8 (kind.toNat : Int), .slice a body.length cp] 104) := ⟨_, rfl⟩
  rw [← hW] at hal hbx
  rw [← hn] at hbx
  have hhd := hal.alloc (by have := hal.size; exact this) (.cells ((head kind n).map bv).toArray 5)
  have hmk := mark_any (some ⟨W.heap.size, 0, none⟩) 5 (head kind n) (W.alloc (.cells ((head kind n).map bv).toArray 5)) (by have := new_lies W 5 ((head kind n).map bv).toArray; simpa using this) (by simp [head])
  have hWs : W.heap.size = w.heap.size + 1 := by rw [hW]; simp
  rw [hWs, show (head kind n).length = 5 from rfl] at hmk
  have HMK := Lib.hid hmk
  have HL := Lib.hid h
  have HAL := Lib.hid hal
  have HHD := Lib.hid hhd
  have HBX := Lib.hid (hbx.alloc (.cells ((head kind n).map bv).toArray 5))
  have HW := Lib.hid hW
  have HN := Lib.hid hn
  have hsW := hal.size
  have hm2 : n ≤ 1048576 := by omega
  have hm3 : decide ((1048576 : Int) < (n : Int)) = false := by simp; omega
  have E := Lib.hid (show (#[.int .u8 (kind.toNat : Int), .int .u8 ((n : Int) % 256), .int .u8 ((n : Int) / 256 % 256), .int .u8 ((n : Int) / 65536), .int .u8 ((n : Int) / 16777216)] : Array Value) = ((head kind n).map bv).toArray by
    rw [bvI (y := (n : Int) % 256) (n := n) (by omega), bvI (y := (n : Int) / 256 % 256) (n := n / 256) (by omega), bvI (y := (n : Int) / 65536) (n := n / 65536) (by omega), bvI (y := (n : Int) / 16777216) (n := n / 16777216) (by omega)]
    rfl)
  rw [← hn] at HW ⊢
  clear h hal hhd hmk hbx hn hm hWs
  go_enter Tryz.func44, Tryz.ntmps44
  go_wp2_with fail
  rw [E.out, ← HW.out]
  refine HMK.out.mono ?_
  rintro e w1 ⟨v1, rfl, hown1, hB1⟩
  obtain ⟨g1, c1, e1, hc1, _, hg1⟩ := own_some hown1 (by rw [mark_length]; omega)
  subst e1
  have hs1 := hB1.size
  have hs0 : w.heap.size + 2 ≤ (W.alloc (.cells ((head kind n).map bv).toArray 5)).heap.size := by rw [HW.out]; simp
  have hBw : Below w.heap.size w w1 := HHD.out.trans (hB1.mono (by omega))
  obtain ⟨a1, c1', e1', _, hl1, _, _⟩ := own_shape hown1
  cases e1'
  have hml : (marked (head kind n)).length = 9 := by rw [mark_length]; rfl
  rw [hml]
  have HL1 := Lib.hid (lies_add hl1)
  have H1 := Lib.hid (oneCell_bytes (marked (head kind n)))
  have hbx1 := HBX.out.below hB1 HBX.out.lt
  have x1 := hbx1.cell 1
  simp at x1
  have HML := Lib.hid hml
  have HBw := Lib.hid hBw
  have HBX1 := Lib.hid hbx1
  have hnil := World.ownsRow_nil w1 w.heap.size 5 1
  have hsw1 := hBw.size
  clear hown1 hl1 hml hbx1 hBw hB1 HMK HHD HAL E HW
  go_wp2_with (first | (at_builtin; refine wpList_append_own _ rfl _ _ 36 rfl w.heap.size 5 i0 (.int .u8 0) 1 1 Tryz.underlying36 hi0 hz0 hz1 hz2 rfl (by decide) _ _ _ rfl hnil ⟨g1, 0, none⟩ 9 c1 ((marked (head kind n)).map bv) rfl ?c1 HL1.out H1.out ?c3 ?c4 ?c5 ?_))
  case c1 => rw [List.length_map, HML.out]
  case c3 => decide
  case c4 => decide
  case c5 => exact hsw1
  intro v2 w2 hown2 hgrow2 _
  have hB12 : Below w1.heap.size w1 w2 := (Below.refl _ w1).grown hgrow2 (Nat.le_refl _) (fun k hk => by cases hk)
  have hbx2 := HBX1.out.below hB12 HBX1.out.lt
  have x2 := hbx2.cell 1
  simp at x2
  have HB2 := Lib.hid (HBw.out.trans (hB12.mono hsw1))
  have hO2 : OwnB w2 w.heap.size v2 (marked (head kind n)) := by unfold OwnB; rw [HML.out]; exact hown2
  have hmk2 := mark_any a cp body w2 (HL.out.later HB2.out) (by have := HN.out; omega)
  rw [← HN.out] at hmk2
  have HMK2 := Lib.hid hmk2
  have HO2 := Lib.hid hO2
  have hs2 := HB2.out.size
  have hlt2 := hbx2.lt
  clear hown2 hgrow2 hbx2 hB12 hO2 hmk2 x1 hnil
  go_wp2_with fail
  refine HMK2.out.mono ?_
  rintro e w3 ⟨v3, rfl, hown3, hB3⟩
  obtain ⟨g3, c3, e3, hc3, _, hg3⟩ := own_some hown3 (by rw [mark_length]; omega)
  subst e3
  obtain ⟨a3, c3', e3', _, hl3, _, _⟩ := own_shape hown3
  cases e3'
  have hs3 := hB3.size
  have HL3 := Lib.hid (lies_add hl3)
  have H3 := Lib.hid (oneCell_bytes (marked body))
  have hO3 := own_later HO2.out hB3
  have HB3 := Lib.hid (HB2.out.trans (hB3.mono hs2))
  have hl0 : (marked (head kind n)).length + (marked body).length ≤ 1048600 := by rw [HML.out, mark_length, ← HN.out]; omega
  clear hown3 hl3 hB3 HMK2 x2
  go_wp2_with (first | (at_builtin; refine wpList_append_own _ rfl _ _ 36 rfl w.heap.size 5 i0 (.int .u8 0) 1 1 Tryz.underlying36 hi0 hz0 hz1 hz2 rfl (by decide) _ _ _ rfl hO3 ⟨g3, 0, none⟩ (marked body).length c3 ((marked body).map bv) rfl ?d1 HL3.out H3.out ?d3 ?d4 ?d5 ?_))
  case d1 => simp
  case d3 => unfold maxLen; omega
  case d4 => omega
  case d5 => omega
  intro v4 w4 hown4 hgrow4 _
  have hB4 := HB3.out.grown hgrow4 (by omega) (fun q hq => (hO3.lt q hq).1)
  have hO4 : OwnB w4 w.heap.size v4 (frameL kind body) := by
    unfold OwnB frameL
    rw [List.map_append, List.length_append, ← HN.out]
    exact hown4
  have HO4 := Lib.hid hO4
  clear hown4 hgrow4 hO4 hO3
  go_wp2_with fail
  go_ret2
  exact ⟨v4, rfl, HO4.out, hB4⟩
end Go.Proofs.YtcdcnhecimajkaaGreat.Frame

/- Layer 5: Get of a section. -/
namespace Go.Proofs.YtcdcnhecimajkaaGreat.Frame
open Go.RowKit Go.Deep Mem Crc

/-- The number that stands in four bytes, behind the first one. -/
def num (h : List UInt8) : Nat := (h.getD 1 0).toNat + (h.getD 2 0).toNat * 256 + (h.getD 3 0).toNat * 65536 + (h.getD 4 0).toNat * 16777216
/-- The section in front: its kind, its body, how many bytes it takes, the error's number. -/
def got (bs : List UInt8) : UInt8 × List UInt8 × Nat × Int :=
  if bs.length < 9 then (0, [], 0, 2)
  else if fitsE (bs.take 9) = 5 then (0, [], 0, 5)
  else if 1048576 < num (bodyOf (bs.take 9)) then (0, [], 0, 4)
  else if bs.length < 13 + num (bodyOf (bs.take 9)) then (0, [], 0, 2)
  else if fitsE ((bs.drop 9).take (num (bodyOf (bs.take 9)) + 4)) = 5 then (0, [], 0, 5)
  else ((bs.take 9).getD 0 0, bodyOf ((bs.drop 9).take (num (bodyOf (bs.take 9)) + 4)), 13 + num (bodyOf (bs.take 9)), 0)
theorem fitsE_cases {bs : List UInt8} (h : 4 ≤ bs.length) : fitsE bs = 0 ∨ fitsE bs = 5 := by
  unfold fitsE
  rw [if_neg (by omega)]
  split
  · exact .inl rfl
  · exact .inr rfl
theorem fitsL_ok {bs : List UInt8} (h : 4 ≤ bs.length) (h2 : fitsE bs = 0) : fitsL bs = bodyOf bs := by
  unfold fitsE at h2
  rw [if_neg (by omega)] at h2
  unfold fitsL
  by_cases hm : marked (bodyOf bs) = bs
  · rw [if_pos ⟨h, hm⟩]
  · rw [if_neg hm] at h2; cases h2
theorem i64_or_nat (a b : Nat) (ha : a < 9223372036854775808) (hb : b < 9223372036854775808) : bits .or .i64 (a : Int) (b : Int) = ((a ||| b : Nat) : Int) := by
  have hx : a ||| b < 2 ^ 63 := Nat.or_lt_two_pow (by omega) (by omega)
  show IntKind.i64.wrap ((BitVec.ofInt 64 (a : Int) ||| BitVec.ofInt 64 (b : Int)).toNat : Int) = _
  rw [BitVec.toNat_or, ofInt_u64 a (by omega), ofInt_u64 b (by omega)]
  exact IntWalk.i64_in _ (by omega)
theorem or_four (a b c d : Nat) (ha : a < 256) (hb : b < 256) (hc : c < 256) (hd : d < 256) :
    bits .or .i64 (bits .or .i64 (bits .or .i64 (a : Int) ((b : Int) * 256)) ((c : Int) * 65536)) ((d : Int) * 16777216) = ((a + b * 256 + c * 65536 + d * 16777216 : Nat) : Int) := by
  have e1 : bits .or .i64 (a : Int) ((b : Int) * 256) = ((a + b * 256 : Nat) : Int) := by
    have := i64_or_nat a (b * 256) (by omega) (by omega)
    rw [Nat.or_comm, nat_join 8 (b * 256) a (by omega) (by omega)] at this
    rw [show ((b : Int) * 256) = ((b * 256 : Nat) : Int) by omega, this]
    congr 1
    omega
  have e2 : bits .or .i64 ((a + b * 256 : Nat) : Int) ((c : Int) * 65536) = ((a + b * 256 + c * 65536 : Nat) : Int) := by
    have := i64_or_nat (a + b * 256) (c * 65536) (by omega) (by omega)
    rw [Nat.or_comm, nat_join 16 (c * 65536) (a + b * 256) (by omega) (by omega)] at this
    rw [show ((c : Int) * 65536) = ((c * 65536 : Nat) : Int) by omega, this]
    congr 1
    omega
  have := i64_or_nat (a + b * 256 + c * 65536) (d * 16777216) (by omega) (by omega)
  rw [Nat.or_comm, nat_join 24 (d * 16777216) (a + b * 256 + c * 65536) (by omega) (by omega)] at this
  rw [e1, e2, show ((d : Int) * 16777216) = ((d * 16777216 : Nat) : Int) by omega, this]
  congr 1
  omega
theorem box_set {w : World} {b : Nat} {t : TypeId} {p q : Value} (h : Blk w b t #[p, q]) (x y : Value) : Blk ((w.setCell ⟨b, 0, none⟩ x).setCell ⟨b, 1, none⟩ y) b t #[x, y] := (h.set 0 x).set 1 y
/-- What Get leaves. -/
structure Got (bs : List UInt8) (w : World) (e : Ending) (w' : World) : Prop where
  out : ∃ v, e = .returned (.tuple #[.agg #[bv (got bs).1, v], .int .i64 (got bs).2.2.1, .int .i64 (got bs).2.2.2]) ∧ OwnB w' w.heap.size v (got bs).2.1
  below : Below w.heap.size w w'
set_option maxHeartbeats 400000 in
set_option maxRecDepth 100000 in
theorem get_any (a : Option Addr) (cp : Nat) (bs : List UInt8) (w : World) (h : Lies w a (bs.map bv)) (hcp : bs.length ≤ cp) (hm : bs.length ≤ 3000000) :
    Calls Tryz.prog 82 #[.slice a bs.length cp] w fun e w' => Got bs w e w' := by
  by_cases h9 : bs.length < 9
  · have e0 : got bs = (0, [], 0, 2) := if_pos h9
    clear h hcp
    go_enter Tryz.func82, Tryz.ntmps82
    go_wp2_with fail
    refine bodyPost_ret (v := .tuple #[.agg #[.int .u8 0, .slice none 0 0], .int .i64 0, .int .i64 2]) (by simp [results, Tryz.results82, go_sem]) rfl ⟨⟨.slice none 0 0, by rw [e0]; rfl, by rw [e0]; exact World.ownsRow_nil _ _ _ _⟩, (Below.refl _ w).alloc (Nat.le_refl _) _⟩
  · obtain ⟨g, off, rfl, hg, hc⟩ := h.resolve_left (fun e => by
      rw [List.map_eq_nil_iff] at e
      subst e
      exact h9 (by decide))
    have hL : Lies w (some ⟨g, off, none⟩) (bs.map bv) := .inr ⟨g, off, rfl, hg, hc⟩
    obtain ⟨h, hh⟩ : ∃ h, h = bs.take 9 := ⟨_, rfl⟩
    have hhl : h.length = 9 := by rw [hh, List.length_take]; omega
    have hL9 : Lies (w.alloc (.cells #[.int .u8 0, .slice none 0 0] 104)) (some ⟨g, off, none⟩) (h.map bv) := by
      rw [hh, List.map_take]
      exact (hL.later ((Below.refl _ w).alloc (Nat.le_refl _) _)).take _
    have hfit := fits_any (some ⟨g, off, none⟩) cp h _ hL9 (by omega) (by omega)
    rw [hhl] at hfit
    have HF := Lib.hid hfit
    have h9c : (9 : Nat) ≤ cp := by omega
    have hb9 : decide ((bs.length : Int) < 9) = false := by simp; omega
    have HL := Lib.hid hL
    have hal := (Below.refl w.heap.size w).alloc (Nat.le_refl _) (.cells #[.int .u8 0, .slice none 0 0] 104)
    have hbx := Blk.new w 104 #[.int .u8 0, .slice none 0 0]
    have HAL := Lib.hid hal
    have HBX := Lib.hid hbx
    have HH := Lib.hid hh
    clear hc hg hL hL9 hfit hal hbx hh
    go_enter Tryz.func82, Tryz.ntmps82
    go_wp2_with fail
    refine HF.out.mono ?_
    rintro e w1 ⟨v1, rfl, hown1, hB1⟩
    have hbx1 := HBX.out.below hB1 HBX.out.lt
    have x0 := hbx1.cell 0
    have x1 := hbx1.cell 1
    simp at x0 x1
    have z0 := hbx1.frozen 0
    have z1 := hbx1.frozen 1
    have hlt1 := hbx1.lt
    have HBX1 := Lib.hid hbx1
    have HB1 := Lib.hid (HAL.out.trans (hB1.mono (by simp)))
    have HOW1 := Lib.hid hown1
    clear hbx1 hB1 hown1 HF
    have hend : ∀ (w2 : World) (x y : Value), Below w.heap.size w w2 → Below w.heap.size w ((w2.setCell ⟨w.heap.size, 0, none⟩ x).setCell ⟨w.heap.size, 1, none⟩ y) := fun w2 x y hb => (hb.setCell (Nat.le_refl _) _).setCell (Nat.le_refl _) _
    have HEND := Lib.hid hend
    clear hend
    rcases fitsE_cases (bs := h) (by omega) with hf | hf
    · have hlb : fitsL h = bodyOf h := fitsL_ok (by omega) hf
      have hbl : (bodyOf h).length = 5 := by rw [bodyOf_length]; omega
      have hown := HOW1.out
      rw [hlb] at hown
      obtain ⟨g1, c1, e1, hc1, hg1, hg1'⟩ := own_some hown (by omega)
      obtain ⟨a1, c1', e1', _, hl1, _, _⟩ := own_shape hown
      rw [e1] at e1'
      cases e1'
      rw [hbl] at e1
      have hcell : ∀ j, j < 5 → w1.cell? ⟨g1, j, none⟩ = some (.int .u8 (((bodyOf h).getD j 0).toNat : Int)) := fun j hj => by
        obtain ⟨q, o, e, _, hq⟩ := hl1.resolve_left (by intro e; rw [List.map_eq_nil_iff] at e; rw [e] at hbl; cases hbl)
        cases e
        have := hq j _ (bv_at (List.getElem?_eq_getElem (by omega)))
        rw [Nat.zero_add] at this
        rw [this, List.getD_eq_getElem?_getD, List.getElem?_eq_getElem (by omega)]
        rfl
      have b1 := hcell 1 (by omega)
      have b2 := hcell 2 (by omega)
      have b3 := hcell 3 (by omega)
      have b4 := hcell 4 (by omega)
      obtain ⟨n1, m1⟩ : ∃ n, n = ((bodyOf h).getD 1 0).toNat := ⟨_, rfl⟩
      obtain ⟨n2, m2⟩ : ∃ n, n = ((bodyOf h).getD 2 0).toNat := ⟨_, rfl⟩
      obtain ⟨n3, m3⟩ : ∃ n, n = ((bodyOf h).getD 3 0).toNat := ⟨_, rfl⟩
      obtain ⟨n4, m4⟩ : ∃ n, n = ((bodyOf h).getD 4 0).toNat := ⟨_, rfl⟩
      have l1 : n1 < 256 := by rw [m1]; exact UInt8.toNat_lt _
      have l2 : n2 < 256 := by rw [m2]; exact UInt8.toNat_lt _
      have l3 : n3 < 256 := by rw [m3]; exact UInt8.toNat_lt _
      have l4 : n4 < 256 := by rw [m4]; exact UInt8.toNat_lt _
      rw [← m1] at b1
      rw [← m2] at b2
      rw [← m3] at b3
      rw [← m4] at b4
      obtain ⟨N, hN⟩ : ∃ N, N = n1 + n2 * 256 + n3 * 65536 + n4 * 16777216 := ⟨_, rfl⟩
      have hor := or_four n1 n2 n3 n4 l1 l2 l3 l4
      rw [← hN] at hor
      have hnum : num (bodyOf h) = N := by rw [hN, m1, m2, m3, m4]; rfl
      have HNUM := Lib.hid hnum
      have hNlt : N < 4294967296 := by omega
      have HCELL := Lib.hid hcell
      have HF0 := Lib.hid hf
      rw [hf]
      subst e1
      clear hown hl1 hcell m1 m2 m3 m4 hN hnum hf hlb
      go_wp2_with fail
      go_quiet (fail)
      have hw13 : IntKind.i64.wrap (9 + (N : Int)) = 9 + N := IntWalk.i64_in _ (by omega)
      have hw14 : IntKind.i64.wrap (9 + (N : Int) + 4) = 9 + N + 4 := IntWalk.i64_in _ (by omega)
      by_cases hN1 : 1048576 < N
      · have e0 : got bs = (0, [], 0, 4) := by
          unfold got
          rw [if_neg h9, if_neg (by rw [← HH.out, HF0.out]; decide), if_pos (by rw [← HH.out, HNUM.out]; exact hN1)]
        have E0 := Lib.hid e0
        have q := box_set (HBX1.out.drewN nq) (.int .u8 0) (.slice none 0 0)
        have q0 := q.cell 0
        have q1 := q.cell 1
        simp at q0 q1
        have hB2 := HEND.out (w1.drewN nq) (.int .u8 0) (.slice none 0 0) (below_drewN HB1.out nq)
        clear e0 q
        have d0 : decide ((1048576 : Int) < (N : Int)) = true := by simp; omega
        go_wp2_with fail
        refine bodyPost_ret (v := .tuple #[.agg #[.int .u8 0, .slice none 0 0], .int .i64 0, .int .i64 4]) (by simp [results, Tryz.results82, go_sem, q0, q1]) rfl ⟨⟨.slice none 0 0, by rw [E0.out]; rfl, by rw [E0.out]; exact World.ownsRow_nil _ _ _ _⟩, hB2⟩
      · have d0 : decide ((1048576 : Int) < (N : Int)) = false := by simp; omega
        by_cases hN2 : bs.length < 13 + N
        · have e0 : got bs = (0, [], 0, 2) := by
            unfold got
            rw [if_neg h9, if_neg (by rw [← HH.out, HF0.out]; decide), if_neg (by rw [← HH.out, HNUM.out]; exact hN1), if_pos (by rw [← HH.out, HNUM.out]; exact hN2)]
          have E0 := Lib.hid e0
          have q := box_set (HBX1.out.drewN nq) (.int .u8 0) (.slice none 0 0)
          have q0 := q.cell 0
          have q1 := q.cell 1
          simp at q0 q1
          have hB2 := HEND.out (w1.drewN nq) (.int .u8 0) (.slice none 0 0) (below_drewN HB1.out nq)
          clear e0 q
          have d1 : decide ((bs.length : Int) < 9 + (N : Int) + 4) = true := by simp; omega
          go_wp2_with fail
          refine bodyPost_ret (v := .tuple #[.agg #[.int .u8 0, .slice none 0 0], .int .i64 0, .int .i64 2]) (by simp [results, Tryz.results82, go_sem, q0, q1]) rfl ⟨⟨.slice none 0 0, by rw [E0.out]; rfl, by rw [E0.out]; exact World.ownsRow_nil _ _ _ _⟩, hB2⟩
        · have d1 : decide ((bs.length : Int) < 9 + (N : Int) + 4) = false := by simp; omega
          obtain ⟨o, ho⟩ : ∃ o, o = (bs.drop 9).take (N + 4) := ⟨_, rfl⟩
          have hol : o.length = N + 4 := by rw [ho, List.length_take, List.length_drop]; omega
          have hLo : Lies (w1.drewN nq) (some ⟨g, off + 9, none⟩) (o.map bv) := by
            rw [ho, List.map_take]
            refine Lies.take ?_ _
            rw [List.map_drop]
            exact ((HL.out.later HB1.out).drop 9).drewN nq
          have hfit2 := fits_any (some ⟨g, off + 9, none⟩) (cp - 9) o (w1.drewN nq) hLo (by omega) (by omega)
          rw [show o.length = 9 + N - 5 by omega] at hfit2
          have HF2 := Lib.hid hfit2
          have HO := Lib.hid ho
          have HOL := Lib.hid hol
          have h13 : 13 + N ≤ cp := by omega
          clear hfit2 hLo ho hol
          go_wp2_with fail
          refine HF2.out.mono ?_
          rintro e w2 ⟨v2, rfl, hown2, hB2⟩
          have hbx2 := (HBX1.out.drewN nq).below hB2 HBX1.out.lt
          have y0 := hbx2.cell 0
          have y1 := hbx2.cell 1
          simp at y0 y1
          have u0 := hbx2.frozen 0
          have u1 := hbx2.frozen 1
          have hlt2 := hbx2.lt
          have c0 := ((below_drewN (Below.refl w1.heap.size w1) nq).trans hB2).cell (p := ⟨g1, 0, none⟩) hg1' |>.trans (HCELL.out 0 (by omega))
          obtain ⟨kd, hkd⟩ : ∃ kd, kd = ((bodyOf h).getD 0 0).toNat := ⟨_, rfl⟩
          rw [← hkd] at c0
          have HKD := Lib.hid hkd
          have HBX2 := Lib.hid hbx2
          have HB2 := Lib.hid ((below_drewN HB1.out nq).trans (hB2.mono HB1.out.size))
          have HOW2 := Lib.hid hown2
          have hsz1 := HB1.out.size
          clear hbx2 hB2 hown2 x0 x1 hkd
          rcases fitsE_cases (bs := o) (by rw [HOL.out]; omega) with hf | hf
          · have e0 : got bs = ((bodyOf h).getD 0 0, bodyOf o, 13 + N, 0) := by
              unfold got
              rw [if_neg h9, if_neg (by rw [← HH.out, HF0.out]; decide), if_neg (by rw [← HH.out, HNUM.out]; exact hN1), if_neg (by rw [← HH.out, HNUM.out]; exact hN2), ← HH.out, HNUM.out, ← HO.out, if_neg (by rw [hf]; decide)]
              have e9 : (bodyOf h).getD 0 0 = h.getD 0 0 := by
                unfold bodyOf
                rw [List.getD_eq_getElem?_getD, List.getD_eq_getElem?_getD, List.getElem?_take, if_pos (by omega)]
              rw [e9]
            have hlb : fitsL o = bodyOf o := fitsL_ok (by rw [HOL.out]; omega) hf
            have hown3 := HOW2.out
            rw [hlb] at hown3
            have E0 := Lib.hid e0
            obtain ⟨a2, c2, e2, _, _, hb2, _⟩ := own_shape hown3
            subst e2
            have q := box_set HBX2.out (.int .u8 (kd : Int)) (.slice a2 (bodyOf o).length c2)
            have q0 := q.cell 0
            have q1 := q.cell 1
            simp at q0 q1
            have hB3 := HEND.out w2 (.int .u8 (kd : Int)) (.slice a2 (bodyOf o).length c2) HB2.out
            have hown4 : OwnB ((w2.setCell ⟨w.heap.size, 0, none⟩ (.int .u8 (kd : Int))).setCell ⟨w.heap.size, 1, none⟩ (.slice a2 (bodyOf o).length c2)) w.heap.size (.slice a2 (bodyOf o).length c2) (bodyOf o) := by
              have hne : (Value.slice a2 (bodyOf o).length c2).ownBlock ≠ some w.heap.size := fun e => by
                have := (hown3.lt _ e).1
                simp at this
                omega
              exact own_mono (own_far (own_far hown3 hne _) hne _) hsz1
            have HO4 := Lib.hid hown4
            rw [hf]
            clear e0 hlb hown3 q hf hb2 hown4
            go_wp2_with fail
            have e9 : (9 + (N : Int) + 4) = ((13 + N : Nat) : Int) := by omega
            refine bodyPost_ret (v := .tuple #[.agg #[.int .u8 (kd : Int), .slice a2 (bodyOf o).length c2], .int .i64 (9 + (N : Int) + 4), .int .i64 0]) (by simp [results, Tryz.results82, go_sem, q0, q1]) rfl ⟨⟨.slice a2 (bodyOf o).length c2, ?_, by rw [E0.out]; exact HO4.out⟩, hB3⟩
            rw [E0.out, e9, HKD.out]
            rfl
          · have e0 : got bs = (0, [], 0, 5) := by
              unfold got
              rw [if_neg h9, if_neg (by rw [← HH.out, HF0.out]; decide), if_neg (by rw [← HH.out, HNUM.out]; exact hN1), if_neg (by rw [← HH.out, HNUM.out]; exact hN2), ← HH.out, HNUM.out, ← HO.out, if_pos hf]
            have E0 := Lib.hid e0
            have q := box_set HBX2.out (.int .u8 0) (.slice none 0 0)
            have q0 := q.cell 0
            have q1 := q.cell 1
            simp at q0 q1
            have hB3 := HEND.out w2 (.int .u8 0) (.slice none 0 0) HB2.out
            rw [hf]
            clear e0 q hf
            go_wp2_with fail
            refine bodyPost_ret (v := .tuple #[.agg #[.int .u8 0, .slice none 0 0], .int .i64 0, .int .i64 5]) (by simp [results, Tryz.results82, go_sem, q0, q1]) rfl ⟨⟨.slice none 0 0, by rw [E0.out]; rfl, by rw [E0.out]; exact World.ownsRow_nil _ _ _ _⟩, hB3⟩
    · rw [hf]
      have e0 : got bs = (0, [], 0, 5) := by unfold got; rw [if_neg h9, if_pos (by rw [← HH.out]; exact hf)]
      have E0 := Lib.hid e0
      have q := box_set HBX1.out (.int .u8 0) (.slice none 0 0)
      have q0 := q.cell 0
      have q1 := q.cell 1
      simp at q0 q1
      have hB2 := HEND.out w1 (.int .u8 0) (.slice none 0 0) HB1.out
      clear e0 hf q
      go_wp2_with fail
      refine bodyPost_ret (v := .tuple #[.agg #[.int .u8 0, .slice none 0 0], .int .i64 0, .int .i64 5]) (by simp [results, Tryz.results82, go_sem, q0, q1]) rfl ⟨⟨.slice none 0 0, by rw [E0.out]; rfl, by rw [E0.out]; exact World.ownsRow_nil _ _ _ _⟩, hB2⟩
end Go.Proofs.YtcdcnhecimajkaaGreat.Frame

/- Layer 5: All sections. -/
namespace Go.Proofs.YtcdcnhecimajkaaGreat.Frame
open Go.RowKit Go.Deep Mem Crc

/-- All sections, or the first error. -/
def allF : Nat → List UInt8 → List (UInt8 × List UInt8) × Int
  | 0, _ => ([], 0)
  | f + 1, bs =>
    if bs = [] then ([], 0)
    else if (got bs).2.2.2 = 0 then
      let r := allF f (bs.drop (got bs).2.2.1)
      if r.2 = 0 then (((got bs).1, (got bs).2.1) :: r.1, 0) else ([], r.2)
    else ([], (got bs).2.2.2)
/-- A section as a row holds it. -/
structure Sec where
  kind : UInt8
  body : List UInt8
  a : Option Addr
  cp : Nat
def Sec.vs (s : Sec) : List Value := [bv s.kind, .slice s.a s.body.length s.cp]
def flatS (l : List Sec) : List Value := l.flatMap Sec.vs
theorem flatS_length (l : List Sec) : (flatS l).length = l.length * 2 := by
  unfold flatS
  induction l with
  | nil => rfl
  | cons s r ih => rw [List.flatMap_cons, List.length_append, ih]; simp [Sec.vs]; omega
theorem flatS_snoc (l : List Sec) (s : Sec) : flatS (l ++ [s]) = flatS l ++ s.vs := by unfold flatS; rw [List.flatMap_append]; simp
def Sec.kb (s : Sec) : UInt8 × List UInt8 := (s.kind, s.body)
/-- The bodies lie there, each at or above B. -/
def Bodies (B : Nat) (w : World) (l : List Sec) : Prop := ∀ s ∈ l, OwnB w B (.slice s.a s.body.length s.cp) s.body
theorem Bodies.later {B : Nat} {w w' : World} {l : List Sec} (h : Bodies B w l) (hB : Below w.heap.size w w') : Bodies B w' l := fun s hs => own_later (h s hs) hB
theorem got_pos {bs : List UInt8} (h : (got bs).2.2.2 = 0) : 13 ≤ (got bs).2.2.1 ∧ (got bs).2.2.1 ≤ bs.length := by
  unfold got at h ⊢
  split at h
  · cases h
  · rename_i h1
    rw [if_neg h1]
    split at h
    · cases h
    · rename_i h2
      rw [if_neg h2]
      split at h
      · cases h
      · rename_i h3
        rw [if_neg h3]
        split at h
        · cases h
        · rename_i h4
          rw [if_neg h4]
          split at h
          · cases h
          · rename_i h5
            rw [if_neg h5]
            constructor
            · show 13 ≤ 13 + _; omega
            · show 13 + _ ≤ _; omega
theorem allF_fuel : ∀ (f f' : Nat) (bs : List UInt8), bs.length < f → bs.length < f' → allF f bs = allF f' bs
  | 0, _, _, h, _ => absurd h (Nat.not_lt_zero _)
  | _ + 1, 0, _, _, h => absurd h (Nat.not_lt_zero _)
  | f + 1, f' + 1, bs, h, h' => by
    unfold allF
    split
    · rfl
    · rename_i hne
      split
      · rename_i h0
        have hp := got_pos h0
        have hl : (bs.drop (got bs).2.2.1).length < bs.length := by rw [List.length_drop]; omega
        rw [allF_fuel f f' _ (by omega) (by omega)]
      · rfl
/-- Sections ahead of what is left. -/
def glue (l : List (UInt8 × List UInt8)) (r : List (UInt8 × List UInt8) × Int) : List (UInt8 × List UInt8) × Int := if r.2 = 0 then (l ++ r.1, 0) else ([], r.2)
theorem allF_nil (F : Nat) : allF F [] = ([], 0) := by cases F <;> rfl
theorem allF_bad {F : Nat} {bs : List UInt8} (hF : bs.length < F) (hne : bs ≠ []) (h : ¬ (got bs).2.2.2 = 0) : allF F bs = ([], (got bs).2.2.2) := by
  cases F with
  | zero => omega
  | succ f => unfold allF; rw [if_neg hne, if_neg h]
theorem allF_step {F : Nat} {bs : List UInt8} (hF : bs.length < F) (hne : bs ≠ []) (h : (got bs).2.2.2 = 0) (l : List (UInt8 × List UInt8)) : glue l (allF F bs) = glue (l ++ [((got bs).1, (got bs).2.1)]) (allF F (bs.drop (got bs).2.2.1)) := by
  cases F with
  | zero => omega
  | succ f =>
    have hp := got_pos h
    have hl : (bs.drop (got bs).2.2.1).length < bs.length := by rw [List.length_drop]; omega
    have e : allF (f + 1) bs = if (allF (f + 1) (bs.drop (got bs).2.2.1)).2 = 0 then (((got bs).1, (got bs).2.1) :: (allF (f + 1) (bs.drop (got bs).2.2.1)).1, 0) else ([], (allF (f + 1) (bs.drop (got bs).2.2.1)).2) := by
      rw [allF_fuel (f + 1) f (bs.drop (got bs).2.2.1) (by omega) (by omega)]
      conv => lhs; unfold allF
      rw [if_neg hne, if_pos h]
    rw [e]
    generalize allF (f + 1) (bs.drop (got bs).2.2.1) = r
    obtain ⟨r1, r2⟩ := r
    unfold glue
    by_cases hr : r2 = 0
    · subst hr
      simp
    · simp [hr]
theorem infoS : (Tryz.prog.info? 104).map (fun i => (i.zero, i.size, i.bytes)) = some (some (.agg #[.int .u8 0, .slice none 0 0]), 2, 32) := by kernel_rfl
def lenOf : Value → Nat
  | .slice _ n _ => n
  | _ => 0
theorem glue_nil (r : List (UInt8 × List UInt8) × Int) (h : r.2 = 0 ∨ r.1 = []) : glue [] r = r := by
  obtain ⟨r1, r2⟩ := r
  unfold glue
  by_cases hr : r2 = 0
  · subst hr; simp
  · rcases h with h | h
    · exact absurd h hr
    · simp at h; subst h; simp [hr]
theorem allF_shape (F : Nat) (bs : List UInt8) : (allF F bs).2 = 0 ∨ (allF F bs).1 = [] := by
  cases F with
  | zero => exact .inl rfl
  | succ f =>
    unfold allF
    split
    · exact .inl rfl
    · split
      · dsimp only
        split
        · exact .inl rfl
        · exact .inr rfl
      · exact .inr rfl
/-- What All leaves. -/
structure AllGot (bs : List UInt8) (w : World) (e : Ending) (w' : World) : Prop where
  out : ∃ v l, e = .returned (.tuple #[v, .int .i64 (allF (bs.length + 1) bs).2]) ∧ w'.ownsRow w.heap.size 104 2 v l.length (flatS l) ∧ l.map Sec.kb = (allF (bs.length + 1) bs).1 ∧ Bodies w.heap.size w' l
  below : Below w.heap.size w w'
set_option maxHeartbeats 400000 in
set_option maxRecDepth 100000 in
theorem all_any (a : Option Addr) (cp : Nat) (bs : List UInt8) (w : World) (h : Lies w a (bs.map bv)) (hcp : bs.length ≤ cp) (hm : bs.length ≤ 3000000) :
    Calls Tryz.prog 51 #[.slice a bs.length cp] w fun e w' => AllGot bs w e w' := by
  obtain ⟨i0, hi0, hz0, hz1, hz2⟩ := info_parts infoS
  have HL := Lib.hid h
  clear h
  go_enter Tryz.func51, Tryz.ntmps51
  go_wp2_with fail
  go_loopw [0, 4] (fun b o wr => ∃ (a' : Option Addr) (cp' : Nat) (l : List Sec) (rest : List UInt8), b = .slice a' rest.length cp' ∧ rest.length ≤ cp' ∧ l.length + rest.length ≤ bs.length ∧ Hid (Lies w a' (rest.map bv)) ∧ Hid (wr.ownsRow w.heap.size 104 2 o l.length (flatS l)) ∧ Hid (Bodies w.heap.size wr l) ∧ Hid (allF (bs.length + 1) bs = glue (l.map Sec.kb) (allF (bs.length + 1) rest)) ∧ Hid (Below w.heap.size w wr)) (fun b _ _ => lenOf b)
  case atStart => exact ⟨a, cp, [], bs, rfl, hcp, by simp, HL, Lib.hid (World.ownsRow_nil _ _ _ _), Lib.hid (fun s hs => by simp at hs), Lib.hid (glue_nil _ (allF_shape _ _)).symm, Lib.hid (Below.refl _ _)⟩
  case round =>
    obtain ⟨a', cp', l, rest, rfl, hc', hlr, hL, hO, hBo, hA, hB⟩ := hrel
    have hBs := hB.out.size
    obtain ⟨n, hn⟩ : ∃ n, n = rest.length := ⟨_, rfl⟩
    rw [← hn] at hc' hlr ⊢
    have HN := Lib.hid hn
    by_cases h0 : 0 < n
    · have hne : rest ≠ [] := fun e => by subst e; simp at hn; omega
      have hgt := get_any a' cp' rest wr (hL.out.later hB.out) (by omega) (by omega)
      rw [← hn] at hgt
      have HG := Lib.hid hgt
      have HNE := Lib.hid hne
      have hd0 : decide ((0 : Int) < (n : Int)) = true := by simp; omega
      clear hgt hne hn
      go_wp2_with fail
      refine HG.out.mono ?_
      rintro e w1 ⟨⟨v, rfl, hown⟩, hB1⟩
      obtain ⟨va, vc, ev, hvc, hvl, hvb, _⟩ := own_shape hown
      subst ev
      obtain ⟨kd, hkd⟩ : ∃ kd, kd = (got rest).1 := ⟨_, rfl⟩
      obtain ⟨bd, hbd⟩ : ∃ bd, bd = (got rest).2.1 := ⟨_, rfl⟩
      obtain ⟨m, hm'⟩ : ∃ m, m = (got rest).2.2.1 := ⟨_, rfl⟩
      obtain ⟨er, her⟩ : ∃ er, er = (got rest).2.2.2 := ⟨_, rfl⟩
      rw [← hbd] at hvc hvl
      rw [← hkd, ← hbd, ← hm', ← her]
      unfold bv
      have HOWN := Lib.hid (show OwnB w1 wr.heap.size (.slice va bd.length vc) bd by rw [hbd]; exact hown)
      have HVL := Lib.hid hvl
      have HVB := Lib.hid hvb
      have HKD := Lib.hid hkd
      have HBD := Lib.hid hbd
      have HM' := Lib.hid hm'
      have HER := Lib.hid her
      have HB1 := Lib.hid hB1
      clear hown hvl hvb hkd hbd hm' her hB1
      by_cases he : er = 0
      · subst he
        have hgp := got_pos (bs := rest) (by rw [← HER.out])
        have hm13 : 13 ≤ m := by rw [HM'.out]; exact hgp.1
        have hmn : m ≤ n := by rw [HM'.out, HN.out]; exact hgp.2
        have halA := (Below.refl w1.heap.size w1).alloc (Nat.le_refl _) (.cells #[.int .u8 (kd.toNat : Int), .slice va bd.length vc] 104)
        have halB := halA.alloc (by simp) (.cells #[.int .u8 (kd.toNat : Int), .slice va bd.length vc] 104)
        have hO1 := own_later (own_later hO.out HB1.out) halB
        have hBs1 := HB1.out.size
        have hcel : ∀ j u, ([.int .u8 (kd.toNat : Int), .slice va bd.length vc] : List Value)[j]? = some u → ((w1.alloc (.cells #[.int .u8 (kd.toNat : Int), .slice va bd.length vc] 104)).alloc (.cells #[.int .u8 (kd.toNat : Int), .slice va bd.length vc] 104)).cell? ((⟨w1.heap.size + 1, 0, none⟩ : Addr).add j) = some u := fun j u hu => by
          have h9 := lies_add (new_lies (w1.alloc (.cells #[.int .u8 (kd.toNat : Int), .slice va bd.length vc] 104)) 104 #[.int .u8 (kd.toNat : Int), .slice va bd.length vc]) j u hu
          rw [World.size_alloc] at h9
          exact h9
        have HCEL := Lib.hid hcel
        have HALB := Lib.hid halB
        clear hcel halA halB
        go_wp2_with (first | (at_builtin; refine wpList_append_own _ rfl _ _ 109 rfl w.heap.size 104 i0 (.agg #[.int .u8 0, .slice none 0 0]) 2 32 Tryz.underlying109 hi0 hz0 hz1 hz2 rfl (by decide) _ _ _ rfl hO1 ⟨w1.heap.size + 1, 0, none⟩ 1 1 [.int .u8 (kd.toNat : Int), .slice va bd.length vc] rfl rfl HCEL.out ?c2 ?c3 ?c4 ?c5 ?_))
        case c2 => intro u hu; simp at hu; rcases hu with rfl | rfl <;> rfl
        case c3 => unfold maxLen; omega
        case c4 => omega
        case c5 => simp; omega
        intro v' w2 hown2 hgrow2 _
        have hB2 : Below w.heap.size w w2 := ((hB.out.trans (HB1.out.mono hBs)).trans (HALB.out.mono (by omega))).grown hgrow2 (by simp; omega) (fun q hq => (hO1.lt q hq).1)
        have hBo2 : Bodies w.heap.size w2 (l ++ [⟨(got rest).1, bd, va, vc⟩]) := fun x hx => by
          have h1 : OwnB ((w1.alloc (.cells #[.int .u8 (kd.toNat : Int), .slice va bd.length vc] 104)).alloc (.cells #[.int .u8 (kd.toNat : Int), .slice va bd.length vc] 104)) w.heap.size (.slice x.a x.body.length x.cp) x.body := by
            rcases List.mem_append.1 hx with hx | hx
            · exact own_later (own_later (hBo.out x hx) HB1.out) HALB.out
            · obtain rfl : x = (⟨(got rest).1, bd, va, vc⟩ : Sec) := by simpa using hx
              exact own_mono (own_later HOWN.out HALB.out) hBs
          exact World.ownsRow.kept h1 hgrow2 (own_apart h1 hO1 (by decide))
        have hO2 : w2.ownsRow w.heap.size 104 2 v' (l ++ [(⟨(got rest).1, bd, va, vc⟩ : Sec)]).length (flatS (l ++ [(⟨(got rest).1, bd, va, vc⟩ : Sec)])) := by
          rw [List.length_append, flatS_snoc, Sec.vs, ← HKD.out]
          exact hown2
        have hA2 : allF (bs.length + 1) bs = glue ((l ++ [(⟨(got rest).1, bd, va, vc⟩ : Sec)]).map Sec.kb) (allF (bs.length + 1) (rest.drop m)) := by
          have hne : rest ≠ [] := HNE.out
          rw [hA.out, allF_step (by have := HN.out; omega) hne HER.out.symm, List.map_append, ← HM'.out, ← HBD.out]
          rfl
        have hdl : (rest.drop m).length = n - m := by rw [List.length_drop, ← HN.out]
        obtain ⟨ga, oa, ea, hga, hca⟩ := hL.out.resolve_left (fun e => HNE.out (by simpa using e))
        have hLd : Lies w (some ⟨ga, oa + m, none⟩) ((rest.drop m).map bv) := by
          rw [List.map_drop]
          exact Lies.drop (.inr ⟨ga, oa, rfl, hga, hca⟩) m
        have HLD := Lib.hid hLd
        have HBO2 := Lib.hid hBo2
        have HO2 := Lib.hid hO2
        have HA2 := Lib.hid hA2
        have HB2 := Lib.hid hB2
        have HDL := Lib.hid hdl
        subst ea
        clear hown2 hgrow2 hO1 hB2 hBo2 hO2 hA2 hdl hLd hca hgp HALB HCEL
        have hmc : m ≤ cp' := by omega
        by_cases hlast : m = cp'
        · subst hlast
          obtain rfl : n = m := by omega
          have hnil : rest.drop n = [] := List.eq_nil_of_length_eq_zero (by rw [HDL.out]; omega)
          have hA3 := HA2.out
          rw [hnil] at hA3
          have HA3 := Lib.hid hA3
          clear hnil hA3
          go_wp2_with fail
          go_roundw
          case rel => exact ⟨_, _, l ++ [(⟨(got rest).1, bd, va, vc⟩ : Sec)], [], by simp; exact ⟨rfl, rfl⟩, Nat.zero_le _, by simp; omega, Lib.hid (.inl rfl), HO2, HBO2, HA3, HB2⟩
          case measure => simp [lenOf]; omega
        · have hlt9 : m < cp' := by omega
          go_wp2_with fail
          go_roundw
          case rel => exact ⟨_, _, l ++ [(⟨(got rest).1, bd, va, vc⟩ : Sec)], rest.drop m, by rw [HDL.out], by rw [HDL.out]; omega, by rw [HDL.out]; simp; omega, HLD, HO2, HBO2, HA2, HB2⟩
          case measure => simp [lenOf]; omega
      · have hbad : allF (bs.length + 1) bs = ([], er) := by
          rw [hA.out, allF_bad (by have := HN.out; omega) HNE.out (by rw [← HER.out]; exact he), ← HER.out]
          unfold glue
          rw [if_neg he]
        have HBAD := Lib.hid hbad
        have hs1 := HB1.out.size
        have hde : (er == 0) = false := by simpa using he
        clear hbad
        go_wp2_with fail
        go_ret2
        refine ⟨⟨_, [], by rw [HBAD.out]; rfl, World.ownsRow_nil _ _ _ _, by rw [HBAD.out]; rfl, fun x hx => by simp at hx⟩, ?_⟩
        exact (hB.out.trans (HB1.out.mono hBs)).trans ((Below.refl w1.heap.size w1).alloc (Nat.le_refl _) _ |>.mono (by omega))
    · obtain rfl : n = 0 := by omega
      have hr : rest = [] := List.eq_nil_of_length_eq_zero hn.symm
      have hfin : allF (bs.length + 1) bs = (l.map Sec.kb, 0) := by
        rw [hA.out, hr, allF_nil]
        unfold glue
        simp
      have HFIN := Lib.hid hfin
      clear hfin hr hn
      go_wp2_with fail
      go_ret2
      exact ⟨⟨_, l, by rw [HFIN.out]; rfl, hO.out, by rw [HFIN.out], hBo.out⟩, hB.out⟩
end Go.Proofs.YtcdcnhecimajkaaGreat.Frame

/- Layer 11: Put of a number behind nothing. -/
namespace Go.Proofs.YtcdcnhecimajkaaGreat.Text
open Go.RowKit Go.Deep Mem Crc

/-- A digit. -/
def dig (n : Nat) : UInt8 := UInt8.ofNat (48 + n % 10)
/-- A number's digits ahead of others. -/
def decA : Nat → Nat → List UInt8 → List UInt8
  | 0, _, acc => acc
  | f + 1, n, acc => if n / 10 = 0 then dig n :: acc else decA f (n / 10) (dig n :: acc)
/-- A number in decimal. -/
def dec (n : Nat) : List UInt8 := decA 20 n []
theorem decA_length : ∀ (f n : Nat) (acc : List UInt8), (decA f n acc).length ≤ acc.length + f
  | 0, _, _ => Nat.le_refl _
  | f + 1, n, acc => by
    unfold decA
    split
    · simp
    · have := decA_length f (n / 10) (dig n :: acc)
      simp at this
      omega
theorem dig_nat (n : Nat) : (dig n).toNat = 48 + n % 10 := by unfold dig; simp; omega
/-- Twenty cells of nought. -/
abbrev z20 : Array Value := #[.int .u8 0, .int .u8 0, .int .u8 0, .int .u8 0, .int .u8 0, .int .u8 0, .int .u8 0, .int .u8 0, .int .u8 0, .int .u8 0, .int .u8 0, .int .u8 0, .int .u8 0, .int .u8 0, .int .u8 0, .int .u8 0, .int .u8 0, .int .u8 0, .int .u8 0, .int .u8 0]
theorem zeros20 : z20.toList = List.replicate 20 (Value.int .u8 0) := rfl
/-- The digits' block: the last ones are written. -/
structure Digits (g k : Nat) (acc : List UInt8) (w : World) : Prop where
  len : acc.length = k
  top : k ≤ 20
  blk : ∃ cs, Blk w g 131 cs ∧ cs.size = 20 ∧ (∀ j, j < 20 - k → cs[j]? = some (.int .u8 0)) ∧ ∀ j x, acc[j]? = some x → cs[20 - k + j]? = some (bv x)
theorem len20 : Tryz.prog.arrayLen 131 = 20 := by kernel_rfl
theorem elem20 : Tryz.prog.elem 131 = 5 := by kernel_rfl
theorem und20 : Tryz.prog.underlying 131 = some (.array (Tryz.prog.arrayLen 131) (Tryz.prog.elem 131)) := by rw [len20, elem20]; exact Tryz.underlying131
theorem size8 (w : World) : (sizeOf 5).run Tryz.prog w = .ok 1 w := by kernel_rfl
theorem slice20 (g j : Nat) (hj : j < 20) (w : World) : (Instr.sliceAt 131 (.pointer (some ⟨g, 0, none⟩)) (some (.int .i64 (j : Int))) none none).run Tryz.prog w = .ok (.slice (some ⟨g, j, none⟩) (20 - j) (20 - j)) w := by
  rw [run_sliceAt_array_l w 131 ⟨g, 0, none⟩ und20 .i64 (j : Int) (by omega) (by rw [len20]; omega), elem20, size8, len20]
  have : ¬ 20 = j := by omega
  simp [slicedAt, Addr.add, Result.andThen, this]
  omega
set_option maxHeartbeats 400000 in
set_option maxRecDepth 100000 in
theorem put_nil (n : Nat) (w : World) (hn : n < 18446744073709551616) :
    Calls Tryz.prog 43 #[.slice none 0 0, .int .u64 n] w fun e w' => ∃ v, e = .returned v ∧ OwnB w' w.heap.size v (dec n) ∧ Below w.heap.size w w' := by
  obtain ⟨i0, hi0, hz0, hz1, hz2⟩ := info_parts infoB8
  have hz : z20.size = 20 := by rw [← Array.length_toList, zeros20, List.length_replicate]
  have hal := (Below.refl w.heap.size w).alloc (Nat.le_refl _) (.cells z20 131)
  have hb1 : Digits w.heap.size 0 [] (w.alloc (Obj.cells z20 131)) := by
    refine ⟨rfl, by omega, _, Blk.new w _ _, hz, fun j hj => ?_, fun j x hx => by simp at hx⟩
    rw [← Array.getElem?_toList, zeros20, List.getElem?_replicate, if_pos hj]
  have HAL := Lib.hid hal
  have HB1 := Lib.hid hb1
  clear hal hb1 hz
  go_enter Tryz.func43, Tryz.ntmps43
  go_wp2_with fail
  go_loopw [1, 6] (fun x i wr => ∃ (k m : Nat) (acc : List UInt8), k < 20 ∧ i = .int .i64 ((20 - k : Nat) : Int) ∧ x = .int .u64 m ∧ m < 18446744073709551616 ∧ m * 10 ^ k < 18446744073709551616 ∧ (k = 0 ∨ 0 < m) ∧ Hid (dec n = decA (20 - k) m acc) ∧ Hid (Digits w.heap.size k acc wr) ∧ Hid (Below w.heap.size w wr)) (fun x _ _ => (intOf x).toNat)
  case atStart => exact ⟨0, n, [], by omega, rfl, rfl, hn, by omega, .inl rfl, Lib.hid rfl, HB1, HAL⟩
  case round =>
    obtain ⟨k, m, acc, hk, rfl, rfl, hm, hmk, hk0, hd, hD, hB⟩ := hrel
    obtain ⟨hacc, _, cs, hcs, hsz, hzr, hat⟩ := hD.out
    obtain ⟨j, hj⟩ : ∃ j, j = 19 - k := ⟨_, rfl⟩
    have hj20 : 20 - k = j + 1 := by omega
    have c0 := (hcs.cell j).trans (hzr j (by omega))
    have fz := hcs.frozen j
    rw [hj20]
    have hdg := dig_nat m
    have HC := Lib.hid hcs
    have HZ := Lib.hid hzr
    have HA := Lib.hid hat
    have HS := Lib.hid hsz
    have hw1 : IntKind.i64.wrap (((j + 1 : Nat) : Int) - 1) = j := by rw [show ((j + 1 : Nat) : Int) - 1 = j by omega]; exact IntWalk.i64_in _ (by omega)
    have hset := (hcs.set j (.int .u8 (48 + (m : Int) % 10)))
    have hbel := hB.out.setCell (show w.heap.size ≤ (⟨w.heap.size, j, none⟩ : Addr).block from Nat.le_refl _) (.int .u8 (48 + (m : Int) % 10))
    have hD2 : Digits w.heap.size (k + 1) (dig m :: acc) (wr.setCell ⟨w.heap.size, j, none⟩ (.int .u8 (48 + (m : Int) % 10))) := by
      refine ⟨by simp [hacc], by omega, _, hset, by rw [Array.size_setIfInBounds]; exact hsz, fun q hq => ?_, fun q x hx => ?_⟩
      · rw [Array.getElem?_setIfInBounds, if_neg (by omega)]
        exact hzr q (by omega)
      · cases q with
        | zero =>
          have e : dig m = x := by simpa using hx
          subst e
          rw [Array.getElem?_setIfInBounds, if_pos (by omega), if_pos (by omega)]
          unfold bv
          rw [hdg]
          congr 2
        | succ q =>
          have hx' : acc[q]? = some x := by simpa using hx
          rw [Array.getElem?_setIfInBounds, if_neg (by omega)]
          have := hat q x hx'
          rw [show 20 - (k + 1) + (q + 1) = 20 - k + q by omega]
          exact this
    have HD2 := Lib.hid hD2
    have HB2 := Lib.hid hbel
    clear hset hbel hD2 hcs hzr hat hsz hdg hj
    by_cases hlast : m / 10 = 0
    · have hq : ((m : Int) / 10 == 0) = true := by simp; omega
      have hsl := fun w' => slice20 w.heap.size j (by omega) w'
      obtain ⟨hl2, _, cs2, hcs2, hsz2, _, hat2⟩ := HD2.out
      have hlies : ∀ q u, ((dig m :: acc).map bv)[q]? = some u → (wr.setCell ⟨w.heap.size, j, none⟩ (.int .u8 (48 + (m : Int) % 10))).cell? ((⟨w.heap.size, j, none⟩ : Addr).add q) = some u := fun q u hu => by
        have e : (⟨w.heap.size, j, none⟩ : Addr).add q = ⟨w.heap.size, j + q, none⟩ := by unfold Addr.add; split <;> simp_all
        rw [List.getElem?_map] at hu
        cases hx : (dig m :: acc)[q]? with
        | none => rw [hx] at hu; cases hu
        | some x =>
          rw [hx] at hu
          have := hat2 q x hx
          rw [e, hcs2.cell, show j + q = 20 - (k + 1) + q by omega, this]
          exact hu
      have HLS := Lib.hid hlies
      have H1 := Lib.hid (oneCell_bytes (dig m :: acc))
      have hnil := World.ownsRow_nil (wr.setCell ⟨w.heap.size, j, none⟩ (.int .u8 (48 + (m : Int) % 10))) w.heap.size 5 1
      have hdec : dec n = dig m :: acc := by
        rw [hd.out, hj20]
        unfold decA
        rw [if_pos hlast]
      have HDEC := Lib.hid hdec
      have hl3 : (dig m :: acc).length = 20 - j := by rw [hl2]; omega
      have HL3 := Lib.hid hl3
      have hsz3 := HB2.out.size
      clear hlies hdec hl3 hcs2 hat2 hsz2
      go_wp2_with (first | (at_builtin; refine wpList_append_own _ rfl _ _ 36 rfl w.heap.size 5 i0 (.int .u8 0) 1 1 Tryz.underlying36 hi0 hz0 hz1 hz2 rfl (by decide) _ _ _ rfl hnil ⟨w.heap.size, j, none⟩ (20 - j) (20 - j) ((dig m :: acc).map bv) rfl ?c1 HLS.out H1.out ?c3 ?c4 ?c5 ?_))
      case c1 => rw [List.length_map, HL3.out, Nat.mul_one]
      case c3 => unfold maxLen; omega
      case c4 => omega
      case c5 => exact hsz3
      intro v' w2 hown2 hgrow2 _
      have hB3 := HB2.out.grown hgrow2 hsz3 (fun q hq => by cases hq)
      have hO2 : OwnB w2 w.heap.size v' (dec n) := by
        unfold OwnB
        rw [HDEC.out, HL3.out]
        simpa using hown2
      have HO2 := Lib.hid hO2
      clear hown2 hgrow2 hO2 hnil
      go_wp2_with fail
      go_ret
      exact ⟨v', rfl, HO2.out, hB3⟩
    · have hq : ((m : Int) / 10 == 0) = false := by simp; omega
      have hk19 : k < 19 := by
        apply Nat.lt_of_not_le
        intro h19
        have h1 : 10 ^ 19 ≤ 10 ^ k := Nat.pow_le_pow_right (by decide) h19
        have h2 : 10 ≤ m := by omega
        have h3 : 10 * 10 ^ 19 ≤ m * 10 ^ k := Nat.mul_le_mul h2 h1
        have h4 : (10 : Nat) * 10 ^ 19 = 100000000000000000000 := by decide
        omega
      have hpow : m / 10 * 10 ^ (k + 1) < 18446744073709551616 := by
        rw [Nat.pow_succ, Nat.mul_comm (10 ^ k) 10, ← Nat.mul_assoc]
        exact Nat.lt_of_le_of_lt (Nat.mul_le_mul_right _ (Nat.div_mul_le_self m 10)) hmk
      have hdec : dec n = decA (20 - (k + 1)) (m / 10) (dig m :: acc) := by
        rw [hd.out, hj20]
        conv => lhs; unfold decA
        rw [if_neg hlast, show 20 - (k + 1) = j by omega]
      have HDEC := Lib.hid hdec
      have HPOW := Lib.hid hpow
      clear hdec hpow hmk
      go_wp2_with fail
      refine ⟨⟨k + 1, m / 10, dig m :: acc, by omega, ?_, by simp, by omega, HPOW.out, .inr (by omega), HDEC, HD2, HB2⟩, ?_⟩
      · rw [show 20 - (k + 1) = j by omega]
      · simp [intOf]; omega
end Go.Proofs.YtcdcnhecimajkaaGreat.Text

/- Layer 8: a disk that nothing was written to. -/
namespace Go.Proofs.YtcdcnhecimajkaaGreat.Disk
open Go.RowKit Go.Deep Go.Shelf Mem Crc

def zs (n : Nat) : Array Value := Array.replicate n (.int .u8 0)
/-- A blank disk of n blocks at block d; its bytes lie in block g. -/
structure Blank (w : World) (d g n : Nat) (off : Bool) : Prop where
  disk : Blk w d 74 #[.slice (some ⟨g, 0, none⟩) n n, .slice none 0 0, .bool off, .int .i64 (-1)]
  row : Blk w g 154 (zs (n * 128))
theorem info128 : (Tryz.prog.info? 154).map (fun i => (i.zero, i.size, i.bytes)) = some (some (.agg (zs 128)), 128, 128) := by kernel_rfl
theorem made_zs (m : Nat) : madeCells (zs 128) m = zs m := by
  apply Array.ext
  · simp [madeCells, zs]
  · intro i h1 h2
    have h3 : i % 128 < 128 := Nat.mod_lt _ (by decide)
    simp only [madeCells, zs, Array.size_replicate, Array.getElem_map, Array.getElem_range, Array.getElem_replicate]
    rw [getElem!_pos _ _ (by simpa using h3), Array.getElem_replicate]
set_option maxHeartbeats 400000 in
set_option maxRecDepth 100000 in
theorem new_any (n : Nat) (w : World) (h : 1 ≤ n) (h2 : n ≤ 2000) :
    Calls Tryz.prog 22 #[.int .i64 (n : Int)] w fun e w' => ∃ d g, e = .returned (.tuple #[.pointer (some ⟨d, 0, none⟩), .int .i64 0]) ∧ Blank w' d g n false ∧ w.heap.size ≤ d ∧ w.heap.size ≤ g ∧ Below w.heap.size w w' := by
  have h1 : decide ((n : Int) < 1) = false := by simp; omega
  have h3 : decide (65536 < (n : Int)) = false := by simp; omega
  obtain ⟨i0, hi0, hz0, hz1, hz2⟩ := info_parts info128
  have hmk : (Instr.makeSlice 71 (.int .i64 (n : Int)) (.int .i64 (n : Int))).run Tryz.prog w = .ok (.slice (some ⟨w.heap.size, 0, none⟩) n n) (w.alloc (.cells (zs (n * 128)) 154)) := by
    have e := run_makeSlice w (P := Tryz.prog) 71 154 i0 (.agg (zs 128)) Tryz.underlying71 hi0 hz0 .i64 .i64 n n (by omega) (by omega) (by rw [hz1]; simp; omega) (by rw [hz2]; omega) (by omega)
    simp only [Value.cells, hz1, made_zs, Int.toNat_natCast] at e
    exact e
  go_enter Tryz.func22, Tryz.ntmps22
  go_wp2_with fail
  go_ret2
  exact ⟨_, w.heap.size, rfl, ⟨Blk.at_ (by simp), (Blk.new w _ _).alloc _⟩, by simp, Nat.le_refl _, ((Below.refl _ w).alloc (Nat.le_refl _) _).alloc (by simp) _⟩
theorem Blank.later {d g n : Nat} {off : Bool} {w w' : World} (h : Blank w d g n off) (hB : Below w.heap.size w w') : Blank w' d g n off := ⟨h.disk.below hB h.disk.lt, h.row.below hB h.row.lt⟩
theorem Blank.keep {d g n : Nat} {off : Bool} {w w' : World} (h : Blank w d g n off) (h1 : w'.heap[d]? = w.heap[d]?) (h2 : w'.heap[g]? = w.heap[g]?) : Blank w' d g n off := ⟨h1.trans h.disk, h2.trans h.row⟩

theorem count_any {d g n : Nat} {off : Bool} {w : World} (h : Blank w d g n off) :
    Calls Tryz.prog 38 #[.pointer (some ⟨d, 0, none⟩)] w fun e w' => e = .returned (.int .i64 (n : Int)) ∧ w' = w := by
  have c0 := h.disk.cell 0
  simp at c0
  clear h
  go_enter Tryz.func38, Tryz.ntmps38
  go_wp2_with fail
  go_ret
  exact ⟨rfl, rfl⟩
theorem on_any {d g n : Nat} {off : Bool} {w : World} (h : Blank w d g n off) :
    Calls Tryz.prog 79 #[.pointer (some ⟨d, 0, none⟩)] w fun e w' => e = .returned (.bool !off) ∧ w' = w := by
  have c2 := h.disk.cell 2
  simp at c2
  clear h
  go_enter Tryz.func79, Tryz.ntmps79
  cases off
  · go_wp2_with fail
    go_ret
    exact ⟨rfl, rfl⟩
  · go_wp2_with fail
    go_ret
    exact ⟨rfl, rfl⟩
theorem there_any {d g n : Nat} {off : Bool} (i : Nat) {w : World} (h : Blank w d g n off) (hi : i < n) :
    Calls Tryz.prog 114 #[.pointer (some ⟨d, 0, none⟩), .int .i64 (i : Int)] w fun e w' => e = .returned (.bool true) ∧ w' = w := by
  have hC := Lib.hid (count_any h)
  clear h
  have h0 : decide ((0 : Int) ≤ (i : Int)) = true := by simp
  have h1 : decide ((i : Int) < (n : Int)) = true := by simp; omega
  go_enter Tryz.func114, Tryz.ntmps114
  go_wp2_with fail
  refine hC.out.mono ?_
  rintro e w1 ⟨rfl, rfl⟩
  go_wp2_with fail
  go_ret
  exact ⟨rfl, rfl⟩
theorem may_on {d g n : Nat} (i : Nat) {w : World} (h : Blank w d g n false) (hi : i < n) :
    Calls Tryz.prog 93 #[.pointer (some ⟨d, 0, none⟩), .int .i64 (i : Int)] w fun e w' => e = .returned (.int .i64 0) ∧ w' = w := by
  have hC := Lib.hid (on_any h)
  have hT := Lib.hid (there_any i h hi)
  clear h
  go_enter Tryz.func93, Tryz.ntmps93
  go_wp2_with fail
  refine hC.out.mono ?_
  rintro e w1 ⟨rfl, rfl⟩
  go_wp2_with fail
  refine hT.out.mono ?_
  rintro e w1 ⟨rfl, rfl⟩
  go_wp2_with fail
  go_ret
  exact ⟨rfl, rfl⟩
theorem off_any {d g n : Nat} {off : Bool} {w : World} (h : Blank w d g n off) :
    Calls Tryz.prog 21 #[.pointer (some ⟨d, 0, none⟩)] w fun e w' => e = .returned (.tuple #[]) ∧ Blank w' d g n true ∧ Only [d] w w' := by
  have fz := h.disk.frozen 2
  have hne := h.disk.ne h.row (by decide)
  have hb : Blank (w.setCell ⟨d, 2, none⟩ (.bool true)) d g n true := ⟨h.disk.set 2 (.bool true), h.row.far (Ne.symm hne) _⟩
  have ho := (Only.refl [d] w).set (p := ⟨d, 2, none⟩) (.inl (by simp)) (.bool true)
  have HB := Lib.hid hb
  have c2 := h.disk.cell 2
  simp at c2
  clear h hb
  go_enter Tryz.func21, Tryz.ntmps21
  go_wp2_with fail
  go_end0
  exact ⟨rfl, HB.out, ho⟩
theorem infoB : (Tryz.prog.info? 154).map (·.size) = some 128 := by kernel_rfl
theorem zero128 : Tryz.zeroCells154 = zs 128 := by kernel_rfl
theorem row_range {w : World} {g n i : Nat} (h : Blk w g 154 (zs (n * 128))) (hi : i < n) : w.rangeAt g (i * 128) (List.replicate 128 (.int .u8 0)) := fun j v hv => by
  rw [h.cell]
  obtain ⟨hj, hv2⟩ := List.getElem?_eq_some_iff.1 hv
  rw [List.length_replicate] at hj
  rw [List.getElem_replicate] at hv2
  subst hv2
  unfold zs
  rw [Array.getElem?_replicate, if_pos (by omega)]
theorem new_there (w : World) (t : TypeId) (m : Nat) : (w.alloc (.cells (zs m) t)).there w.heap.size 0 m := fun j hj => by
  have h := Blk.new w t (zs m)
  refine ⟨?_, h.frozen _⟩
  rw [h.cell]
  unfold zs
  rw [Nat.zero_add, Array.getElem?_replicate, if_pos hj]
  rfl
theorem backward_nil (w : World) : Calls Tryz.prog 105 #[.slice none 0 0] w fun e w' => e = .returned (.func (.func 138) #[] #[.pointer (some ⟨w.heap.size, 0, none⟩)]) ∧ w' = w.alloc (.cells #[.slice none 0 0] 72) := by
  go_enter Tryz.func105, Tryz.ntmps105
  go_wp2_with fail
  go_ret
  exact ⟨rfl, rfl⟩
/-- Ranged over it gives nothing. -/
theorem backward_stops (m B : Nat) (w : World) (hB : B < w.heap.size) (hc : w.cell? ⟨B, 0, none⟩ = some (.slice none 0 0)) :
    SeqStopsK Fence.wide m Tryz.prog 138 #[.pointer (some ⟨B, 0, none⟩)] (fun _ : Empty => #[Value.int .i64 0, Value.int .i64 0]) (fun _ _ => True) (fun ys => ys = []) (fun _ => False) 0 w := fun l J Jx W hW _ _ _ h0 => by
  have hc' := (hW.cell (p := ⟨B, 0, none⟩) hB).trans hc
  refine callsIn_wide.2 ?_
  go_enter Tryz.func138, Tryz.ntmps138
  go_wp2_with fail
  go_loopw [3] (fun i wr => i = .int .i64 (-1) ∧ wr = W) (fun _ _ => 0)
  case atStart => exact ⟨rfl, rfl⟩
  case round =>
    obtain ⟨rfl, rfl⟩ := hrel
    go_wp2_with fail
    go_end0
    exact ⟨⟨_, rfl⟩, .inl ⟨[], rfl, h0⟩⟩
theorem len128 : Tryz.prog.arrayLen 154 = 128 := by kernel_rfl
theorem elem128 : Tryz.prog.elem 154 = 5 := by kernel_rfl
theorem und128 : Tryz.prog.underlying 154 = some (.array (Tryz.prog.arrayLen 154) (Tryz.prog.elem 154)) := by rw [len128, elem128]; exact Tryz.underlying154
theorem size8d (w : World) : (sizeOf 5).run Tryz.prog w = .ok 1 w := by kernel_rfl
theorem slice128 (g : Nat) (w : World) : (Instr.sliceAt 154 (.pointer (some ⟨g, 0, none⟩)) none none none).run Tryz.prog w = .ok (.slice (some ⟨g, 0, none⟩) 128 128) w := by
  rw [run_sliceAt_array_all w 154 ⟨g, 0, none⟩ und128, elem128, size8d, len128]
  simp [slicedAt, Addr.add, Result.andThen]
theorem Below.setCells_at {B g : Nat} (hg : B ≤ g) : ∀ (vs : List Value) (o : Nat) {a w : World}, Below B a w → Below B a (w.setCells g o vs)
  | [], _, _, _, h => h
  | v :: r, o, _, _, h => Below.setCells_at hg r (o + 1) (h.setCell (p := ⟨g, o, none⟩) hg v)
set_option maxHeartbeats 400000 in
set_option maxRecDepth 100000 in
theorem read_any {d g n : Nat} (i : Nat) {w : World} (h : Blank w d g n false) (hi : i < n) :
    Calls Tryz.prog 88 #[.pointer (some ⟨d, 0, none⟩), .int .i64 (i : Int)] w fun e w' => ∃ a, e = .returned (.tuple #[.slice a 128 128, .int .i64 0]) ∧ Lies w' a ((List.replicate 128 0).map bv) ∧ Below w.heap.size w w' := by
  have hal := (Below.refl w.heap.size w).alloc (Nat.le_refl _) (Obj.cells #[Value.int .i64 (i : Int)] 3)
  have h1 := h.later hal
  have hM := Lib.hid (may_on i h1 hi)
  have c0 := h1.disk.cell 0
  have c1 := h1.disk.cell 1
  have ci : (w.alloc (Obj.cells #[Value.int .i64 (i : Int)] 3)).cell? ⟨w.heap.size, 0, none⟩ = some (.int .i64 (i : Int)) := by rw [(Blk.new w 3 #[Value.int .i64 (i : Int)]).cell]; rfl
  simp at c0 c1
  obtain ⟨zl, hzl⟩ : ∃ zl : List Value, zl = List.replicate 128 (.int .u8 0) := ⟨_, rfl⟩
  have hrow := row_range h1.row hi
  rw [← hzl] at hrow
  have hzo : ∀ v ∈ zl, v.oneCell' = true := fun v hv => by rw [hzl, List.mem_replicate] at hv; rw [hv.2]; rfl
  have hzn : zl.length = 128 := by rw [hzl, List.length_replicate]
  have hu : Tryz.prog.underlying 154 = _ := Tryz.underlying154
  have hinf : (Tryz.prog.info? 154).map (·.size) = some zl.length := by rw [hzn]; exact infoB
  have hinf2 : (Tryz.prog.info? 154).map (·.size) = some zl.toArray.size := by simp only [List.size_toArray, hzn]; exact infoB
  obtain ⟨A, hA⟩ : ∃ A, A = w.alloc (Obj.cells #[Value.int .i64 (i : Int)] 3) := ⟨_, rfl⟩
  have hAs : A.heap.size = w.heap.size + 1 := by rw [hA]; simp
  rw [← hA] at h1 hM c0 c1 ci hrow hal
  have hth2 : (A.alloc (.cells Tryz.zeroCells154 154)).drew.there (w.heap.size + 1) 0 zl.toArray.size := by
    have e : zl.toArray.size = 128 := by simp [hzn]
    rw [e, zero128, ← hAs]
    exact new_there A 154 128
  have hS : ∀ W, Below A.heap.size A W → W.cell? ⟨d, 0, none⟩ = some (.slice (some ⟨g, 0, none⟩) n n) ∧ W.cell? ⟨w.heap.size, 0, none⟩ = some (.int .i64 (i : Int)) ∧ W.rangeAt g (i * 128) zl := fun W hW =>
    ⟨(hW.cell (p := ⟨d, 0, none⟩) h1.disk.lt).trans c0, (hW.cell (p := ⟨w.heap.size, 0, none⟩) (by show w.heap.size < _; omega)).trans ci, fun j v hv => (hW.cell (p := ⟨g, i * 128 + j, none⟩) h1.row.lt).trans (hrow j v hv)⟩
  have hS0 := hS A.drew ((Below.refl _ A).drew)
  have hB2 : Below A.heap.size A (A.alloc (.cells Tryz.zeroCells154 154)).drew := ((Below.refl _ A).alloc (Nat.le_refl _) _).drew
  have hS2 := hS _ hB2
  have hB3 := Below.setCells_at (g := w.heap.size + 1) (by omega) zl 0 hB2
  have hS3 := hS _ hB3
  have HB3 := Lib.hid hB3
  have HAA := Lib.hid hA
  have HZL := Lib.hid hzl
  have HZN := Lib.hid hzn
  have HA := Lib.hid hal
  have hin : (i : Int) < (n : Int) := by omega
  have HLT := Lib.hid (show d < w.heap.size + 1 from Nat.lt_succ_of_lt h.disk.lt)
  rw [hA] at hM hS0 hS2 hS3 c0 c1 hth2
  clear h h1 hal hzl hzn hrow ci hS hB2 hB3 hA
  refine (callsIn_wide (n := 5)).1 ?_
  refine callsIn_of_wp_marks Tryz.func88 rfl trivial ?_ rfl
  simp only [Tryz.ntmps88, List.size_toArray, List.length_cons, List.length_nil, Nat.reduceAdd, Nat.reduceSub, Array.replicate_succ, Array.replicate_zero, List.push_toArray, List.append_toArray, List.nil_append, List.cons_append]
  refine wpIn_wide.2 ?_
  go_wp2_with fail
  refine hM.out.mono ?_
  rintro e w1 ⟨rfl, rfl⟩
  go_wp2_with fail
  go_region_held3 (fun w' => w'.cell? ⟨d, 0, none⟩ = some (.slice (some ⟨g, 0, none⟩) n n) ∧ w'.cell? ⟨w.heap.size, 0, none⟩ = some (.int .i64 (i : Int)) ∧ w'.rangeAt g (i * 128) zl) (first | exact hS0 | exact hS2 | exact hS3) (skip)
  obtain ⟨W, hW⟩ : ∃ W, W = ((w.alloc (Obj.cells #[Value.int .i64 (i : Int)] 3)).alloc (Obj.cells Tryz.zeroCells154 154)).drew.setCells (w.heap.size + 1) 0 zl := ⟨_, rfl⟩
  have hBW : Below A.heap.size A W := by rw [hW, ← HAA.out]; exact HB3.out
  have d1 : W.cell? ⟨d, 1, none⟩ = some (.slice none 0 0) := (hBW.cell (p := ⟨d, 1, none⟩) (by rw [hAs]; exact HLT.out)).trans (by rw [HAA.out]; exact c1)
  have hBlk : Blk W (w.heap.size + 1) 154 zl.toArray := by
    have h0 : Blk ((w.alloc (Obj.cells #[Value.int .i64 (i : Int)] 3)).alloc (Obj.cells Tryz.zeroCells154 154)).drew (w.heap.size + 1) 154 (zs 128) := by rw [← zero128]; exact Blk.at_ (by simp)
    obtain ⟨cs', h1, h2⟩ := Blk.splice zl 0 _ _ h0 (by rw [HZN.out]; simp [zs])
    rw [hW]
    have e : cs' = zl.toArray := by
      apply Array.ext'
      rw [h2, Nat.zero_add, HZN.out]
      simp [zs]
    rw [← e]
    exact h1
  have hBw : Below w.heap.size w W := by
    have h1 : Below w.heap.size w A := by rw [HAA.out]; exact (Below.refl _ w).alloc (Nat.le_refl _) _
    exact h1.trans (hBW.mono (by omega))
  have hWs : w.heap.size + 1 < W.heap.size := hBlk.lt
  rw [← hW]
  have HBLK := Lib.hid hBlk
  have HBW := Lib.hid hBw
  clear hW hBW hBlk hBw c0 c1 hS0 hS2 hS3 hth2 HB3 HAA hM hu hinf hinf2
  go_wp2_with (go_at_call 105; refine (backward_nil _).mono ?_; rintro e w3 ⟨rfl, rfl⟩)
  refine (wpIn_wide (n := 4)).1 ?_
  refine wpIn_rangeFunc_ownG (α := Empty) (encs := fun _ => #[Value.int .i64 0, Value.int .i64 0]) (gf := 138) (lb := #[.pointer (some ⟨W.heap.size, 0, none⟩)]) rfl (by omega) rfl trivial (enters_of Tryz.func138 (by kernel_rfl) rfl)
    ((backward_stops _ W.heap.size (W.alloc (.cells #[.slice none 0 0] 72)) (by simp) (by rw [(Blk.new W 72 #[Value.slice none 0 0]).cell]; rfl))) (fun _ _ => trivial) (fun _ _ _ _ _ _ _ _ => trivial) (Below.refl _ _) (fun _ => rfl)
    (fun _ V => Below W.heap.size W V) (fun _ _ _ => False) (ownFrom_below (Nat.le_refl _) (by simp)) (fun _ _ _ _ _ hs _ _ => hs) ((Below.refl _ W).alloc (Nat.le_refl _) _) (fun _ => ⟨#[], []⟩) (fun _ x => nomatch x) (fun _ _ x => nomatch x) ?done (fun _ _ _ _ _ h _ _ => False.elim h)
  case done =>
    rintro D ys W1 hD rfl hB1 hK
    have hs1 := hB1.size
    dsimp only
    have HK := Lib.hid hK
    have HB1 := Lib.hid hB1
    have hrow := HBLK.out.below hB1 hWs
    have hslc := fun X : World => slice128 (w.heap.size + 1) X
    have HROW := Lib.hid hrow
    clear hK hB1 hrow
    go_wp2_with fail
    have hD' : w.heap.size + 1 < D := by simp at hD; omega
    have hBp : Below D W1 (W1.putObj D (.deferred none)) := (Below.refl D W1).grown (grownBy_putObj' W1 D _) (Nat.le_of_lt (Array.getElem?_eq_some_iff.1 HK.out).1) (fun k e => by cases e; exact Nat.le_refl _)
    have hrow2 := HROW.out.below hBp hD'
    refine ⟨by simp, .inl ⟨_, _, rfl, run_takeDeferred HK.out, ?_⟩⟩
    refine ⟨.tuple #[.slice (some ⟨w.heap.size + 1, 0, none⟩) 128 128, .int .i64 0], by simp [results, Tryz.results88, go_sem], _, rfl, ?_, (HBW.out.trans (HB1.out.mono (by omega))).trans (hBp.mono (by omega))⟩
    refine .inr ⟨_, _, rfl, hrow2.lt, fun j u hu => ?_⟩
    rw [hrow2.cell, Nat.zero_add, List.getElem?_toArray, HZL.out]
    rw [← hu]
    simp [bv]
end Go.Proofs.YtcdcnhecimajkaaGreat.Disk

/- Layer 9: a slot of a blank disk. -/
namespace Go.Proofs.YtcdcnhecimajkaaGreat.Man
open Go.RowKit Go.Deep Mem Crc Disk Go.Proofs.YtcdcnhecimajkaaGreat.Frame

def zb (n : Nat) : List UInt8 := List.replicate n 0
theorem zb_length (n : Nat) : (zb n).length = n := List.length_replicate
theorem got_zero : got (zb 2048) = (0, [], 0, 5) := by
  have h1 : ¬ (zb 2048).length < 9 := by unfold zb; rw [List.length_replicate]; decide
  have h2 : (zb 2048).take 9 = zb 9 := by unfold zb; rw [List.take_replicate]; rfl
  have h3 : fitsE (zb 9) = 5 := by kernel_rfl
  unfold got
  rw [if_neg h1, h2, h3]
  rfl
theorem lies_read {w : World} {a : Option Addr} (h : Lies w a ((List.replicate 128 (0 : UInt8)).map bv)) : ∃ ad, a = some ad ∧ ∀ j u, ((zb 128).map bv)[j]? = some u → w.cell? (ad.add j) = some u := by
  rcases h with h | ⟨g, off, rfl, h1, h2⟩
  · rw [List.map_eq_nil_iff] at h
    cases h
  · exact ⟨_, rfl, lies_add (.inr ⟨g, off, rfl, h1, h2⟩)⟩
set_option maxHeartbeats 400000 in
set_option maxRecDepth 100000 in
theorem slot_any {d g N : Nat} (n : Nat) (hn : n < 2) (hN : 33 ≤ N) {w : World} (h : Blank w d g N false) :
    Calls Tryz.prog 63 #[.pointer (some ⟨d, 0, none⟩), .int .i64 (n : Int)] w fun e w' => ∃ v, e = .returned (.tuple #[v, .int .i64 0]) ∧ OwnB w' w.heap.size v (zb 2048) ∧ Below w.heap.size w w' := by
  obtain ⟨i0, hi0, hz0, hz1, hz2⟩ := info_parts infoB8
  have H := Lib.hid h
  clear h
  go_enter Tryz.func63, Tryz.ntmps63
  go_wp2_with fail
  go_loopw [10, 6] (fun i o wr => ∃ j : Nat, j ≤ 16 ∧ i = .int .i64 (j : Int) ∧ Hid (OwnB wr w.heap.size o (zb (j * 128))) ∧ Hid (Below w.heap.size w wr)) (fun i _ _ => 16 - (intOf i).toNat)
  case atStart => exact ⟨0, by omega, rfl, Lib.hid (World.ownsRow_nil _ _ _ _), Lib.hid (Below.refl _ _)⟩
  case round =>
    obtain ⟨j, hj, rfl, hO, hB⟩ := hrel
    by_cases hj16 : j < 16
    · have hd : decide ((j : Int) < 16) = true := by simp; omega
      have hR := Lib.hid (read_any (n * 16 + j) (H.out.later hB.out) (by omega))
      have hsz := hB.out.size
      have hcast : ((n * 16 + j : Nat) : Int) = (n : Int) * 16 + (j : Int) := by push_cast; rfl
      rw [hcast] at hR
      clear hcast
      go_wp2_with fail
      refine hR.out.mono ?_
      rintro e w1 ⟨a, rfl, hL, hB1⟩
      have hO1 := own_later hO.out hB1
      obtain ⟨ad, rfl, hL2⟩ := lies_read hL
      have hnil := fun X : World => Lib.run_eql_slice_nil (P := Tryz.prog) X 36 5 (some ad) 128 128 0 0 Tryz.underlying36
      have HL := Lib.hid hL2
      have HB1 := Lib.hid hB1
      have H1 := Lib.hid (oneCell_bytes (zb 128))
      clear hL hL2 hB1 hd
      go_wp2_with (first | (at_builtin; refine wpList_append_own _ rfl _ _ 36 rfl w.heap.size 5 i0 (.int .u8 0) 1 1 Tryz.underlying36 hi0 hz0 hz1 hz2 rfl (by decide) _ _ _ rfl hO1 ad 128 128 ((zb 128).map bv) rfl (by simp [zb]) HL.out H1.out ?c3 ?c4 ?c5 ?_))
      case c3 => rw [zb_length]; unfold maxLen; omega
      case c4 => rw [zb_length]; omega
      case c5 => have := HB1.out.size; omega
      intro v' w2 hown2 hgrow2 _
      have hB2 : Below w.heap.size w w2 := (hB.out.trans (HB1.out.mono hsz)).grown hgrow2 (by have := HB1.out.size; omega) (fun q hq => (hO1.lt q hq).1)
      have hO2 : OwnB w2 w.heap.size v' (zb ((j + 1) * 128)) := by
        have e : zb ((j + 1) * 128) = zb (j * 128) ++ zb 128 := by unfold zb; rw [List.replicate_append_replicate, Nat.succ_mul]
        rw [e]
        unfold OwnB
        rw [List.length_append, List.map_append, zb_length 128]
        exact hown2
      have HB2 := Lib.hid hB2
      have HO2 := Lib.hid hO2
      clear hown2 hgrow2 hB2 hO2 hO1
      go_wp2_with fail
      go_roundw
      case rel => exact ⟨j + 1, hj16, by simp, HO2, HB2⟩
      case measure => simp [intOf]; omega
    · obtain rfl : j = 16 := by omega
      have hd : decide ((16 : Int) < 16) = false := by decide
      go_wp2_with fail
      go_ret2
      exact ⟨_, rfl, hO.out, hB.out⟩
theorem isnt_zero (w : World) : Calls Tryz.prog 65 #[.int .u8 0] w fun e w' => e = .returned (.bool false) ∧ w' = w := by
  go_enter Tryz.func65, Tryz.ntmps65
  go_wp2_with fail
  go_ret
  exact ⟨rfl, rfl⟩
set_option maxHeartbeats 400000 in
theorem index_zero (a : Option Addr) (cp n : Nat) (w : World) (h : Lies w a ((zb n).map bv)) (hn : n ≤ 4000000) :
    Calls Tryz.prog 89 #[.slice a n cp, .func (.func 65) #[] #[]] w fun e w' => e = .returned (.int .i64 (-1)) ∧ w' = w := by
  have H := Lib.hid h
  clear h
  go_enter Tryz.func89, Tryz.ntmps89
  go_wp2_with fail
  go_loopw [8] (fun i wr => ∃ j : Nat, j ≤ n ∧ i = .int .i64 (j : Int) ∧ wr = w) (fun i _ => n - (intOf i).toNat)
  case atStart => exact ⟨0, by omega, rfl, rfl⟩
  case round =>
    obtain ⟨j, hj, rfl, rfl⟩ := hrel
    by_cases hjn : j < n
    · obtain ⟨g, off, rfl, _, hc⟩ := H.out.resolve_left (fun e => by
        rw [List.map_eq_nil_iff] at e
        have := congrArg List.length e
        rw [zb_length] at this
        simp at this
        omega)
      have c0 : wr.cell? ⟨g, off + j, none⟩ = some (.int .u8 0) := by
        have := hc j (bv 0) (by unfold zb; rw [List.map_replicate, List.getElem?_replicate, if_pos hjn])
        exact this
      clear hc
      go_wp2_with (first | (go_at_call 65; refine (isnt_zero _).mono ?_; rintro e w1 ⟨rfl, rfl⟩))
      go_roundw
      case rel => exact ⟨j + 1, hjn, by simp, trivial⟩
      case measure => simp [intOf]; omega
    · obtain rfl : j = n := by omega
      go_wp2_with fail
      go_ret
      exact ⟨rfl, rfl⟩
theorem contains_zero (a : Option Addr) (cp n : Nat) (w : World) (h : Lies w a ((zb n).map bv)) (hn : n ≤ 4000000) :
    Calls Tryz.prog 64 #[.slice a n cp, .func (.func 65) #[] #[]] w fun e w' => e = .returned (.bool false) ∧ w' = w := by
  have H := Lib.hid (index_zero a cp n w h hn)
  clear h
  go_enter Tryz.func64, Tryz.ntmps64
  go_wp2_with fail
  refine H.out.mono ?_
  rintro e w1 ⟨rfl, rfl⟩
  go_wp2_with fail
  go_ret
  exact ⟨rfl, rfl⟩
/-- Get on a blank slot. -/
theorem get_zero (a : Option Addr) (cp : Nat) (w : World) (h : Lies w a ((zb 2048).map bv)) (hc : 2048 ≤ cp) :
    Calls Tryz.prog 66 #[.slice a 2048 cp] w fun e w' => e = .returned (.tuple #[.agg #[.int .u64 0, .int .u32 0, .slice none 0 0], .int .i64 5]) ∧ Below w.heap.size w w' := by
  have hal := (Below.refl w.heap.size w).alloc (Nat.le_refl _) (Obj.cells #[Value.int .u64 0, Value.int .u32 0, Value.slice none 0 0] 79)
  have hg := get_any a cp (zb 2048) _ (h.later hal) (by rw [zb_length]; exact hc) (by rw [zb_length]; omega)
  have hb := Blk.new w 79 #[Value.int .u64 0, Value.int .u32 0, Value.slice none 0 0]
  rw [zb_length] at hg
  have H := Lib.hid hg
  have HA := Lib.hid hal
  have HB := Lib.hid hb
  clear h hg hal hb
  go_enter Tryz.func66, Tryz.ntmps66
  go_wp2_with fail
  refine H.out.mono ?_
  rintro e w1 ⟨⟨v, rfl, hO⟩, hB⟩
  obtain ⟨va, vc, ev, _, _, _, _⟩ := own_shape hO
  subst ev
  rw [got_zero]
  simp only [bv, UInt8.toNat_zero, List.length_nil]
  have hb0 := HB.out.below hB HB.out.lt
  have hb1 := hb0.alloc (.cells #[.int .u8 0, .slice va 0 vc] 104)
  have c0 := hb1.cell 0
  have c1 := hb1.cell 1
  have c2 := hb1.cell 2
  have f0 := hb1.frozen 0
  have f1 := hb1.frozen 1
  have f2 := hb1.frozen 2
  simp at c0 c1 c2
  have HB1 := Lib.hid hB
  have hs := hB.size
  simp at hs
  have HBB := Lib.hid hb1
  clear hO hb1 hB hb0
  go_wp2_with fail
  have hb3 := ((HBB.out.set 0 (.int .u64 0)).set 1 (.int .u32 0)).set 2 (.slice none 0 0)
  have q0 := hb3.cell 0
  have q1 := hb3.cell 1
  have q2 := hb3.cell 2
  simp at q0 q1 q2
  refine bodyPost_ret (v := .tuple #[.agg #[.int .u64 0, .int .u32 0, .slice none 0 0], .int .i64 5]) (by simp [results, Tryz.results66, go_sem, q0, q1, q2]) rfl ⟨rfl, ?_⟩
  have h9 : Below w.heap.size w (w1.alloc (.cells #[.int .u8 0, .slice va 0 vc] 104)) := ((HA.out.trans (HB1.out.mono (by simp)))).alloc (by omega) _
  exact ((h9.setCell (p := ⟨w.heap.size, 0, none⟩) (Nat.le_refl _) _).setCell (p := ⟨w.heap.size, 1, none⟩) (Nat.le_refl _) _).setCell (p := ⟨w.heap.size, 2, none⟩) (Nat.le_refl _) _
end Go.Proofs.YtcdcnhecimajkaaGreat.Man

/- Layer 9: Read on a blank disk. -/
namespace Go.Proofs.YtcdcnhecimajkaaGreat.Man
open Go.RowKit Go.Deep Mem Crc Disk

set_option maxHeartbeats 400000 in
set_option maxRecDepth 100000 in
theorem read_blank {d g N : Nat} (hN : 33 ≤ N) {w : World} (h : Blank w d g N false) :
    Calls Tryz.prog 35 #[.pointer (some ⟨d, 0, none⟩)] w fun e w' => e = .returned (.tuple #[.agg #[.int .u64 0, .int .u32 0, .slice none 0 0], .int .i64 0]) ∧ Below w.heap.size w w' := by
  have hal := (Below.refl w.heap.size w).alloc (Nat.le_refl _) (Obj.cells #[Value.int .u64 0, Value.int .u32 0, Value.slice none 0 0] 79)
  have hC := Lib.hid (count_any (h.later hal))
  have H := Lib.hid h
  have HA := Lib.hid hal
  clear h hal
  have hd0 : decide ((N : Int) ≤ 32) = false := by simp; omega
  go_enter Tryz.func35, Tryz.ntmps35
  go_wp2_with fail
  refine hC.out.mono ?_
  rintro e w1 ⟨rfl, rfl⟩
  go_wp2_with fail
  obtain ⟨W, hW⟩ : ∃ W, W = (w.alloc (Obj.cells #[Value.int .u64 0, Value.int .u32 0, Value.slice none 0 0] 79)).alloc (Obj.cells #[Value.int .u64 0, Value.int .u32 0, Value.slice none 0 0] 79) := ⟨_, rfl⟩
  have hb0 : Blk W w.heap.size 79 #[Value.int .u64 0, Value.int .u32 0, Value.slice none 0 0] := by rw [hW]; exact (Blk.new w _ _).alloc _
  have hb1 : Blk W (w.heap.size + 1) 79 #[Value.int .u64 0, Value.int .u32 0, Value.slice none 0 0] := by rw [hW]; exact Blk.at_ (by simp)
  have hBW : Below w.heap.size w W := by rw [hW]; exact HA.out.alloc (by simp) _
  rw [← hW]
  have HB0 := Lib.hid hb0
  have HB1 := Lib.hid hb1
  have HBW := Lib.hid hBW
  clear hb0 hb1 hBW hW hC HA hd0
  go_loopw [5, 6, 15] (fun f b i wr => ∃ j : Nat, j ≤ 2 ∧ f = .bool false ∧ b = .bool (decide (0 < j)) ∧ i = .int .i64 (j : Int) ∧ Hid (Blk wr w.heap.size 79 #[Value.int .u64 0, Value.int .u32 0, Value.slice none 0 0]) ∧ Hid (Blk wr (w.heap.size + 1) 79 #[Value.int .u64 0, Value.int .u32 0, Value.slice none 0 0]) ∧ Hid (Below w.heap.size w wr)) (fun _ _ i _ => 2 - (intOf i).toNat)
  case atStart => exact ⟨0, by omega, rfl, rfl, rfl, HB0, HB1, HBW⟩
  case round =>
    obtain ⟨j, hj, rfl, rfl, rfl, hb0, hb1, hB⟩ := hrel
    by_cases hj2 : j < 2
    · have hd : decide ((j : Int) < 2) = true := by simp; omega
      have hS := Lib.hid (slot_any j hj2 hN (H.out.later hB.out))
      obtain ⟨bl, hbl⟩ : ∃ bl, bl = decide (0 < j) := ⟨_, rfl⟩
      rw [← hbl]
      have HBL := Lib.hid hbl
      have hsz := hB.out.size
      clear hbl
      go_wp2_with fail
      refine hS.out.mono ?_
      rintro e w1 ⟨v, rfl, hO, hB1⟩
      obtain ⟨va, vc, ev, hvc, hL, _, _⟩ := own_shape hO
      subst ev
      rw [zb_length] at hvc ⊢
      have hCZ := Lib.hid (contains_zero va vc 2048 w1 hL (by omega))
      have hGZ := Lib.hid (get_zero va vc w1 hL hvc)
      have hb01 := hb0.out.below hB1 hb0.out.lt
      have hb11 := hb1.out.below hB1 hb1.out.lt
      have hBB := hB.out.trans (hB1.mono hsz)
      have HB01 := Lib.hid hb01
      have HB11 := Lib.hid hb11
      have HBB := Lib.hid hBB
      clear hO hL hB1 hd hb01 hb11 hBB
      cases bl
      all_goals
        go_wp2_with (first | (go_at_call 64; refine hCZ.out.mono ?_; rintro e w2 ⟨rfl, rfl⟩))
        refine hGZ.out.mono ?_
        rintro e w3 ⟨rfl, hB3⟩
        have HB3 := Lib.hid hB3
        clear hB3
        go_wp2_with fail
        have hz3 := HB3.out.size
        have hz1 := HBB.out.size
        exact ⟨⟨j + 1, hj2, rfl, by simp, by simp, Lib.hid ((HB01.out.below HB3.out HB01.out.lt).alloc _), Lib.hid ((HB11.out.below HB3.out HB11.out.lt).alloc _), Lib.hid ((HBB.out.trans (HB3.out.mono hz1)).alloc (by omega) _)⟩, by simp [intOf]; omega⟩
    · obtain rfl : j = 2 := by omega
      have hd : decide ((2 : Int) < 2) = false := by decide
      have ht : decide (0 < 2) = true := by decide
      have q0 := hb1.out.cell 0
      have q1 := hb1.out.cell 1
      have q2 := hb1.out.cell 2
      have p0 := hb0.out.cell 0
      have p1 := hb0.out.cell 1
      have p2 := hb0.out.cell 2
      have f0 := hb0.out.frozen 0
      have f1 := hb0.out.frozen 1
      have f2 := hb0.out.frozen 2
      simp at q0 q1 q2 p0 p1 p2
      go_wp2_with fail
      have hb3 := ((hb0.out.set 0 (.int .u64 0)).set 1 (.int .u32 0)).set 2 (.slice none 0 0)
      have r0 := hb3.cell 0
      have r1 := hb3.cell 1
      have r2 := hb3.cell 2
      simp at r0 r1 r2
      refine bodyPost_ret (v := .tuple #[.agg #[.int .u64 0, .int .u32 0, .slice none 0 0], .int .i64 0]) (by simp [results, Tryz.results35, go_sem, r0, r1, r2]) rfl ⟨rfl, ?_⟩
      exact ((hB.out.setCell (p := ⟨w.heap.size, 0, none⟩) (Nat.le_refl _) _).setCell (p := ⟨w.heap.size, 1, none⟩) (Nat.le_refl _) _).setCell (p := ⟨w.heap.size, 2, none⟩) (Nat.le_refl _) _
end Go.Proofs.YtcdcnhecimajkaaGreat.Man

/- Maps whose elements are read as they are; what a call may have written, by a set of blocks. -/
namespace Go.Proofs.YtcdcnhecimajkaaGreat.Mem
open Go.RowKit Go.Deep
open Go.Maps (Keyed)
open Go.MapKept Go.ChangeMaps

/-- A value read as it is. -/
def anyR (v : Value) : Option (DataW Value × List MemPlace) := some (.held v, [])
theorem anyR_inv {v u : Value} {ps : List MemPlace} (h : anyR v = some (.held u, ps)) : v = u := by
  unfold anyR at h
  injection h with h
  injection h with h _
  injection h
/-- The datum D holds just the keys and values of f. -/
def Desc (D : DataW Value) (f : Lit → Option Value) : Prop := ∀ kl, Maps.has D kl = (f kl).isSome ∧ ∀ v, f kl = some v → ∀ z, D.atKey kl z = .held v
/-- Block b is a map that holds just f. -/
def MapIs (w : World) (k : TypeId) (b : Nat) (f : Lit → Option Value) : Prop := ∃ D n, w.ownsMap Tryz.prog k anyR b n D ∧ Desc D f
theorem desc_empty : Desc (.map []) (fun _ => none) := fun _ => ⟨rfl, fun _ h => by cases h⟩
theorem MapIs.made (w : World) (k : TypeId) : MapIs (w.alloc (.map #[] 0)) k w.heap.size (fun _ => none) := ⟨_, 0, World.ownsMap_made w Tryz.prog k anyR, desc_empty⟩
theorem MapIs.lt {w : World} {k : TypeId} {b : Nat} {f : Lit → Option Value} (h : MapIs w k b f) : b < w.heap.size := by
  obtain ⟨D, n, h, _⟩ := h
  exact h.lt
theorem MapIs.keep {w w' : World} {k : TypeId} {b : Nat} {f : Lit → Option Value} (h : MapIs w k b f) (hb : w'.heap[b]? = w.heap[b]?) : MapIs w' k b f := by
  obtain ⟨D, n, ⟨es, clock, h1, h2⟩, hd⟩ := h
  exact ⟨D, n, ⟨es, clock, hb.trans h1, h2⟩, hd⟩
/-- One key anew. -/
noncomputable def setK (f : Lit → Option Value) (k : Lit) (v : Option Value) : Lit → Option Value := fun x => open Classical in if x = k then v else f x
theorem setK_same (f : Lit → Option Value) (k : Lit) (v : Option Value) : setK f k v k = v := by unfold setK; rw [if_pos rfl]
theorem setK_other {f : Lit → Option Value} {k x : Lit} (v : Option Value) (h : x ≠ k) : setK f k v x = f x := by unfold setK; rw [if_neg h]
theorem Desc.put {D : DataW Value} {f : Lit → Option Value} (h : Desc D f) (hD : Maps.IsMap D) {k : Lit} (hk : WideAt.IsKeyLit k) (v : Value) : Desc (D.put k (.held v)) (setK f k (some v)) := fun x => by
  by_cases hx : x = k
  · subst hx
    rw [setK_same]
    exact ⟨Maps.has_put_same hD hk _, fun u hu z => by cases hu; exact Maps.atKey_put_same hD hk _ _⟩
  · rw [setK_other _ hx]
    refine ⟨(Maps.has_put_other hx _).trans (h x).1, fun u hu z => (Maps.atKey_put_other hx _ _).trans ((h x).2 u hu z)⟩
theorem Desc.del {D : DataW Value} {f : Lit → Option Value} (h : Desc D f) (k : Lit) : Desc (D.del k) (setK f k none) := fun x => by
  by_cases hx : x = k
  · subst hx
    rw [setK_same]
    exact ⟨Maps.has_del_same, fun u hu z => by cases hu⟩
  · rw [setK_other _ hx]
    refine ⟨(Maps.has_del_other hx).trans (h x).1, fun u hu z => (Maps.atKey_del_other hx _).trans ((h x).2 u hu z)⟩
/-- Lookup without ok. -/
theorem MapIs.look {w : World} {k : TypeId} {b : Nat} {f : Lit → Option Value} {t e : TypeId} (h : MapIs w k b f) (K : Keyed Tryz.prog k) (ht : Tryz.prog.underlying t = some (.map k e)) {z : Value} (hz : ∀ w, (zeroValue e).run Tryz.prog w = .ok z w)
    {key : Value} {kl : Lit} (hkey : keyOf Tryz.prog k key = some kl) : (Instr.lookup t (.map (some b)) key false).run Tryz.prog w = .ok ((f kl).getD z) w := by
  obtain ⟨D, n, h, hd⟩ := h
  obtain ⟨v, ps, hrun, hv⟩ := h.lookup K ht (hz w) (zd := .held z) (zp := []) rfl hkey
  have e : v = (f kl).getD z := by
    cases hf : f kl with
    | none =>
      have h1 := (hd kl).1
      rw [hf] at h1
      rw [Maps.atKey_of_not_has h1] at hv
      exact anyR_inv hv
    | some u =>
      rw [(hd kl).2 u hf] at hv
      exact anyR_inv hv
  rw [hrun, e]
/-- .. with ok. -/
theorem MapIs.look_ok {w : World} {k : TypeId} {b : Nat} {f : Lit → Option Value} {t e : TypeId} (h : MapIs w k b f) (K : Keyed Tryz.prog k) (ht : Tryz.prog.underlying t = some (.map k e)) {z : Value} (hz : ∀ w, (zeroValue e).run Tryz.prog w = .ok z w)
    {key : Value} {kl : Lit} (hkey : keyOf Tryz.prog k key = some kl) : (Instr.lookup t (.map (some b)) key true).run Tryz.prog w = .ok (.tuple #[(f kl).getD z, .bool (f kl).isSome]) w := by
  obtain ⟨D, n, h, hd⟩ := h
  obtain ⟨v, ps, hrun, hv⟩ := h.look_ok K ht (hz w) (zd := .held z) (zp := []) rfl hkey
  rw [hrun, (hd kl).1]
  have e : v = (f kl).getD z := by
    cases hf : f kl with
    | none =>
      have h1 := (hd kl).1
      rw [hf] at h1
      rw [Maps.atKey_of_not_has h1] at hv
      exact anyR_inv hv
    | some u =>
      rw [(hd kl).2 u hf] at hv
      exact anyR_inv hv
  rw [e]
theorem nodup_len : ∀ (l L : List Lit), l.Pairwise (· ≠ ·) → (∀ x ∈ l, x ∈ L) → l.length ≤ L.length
  | [], _, _, _ => Nat.zero_le _
  | a :: r, L, hp, hs => by
    obtain ⟨h1, h2⟩ := List.pairwise_cons.1 hp
    obtain ⟨s, t, rfl⟩ := List.append_of_mem (hs a (by simp))
    have := nodup_len r (s ++ t) h2 (fun x hx => by
      have h3 := hs x (by simp [hx])
      have h4 := h1 x hx
      simp only [List.mem_append, List.mem_cons] at h3 ⊢
      rcases h3 with h3 | h3 | h3
      · exact .inl h3
      · exact absurd h3.symm h4
      · exact .inr h3)
    simp only [List.length_append, List.length_cons] at this ⊢
    omega
/-- How many keys there are, by a list that has them all. -/
theorem size_le_of {es : List (Lit × DataW Value)} (hp : es.Pairwise (fun p q => p.1 ≠ q.1)) {L : List Lit} (hL : ∀ p ∈ es, p.1 ∈ L) : es.length ≤ L.length := by
  have := nodup_len (es.map Prod.fst) L (List.pairwise_map.2 hp) (fun x hx => by
    obtain ⟨p, hp, rfl⟩ := List.mem_map.1 hx
    exact hL p hp)
  simpa using this
/-- A bound on the entries that the support tells. -/
theorem MapIs.bounded {w : World} {k : TypeId} {b : Nat} {f : Lit → Option Value} (h : MapIs w k b f) (K : Keyed Tryz.prog k) (L : List Lit) (hL : ∀ x, f x ≠ none → x ∈ L) : ∃ D, w.ownsMap Tryz.prog k anyR b L.length D ∧ Desc D f := by
  obtain ⟨D, n, h, hd⟩ := h
  obtain ⟨es, rfl, hp, hk⟩ := h.entries K
  have hle := size_le_of hp (L := L) (fun p hpm => hL _ (fun hn => by
    have h1 := (hd p.1).1
    rw [hn] at h1
    have h2 : Maps.has (.map es) p.1 = true := List.any_eq_true.2 ⟨p, hpm, WideAt.sameKey_self (hk p hpm)⟩
    rw [h2] at h1
    cases h1))
  obtain ⟨es', clock, hb, F, hs, hD⟩ := h
  refine ⟨.map es, ⟨es', clock, hb, F, ?_, hD⟩, hd⟩
  have e1 : es.length = es'.size := by
    injection hD with hD
    rw [hD, Go.length_sorted]
    simp
  omega
/-- A store into it. -/
theorem MapIs.update {w : World} {k : TypeId} {b : Nat} {f : Lit → Option Value} {t e : TypeId} (h : MapIs w k b f) (K : Keyed Tryz.prog k) (ht : Tryz.prog.underlying t = some (.map k e)) (L : List Lit) (hL : ∀ x, f x ≠ none → x ∈ L) (hn : L.length < maxLen)
    {key : Value} {kl : Lit} (hkey : keyOf Tryz.prog k key = some kl) (v : Value) : ∃ w', (Instr.mapUpdate t (.map (some b)) key v).run Tryz.prog w = .ok () w' ∧ MapIs w' k b (setK f kl (some v)) ∧ w.grownBy w' (some b) ∧ w'.heap.size = w.heap.size := by
  obtain ⟨D, h, hd⟩ := h.bounded K L hL
  obtain ⟨w', hrun, h1, h2⟩ := h.store K ht hn hkey (d := .held v) (ps := []) rfl
  refine ⟨w', hrun, ⟨_, _, h1, hd.put h.isMap (K.key hkey) v⟩, h2.grown, ?_⟩
  obtain ⟨es, clock, es', clock', _, rfl⟩ := h2
  simp [setBlock]
/-- A key taken out of it. -/
theorem MapIs.drop {w : World} {k : TypeId} {b : Nat} {f : Lit → Option Value} {t e : TypeId} (h : MapIs w k b f) (K : Keyed Tryz.prog k) (ht : Tryz.prog.underlying t = some (.map k e)) {key : Value} {kl : Lit} (hkey : keyOf Tryz.prog k key = some kl) (ty : TypeId) :
    ∃ w', (Builtin.delete_ #[t, k] ty #[.map (some b), key]).run Tryz.prog w = .ok (.tuple #[]) w' ∧ MapIs w' k b (setK f kl none) ∧ w.grownBy w' (some b) ∧ w'.heap.size = w.heap.size := by
  obtain ⟨D, n, h, hd⟩ := h
  obtain ⟨w', hrun, h1, h2⟩ := h.drop K ht hkey ty
  refine ⟨w', hrun, ⟨_, _, h1, hd.del kl⟩, h2.grown, ?_⟩
  obtain ⟨es, clock, es', clock', _, rfl⟩ := h2
  simp [setBlock]
end Go.Proofs.YtcdcnhecimajkaaGreat.Mem

/- Layer 10: a store of which nothing was committed: its disk is blank, its files are its changes. -/
namespace Go.Proofs.YtcdcnhecimajkaaGreat.Store
open Go.RowKit Go.Deep Mem Crc Disk Man

/-- What was changed of a file: not (none), gone (some none), its bytes. -/
abbrev Chg := List UInt8 → Option (Option (List UInt8))
/-- A change as the map holds it. -/
def chgV (w : World) (Q : Nat → Prop) : Option (List UInt8) → Value → Prop
  | none, v => v = .agg #[.slice none 0 0, .bool true]
  | some b, v => ∃ a cp, v = .agg #[.slice a b.length cp, .bool false] ∧ b.length ≤ cp ∧ Lies w a (b.map bv) ∧ ∀ g, blk a = some g → Q g
def isChg (w : World) (Q : Nat → Prop) (f : Lit → Option Value) (C : Chg) (nm : List UInt8) : Prop :=
  match C nm with
  | none => f (.string nm) = none
  | some c => ∃ v, f (.string nm) = some v ∧ chgV w Q c v
/-- A store at block s, over the disk d with its row g; its changes' map cm; all its blocks are in Q. -/
structure St (w : World) (Q : Nat → Prop) (s d g N cm : Nat) (off : Bool) (C : Chg) : Prop where
  store : Blk w s 90 #[.pointer (some ⟨d, 0, none⟩), .int .u64 0, .int .u32 0, .slice none 0 0, .map (some cm), .bool false]
  disk : Blank w d g N off
  map : ∃ f, MapIs w 9 cm f ∧ (∀ x, f x ≠ none → ∃ nm, x = .string nm) ∧ ∀ nm, isChg w (fun k => Q k ∧ k ≠ cm) f C nm
  qs : Q s
  qd : Q d
  qg : Q g
  qm : Q cm
  lt : ∀ k, Q k → k < w.heap.size
theorem chgV.keep {w w' : World} {Q Q' : Nat → Prop} {c : Option (List UInt8)} {v : Value} (h : chgV w Q c v) (hs : w.heap.size ≤ w'.heap.size) (hk : ∀ k, Q k → w'.heap[k]? = w.heap[k]?) (hQ : ∀ k, Q k → Q' k) : chgV w' Q' c v := by
  cases c with
  | none => exact h
  | some b =>
    obtain ⟨a, cp, e, h1, h2, h3⟩ := h
    exact ⟨a, cp, e, h1, h2.keep hs (fun g hg => hk g (h3 g hg)), fun g hg => hQ g (h3 g hg)⟩
theorem isChg.keep {w w' : World} {Q Q' : Nat → Prop} {f : Lit → Option Value} {C : Chg} {nm : List UInt8} (h : isChg w Q f C nm) (hs : w.heap.size ≤ w'.heap.size) (hk : ∀ k, Q k → w'.heap[k]? = w.heap[k]?) (hQ : ∀ k, Q k → Q' k) : isChg w' Q' f C nm := by
  unfold isChg at h ⊢
  cases hc : C nm with
  | none => rw [hc] at h; exact h
  | some c =>
    rw [hc] at h
    obtain ⟨v, h1, h2⟩ := h
    exact ⟨v, h1, h2.keep hs hk hQ⟩
theorem St.keep {w w' : World} {Q : Nat → Prop} {s d g N cm : Nat} {off : Bool} {C : Chg} (h : St w Q s d g N cm off C) (hs : w.heap.size ≤ w'.heap.size) (hk : ∀ k, Q k → w'.heap[k]? = w.heap[k]?) : St w' Q s d g N cm off C := by
  obtain ⟨f, h1, h2, h3⟩ := h.map
  exact ⟨(hk s h.qs).trans h.store, h.disk.keep (hk d h.qd) (hk g h.qg), ⟨f, h1.keep (hk cm h.qm), h2, fun nm => (h3 nm).keep hs (fun k hq => hk k hq.1) (fun _ h => h)⟩, h.qs, h.qd, h.qg, h.qm, fun k hq => Nat.lt_of_lt_of_le (h.lt k hq) hs⟩
theorem St.later {w w' : World} {Q : Nat → Prop} {s d g N cm : Nat} {off : Bool} {C : Chg} (h : St w Q s d g N cm off C) (hB : Below w.heap.size w w') : St w' Q s d g N cm off C := h.keep hB.size (fun k hq => hB.block k (h.lt k hq))
theorem St.only {w w' : World} {Q : Nat → Prop} {s d g N cm : Nat} {off : Bool} {C : Chg} {F : List Nat} (h : St w Q s d g N cm off C) (ho : Only F w w') (hF : ∀ k ∈ F, ¬ Q k) : St w' Q s d g N cm off C := h.keep ho.size (fun k hq => ho.block k (h.lt k hq) (fun hm => hF k hm hq))
/-- Nothing is changed. -/
def none' : Chg := fun _ => none
set_option maxHeartbeats 400000 in
set_option maxRecDepth 100000 in
theorem open_any {d g N : Nat} (hN : 33 ≤ N) {w : World} (h : Blank w d g N false) :
    Calls Tryz.prog 23 #[.pointer (some ⟨d, 0, none⟩)] w fun e w' => ∃ s cm, e = .returned (.tuple #[.pointer (some ⟨s, 0, none⟩), .int .i64 0]) ∧ St w' (fun k => k = s ∨ k = d ∨ k = g ∨ k = cm) s d g N cm false none' ∧ w.heap.size ≤ s ∧ w.heap.size ≤ cm ∧ Below w.heap.size w w' := by
  have hal := (Below.refl w.heap.size w).alloc (Nat.le_refl _) (Obj.cells #[Value.pointer (some ⟨d, 0, none⟩)] 24)
  have HM := Lib.hid (read_blank hN (h.later hal))
  have H := Lib.hid h
  have HA := Lib.hid hal
  have hbd := Blk.new w 24 #[Value.pointer (some ⟨d, 0, none⟩)]
  have HBD := Lib.hid hbd
  clear h hal hbd
  go_enter Tryz.func23, Tryz.ntmps23
  go_wp2_with fail
  refine HM.out.mono ?_
  rintro e w1 ⟨rfl, hB1⟩
  have c0 := (hB1.cell (p := ⟨w.heap.size, 0, none⟩) HBD.out.lt).trans (HBD.out.cell 0)
  simp at c0
  have HB1 := Lib.hid hB1
  have hs1 := hB1.size
  simp at hs1
  clear hB1
  go_wp2_with fail
  obtain ⟨W, hW⟩ : ∃ W, W = w1.alloc (.cells #[.int .u64 0, .int .u32 0, .slice none 0 0] 79) := ⟨_, rfl⟩
  have hb := Blk.new w1 79 #[.int .u64 0, .int .u32 0, .slice none 0 0]
  rw [← hW] at hb ⊢
  have m0 := hb.cell 0
  have m1 := hb.cell 1
  have m2 := hb.cell 2
  have d0 : W.cell? ⟨w.heap.size, 0, none⟩ = some (.pointer (some ⟨d, 0, none⟩)) := by rw [hW]; exact (((Below.refl w1.heap.size w1).alloc (Nat.le_refl _) _).cell (p := ⟨w.heap.size, 0, none⟩) (by show w.heap.size < _; omega)).trans c0
  simp at m0 m1 m2
  have hBW : Below w.heap.size w W := by rw [hW]; exact (HA.out.trans (HB1.out.mono (by simp))).alloc (by omega) _
  have hWs : w.heap.size < W.heap.size := by rw [hW]; simp; omega
  have HBW := Lib.hid hBW
  clear hb hW HB1 HA HM HBD hBW c0
  go_loopw [20] (fun i wr => i = .int .i64 0 ∧ wr = W) (fun _ _ => 0)
  case atStart => exact ⟨rfl, rfl⟩
  case round =>
    obtain ⟨rfl, rfl⟩ := hrel
    have hmk := run_makeMap (P := Tryz.prog) 88 wr
    go_wp2_with fail
    go_ret2
    have hsz := HBW.out.size
    have hB2 : Below wr.heap.size wr ((wr.alloc (.map #[] 0)).alloc (.cells #[.pointer (some ⟨d, 0, none⟩), .int .u64 0, .int .u32 0, .slice none 0 0, .map (some wr.heap.size), .bool false] 90)) := ((Below.refl _ wr).alloc (Nat.le_refl _) _).alloc (by simp) _
    have hD := (H.out.later HBW.out).later hB2
    have hmap : MapIs ((wr.alloc (.map #[] 0)).alloc (.cells #[.pointer (some ⟨d, 0, none⟩), .int .u64 0, .int .u32 0, .slice none 0 0, .map (some wr.heap.size), .bool false] 90)) 9 wr.heap.size (fun _ => none) := (MapIs.made wr _).keep (Below.heap_alloc _ _ _ (by simp))
    refine ⟨wr.heap.size + 1, wr.heap.size, rfl, ⟨Blk.at_ (by simp), hD, ⟨_, hmap, fun x h => absurd rfl h, fun nm => rfl⟩, .inl rfl, .inr (.inl rfl), .inr (.inr (.inl rfl)), .inr (.inr (.inr rfl)), fun k hk => ?_⟩, by omega, hsz, HBW.out.trans (hB2.mono hsz)⟩
    have h1 := hD.disk.lt
    have h2 := hD.row.lt
    rcases hk with rfl | rfl | rfl | rfl
    · simp
    · exact h1
    · exact h2
    · simp; omega
theorem down_any {w : World} {Q : Nat → Prop} {s d g N cm : Nat} {off : Bool} {C : Chg} (h : St w Q s d g N cm off C) :
    Calls Tryz.prog 49 #[.pointer (some ⟨s, 0, none⟩)] w fun e w' => e = .returned (.bool off) ∧ w' = w := by
  have c0 := h.store.cell 0
  have c5 := h.store.cell 5
  simp at c0 c5
  have HO := Lib.hid (on_any h.disk)
  clear h
  go_enter Tryz.func49, Tryz.ntmps49
  go_wp2_with fail
  refine HO.out.mono ?_
  rintro e w1 ⟨rfl, rfl⟩
  go_wp2_with fail
  go_ret
  exact ⟨by simp, rfl⟩
end Go.Proofs.YtcdcnhecimajkaaGreat.Store

/- Layer 10: Write and Read of a store of which nothing was committed. -/
namespace Go.Proofs.YtcdcnhecimajkaaGreat.Store
open Go.RowKit Go.Deep Mem Crc Disk Man Go.Maps

noncomputable def setC (C : Chg) (nm : List UInt8) (c : Option (Option (List UInt8))) : Chg := fun x => open Classical in if x = nm then c else C x
theorem setC_same (C : Chg) (nm : List UInt8) (c : Option (Option (List UInt8))) : setC C nm c nm = c := by unfold setC; rw [if_pos rfl]
theorem setC_other {C : Chg} {nm x : List UInt8} (c : Option (Option (List UInt8))) (h : x ≠ nm) : setC C nm c x = C x := by unfold setC; rw [if_neg h]
/-- A name as a value. -/
def nv (nm : List UInt8) : Value := .string ⟨nm.toArray⟩
theorem nv_key {nm : List UInt8} (h : nm.length ≤ 1000000) : keyOf Tryz.prog 9 (nv nm) = some (.string nm) := by
  have := Go.WideMaps.keyOf_string_mk (P := Tryz.prog) (k := 9) Tryz.underlying9 (s := ⟨nm.toArray⟩) (by show nm.toArray.size ≤ maxLen; unfold maxLen; simp; omega)
  simpa [nv] using this
theorem strKeyed : Go.Maps.Keyed Tryz.prog 9 := string_keyed Tryz.underlying9
/-- Behind a store into the changes' map. -/
theorem St.changed {w w1 : World} {Q : Nat → Prop} {s d g N cm : Nat} {off : Bool} {C : Chg} (h : St w Q s d g N cm off C) (hB : Below w.heap.size w w1) (L : List (List UInt8)) (hL : ∀ x, C x ≠ none → x ∈ L) (hn : L.length ≤ 1000000)
    (nm : List UInt8) (hnm : nm.length ≤ 1000000) (c : Option (List UInt8)) (v : Value) (hv : chgV w1 (fun k => w.heap.size ≤ k ∧ k < w1.heap.size) c v) :
    ∃ w2, (Instr.mapUpdate 88 (.map (some cm)) (nv nm) v).run Tryz.prog w1 = .ok () w2 ∧ St w2 (fun k => Q k ∨ (w.heap.size ≤ k ∧ k < w1.heap.size)) s d g N cm off (setC C nm (some c)) ∧ Only [cm] w w2 ∧ w2.heap.size = w1.heap.size := by
  have h1 := h.later hB
  obtain ⟨f, hm, hk, hf⟩ := h1.map
  obtain ⟨w2, hrun, hm2, hg, hs⟩ := hm.update strKeyed Tryz.underlying88 (L.map Lit.string) (fun x hx => by
    obtain ⟨y, rfl⟩ := hk x hx
    refine List.mem_map.2 ⟨y, hL y (fun hc => ?_), rfl⟩
    have := hf y
    unfold isChg at this
    rw [hc] at this
    exact hx this) (by rw [List.length_map]; unfold maxLen; omega) (nv_key hnm) v
  have ho : Only [cm] w1 w2 := Only.of_grown hg (fun g hg => by cases hg; exact .inl (by simp))
  have hdm : d ≠ cm := fun e => by
    have := hm.lt
    obtain ⟨D, n, ⟨es, cl, hb, _⟩, _⟩ := hm
    have hd := h1.disk.disk
    unfold Blk at hd
    rw [e, hb] at hd
    cases hd
  have hgm : g ≠ cm := fun e => by
    obtain ⟨D, n, ⟨es, cl, hb, _⟩, _⟩ := hm
    have hd := h1.disk.row
    unfold Blk at hd
    rw [e, hb] at hd
    cases hd
  have hsm : s ≠ cm := fun e => by
    obtain ⟨D, n, ⟨es, cl, hb, _⟩, _⟩ := hm
    have hd := h1.store
    unfold Blk at hd
    rw [e, hb] at hd
    cases hd
  have hcm := h.lt cm h.qm
  have hsz := hB.size
  have hkk : ∀ k, k < w1.heap.size → k ≠ cm → w2.heap[k]? = w1.heap[k]? := fun k hk hne => ho.block k hk (by simpa using hne)
  refine ⟨w2, hrun, ⟨(hkk s h1.store.lt hsm).trans h1.store, h1.disk.keep (hkk d h1.disk.disk.lt hdm) (hkk g h1.disk.row.lt hgm), ⟨_, hm2, fun x hx => ?_, fun x => ?_⟩, .inl h.qs, .inl h.qd, .inl h.qg, .inl h.qm, fun k hq => ?_⟩, (Only.of_below (bs := [cm]) hB).trans ho, hs⟩
  · by_cases e : x = .string nm
    · exact ⟨nm, e⟩
    · rw [setK_other _ e] at hx
      exact hk x hx
  · by_cases e : x = nm
    · subst e
      unfold isChg
      rw [setC_same, setK_same]
      exact ⟨v, rfl, hv.keep ho.size (fun k hq => hkk k hq.2 (by omega)) (fun k hq => ⟨.inr hq, by omega⟩)⟩
    · have h3 := hf x
      unfold isChg at h3 ⊢
      rw [setC_other _ e, setK_other _ (fun h => e (by injection h))]
      cases hc : C x with
      | none => rw [hc] at h3; exact h3
      | some c' =>
        rw [hc] at h3
        obtain ⟨u, hu, h4⟩ := h3
        exact ⟨u, hu, h4.keep ho.size (fun k hq => hkk k (h1.lt k hq.1) hq.2) (fun k hq => ⟨.inl hq.1, hq.2⟩)⟩
  · rw [hs]
    rcases hq with hq | hq
    · exact h1.lt k hq
    · exact hq.2
theorem len_name (nm : List UInt8) (w : World) : (Builtin.len_ #[9] 3 #[nv nm]).run Tryz.prog w = .ok (.int .i64 (nm.length : Int)) w := by
  simp [Builtin.len_, run_underlying Tryz.underlying9, nv, goInt, Result.andThen]
  rfl
set_option maxHeartbeats 400000 in
set_option maxRecDepth 100000 in
theorem write_any {w : World} {Q : Nat → Prop} {s d g N cm : Nat} {C : Chg} (h : St w Q s d g N cm false C) (L : List (List UInt8)) (hL : ∀ x, C x ≠ none → x ∈ L) (hn : L.length ≤ 1000000)
    (nm : List UInt8) (hn1 : 1 ≤ nm.length) (hn2 : nm.length ≤ 32) (a : Option Addr) (cp : Nat) (b : List UInt8) (hb : Lies w a (b.map bv)) (hb2 : b.length ≤ 1048576) :
    Calls Tryz.prog 30 #[.pointer (some ⟨s, 0, none⟩), nv nm, .slice a b.length cp] w fun e w' => e = .returned (.int .i64 0) ∧ ∃ Q', St w' Q' s d g N cm false (setC C nm (some (some b))) ∧ (∀ k, Q' k → Q k ∨ w.heap.size ≤ k) ∧ (∀ k, Q k → Q' k) ∧ Only [cm] w w' := by
  have HD := Lib.hid (down_any h)
  have HC := Lib.hid (clone_any a cp b w.drew hb (by omega))
  have H := Lib.hid h
  have c4 := h.store.cell 4
  have HLS := Lib.hid h.store.lt
  have HDR := Lib.hid ((Below.refl w.heap.size w).drew)
  simp at c4
  clear h hb
  have h0 : ((nm.length : Int) == 0) = false := by
    have : ¬ (nm.length : Int) = 0 := by omega
    simpa using this
  have h1 : decide (32 < (nm.length : Int)) = false := by
    have : ¬ 32 < (nm.length : Int) := by omega
    simpa using this
  have h2 : decide (1048576 < (b.length : Int)) = false := by
    have : ¬ 1048576 < (b.length : Int) := by omega
    simpa using this
  have hlen := len_name nm
  obtain ⟨x, hx⟩ : ∃ x, x = nv nm := ⟨_, rfl⟩
  obtain ⟨ln, hln⟩ : ∃ ln, ln = nm.length := ⟨_, rfl⟩
  rw [← hx, ← hln] at hlen
  rw [← hln] at h0 h1
  rw [← hx]
  have HX := Lib.hid hx
  clear hx hln
  go_enter Tryz.func30, Tryz.ntmps30
  go_wp2_with fail
  refine HD.out.mono ?_
  rintro e w1 ⟨rfl, rfl⟩
  go_wp2_with fail
  go_region_held3 (fun w' => w'.cell? ⟨s, 4, none⟩ = some (.map (some cm))) (first | exact c4 | exact hk2 | exact hk3) ((go_at_call 27; refine HC.out.mono ?_; rintro e w2 ⟨v, rfl, hO, hB2⟩; obtain ⟨va, vc, rfl, hvc, hvl, hvb, _⟩ := own_shape hO; obtain ⟨w3, hrun, hst3, ho3, hs3⟩ := H.out.changed (w1 := w2) (HDR.out.trans hB2) L hL hn nm (by omega) (some b) (.agg #[.slice va b.length vc, .bool false]) ⟨va, vc, rfl, hvc, hvl, hvb⟩; rw [← HX.out] at hrun; have hk2 := (hB2.cell (p := ⟨s, 4, none⟩) HLS.out).trans c4; have hk3 := hst3.store.cell 4; simp at hk3; dsimp only))
  go_wp2_with fail
  go_ret
  exact ⟨rfl, _, hst3, fun k hk => hk.imp id And.left, fun k hk => .inl hk, ho3⟩
end Go.Proofs.YtcdcnhecimajkaaGreat.Store

/- Layer 10: Read of a store of which nothing was committed; what is refused on a disk that is off. -/
namespace Go.Proofs.YtcdcnhecimajkaaGreat.Store
open Go.RowKit Go.Deep Mem Crc Disk Man Go.Maps

theorem zero_chg (w : World) : (zeroValue 94).run Tryz.prog w = .ok (.agg #[.slice none 0 0, .bool false]) w := by kernel_rfl
theorem St.look {w : World} {Q : Nat → Prop} {s d g N cm : Nat} {off : Bool} {C : Chg} (h : St w Q s d g N cm off C) (nm : List UInt8) (hn : nm.length ≤ 1000000) :
    (Instr.lookup 88 (.map (some cm)) (nv nm) true).run Tryz.prog w = .ok (.tuple #[.agg #[.slice none 0 0, .bool false], .bool false]) w ∧ C nm = none ∨
    (Instr.lookup 88 (.map (some cm)) (nv nm) true).run Tryz.prog w = .ok (.tuple #[.agg #[.slice none 0 0, .bool true], .bool true]) w ∧ C nm = some none ∨
    ∃ b a cp, (Instr.lookup 88 (.map (some cm)) (nv nm) true).run Tryz.prog w = .ok (.tuple #[.agg #[.slice a b.length cp, .bool false], .bool true]) w ∧ C nm = some (some b) ∧ b.length ≤ cp ∧ Lies w a (b.map bv) := by
  obtain ⟨f, hm, hk, hf⟩ := h.map
  have hl := hm.look_ok strKeyed Tryz.underlying88 zero_chg (nv_key hn)
  have hx := hf nm
  unfold isChg at hx
  cases hc : C nm with
  | none =>
    rw [hc] at hx
    rw [hx] at hl
    exact .inl ⟨hl, rfl⟩
  | some c =>
    rw [hc] at hx
    obtain ⟨v, h1, h2⟩ := hx
    rw [h1] at hl
    cases c with
    | none =>
      rw [show v = _ from h2] at hl
      exact .inr (.inl ⟨hl, rfl⟩)
    | some b =>
      obtain ⟨a, cp, rfl, h3, h4, _⟩ := h2
      exact .inr (.inr ⟨b, a, cp, hl, rfl, h3, h4⟩)
theorem search_none (x fv : Value) (w : World) : Calls Tryz.prog 100 #[.slice none 0 0, x, fv] w fun e w' => e = .returned (.tuple #[.int .i64 0, .bool false]) ∧ w' = w := by
  go_enter Tryz.func100, Tryz.ntmps100
  go_wp2_with fail
  go_loopw [9, 10] (fun i j wr => i = .int .i64 0 ∧ j = .int .i64 0 ∧ wr = w) (fun _ _ _ => 0)
  case atStart => exact ⟨rfl, rfl, rfl⟩
  case round =>
    obtain ⟨rfl, rfl, rfl⟩ := hrel
    go_wp2_with fail
    go_ret2
    exact ⟨rfl, rfl⟩
/-- Find on no files. -/
theorem find_none (x : Value) (w : World) : Calls Tryz.prog 80 #[.agg #[.int .u64 0, .int .u32 0, .slice none 0 0], x] w fun e w' => e = .returned (.tuple #[.int .i64 0, .bool false]) ∧ Below w.heap.size w w' := by
  go_enter Tryz.func80, Tryz.ntmps80
  go_wp2_with fail
  refine (search_none _ _ _).mono ?_
  rintro e w1 ⟨rfl, rfl⟩
  go_wp2_with fail
  go_ret2
  exact ⟨rfl, (Below.refl _ w).alloc (Nat.le_refl _) _⟩
set_option maxHeartbeats 400000 in
set_option maxRecDepth 100000 in
theorem read_off {w : World} {Q : Nat → Prop} {s d g N cm : Nat} {C : Chg} (h : St w Q s d g N cm true C) (x : Value) :
    Calls Tryz.prog 50 #[.pointer (some ⟨s, 0, none⟩), x] w fun e w' => e = .returned (.tuple #[.slice none 0 0, .int .i64 6]) ∧ Below w.heap.size w w' := by
  have HD := Lib.hid (down_any h)
  clear h
  go_enter Tryz.func50, Tryz.ntmps50
  go_wp2_with fail
  refine HD.out.mono ?_
  rintro e w1 ⟨rfl, rfl⟩
  go_wp2_with fail
  go_ret2
  exact ⟨rfl, Below.refl _ _⟩
set_option maxHeartbeats 400000 in
set_option maxRecDepth 100000 in
theorem write_off {w : World} {Q : Nat → Prop} {s d g N cm : Nat} {C : Chg} (h : St w Q s d g N cm true C) (x : Value) (a : Option Addr) (n cp : Nat) :
    Calls Tryz.prog 30 #[.pointer (some ⟨s, 0, none⟩), x, .slice a n cp] w fun e w' => e = .returned (.int .i64 6) ∧ w' = w := by
  have HD := Lib.hid (down_any h)
  clear h
  go_enter Tryz.func30, Tryz.ntmps30
  go_wp2_with fail
  refine HD.out.mono ?_
  rintro e w1 ⟨rfl, rfl⟩
  go_wp2_with fail
  go_ret
  exact ⟨rfl, rfl⟩
/-- What Read hands back, and the error. -/
def readOf (C : Chg) (nm : List UInt8) : List UInt8 × Int :=
  match C nm with
  | some (some b) => (b, 0)
  | _ => ([], 8)
set_option maxHeartbeats 400000 in
set_option maxRecDepth 100000 in
theorem read_any {w : World} {Q : Nat → Prop} {s d g N cm : Nat} {C : Chg} (h : St w Q s d g N cm false C) (nm : List UInt8) (hn : nm.length ≤ 1000000) (hb : ∀ b, C nm = some (some b) → b.length ≤ 4000000) :
    Calls Tryz.prog 50 #[.pointer (some ⟨s, 0, none⟩), nv nm] w fun e w' => ∃ v, e = .returned (.tuple #[v, .int .i64 (readOf C nm).2]) ∧ OwnB w' w.heap.size v (readOf C nm).1 ∧ Below w.heap.size w w' := by
  have HD := Lib.hid (down_any h)
  have hl := h.look nm hn
  have c1 := h.store.cell 1
  have c2 := h.store.cell 2
  have c3 := h.store.cell 3
  have c4 := h.store.cell 4
  have ha := h.store.alloc (.cells #[.slice none 0 0, .bool false] 94)
  have k1 := ha.cell 1
  have k2 := ha.cell 2
  have k3 := ha.cell 3
  simp at c1 c2 c3 c4 k1 k2 k3
  clear ha
  obtain ⟨x, hx⟩ : ∃ x, x = nv nm := ⟨_, rfl⟩
  rw [← hx] at hl ⊢
  clear h hx
  rcases hl with ⟨hl, hc⟩ | ⟨hl, hc⟩ | ⟨b, a, cp, hl, hc, hcp, hL⟩
  · have er : readOf C nm = ([], 8) := by unfold readOf; rw [hc]
    rw [er]
    clear hc hb
    go_enter Tryz.func50, Tryz.ntmps50
    go_wp2_with fail
    refine HD.out.mono ?_
    rintro e w1 ⟨rfl, rfl⟩
    go_wp2_with fail
    refine (find_none _ _).mono ?_
    rintro e w2 ⟨rfl, hB2⟩
    have hBB := ((Below.refl w1.heap.size w1).alloc (Nat.le_refl _) (.cells #[.slice none 0 0, .bool false] 94)).trans (hB2.mono (by simp))
    have HBB := Lib.hid hBB
    clear hB2 hBB
    go_wp2_with fail
    go_ret2
    exact ⟨_, rfl, World.ownsRow_nil _ _ _ _, HBB.out⟩
  · have er : readOf C nm = ([], 8) := by unfold readOf; rw [hc]
    rw [er]
    clear hc hb
    go_enter Tryz.func50, Tryz.ntmps50
    go_wp2_with fail
    refine HD.out.mono ?_
    rintro e w1 ⟨rfl, rfl⟩
    go_wp2_with fail
    go_ret2
    exact ⟨_, rfl, World.ownsRow_nil _ _ _ _, (Below.refl _ w1).alloc (Nat.le_refl _) _⟩
  · have er : readOf C nm = (b, 0) := by unfold readOf; rw [hc]
    rw [er]
    have hbl := hb b hc
    clear hc hb er
    go_enter Tryz.func50, Tryz.ntmps50
    go_wp2_with fail
    refine HD.out.mono ?_
    rintro e w1 ⟨rfl, rfl⟩
    have hal := (Below.refl w1.heap.size w1).alloc (Nat.le_refl _) (.cells #[.slice a b.length cp, .bool false] 94)
    have HC := Lib.hid (clone_any a cp b _ (hL.later hal) (by omega))
    have HA := Lib.hid hal
    clear hL hal
    go_wp2_with fail
    refine HC.out.mono ?_
    rintro e w2 ⟨v, rfl, hO, hB2⟩
    have HO := Lib.hid (own_mono hO (show w1.heap.size ≤ _ by simp))
    have HB2 := Lib.hid (HA.out.trans (hB2.mono (by simp)))
    clear hO hB2
    go_wp2_with fail
    go_ret2
    exact ⟨_, rfl, HO.out, HB2.out⟩
end Go.Proofs.YtcdcnhecimajkaaGreat.Store

/- Layer 10: Names of a store of which nothing was committed. -/
namespace Go.Proofs.YtcdcnhecimajkaaGreat.Store
open Go.RowKit Go.Deep Mem Crc Disk Man Go.Maps

def unit' : Value := .agg #[]
/-- Is there such a file? -/
def isFile (C : Chg) (nm : List UInt8) : Bool :=
  match C nm with
  | some (some _) => true
  | _ => false
/-- The names met so far: those that are no longer to come and not gone. -/
def Seen (C : Chg) (left : Lit → Bool) (fm : Lit → Option Value) : Prop := (∀ x, fm x ≠ none → ∃ nm, x = .string nm) ∧ ∀ nm, fm (.string nm) = if !left (.string nm) && isFile C nm then some unit' else none
theorem seen_step {C : Chg} {left : Lit → Bool} {fm : Lit → Option Value} (h : Seen C left fm) (nm : List UInt8) (u : Option Value) (hu : u = if isFile C nm then some unit' else none) : Seen C (fun z => left z && !z.sameKey (.string nm)) (setK fm (.string nm) u) := by
  refine ⟨fun x hx => ?_, fun x => ?_⟩
  · by_cases e : x = .string nm
    · exact ⟨nm, e⟩
    · rw [setK_other _ e] at hx
      exact h.1 x hx
  · by_cases e : x = nm
    · subst e
      rw [setK_same, hu]
      have : (Lit.string x).sameKey (.string x) = true := WideAt.sameKey_self trivial
      simp [this]
    · rw [setK_other _ (fun h => e (by injection h)), h.2 x]
      have : (Lit.string x).sameKey (.string nm) = false := Maps.sameKey_ne (fun h => e (by injection h))
      simp [this]
theorem setK_twice (f : Lit → Option Value) (k : Lit) (u v : Option Value) : setK (setK f k u) k v = setK f k v := by
  funext x
  by_cases e : x = k
  · subst e; rw [setK_same, setK_same]
  · rw [setK_other _ e, setK_other _ e, setK_other _ e]
theorem seen_start {w : World} {Q : Nat → Prop} {C : Chg} {D : DataW Value} {f : Lit → Option Value} (hd : Desc D f) (hf : ∀ nm, isChg w Q f C nm) : Seen C (Maps.has D) (fun _ => none) := ⟨fun x h => absurd rfl h, fun nm => by
  have := hf nm
  unfold isChg at this
  unfold isFile
  rw [(hd _).1]
  cases hc : C nm with
  | none => simp
  | some c =>
    rw [hc] at this
    obtain ⟨v, hv, _⟩ := this
    rw [hv]
    simp⟩
theorem support {L : List (List UInt8)} {C : Chg} {left : Lit → Bool} {fm : Lit → Option Value} (hL : ∀ x, C x ≠ none → x ∈ L) (h : Seen C left fm) : ∀ x, fm x ≠ none → x ∈ L.map Lit.string := fun x hx => by
  obtain ⟨nm, rfl⟩ := h.1 x hx
  refine List.mem_map.2 ⟨nm, hL nm (fun hc => hx ?_), rfl⟩
  rw [h.2 nm]
  unfold isFile
  rw [hc]
  simp
theorem strKeys_mem {D : DataW Value} {fm : Lit → Option Value} (hd : Desc D fm) (hs : ∀ x, fm x ≠ none → ∃ nm, x = .string nm) (hD : ∃ es, D = .map es ∧ es.Pairwise (fun p q => p.1 ≠ q.1) ∧ ∀ p ∈ es, WideAt.IsKeyLit p.1) (nm : List UInt8) : nm ∈ strKeys D ↔ fm (.string nm) ≠ none := by
  obtain ⟨es, rfl, _, hk⟩ := hD
  constructor
  · intro h
    obtain ⟨p, hp, rfl⟩ := List.mem_map.1 h
    have h1 : Maps.has (.map es) p.1 = true := List.any_eq_true.2 ⟨p, hp, WideAt.sameKey_self (hk p hp)⟩
    rw [(hd p.1).1] at h1
    have h2 : fm p.1 ≠ none := fun h => by rw [h] at h1; cases h1
    obtain ⟨m, hm⟩ := hs p.1 h2
    rw [hm] at h2 ⊢
    exact h2
  · intro h
    have h1 : Maps.has (.map es) (.string nm) = true := by
      rw [(hd _).1]
      exact Option.isSome_iff_ne_none.2 h
    obtain ⟨p, hp, hpk⟩ := List.any_eq_true.1 h1
    refine List.mem_map.2 ⟨p, hp, ?_⟩
    rw [WideAt.sameKey_eq hpk]
    rfl
theorem chg_shape {w : World} {Q : Nat → Prop} {C : Chg} {nm : List UInt8} {c : Option (List UInt8)} {v : Value} (hc : C nm = some c) (h : chgV w Q c v) : ∃ a n cp gn, v = .agg #[.slice a n cp, .bool gn] ∧ isFile C nm = !gn := by
  cases c with
  | none => exact ⟨none, 0, 0, true, h, by unfold isFile; rw [hc]; rfl⟩
  | some b =>
    obtain ⟨a, cp, e, _⟩ := h
    exact ⟨a, b.length, cp, false, e, by unfold isFile; rw [hc]; rfl⟩
theorem strKeys_length {D : DataW Value} (hD : ∃ es, D = .map es ∧ es.Pairwise (fun p q => p.1 ≠ q.1) ∧ ∀ p ∈ es, WideAt.IsKeyLit p.1) : (strKeys D).length = Maps.size D := by
  obtain ⟨es, rfl, _, _⟩ := hD
  simp [strKeys, Maps.size]
/-- What a step of the range meets. -/
theorem met {w : World} {Q : Nat → Prop} {C : Chg} {D : DataW Value} {f : Lit → Option Value} (hd : Desc D f) (hf : ∀ nm, isChg w Q f C nm) (hk : ∀ x, f x ≠ none → ∃ nm, x = .string nm) (hb : ∀ nm, C nm ≠ none → nm.length ≤ 1000000)
    {key v : Value} {kl : Lit} {y : DataW Value × List MemPlace} (hkey : keyOf Tryz.prog 9 key = some kl) (hv : anyR v = some y) (hat : ∀ zd, D.atKey kl zd = y.1) : ∃ nm c, kl = .string nm ∧ key = nv nm ∧ C nm = some c ∧ chgV w Q c v := by
  have h1 := Maps.has_true_of_atKey hat
  rw [(hd kl).1] at h1
  obtain ⟨u, hu⟩ := Option.isSome_iff_exists.1 h1
  obtain ⟨nm, rfl⟩ := hk kl (by rw [hu]; exact fun h => by cases h)
  have h2 := hf nm
  unfold isChg at h2
  cases hc : C nm with
  | none => rw [hc] at h2; rw [h2] at hu; cases hu
  | some c =>
    rw [hc] at h2
    obtain ⟨v2, h3, h4⟩ := h2
    have e1 : v = u := by
      have e := (hat (.held u)).symm.trans ((hd _).2 u hu (.held u))
      have e3 : y = (.held v, []) := (Option.some.inj hv).symm
      rw [e3] at e
      exact DataW.held.inj e
    have e2 : v2 = u := Option.some.inj (h3.symm.trans hu)
    refine ⟨nm, c, rfl, strKeyed.inj hkey (nv_key (hb nm (by rw [hc]; exact fun h => by cases h))), hc, ?_⟩
    rw [e1, ← e2]
    exact h4
set_option maxHeartbeats 400000 in
set_option maxRecDepth 100000 in
theorem names_any {w : World} {Q : Nat → Prop} {s d g N cm : Nat} {off : Bool} {C : Chg} (h : St w Q s d g N cm off C) (L : List (List UInt8)) (hL : ∀ x, C x ≠ none → x ∈ L) (hn : L.length ≤ 1000000) (hLn : ∀ x ∈ L, x.length ≤ 1000000) :
    Calls Tryz.prog 24 #[.pointer (some ⟨s, 0, none⟩)] w fun e w' => ∃ (v : Value) (ss : List (List UInt8)), e = .returned v ∧ w'.ownsRow w.heap.size 9 1 v ss.length (ss.map encStr) ∧ (∀ nm, nm ∈ ss ↔ isFile C nm = true) ∧ ss.length ≤ L.length ∧ Below w.heap.size w w' := by
  have c3 := h.store.cell 3
  have c4 := h.store.cell 4
  simp at c3 c4
  have H := Lib.hid h
  have hmk := run_makeMap (P := Tryz.prog) 91 w
  have ha := h.store.alloc (.map #[] 0)
  have k3 := ha.cell 3
  have k4 := ha.cell 4
  simp at k3 k4
  clear h ha
  go_enter Tryz.func24, Tryz.ntmps24
  go_wp2_with fail
  obtain ⟨W, hW⟩ : ∃ W, W = w.alloc (.map #[] 0) := ⟨_, rfl⟩
  have hM0 : MapIs W 9 w.heap.size (fun _ => none) := by rw [hW]; exact MapIs.made w _
  have hBW : Below w.heap.size w W := by rw [hW]; exact (Below.refl _ w).alloc (Nat.le_refl _) _
  rw [← hW] at k3 k4 ⊢
  have HM0 := Lib.hid hM0
  have HBW := Lib.hid hBW
  clear hM0 hBW hW hmk c3 c4
  go_loopw [17] (fun i wr => i = .int .i64 0 ∧ wr = W) (fun _ _ => 0)
  case atStart => exact ⟨rfl, rfl⟩
  case round =>
    obtain ⟨rfl, rfl⟩ := hrel
    obtain ⟨f, ⟨D, n, hown, hd⟩, hk, hf⟩ := (H.out.later HBW.out).map
    obtain ⟨W2, hrun, hrg, hgr, hsz⟩ := hown.range strKeyed Tryz.underlying88
    have hcm := H.out.lt cm H.out.qm
    have hW2 : Below wr.heap.size wr W2 := ⟨hgr.os, hgr.tape, hgr.output, hgr.size, fun k hk => hgr.block k hk (by simp)⟩
    have HR := Lib.hid hrg
    have HW2 := Lib.hid hW2
    have HF := Lib.hid hf
    have HD := Lib.hid hd
    have HK := Lib.hid hk
    have hn2 := HM0.out.lt
    have hM1 := HM0.out.keep (hW2.block w.heap.size hn2)
    have HM1 := Lib.hid hM1
    have hS : Seen C (Maps.has D) (fun _ => none) := seen_start hd hf
    have HS := Lib.hid hS
    have HBW2 := Lib.hid (HBW.out.trans (hW2.mono HBW.out.size))
    clear hrg hgr hW2 hf hd hk hM1 hS hown
    go_wp2_with fail
    obtain ⟨r, hr⟩ : ∃ r, r = wr.heap.size := ⟨_, rfl⟩
    rw [← hr] at HR ⊢
    have hrw : w.heap.size < r := by rw [hr]; exact HM0.out.lt
    have HRR := Lib.hid hr
    clear hr hrun
    go_loopw [] (fun wq => ∃ left cnt fm, Hid (wq.ranges Tryz.prog 9 anyR cm r n D left cnt) ∧ Hid (MapIs wq 9 w.heap.size fm) ∧ Hid (Seen C left fm) ∧ Hid (Below w.heap.size w wq)) (fun wq => wq.rangeLeft cm r)
    case atStart => exact ⟨_, _, _, HR, HM1, HS, HBW2⟩
    case round =>
      obtain ⟨left, cnt, fm, hR, hM, hS, hB⟩ := hrel
      have hsz := hB.out.size
      rcases hR.out.next strKeyed 0 with ⟨h0, hl, hrun⟩ | ⟨key, v, kl, y, w5, cnt', hkey, hlk, hv, hat, hrun, hR5, hlt, hg5, hs5, hen⟩
      · have HL := Lib.hid hl
        clear hl h0
        obtain ⟨D2, hown2, hd2⟩ := hM.out.bounded strKeyed (L.map Lit.string) (support hL hS.out)
        have hle := hown2.size_le
        rw [List.length_map] at hle
        have hKeys := callsIn_wide.1 (Tryz.maps_Keys_41 (some w.heap.size) wr)
        have hSort := callsIn_wide.1 (Tryz.slices_Sorted_keys_40_41 w.heap.size _ D2 anyR wr hown2 (by unfold maxLen; omega) (by omega))
        have HKY := Lib.hid hKeys
        have HST := Lib.hid hSort
        have HD2 := Lib.hid hd2
        have HO2 := Lib.hid hown2
        clear hown2 hd2 hKeys hSort
        go_wp2_with fail
        refine HKY.out.mono ?_
        rintro e w6 ⟨rfl, rfl⟩
        go_wp2_with fail
        refine HST.out.mono ?_
        rintro e w7 ⟨v, ss, rfl, hperm, hown7, _, hB7⟩
        have HO7 := Lib.hid hown7
        have HB7 := Lib.hid hB7
        have HP := Lib.hid hperm
        clear hown7 hB7 hperm
        go_wp2_with fail
        go_ret
        refine ⟨v, ss.mergeSort (fun x y => decide (x ≤ y)), rfl, ?_, fun nm => ?_, ?_, ?_⟩
        · rw [List.length_mergeSort]
          exact own_mono HO7.out (by simp; omega)
        · rw [List.mem_mergeSort, HP.out.mem_iff, strKeys_mem HD2.out hS.out.1 (HO2.out.entries strKeyed), hS.out.2 nm, HL.out]
          cases isFile C nm <;> simp
        · rw [List.length_mergeSort, HP.out.length_eq, strKeys_length (HO2.out.entries strKeyed)]
          exact hle
        · exact (hB.out.alloc hsz _).trans (HB7.out.mono (by simp; omega))
      · obtain ⟨nm, c, rfl, rfl, hc, hch⟩ := met HD.out HF.out HK.out (fun nm h => hLn nm (hL nm h)) hkey hv hat
        obtain ⟨a0, n0, cp0, gn, rfl, hgn⟩ := chg_shape hc hch
        have hlen : nm.length ≤ 1000000 := hLn nm (hL nm (by rw [hc]; exact fun h => by cases h))
        have hnr : w.heap.size ≠ r := by omega
        have hncm : w.heap.size ≠ cm := by have := H.out.lt cm H.out.qm; omega
        have hM5 := hM.out.keep (hg5.block w.heap.size hM.out.lt (fun e => hnr (by injection e)))
        obtain ⟨W3, hW3⟩ : ∃ W3, W3 = w5.alloc (.cells #[.slice a0 n0 cp0, .bool gn] 94) := ⟨_, rfl⟩
        have hM3 : MapIs W3 9 w.heap.size fm := by rw [hW3]; exact hM5.keep (Below.heap_alloc _ _ _ hM5.lt)
        have hR3 := hR5.alloc (.cells #[.slice a0 n0 cp0, .bool gn] 94)
        have hb3 := Blk.new w5 94 #[.slice a0 n0 cp0, .bool gn]
        have hB5 : Below w.heap.size w w5 := hB.out.grown hg5 (by omega) (fun q e => by cases e; omega)
        have hB3 : Below w.heap.size w W3 := by rw [hW3]; exact hB5.alloc (by omega) _
        rw [← hW3] at hR3 hb3
        have hs3 : W3.heap.size = w5.heap.size + 1 := by rw [hW3]; simp
        obtain ⟨W4, hU, hM4, hg4, hs4⟩ := hM3.update strKeyed Tryz.underlying91 (L.map Lit.string) (support hL hS.out) (by rw [List.length_map]; unfold maxLen; omega) hkey unit'
        have hB4 : Below w.heap.size w W4 := hB3.grown hg4 (by omega) (fun q e => by cases e; exact Nat.le_refl _)
        have hR4 := hR3.kept hg4 (fun e => hncm (by injection e with e; exact e.symm)) (fun e => hnr (by injection e with e; exact e.symm))
        have hb4 : Blk W4 w5.heap.size 94 #[.slice a0 n0 cp0, .bool gn] := (hg4.block w5.heap.size hb3.lt (fun e => by injection e with e; have := hM.out.lt; omega)).trans hb3
        obtain ⟨W6, hDl, hM6, hg6, hs6⟩ := hM4.drop strKeyed Tryz.underlying91 hkey 0
        have hB6 : Below w.heap.size w W6 := hB4.grown hg6 (by omega) (fun q e => by cases e; exact Nat.le_refl _)
        have hR6 := hR4.kept hg6 (fun e => hncm (by injection e with e; exact e.symm)) (fun e => hnr (by injection e with e; exact e.symm))
        rw [setK_twice] at hM6
        have b1 := hb4.cell 1
        simp at b1
        have hfile : isFile C nm = !gn := hgn
        have hS4 := seen_step hS.out nm (if isFile C nm then some unit' else none) rfl
        rw [hfile] at hS4
        obtain ⟨x, hx⟩ : ∃ x, x = nv nm := ⟨_, rfl⟩
        have hml : wr.rangeLeft cm r = cnt := hR.out.left_eq
        rw [← hx] at hrun hen hU hDl
        have HW3 := Lib.hid hW3
        have HR4 := Lib.hid hR4
        have HR6 := Lib.hid hR6
        have HM4 := Lib.hid hM4
        have HM6 := Lib.hid hM6
        have HS4 := Lib.hid hS4
        have HB4 := Lib.hid hB4
        have HB6 := Lib.hid hB6
        have HML := Lib.hid hml
        rw [hW3] at hU
        unfold unit' at hU
        clear hR4 hR6 hM4 hM6 hS4 hB4 hB6 hM5 hM3 hR3 hb3 hB3 hB5 hb4 hg4 hg5 hg6 hR5 hch hat hv hkey hx hS hM hR hml hW3 hs3 hs4 hs5 hs6 hlk hc hfile hgn
        cases gn
        · go_wp2_with fail
          exact ⟨⟨_, cnt', _, HR4, HM4, Lib.hid (by have := HS4.out; simpa using this), HB4⟩, by rw [HR4.out.left_eq, HML.out]; exact hlt⟩
        · go_wp2_with fail
          exact ⟨⟨_, cnt', _, HR6, HM6, Lib.hid (by have := HS4.out; simpa using this), HB6⟩, by rw [HR6.out.left_eq, HML.out]; exact hlt⟩
end Go.Proofs.YtcdcnhecimajkaaGreat.Store

/- Layer 10: Remove. -/
namespace Go.Proofs.YtcdcnhecimajkaaGreat.Store
open Go.RowKit Go.Deep Mem Crc Disk Man Go.Maps

/-- Contains, on a row of names. -/
theorem contains_name (v : Value) (B : Nat) (ss : List (List UInt8)) (nm : List UInt8) (w : World) (h : w.ownsRow B 9 1 v ss.length (ss.map encStr)) (hin : nm ∈ ss) (hm : ss.length ≤ 1000000) :
    Calls Tryz.prog 25 #[v, nv nm] w fun e w' => e = .returned (.bool true) ∧ w' = w := by
  obtain ⟨a, cap, rfl, hc, hL, _, _⟩ := own_shape h
  obtain ⟨g, off, rfl, _, hcs⟩ := hL.resolve_left (fun e => by
    rw [List.map_eq_nil_iff] at e
    subst e
    cases hin)
  have := Tryz.slices_Contains_string g off ss.length cap (ss.map fun l => (⟨l.toArray⟩ : ByteArray)) ⟨nm.toArray⟩ w (by simp) (by omega) (fun j hj => by
    rw [List.length_map] at hj
    have := hcs j (encStr ss[j]) (by simp [hj])
    rw [this]
    simp [hj])
  have hci : Lib.containsS ((ss.map fun l => (⟨l.toArray⟩ : ByteArray)).take ss.length) ⟨nm.toArray⟩ = true := by
    rw [Lib.containsS_iff, List.take_of_length_le (by simp)]
    exact List.mem_map.2 ⟨nm, hin, rfl⟩
  rw [hci] at this
  exact this
set_option maxHeartbeats 400000 in
set_option maxRecDepth 100000 in
theorem remove_any {w : World} {Q : Nat → Prop} {s d g N cm : Nat} {C : Chg} (h : St w Q s d g N cm false C) (L : List (List UInt8)) (hL : ∀ x, C x ≠ none → x ∈ L) (hn : L.length ≤ 1000000) (hLn : ∀ x ∈ L, x.length ≤ 1000000) (nm : List UInt8) (hf : isFile C nm = true) :
    Calls Tryz.prog 33 #[.pointer (some ⟨s, 0, none⟩), nv nm] w fun e w' => e = .returned (.int .i64 0) ∧ ∃ Q', St w' Q' s d g N cm false (setC C nm (some none)) ∧ (∀ k, Q' k → Q k ∨ w.heap.size ≤ k) ∧ (∀ k, Q k → Q' k) ∧ Only [cm] w w' := by
  have HD := Lib.hid (down_any h)
  have HN := Lib.hid (names_any h L hL hn hLn)
  have H := Lib.hid h
  have HLS := Lib.hid h.store.lt
  have hnm : nm.length ≤ 1000000 := hLn nm (hL nm (fun e => by unfold isFile at hf; rw [e] at hf; cases hf))
  clear h
  obtain ⟨x, hx⟩ : ∃ x, x = nv nm := ⟨_, rfl⟩
  rw [← hx]
  have HX := Lib.hid hx
  clear hx
  go_enter Tryz.func33, Tryz.ntmps33
  go_wp2_with fail
  refine HD.out.mono ?_
  rintro e w1 ⟨rfl, rfl⟩
  go_wp2_with fail
  refine HN.out.mono ?_
  rintro e w2 ⟨v, ss, rfl, hO, hmem, hle, hB2⟩
  have hC := Lib.hid (contains_name v _ ss nm w2 hO ((hmem nm).2 hf) (by omega))
  rw [← HX.out] at hC
  obtain ⟨w3, hrun, hst3, ho3, hs3⟩ := H.out.changed (w1 := w2) hB2 L hL hn nm hnm none (.agg #[.slice none 0 0, .bool true]) rfl
  rw [← HX.out] at hrun
  have c4 := (hB2.cell (p := ⟨s, 4, none⟩) HLS.out).trans (H.out.store.cell 4)
  simp at c4
  have HST3 := Lib.hid hst3
  have HO3 := Lib.hid ho3
  clear hO hmem hB2 hst3 ho3 hs3
  go_wp2_with fail
  refine hC.out.mono ?_
  rintro e w4 ⟨rfl, rfl⟩
  go_wp2_with fail
  go_ret
  exact ⟨rfl, _, HST3.out, fun k hk => hk.imp id And.left, fun k hk => .inl hk, HO3.out⟩
/-- On a disk that is off. -/
theorem remove_off {w : World} {Q : Nat → Prop} {s d g N cm : Nat} {C : Chg} (h : St w Q s d g N cm true C) (x : Value) :
    Calls Tryz.prog 33 #[.pointer (some ⟨s, 0, none⟩), x] w fun e w' => e = .returned (.int .i64 6) ∧ w' = w := by
  have HD := Lib.hid (down_any h)
  clear h
  go_enter Tryz.func33, Tryz.ntmps33
  go_wp2_with fail
  refine HD.out.mono ?_
  rintro e w1 ⟨rfl, rfl⟩
  go_wp2_with fail
  go_ret
  exact ⟨rfl, rfl⟩
end Go.Proofs.YtcdcnhecimajkaaGreat.Store
