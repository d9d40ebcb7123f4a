/- Layer 24: the pool's representation; there, Held, Waiting. -/
import Derived.Test.YtfgjnpbffppocaaGreatPoolNone
import Derived.Test.YtfgjnpbffppocaaGreatWalkClone
import Derived.Test.YtfgjnpbffppocaaGreatFrameLaw
namespace Go.Proofs.YtfgjnpbffppocaaGreat.Pool
open Go.RowKit Go.Deep Mem Crc Walk
open Go.Proofs.YtfgjnpbffppocaaGreat.Store (St Chg)

/-- Where a pool lies: the pool, its store (s, d, g, N, cm), the maps of what is spilled and held, the shards, the room. -/
structure Pa where
  p : Nat
  s : Nat
  d : Nat
  g : Nat
  N : Nat
  cm : Nat
  sm : Nat
  hm : Nat
  n : Nat
  room : Nat
/-- A shard's key. -/
def sK (i : Nat) : Lit := .int .i64 (i : Int)
abbrev Rows := Nat → List (List Nat)
/-- How many are held. -/
def many (Hd : Rows) (n : Nat) : Nat := ((List.range n).map (fun i => (Hd i).length)).sum
/-- The files that the spills are. -/
def Files (C : Chg) (S : Rows) (n : Nat) : Prop := (∀ nm, C nm ≠ none → ∃ i, i < n ∧ nm = pname i) ∧ ∀ i, i < n → if S i = [] then (C (pname i) = none ∨ C (pname i) = some none) else C (pname i) = some (some (Go.Proofs.YtfgjnpbffppocaaGreat.Frame.frameL 80 (all (S i))))
/-- The pool's own blocks, beside the store's. -/
def own3 (A : Pa) (k : Nat) : Prop := k = A.p ∨ k = A.sm ∨ k = A.hm
/-- A pool: Qs has the store's blocks; hv are the held map's entries. -/
structure Pl (A : Pa) (off : Bool) (w : World) (Qs : Nat → Prop) (hv : Nat → Option Value) (S Hd : Rows) : Prop where
  pool : Blk w A.p 57 #[.pointer (some ⟨A.s, 0, none⟩), .int .i64 (A.n : Int), .int .i64 (A.room : Int), .map (some A.sm), .map (some A.hm), .int .i64 (many Hd A.n : Int)]
  store : ∃ C, St w Qs A.s A.d A.g A.N A.cm off C ∧ Files C S A.n
  spilled : ∃ f, MapIs w 3 A.sm f ∧ (∀ x, f x ≠ none → ∃ i, i < A.n ∧ x = sK i) ∧ ∀ i, i < A.n → f (sK i) = if S i = [] then none else some (.int .i64 ((S i).length : Int))
  held : ∃ f, MapIs w 3 A.hm f ∧ (∀ x, f x ≠ none → ∃ i, i < A.n ∧ x = sK i) ∧ ∀ i, i < A.n → f (sK i) = hv i
  rows : ∀ i, i < A.n → match hv i with
    | none => Hd i = []
    | some v => OwnW w 0 v (Hd i)
  apart : ∀ i j u v, i < A.n → j < A.n → i ≠ j → hv i = some u → hv j = some v → u.ownBlock = none ∨ u.ownBlock ≠ v.ownBlock
  outside : ∀ i v k, i < A.n → hv i = some v → v.ownBlock = some k → ¬ Qs k ∧ ¬ own3 A k
  qs : ∀ k, Qs k → ¬ own3 A k
  maps : A.sm ≠ A.hm
  okS : ∀ i, i < A.n → ∀ x ∈ S i, ok x
  okH : ∀ i, i < A.n → ∀ x ∈ Hd i, ok x
  top : A.n ≤ 20 ∧ A.room ≤ 65536
/-- All its blocks. -/
def allQ (A : Pa) (Qs : Nat → Prop) (hv : Nat → Option Value) (k : Nat) : Prop := Qs k ∨ own3 A k ∨ ∃ i v, i < A.n ∧ hv i = some v ∧ v.ownBlock = some k
theorem key_of {i : Nat} (h : i < 1000000) : keyOf Tryz.prog 3 (.int .i64 (i : Int)) = some (sK i) := Maps.keyOf_int_mk Tryz.underlying3 (by simp [Lit.wf, IntKind.min, IntKind.max, IntKind.signed, IntKind.bits]; omega)
theorem intKeyed : Go.Maps.Keyed Tryz.prog 3 := Go.Maps.int_keyed Tryz.underlying3
end Go.Proofs.YtfgjnpbffppocaaGreat.Pool
