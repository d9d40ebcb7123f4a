/- What is known of a row of acts that came in. -/
import Derived.Test.YtddjcamhhjkbfaaBase
import Derived.ProofKit
import Derived.OpenShut
import Derived.Deep.Slices
namespace Go.Proofs.Ytddjcamhhjkbfaa.Args
open Go.ChangeShapes Go.WideShapes Go.RowKit Go.Deep Mem

structure Act where
  kind : Int
  key : Int
  size : Int
  x : Int
deriving Inhabited

def In64 (n : Int) : Prop := -9223372036854775808 ≤ n ∧ n ≤ 9223372036854775807

/-- The acts of a slice: their cells, each number a word. -/
structure Acts (W : World) (a : Option Addr) (len : Nat) (l : List Act) : Prop where
  len : l.length = len
  cells : ∀ i t, l[i]? = some t → ∃ b off, a = some ⟨b, off, none⟩ ∧ b < W.heap.size ∧ W.cell? ⟨b, off + i * 4, none⟩ = some (.int .i64 t.kind) ∧ W.cell? ⟨b, off + i * 4 + 1, none⟩ = some (.int .i64 t.key) ∧
    W.cell? ⟨b, off + i * 4 + 2, none⟩ = some (.int .i64 t.size) ∧ W.cell? ⟨b, off + i * 4 + 3, none⟩ = some (.int .i64 t.x) ∧ In64 t.kind ∧ In64 t.key ∧ In64 t.size ∧ In64 t.x

theorem int_field {H : Type} {enc : TypeId × Value → H} {n : Nat} {c : Value} {W : World} {o : Option (DataW H × List MemPlace)} (g : DataW.trod enc Try.prog W 0 (fun _ => true) true n 3 [c] = o) (ho : o ≠ none) : ∃ k, c = .int .i64 k ∧ In64 k := by
  cases o with
  | none => exact absurd rfl ho
  | some y =>
    obtain ⟨k, hk, _, hw⟩ := DataW.trod_int Try.underlying3 g
    exact ⟨k, by simpa using hk, bounds_i64 hw⟩
theorem int_open {H : Type} {enc : TypeId × Value → H} {v : Value} {d : DataW H} {p : List MemPlace} {W : World} {base : Nat} (q : Value.okWide Try.prog W .any base 3 v) (h : DataW.Trod enc Try.prog W 0 (fun _ => true) true 3 v d p) : ∃ k, v = .int .i64 k ∧ In64 k := by
  obtain ⟨n, rfl⟩ := okWide_int Try.underlying3 q
  obtain ⟨fuel, hf⟩ := h
  obtain ⟨k, hk, _, hw⟩ := DataW.trod_int Try.underlying3 hf
  simp [Value.cells] at hk
  subst hk
  exact ⟨n, rfl, bounds_i64 hw⟩
theorem add_at (b off n : Nat) : (⟨b, off, none⟩ : Addr).add n = ⟨b, off + n, none⟩ := by
  unfold Addr.add
  split <;> simp_all

theorem acts_open {H : Type} {enc : TypeId × Value → H} {base : Nat} {v : Value} {d : DataW H} {p : List MemPlace} {W : World} (q : Value.okWide Try.prog W .any base 22 v) (h : DataW.Trod enc Try.prog W 0 (fun _ => true) true 22 v d p) :
    ∃ a len cap l, v = .slice a len cap ∧ len ≤ cap ∧ cap ≤ maxLen ∧ Acts W a len l := by
  obtain ⟨a, len, cap, rfl⟩ := okWide_slice Try.underlying22 q
  obtain ⟨fuel, hf⟩ := h
  have hcells : Try.prog.cellsOf 29 = 4 := by kernel_rfl
  have hint : Try.prog.cellsOf 3 = 1 := by kernel_rfl
  rcases open_slice Try.underlying22 hf with ⟨hcs, _⟩ | ⟨a', len', cap', m, n, D, Pl, hcs, _, hl, hm, hmm, _, hi⟩
  · simp [Value.cells] at hcs
    obtain ⟨rfl, rfl, rfl⟩ := hcs
    exact ⟨none, 0, 0, [], rfl, Nat.le_refl _, Nat.zero_le _, rfl, fun i t ht => by simp at ht⟩
  · simp [Value.cells] at hcs
    obtain ⟨rfl, rfl, rfl⟩ := hcs
    simp at hmm
    subst hmm
    have hspot : 0 < len → a'.spot = none := fun h0 => by
      obtain ⟨cs', hc, _⟩ := hi 0 (by omega)
      rw [hcells] at hc
      obtain ⟨_, hlen, hat⟩ := World.cells?_some hc
      have e := hat 0 (by omega)
      rw [List.getElem?_eq_getElem (by omega)] at e
      have := World.cell?_spot e
      simpa [Addr.add] using this
    obtain ⟨f, hfx⟩ := choose_lt (α := Act) (n := len) (p := fun i t => ∃ b off, a' = ⟨b, off, none⟩ ∧ b < W.heap.size ∧ W.cell? ⟨b, off + i * 4, none⟩ = some (.int .i64 t.kind) ∧ W.cell? ⟨b, off + i * 4 + 1, none⟩ = some (.int .i64 t.key) ∧
      W.cell? ⟨b, off + i * 4 + 2, none⟩ = some (.int .i64 t.size) ∧ W.cell? ⟨b, off + i * 4 + 3, none⟩ = some (.int .i64 t.x) ∧ In64 t.kind ∧ In64 t.key ∧ In64 t.size ∧ In64 t.x) (fun i hlt => by
      obtain ⟨cs', hc, ht⟩ := hi i (by omega)
      rw [hcells] at hc
      obtain ⟨_, hlen, hat⟩ := World.cells?_some hc
      obtain ⟨ys, n', _, _, _, hyl, hfld⟩ := DataW.trod_struct Try.underlying29 ht
      match cs', hlen with
      | [c0, c1, c2, c3], _ =>
        have g0 := hfld 0 _ rfl
        have g1 := hfld 1 _ rfl
        have g2 := hfld 2 _ rfl
        have g3 := hfld 3 _ rfl
        simp [hint] at g0 g1 g2 g3
        have hyl : ys.length = 4 := hyl
        obtain ⟨k0, rfl, b0⟩ := int_field g0 (by simp [hyl])
        obtain ⟨k1, rfl, b1⟩ := int_field g1 (by simp [hyl])
        obtain ⟨k2, rfl, b2⟩ := int_field g2 (by simp [hyl])
        obtain ⟨k3, rfl, b3⟩ := int_field g3 (by simp [hyl])
        obtain ⟨b, off, spot⟩ := a'
        have e0 := hat 0 (by omega)
        have e1 := hat 1 (by omega)
        have e2 := hat 2 (by omega)
        have e3 := hat 3 (by omega)
        have hs : spot = none := hspot (by omega)
        subst hs
        rw [add_at, add_at] at e0 e1 e2 e3
        have hb := World.block_lt_of_cell? W _ e0
        exact ⟨⟨k0, k1, k2, k3⟩, b, off, rfl, hb, e0, e1, e2, e3, b0, b1, b2, b3⟩)
    refine ⟨some a', _, _, (List.range len).map f, rfl, hl, hm, by simp, fun i t ht => ?_⟩
    have hlt : i < len := by
      have := (List.getElem?_eq_some_iff.1 ht).1
      simpa using this
    obtain rfl : f i = t := by simpa [hlt] using ht
    obtain ⟨b, off, e, r⟩ := hfx i hlt
    exact ⟨b, off, by rw [e], r⟩
end Go.Proofs.Ytddjcamhhjkbfaa.Args
