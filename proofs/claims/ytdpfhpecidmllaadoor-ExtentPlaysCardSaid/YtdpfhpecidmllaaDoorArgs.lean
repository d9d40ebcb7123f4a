/- Layer 7: what is known of a row of acts that came in. -/
import Derived.Test.YtdpfhpecidmllaaDoorLaws
import Derived.ProofKit
import Derived.OpenShut
namespace Go.Proofs.YtdpfhpecidmllaaDoor.Ext
open Go.ChangeShapes Go.WideShapes Go.RowKit Go.Shelf Go.Deep Mem

structure Act where
  kind : Int
  n : Int
  a : Option Addr
  cp : Nat
  l : List Int
deriving Inhabited
def In64 (n : Int) : Prop := -9223372036854775808 ≤ n ∧ n ≤ 9223372036854775807
structure IsAct (W : World) (a : Option Addr) (i : Nat) (t : Act) : Prop where
  at_ : ∃ b off, a = some ⟨b, off, none⟩ ∧ b < W.heap.size ∧ W.cell? ⟨b, off + i * 3, none⟩ = some (.int .i64 t.kind) ∧ W.cell? ⟨b, off + i * 3 + 1, none⟩ = some (.int .i64 t.n) ∧
    W.cell? ⟨b, off + i * 3 + 2, none⟩ = some (.slice t.a t.l.length t.cp)
  kin : In64 t.kind
  nin : In64 t.n
  lcap : t.l.length ≤ t.cp
  lmax : t.cp ≤ maxLen
  lies : t.l = [] ∨ ∃ b off, t.a = some ⟨b, off, none⟩ ∧ b < W.heap.size ∧ Ints W b off t.l
/-- The acts of a slice. -/
structure Acts (W : World) (a : Option Addr) (len : Nat) (l : List Act) : Prop where
  len : l.length = len
  cells : ∀ i t, l[i]? = some t → IsAct W a i t

theorem int_field {H : Type} {enc : TypeId × Value → H} {n : Nat} {c : Value} {W : World} {o : Option (DataW H × List MemPlace)} (g : DataW.trod enc Tryd.prog W 0 (fun _ => true) true n 3 [c] = o) (ho : o ≠ none) : ∃ k, c = .int .i64 k ∧ In64 k := by
  cases o with
  | none => exact absurd rfl ho
  | some y =>
    obtain ⟨k, hk, _, hw⟩ := DataW.trod_int Tryd.underlying3 g
    exact ⟨k, by simpa using hk, bounds_i64 hw⟩
theorem int_open {H : Type} {enc : TypeId × Value → H} {v : Value} {d : DataW H} {p : List MemPlace} {W : World} {base : Nat} (q : Value.okWide Tryd.prog W .any base 3 v) (h : DataW.Trod enc Tryd.prog W 0 (fun _ => true) true 3 v d p) : ∃ k, v = .int .i64 k ∧ In64 k := by
  obtain ⟨n, rfl⟩ := okWide_int Tryd.underlying3 q
  obtain ⟨fuel, hf⟩ := h
  obtain ⟨k, hk, _, hw⟩ := DataW.trod_int Tryd.underlying3 hf
  simp [Value.cells] at hk
  subst hk
  exact ⟨n, rfl, bounds_i64 hw⟩
theorem add_at (b off n : Nat) : (⟨b, off, none⟩ : Addr).add n = ⟨b, off + n, none⟩ := by
  unfold Addr.add
  split <;> simp_all
theorem ints_field {H : Type} {enc : TypeId × Value → H} {n : Nat} {c : Value} {W : World} {o : Option (DataW H × List MemPlace)} (g : DataW.trod enc Tryd.prog W 0 (fun _ => true) true n 32 [c] = o) (ho : o ≠ none) :
    ∃ (a : Option Addr) (cp : Nat) (l : List Int), c = .slice a l.length cp ∧ l.length ≤ cp ∧ cp ≤ maxLen ∧ (l = [] ∨ ∃ b off, a = some ⟨b, off, none⟩ ∧ b < W.heap.size ∧ Ints W b off l) := by
  cases o with
  | none => exact absurd rfl ho
  | some y =>
    rcases open_ints Tryd.underlying32 Tryd.underlying3 (by kernel_rfl) g with ⟨hcs, _⟩ | ⟨a', len, cap, zs, hcs, _, hl, hm, hz, _, hcell, _⟩
    · simp at hcs
      subst hcs
      exact ⟨none, 0, [], rfl, Nat.le_refl _, Nat.zero_le _, .inl rfl⟩
    · simp at hcs
      subst hcs
      simp at hz
      refine ⟨some a', cap, zs.take len, by simp [hz, Nat.min_eq_left hl], by rw [List.length_take]; omega, hm, ?_⟩
      by_cases h0 : len = 0
      · subst h0; exact .inl (by simp)
      · right
        have e0 := hcell 0 (by omega)
        have hsp : a'.spot = none := by
          have := World.cell?_spot e0
          simpa [Addr.add] using this
        obtain ⟨b, off, spot⟩ := a'
        have hs : spot = none := hsp
        subst hs
        refine ⟨b, off, rfl, ?_, fun i x hx => ?_⟩
        · rw [add_at] at e0
          exact World.block_lt_of_cell? W _ e0
        · have hi : i < len := by
            have := (List.getElem?_eq_some_iff.1 hx).1
            simp at this
            omega
          have := hcell i (by omega)
          rw [add_at] at this
          rw [this]
          rw [List.getElem?_take, if_pos hi] at hx
          rw [List.getD_eq_getElem?_getD, hx]
          rfl

theorem acts_open {H : Type} {enc : TypeId × Value → H} {base : Nat} {v : Value} {d : DataW H} {p : List MemPlace} {W : World} (q : Value.okWide Tryd.prog W .any base 22 v) (h : DataW.Trod enc Tryd.prog W 0 (fun _ => true) true 22 v d p) :
    ∃ a len cap l, v = .slice a len cap ∧ len ≤ cap ∧ cap ≤ maxLen ∧ Acts W a len l := by
  obtain ⟨a, len, cap, rfl⟩ := okWide_slice Tryd.underlying22 q
  obtain ⟨fuel, hf⟩ := h
  have hcells : Tryd.prog.cellsOf 34 = 3 := by kernel_rfl
  have hint : Tryd.prog.cellsOf 3 = 1 := by kernel_rfl
  have hints : Tryd.prog.cellsOf 32 = 1 := by kernel_rfl
  rcases open_slice Tryd.underlying22 hf with ⟨hcs, _⟩ | ⟨a', len', cap', m, n, D, Pl, hcs, _, hl, hm, hmm, _, hi⟩
  · simp [Value.cells] at hcs
    obtain ⟨rfl, rfl, rfl⟩ := hcs
    exact ⟨none, 0, 0, [], rfl, Nat.le_refl _, Nat.zero_le _, rfl, fun i t ht => by simp at ht⟩
  · simp [Value.cells] at hcs
    obtain ⟨rfl, rfl, rfl⟩ := hcs
    simp at hmm
    subst hmm
    have hspot : 0 < len → a'.spot = none := fun h0 => by
      obtain ⟨cs', hc, _⟩ := hi 0 (by omega)
      rw [hcells] at hc
      obtain ⟨_, hlen, hat⟩ := World.cells?_some hc
      have e := hat 0 (by omega)
      rw [List.getElem?_eq_getElem (by omega)] at e
      have := World.cell?_spot e
      simpa [Addr.add] using this
    obtain ⟨f, hfx⟩ := choose_lt (α := Act) (n := len) (p := fun i t => IsAct W (some a') i t) (fun i hlt => by
      obtain ⟨cs', hc, ht⟩ := hi i (by omega)
      rw [hcells] at hc
      obtain ⟨_, hlen, hat⟩ := World.cells?_some hc
      obtain ⟨ys, n', _, _, _, hyl, hfld⟩ := DataW.trod_struct Tryd.underlying34 ht
      match cs', hlen with
      | [c0, c1, c2], _ =>
        have g0 := hfld 0 _ rfl
        have g1 := hfld 1 _ rfl
        have g2 := hfld 2 _ rfl
        simp [hint, hints] at g0 g1 g2
        have hyl : ys.length = 3 := hyl
        obtain ⟨k0, rfl, b0⟩ := int_field g0 (by simp [hyl])
        obtain ⟨k1, rfl, b1⟩ := int_field g1 (by simp [hyl])
        obtain ⟨a2, cp2, l2, rfl, r1, r2, r3⟩ := ints_field g2 (by simp [hyl])
        obtain ⟨b, off, spot⟩ := a'
        have e0 := hat 0 (by omega)
        have e1 := hat 1 (by omega)
        have e2 := hat 2 (by omega)
        have hs : spot = none := hspot (by omega)
        subst hs
        rw [add_at, add_at] at e0 e1 e2
        have hb := World.block_lt_of_cell? W _ e0
        exact ⟨⟨k0, k1, a2, cp2, l2⟩, ⟨⟨b, off, rfl, hb, e0, e1, e2⟩, b0, b1, r1, r2, r3⟩⟩)
    refine ⟨some a', _, _, (List.range len).map f, rfl, hl, hm, by simp, fun i t ht => ?_⟩
    have hlt : i < len := by
      have := (List.getElem?_eq_some_iff.1 ht).1
      simpa using this
    obtain rfl : f i = t := by simpa [hlt] using ht
    exact hfx i hlt
/-- An act's row, as a later world has it. -/
theorem IsAct.row {W w : World} {a : Option Addr} {i : Nat} {t : Act} (h : IsAct W a i t) (hl : t.l.length ≤ 300) (hB : Below W.heap.size W w) : ARow W.heap.size w t.a t.cp t.l :=
  ⟨h.lcap, by omega, h.lies.imp id (fun ⟨b, off, e, h1, h2⟩ => ⟨b, off, e, h1, h2.below hB h1⟩)⟩

/-- Is more asked than is gone through? -/
def greatB (count : Int) (l : List Act) : Bool := decide (300 < count) || decide (100 < l.length) || l.any (fun t => decide (300 < t.l.length))
set_option maxHeartbeats 1000000 in
theorem great_any (count : Int) (a : Option Addr) (len cp : Nat) (l : List Act) (w : World) (h : Acts w a len l) :
    Calls Tryd.prog 6 #[.int .i64 count, .slice a len cp] w fun e w' => e = .returned (.bool (greatB count l)) ∧ w = w' := by
  obtain ⟨hlen, hc⟩ := h
  subst hlen
  have HC := Lib.hid hc
  clear hc
  by_cases h1 : 300 < count
  · have e : greatB count l = true := by simp [greatB, h1]
    have d : decide (300 < count) = true := by simpa using h1
    rw [e]
    go_enter Tryd.func6, Tryd.ntmps6
    go_wp2_with fail
    go_ret
    exact ⟨rfl, rfl⟩
  · have d : decide (300 < count) = false := by simpa using h1
    by_cases h2 : 100 < l.length
    · have e : greatB count l = true := by simp [greatB, h2]
      rw [e]
      go_enter Tryd.func6, Tryd.ntmps6
      go_wp2_with fail
      go_ret
      exact ⟨rfl, rfl⟩
    · have h3 : l.length ≤ 100 := by omega
      have e : greatB count l = l.any (fun t => decide (300 < t.l.length)) := by simp [greatB, h1, h2]
      rw [e]
      clear e
      go_enter Tryd.func6, Tryd.ntmps6
      go_wp2_with fail
      go_loopw [5] (fun i wr => ∃ n : Nat, n ≤ l.length ∧ i = .int .i64 n ∧ Hid (∀ j t, j < n → l[j]? = some t → t.l.length ≤ 300) ∧ w = wr) (fun i _ => l.length - (intOf i).toNat)
      case atStart => exact ⟨0, Nat.zero_le _, rfl, Lib.hid (fun j t hj => by omega), rfl⟩
      case round =>
        obtain ⟨n, hn, rfl, hno, rfl⟩ := hrel
        by_cases hlt : n < l.length
        · obtain ⟨t, ht⟩ : ∃ t, l[n]? = some t := ⟨_, List.getElem?_eq_getElem hlt⟩
          have hi := HC.out n t ht
          obtain ⟨b, off, rfl, _, _, _, c2⟩ := hi.at_
          obtain ⟨tl, htl⟩ : ∃ tl, tl = t.l.length := ⟨_, rfl⟩
          rw [← htl] at c2
          have HT := Lib.hid ht
          have HTL := Lib.hid htl
          clear ht htl hi
          by_cases h9 : 300 < tl
          · go_wp2_with fail
            go_ret
            refine ⟨?_, rfl⟩
            have e : l.any (fun t => decide (300 < t.l.length)) = true := List.any_eq_true.2 ⟨t, List.mem_of_getElem? HT.out, by rw [← HTL.out]; simpa using h9⟩
            rw [e]
            rfl
          · go_wp2_with fail
            refine ⟨⟨n + 1, by omega, by simp, Lib.hid (fun j u hj hu => ?_), trivial⟩, ?_⟩
            · by_cases e : j = n
              · subst e
                have := HT.out.symm.trans hu
                cases this
                rw [← HTL.out]
                omega
              · exact hno.out j u (by omega) hu
            · simp [intOf]; omega
        · obtain rfl : n = l.length := by omega
          go_wp2_with fail
          go_ret
          refine ⟨?_, rfl⟩
          have e : l.any (fun t => decide (300 < t.l.length)) = false := by
            rw [List.any_eq_false]
            intro t ht
            obtain ⟨j, hj⟩ := List.getElem?_of_mem ht
            have := hno.out j t (List.getElem?_eq_some_iff.1 hj).1 hj
            simp
            omega
          rw [e]
          rfl
theorem great_no {count : Int} {l : List Act} (h : greatB count l = false) : count ≤ 300 ∧ l.length ≤ 100 ∧ ∀ t ∈ l, t.l.length ≤ 300 := by
  unfold greatB at h
  simp only [Bool.or_eq_false_iff, decide_eq_false_iff_not, List.any_eq_false] at h
  exact ⟨by omega, by omega, fun t ht => by have := h.2 t ht; simpa using this⟩

/-- A new map's blocks. -/
theorem fresh_holds {n : Int} {w w' : World} (h : Fresh n w w') : Holds (w.heap.size + 1) w.heap.size ((cnt n + 63) / 64).toNat (List.replicate (cnt n).toNat false) w' := by
  have hc : 0 ≤ cnt n ∧ cnt n ≤ 65536 := by unfold cnt; omega
  have e0 : (List.replicate (cnt n).toNat false).length = (cnt n).toNat := by simp
  have e1 : nw (List.replicate (cnt n).toNat false) = ((cnt n + 63) / 64).toNat := by unfold nw; rw [e0]; omega
  refine ⟨by rw [e0]; omega, ?_, _, h.words, fun j hj => ⟨0, by decide, ?_, fun b _ hb2 => ?_⟩⟩
  · rw [e1, e0]
    have e2 : (tak (List.replicate (cnt n).toNat false) : Int) = 0 := by unfold tak; rw [List.count_replicate]; rfl
    rw [e2, show (((cnt n).toNat : Nat) : Int) = cnt n by omega]
    exact h.map
  · rw [e1] at hj
    have : (madeCells #[Value.int .u64 0] ((cnt n + 63) / 64).toNat)[j]? = (List.replicate ((cnt n + 63) / 64).toNat (Value.int .u64 0))[j]? := by
      rw [← toList_madeCells_one, Array.getElem?_toList]
    rw [this, List.getElem?_replicate, if_pos hj]
    rfl
  · rw [e0] at hb2
    rw [List.getElem?_replicate, if_pos hb2, Nat.zero_testBit]
theorem new_own (n : Int) (w : World) (hT : Tab w) :
    Calls Tryd.prog 8 #[.int .i64 n] w fun e w' => e = .returned (.pointer (some ⟨w.heap.size + 1, 0, none⟩)) ∧ Own w.heap.size (w.heap.size + 1) w.heap.size ((cnt n + 63) / 64).toNat (List.replicate (cnt n).toNat false) w' ∧ Below w.heap.size w w' :=
  (new_any n w).mono fun e w' ⟨he, hf⟩ => ⟨he, ⟨fresh_holds hf, hT.below hf.below hT.lt, hT.lt, Nat.le_succ _, Nat.le_refl _⟩, hf.below⟩
end Go.Proofs.YtdpfhpecidmllaaDoor.Ext
