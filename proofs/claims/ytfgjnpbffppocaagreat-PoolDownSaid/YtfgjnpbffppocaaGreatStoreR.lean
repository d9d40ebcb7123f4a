/- Layer 10: Read of a store of which nothing was committed; what is refused on a disk that is off. -/
import Derived.Test.YtfgjnpbffppocaaGreatStoreRW
namespace Go.Proofs.YtfgjnpbffppocaaGreat.Store
open Go.RowKit Go.Deep Mem Crc Disk Man Go.Maps

theorem zero_chg (w : World) : (zeroValue 78).run Tryz.prog w = .ok (.agg #[.slice none 0 0, .bool false]) w := by kernel_rfl
theorem St.look {w : World} {Q : Nat → Prop} {s d g N cm : Nat} {off : Bool} {C : Chg} (h : St w Q s d g N cm off C) (nm : List UInt8) (hn : nm.length ≤ 1000000) :
    (Instr.lookup 70 (.map (some cm)) (nv nm) true).run Tryz.prog w = .ok (.tuple #[.agg #[.slice none 0 0, .bool false], .bool false]) w ∧ C nm = none ∨
    (Instr.lookup 70 (.map (some cm)) (nv nm) true).run Tryz.prog w = .ok (.tuple #[.agg #[.slice none 0 0, .bool true], .bool true]) w ∧ C nm = some none ∨
    ∃ b a cp, (Instr.lookup 70 (.map (some cm)) (nv nm) true).run Tryz.prog w = .ok (.tuple #[.agg #[.slice a b.length cp, .bool false], .bool true]) w ∧ C nm = some (some b) ∧ b.length ≤ cp ∧ Lies w a (b.map bv) := by
  obtain ⟨f, hm, hk, hf⟩ := h.map
  have hl := hm.look_ok strKeyed Tryz.underlying70 zero_chg (nv_key hn)
  have hx := hf nm
  unfold isChg at hx
  cases hc : C nm with
  | none =>
    rw [hc] at hx
    rw [hx] at hl
    exact .inl ⟨hl, rfl⟩
  | some c =>
    rw [hc] at hx
    obtain ⟨v, h1, h2⟩ := hx
    rw [h1] at hl
    cases c with
    | none =>
      rw [show v = _ from h2] at hl
      exact .inr (.inl ⟨hl, rfl⟩)
    | some b =>
      obtain ⟨a, cp, rfl, h3, h4, _⟩ := h2
      exact .inr (.inr ⟨b, a, cp, hl, rfl, h3, h4⟩)
theorem search_none (x fv : Value) (w : World) : Calls Tryz.prog 80 #[.slice none 0 0, x, fv] w fun e w' => e = .returned (.tuple #[.int .i64 0, .bool false]) ∧ w' = w := by
  go_enter Tryz.func80, Tryz.ntmps80
  go_wp2_with fail
  go_loopw [9, 10] (fun i j wr => i = .int .i64 0 ∧ j = .int .i64 0 ∧ wr = w) (fun _ _ _ => 0)
  case atStart => exact ⟨rfl, rfl, rfl⟩
  case round =>
    obtain ⟨rfl, rfl, rfl⟩ := hrel
    go_wp2_with fail
    go_ret2
    exact ⟨rfl, rfl⟩
/-- Find on no files. -/
theorem find_none (x : Value) (w : World) : Calls Tryz.prog 61 #[.agg #[.int .u64 0, .int .u32 0, .slice none 0 0], x] w fun e w' => e = .returned (.tuple #[.int .i64 0, .bool false]) ∧ Below w.heap.size w w' := by
  go_enter Tryz.func61, Tryz.ntmps61
  go_wp2_with fail
  refine (search_none _ _ _).mono ?_
  rintro e w1 ⟨rfl, rfl⟩
  go_wp2_with fail
  go_ret2
  exact ⟨rfl, (Below.refl _ w).alloc (Nat.le_refl _) _⟩
set_option maxHeartbeats 400000 in
set_option maxRecDepth 100000 in
theorem read_off {w : World} {Q : Nat → Prop} {s d g N cm : Nat} {C : Chg} (h : St w Q s d g N cm true C) (x : Value) :
    Calls Tryz.prog 38 #[.pointer (some ⟨s, 0, none⟩), x] w fun e w' => e = .returned (.tuple #[.slice none 0 0, .int .i64 6]) ∧ Below w.heap.size w w' := by
  have HD := Lib.hid (down_any h)
  clear h
  go_enter Tryz.func38, Tryz.ntmps38
  go_wp2_with fail
  refine HD.out.mono ?_
  rintro e w1 ⟨rfl, rfl⟩
  go_wp2_with fail
  go_ret2
  exact ⟨rfl, Below.refl _ _⟩
set_option maxHeartbeats 400000 in
set_option maxRecDepth 100000 in
theorem write_off {w : World} {Q : Nat → Prop} {s d g N cm : Nat} {C : Chg} (h : St w Q s d g N cm true C) (x : Value) (a : Option Addr) (n cp : Nat) :
    Calls Tryz.prog 44 #[.pointer (some ⟨s, 0, none⟩), x, .slice a n cp] w fun e w' => e = .returned (.int .i64 6) ∧ w' = w := by
  have HD := Lib.hid (down_any h)
  clear h
  go_enter Tryz.func44, Tryz.ntmps44
  go_wp2_with fail
  refine HD.out.mono ?_
  rintro e w1 ⟨rfl, rfl⟩
  go_wp2_with fail
  go_ret
  exact ⟨rfl, rfl⟩
/-- What Read hands back, and the error. -/
def readOf (C : Chg) (nm : List UInt8) : List UInt8 × Int :=
  match C nm with
  | some (some b) => (b, 0)
  | _ => ([], 8)
set_option maxHeartbeats 400000 in
set_option maxRecDepth 100000 in
theorem read_any {w : World} {Q : Nat → Prop} {s d g N cm : Nat} {C : Chg} (h : St w Q s d g N cm false C) (nm : List UInt8) (hn : nm.length ≤ 1000000) (hb : ∀ b, C nm = some (some b) → b.length ≤ 4000000) :
    Calls Tryz.prog 38 #[.pointer (some ⟨s, 0, none⟩), nv nm] w fun e w' => ∃ v, e = .returned (.tuple #[v, .int .i64 (readOf C nm).2]) ∧ OwnB w' w.heap.size v (readOf C nm).1 ∧ Below w.heap.size w w' := by
  have HD := Lib.hid (down_any h)
  have hl := h.look nm hn
  have c1 := h.store.cell 1
  have c2 := h.store.cell 2
  have c3 := h.store.cell 3
  have c4 := h.store.cell 4
  have ha := h.store.alloc (.cells #[.slice none 0 0, .bool false] 78)
  have k1 := ha.cell 1
  have k2 := ha.cell 2
  have k3 := ha.cell 3
  simp at c1 c2 c3 c4 k1 k2 k3
  clear ha
  obtain ⟨x, hx⟩ : ∃ x, x = nv nm := ⟨_, rfl⟩
  rw [← hx] at hl ⊢
  clear h hx
  rcases hl with ⟨hl, hc⟩ | ⟨hl, hc⟩ | ⟨b, a, cp, hl, hc, hcp, hL⟩
  · have er : readOf C nm = ([], 8) := by unfold readOf; rw [hc]
    rw [er]
    clear hc hb
    go_enter Tryz.func38, Tryz.ntmps38
    go_wp2_with fail
    refine HD.out.mono ?_
    rintro e w1 ⟨rfl, rfl⟩
    go_wp2_with fail
    refine (find_none _ _).mono ?_
    rintro e w2 ⟨rfl, hB2⟩
    have hBB := ((Below.refl w1.heap.size w1).alloc (Nat.le_refl _) (.cells #[.slice none 0 0, .bool false] 78)).trans (hB2.mono (by simp))
    have HBB := Lib.hid hBB
    clear hB2 hBB
    go_wp2_with fail
    go_ret2
    exact ⟨_, rfl, World.ownsRow_nil _ _ _ _, HBB.out⟩
  · have er : readOf C nm = ([], 8) := by unfold readOf; rw [hc]
    rw [er]
    clear hc hb
    go_enter Tryz.func38, Tryz.ntmps38
    go_wp2_with fail
    refine HD.out.mono ?_
    rintro e w1 ⟨rfl, rfl⟩
    go_wp2_with fail
    go_ret2
    exact ⟨_, rfl, World.ownsRow_nil _ _ _ _, (Below.refl _ w1).alloc (Nat.le_refl _) _⟩
  · have er : readOf C nm = (b, 0) := by unfold readOf; rw [hc]
    rw [er]
    have hbl := hb b hc
    clear hc hb er
    go_enter Tryz.func38, Tryz.ntmps38
    go_wp2_with fail
    refine HD.out.mono ?_
    rintro e w1 ⟨rfl, rfl⟩
    have hal := (Below.refl w1.heap.size w1).alloc (Nat.le_refl _) (.cells #[.slice a b.length cp, .bool false] 78)
    have HC := Lib.hid (clone_any a cp b _ (hL.later hal) (by omega))
    have HA := Lib.hid hal
    clear hL hal
    go_wp2_with fail
    refine HC.out.mono ?_
    rintro e w2 ⟨v, rfl, hO, hB2⟩
    have HO := Lib.hid (own_mono hO (show w1.heap.size ≤ _ by simp))
    have HB2 := Lib.hid (HA.out.trans (hB2.mono (by simp)))
    clear hO hB2
    go_wp2_with fail
    go_ret2
    exact ⟨_, rfl, HO.out, HB2.out⟩
end Go.Proofs.YtfgjnpbffppocaaGreat.Store
