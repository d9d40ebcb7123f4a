/- The iterator of package plan, some: its contract at any slice of ints. -/
import Derived.RangeFuncBox
import Derived.RangeFuncLeaves
import Derived.Shelf.Abstract
import Derived.WalkKit
import Derived.OwnWalkIn
import Derived.TacticsInMore
import Derived.LoopNIn
import Derived.LoopIn
import Derived.Lib.Hide
import Derived.Test.YtkcdlfnmdaljgaaRows
namespace Go.Proofs.Ytkcdlfnmdaljgaa.Iter
open Go.RowKit Go.Shelf

attribute [local go_sem] Oper.semAt_some

/-- The pairs (index, number) of the first k numbers that are positive. -/
def upto (zs : List Int) : Nat → List (Nat × Int)
  | 0 => []
  | k + 1 => if 0 < zs[k]?.getD 0 then upto zs k ++ [(k, zs[k]?.getD 0)] else upto zs k
theorem upto_yes (zs : List Int) (k : Nat) (h : 0 < zs[k]?.getD 0) : upto zs (k + 1) = upto zs k ++ [(k, zs[k]?.getD 0)] := by rw [upto, if_pos h]
theorem upto_no (zs : List Int) (k : Nat) (h : ¬ 0 < zs[k]?.getD 0) : upto zs (k + 1) = upto zs k := by rw [upto, if_neg h]
theorem upto_length (zs : List Int) (k : Nat) : (upto zs k).length ≤ k := by
  induction k with
  | zero => exact Nat.le_refl _
  | succ k ih => unfold upto; split <;> (try simp) <;> omega

/-- The slice value sv holds the ints zs, in a block below n0; or it is nil and there are none. -/
def Ints (n0 : Nat) (W : World) (a : Option Addr) (len : Nat) (zs : List Int) : Prop :=
  (len = 0 ∧ zs = []) ∨ ∃ b off, a = some ⟨b, off, none⟩ ∧ len = zs.length ∧ b < n0 ∧ ∀ j, j < zs.length → W.cell? ⟨b, off + j, none⟩ = some (.int .i64 (zs[j]?.getD 0))
theorem Ints.below {n0 : Nat} {A B : World} (h : Below n0 A B) {a : Option Addr} {len : Nat} {zs : List Int} : Ints n0 A a len zs → Ints n0 B a len zs
  | .inl e => .inl e
  | .inr ⟨b, off, e, e2, hb, hc⟩ => .inr ⟨b, off, e, e2, hb, fun j hj => (h.cell (p := ⟨b, off + j, none⟩) hb).trans (hc j hj)⟩

/-- What a round that goes on keeps: whatever lay below n0, and the box Bs. -/
def Kept (n0 Bs : Nat) (W W' : World) : Prop := Below n0 W W' ∧ W'.cell? ⟨Bs, 0, none⟩ = W.cell? ⟨Bs, 0, none⟩
theorem Kept.refl (n0 Bs : Nat) (W : World) : Kept n0 Bs W W := ⟨Below.refl _ _, rfl⟩
theorem kept_t {n0 Bs : Nat} {A B C : World} (h : Kept n0 Bs A B) (k : Kept n0 Bs B C) : Kept n0 Bs A C := ⟨h.1.trans k.1, k.2.trans h.2⟩
theorem kept_b {n0 Bs : Nat} {w : World} (hn : n0 ≤ w.heap.size) (hB : Bs < w.heap.size) (W : World) (l : Nat) (o o' : Obj) (hl : w.heap.size ≤ l) (h : W.heap[l]? = some o) (hc : o.isCells = false) (hk : o.isWalk = false) : Kept n0 Bs W (W.putObj l o') :=
  ⟨belowK_b hn W l o o' hl h hc hk, World.cell?_of_block (World.putObj_heap_other (by show Bs ≠ l; omega))⟩

set_option maxRecDepth 100000 in
set_option maxHeartbeats 2000000 in
theorem some1_in (F : Fence) (n : Nat) (h7 : F.fn 16) (hro : F.round = none) (hn : 1 ≤ n) (l Bs n0 b off len cap : Nat) (zs : List Int) (hreach : len * 8 ≤ 140737488351232) (hb : b < n0) (J Jx : List (Nat × Int) → World → Prop)
    (hY : ∀ pre x W, J pre W → pre.length < len → YieldAt F (n - 1) Try.prog l #[.int .i64 (x.1 : Int), .int .i64 x.2] W fun e W' =>
      (e = .returned (.bool true) ∧ J (pre ++ [x]) W' ∧ Kept n0 Bs W W') ∨ (e = .returned (.bool false) ∧ Jx (pre ++ [x]) W'))
    (W : World) (hcs : W.cell? ⟨Bs, 0, none⟩ = some (.slice (some ⟨b, off, none⟩) len cap)) (hc : ∀ j, j < len → W.cell? ⟨b, off + j, none⟩ = some (.int .i64 (zs[j]?.getD 0))) (h0 : J [] W) :
    CallsIn F n Try.prog 16 #[.func (.yield l) #[] #[], .pointer (some ⟨Bs, 0, none⟩)] W fun e W' => (∃ v, e = .returned v) ∧
      ((∃ ys, ys = upto zs len ∧ J ys W') ∨ (∃ pre, (∃ k, k ≤ len ∧ pre = upto zs k) ∧ Jx pre W')) := by
  refine callsIn_of_wp Try.func16 rfl h7 ?_ hro
  simp only [Try.ntmps16, List.size_toArray, List.length_cons, List.length_nil, Nat.reduceAdd, Nat.reduceSub, Array.replicate_succ, Array.replicate_zero, List.push_toArray, List.append_toArray, List.nil_append, List.cons_append]
  gi_wp2
  gi_loopw [6] (fun i wr => ∃ k : Nat, k ≤ len ∧ i = .int .i64 k ∧ J (upto zs k) wr ∧ Kept n0 Bs W wr)
    (fun i _ => len - (intOf i).toNat)
  case atStart => exact ⟨0, Nat.zero_le _, rfl, h0, Kept.refl _ _ _⟩
  case round =>
    obtain ⟨k, hk, rfl, hJs, hnx⟩ := hrel
    have hcx : k < len → wr.cell? ⟨b, off + k, none⟩ = some (.int .i64 (zs[k]?.getD 0)) := fun h => (hnx.1.cell (p := ⟨b, off + k, none⟩) hb).trans (hc k h)
    have hcs' := hnx.2.trans hcs
    by_cases hlt : k < len
    · have hcx' := hcx hlt
      have hul := upto_length zs k
      by_cases hpos : 0 < zs[k]?.getD 0
      · obtain ⟨fn, tmps, assign, body, hy, hR⟩ := hY _ (k, zs[k]?.getD 0) wr hJs (by omega)
        dsimp only at hy
        gi_wp2
        refine hR.mono ?_
        rintro e W3 (⟨rfl, hJ3, hk3⟩ | ⟨rfl, hJx3⟩)
        · gi_wp2
          go_roundw
          case rel => exact ⟨k + 1, by omega, by simp, by rw [upto_yes _ _ (by omega)]; exact hJ3, kept_t hnx hk3⟩
          case measure => simp [intOf]; omega
        · gi_wp2
          refine bodyPost_ret (results_none rfl _ _ _) rfl ?_
          exact ⟨⟨_, rfl⟩, .inr ⟨_, ⟨k + 1, by omega, (upto_yes _ _ (by omega)).symm⟩, hJx3⟩⟩
      · gi_wp2
        refine ⟨fun _ h => (by cases h), ?_⟩
        gi_wp2
        go_roundw
        case rel => exact ⟨k + 1, by omega, by simp, by rw [upto_no _ _ (by omega)]; exact hJs, hnx⟩
        case measure => simp [intOf]; omega
    · obtain rfl : k = len := by omega
      gi_wp2
      go_end0
      exact ⟨⟨_, rfl⟩, .inl ⟨_, rfl, hJs⟩⟩

set_option maxRecDepth 100000 in
set_option maxHeartbeats 1000000 in
theorem some1_nil_in (F : Fence) (n : Nat) (h7 : F.fn 16) (hro : F.round = none) (l Bs : Nat) (a : Option Addr) (cap : Nat) (J : List (Nat × Int) → World → Prop) (W : World) (hBs : W.cell? ⟨Bs, 0, none⟩ = some (.slice a 0 cap)) (h0 : J [] W) :
    CallsIn F n Try.prog 16 #[.func (.yield l) #[] #[], .pointer (some ⟨Bs, 0, none⟩)] W fun e W' => (∃ v, e = .returned v) ∧ J [] W' := by
  refine callsIn_of_wp Try.func16 rfl h7 ?_ hro
  simp only [Try.ntmps16, List.size_toArray, List.length_cons, List.length_nil, Nat.reduceAdd, Nat.reduceSub, Array.replicate_succ, Array.replicate_zero, List.push_toArray, List.append_toArray, List.nil_append, List.cons_append]
  gi_wp2
  gi_loopw [6] (fun i wr => i = .int .i64 0 ∧ J [] wr) (fun _ _ => 0)
  case atStart => exact ⟨rfl, h0⟩
  case round =>
    obtain ⟨rfl, hJs⟩ := hrel
    gi_wp2
    go_end0
    exact ⟨⟨_, rfl⟩, hJs⟩

set_option maxHeartbeats 1000000 in
theorem some_in (F : Fence) (n : Nat) (h5 : F.fn 15) (hro : F.round = none) (a : Option Addr) (len cap : Nat) (w : World) :
    CallsIn F n Try.prog 15 #[.slice a len cap] w fun e w' => e = .returned (.func (.func 16) #[] #[.pointer (some ⟨w.heap.size, 0, none⟩)]) ∧ w' = w.alloc (.cells #[.slice a len cap] 22) := by
  refine callsIn_of_wp Try.func15 rfl h5 ?_ hro
  simp only [Try.ntmps15, List.size_toArray, List.length_cons, List.length_nil, Nat.reduceAdd, Nat.reduceSub, Array.replicate_succ, Array.replicate_zero, List.push_toArray, List.append_toArray, List.nil_append, List.cons_append]
  gi_wp2
  go_ret
  exact ⟨rfl, rfl⟩

/-- What some hands back, ranged over: the positive ones, in order; or the first of them. -/
theorem some_stops (F : Fence) (n : Nat) (h8 : F.fn 16) (hro : F.round = none) (hn : 1 ≤ n) (Bs n0 : Nat) (a : Option Addr) (len cap : Nat) (zs : List Int) (hreach : len * 8 ≤ 140737488351232) (w : World) (hBs : Bs < w.heap.size)
    (hc : w.cell? ⟨Bs, 0, none⟩ = some (.slice a len cap)) (hn0 : n0 ≤ w.heap.size) (hI : Ints n0 w a len zs) :
    SeqStopsK F n Try.prog 16 #[.pointer (some ⟨Bs, 0, none⟩)] (fun x : Nat × Int => #[Value.int .i64 (x.1 : Int), Value.int .i64 x.2]) (Kept n0 Bs) (fun ys => ys = upto zs len)
      (fun pre => ∃ k, k ≤ len ∧ pre = upto zs k) len w := fun l J Jx W hW _ _ hY h0 => by
  have hc' := (hW.cell (p := ⟨Bs, 0, none⟩) hBs).trans hc
  rcases hI.below (hW.mono hn0) with ⟨rfl, rfl⟩ | ⟨b, off, rfl, rfl, hb, hcs⟩
  · exact (some1_nil_in F n h8 hro l Bs a cap J W hc' h0).mono fun e W' ⟨he, hj⟩ => ⟨he, .inl ⟨_, rfl, hj⟩⟩
  · exact some1_in F n h8 hro hn l Bs n0 b off zs.length cap zs hreach hb J Jx hY W hc' hcs h0
end Go.Proofs.Ytkcdlfnmdaljgaa.Iter
