/- Layer 24: the holders, ranged over. -/
import Derived.Test.YtfgjnpbffppocaaGreatPoolSpill
import Derived.RangeFuncBox
import Derived.RangeFuncLeaves
import Derived.RangeFuncBound
import Derived.RangeFuncNested
import Derived.Shelf.Abstract
import Derived.OwnWalkIn
import Derived.TacticsInMore
import Derived.LoopNIn
import Derived.LoopIn
import Derived.Outline
namespace Go.Proofs.YtfgjnpbffppocaaGreat.Pool
open Go.RowKit Go.Deep Go.Shelf Mem Crc Walk
open Go.Proofs.YtfgjnpbffppocaaGreat.Store (St Chg setC)

attribute [local go_sem] Oper.semAt_some

/-- The pairs (shard, how many it holds) of the first k shards that hold walkers. -/
def holds (Hd : Rows) : Nat → List (Nat × Nat)
  | 0 => []
  | k + 1 => if 0 < (Hd k).length then holds Hd k ++ [(k, (Hd k).length)] else holds Hd k
theorem holds_yes (Hd : Rows) (k : Nat) (h : 0 < (Hd k).length) : holds Hd (k + 1) = holds Hd k ++ [(k, (Hd k).length)] := by rw [holds, if_pos h]
theorem holds_no (Hd : Rows) (k : Nat) (h : ¬ 0 < (Hd k).length) : holds Hd (k + 1) = holds Hd k := by rw [holds, if_neg h]
theorem holds_length (Hd : Rows) (k : Nat) : (holds Hd k).length ≤ k := by
  induction k with
  | zero => exact Nat.le_refl _
  | succ k ih => unfold holds; split <;> (try simp) <;> omega
theorem holds_mem (Hd : Rows) : ∀ k x, x ∈ holds Hd k → x.1 < k ∧ x.2 = (Hd x.1).length ∧ 0 < x.2 := by
  intro k
  induction k with
  | zero => intro x h; cases h
  | succ k ih =>
    intro x h
    by_cases h0 : 0 < (Hd k).length
    · rw [holds_yes _ _ h0] at h
      rcases List.mem_append.1 h with h | h
      · obtain ⟨a, b, c⟩ := ih x h
        exact ⟨by omega, b, c⟩
      · rw [List.mem_singleton.1 h]
        exact ⟨Nat.lt_succ_self _, rfl, h0⟩
    · rw [holds_no _ _ h0] at h
      obtain ⟨a, b, c⟩ := ih x h
      exact ⟨by omega, b, c⟩
def better (b x : Nat × Nat) : Nat × Nat := if b.2 < x.2 then x else b
def bestOf (l : List (Nat × Nat)) : Nat × Nat := l.foldl better (0, 0)
theorem bestOf_snoc (l : List (Nat × Nat)) (x : Nat × Nat) : bestOf (l ++ [x]) = better (bestOf l) x := by simp [bestOf]
theorem better_yes {b x : Nat × Nat} (h : b.2 < x.2) : better b x = x := if_pos h
theorem better_no {b x : Nat × Nat} (h : ¬ b.2 < x.2) : better b x = b := if_neg h
theorem bestOf_mem (Hd : Rows) : ∀ k, bestOf (holds Hd k) = (0, 0) ∧ holds Hd k = [] ∨ bestOf (holds Hd k) ∈ holds Hd k := by
  intro k
  induction k with
  | zero => exact .inl ⟨rfl, rfl⟩
  | succ k ih =>
    by_cases h0 : 0 < (Hd k).length
    · rw [holds_yes _ _ h0, bestOf_snoc]
      right
      by_cases hb : (bestOf (holds Hd k)).2 < (Hd k).length
      · rw [better_yes hb]; simp
      · rw [better_no hb]
        rcases ih with ⟨h1, _⟩ | h1
        · rw [h1] at hb
          exact absurd h0 hb
        · simp [h1]
    · rw [holds_no _ _ h0]
      exact ih
theorem holds_nil (Hd : Rows) : ∀ k, holds Hd k = [] → many Hd k = 0 := by
  intro k
  induction k with
  | zero => intro _; rfl
  | succ k ih =>
    intro h
    by_cases h0 : 0 < (Hd k).length
    · rw [holds_yes _ _ h0] at h; simp at h
    · rw [holds_no _ _ h0] at h
      have := ih h
      unfold many at this ⊢
      rw [List.range_succ, List.map_append, List.sum_append, this]
      simp
      simpa using h0
/-- The fullest shard is one. -/
theorem best_in {Hd : Rows} {n : Nat} (h : 0 < many Hd n) : (bestOf (holds Hd n)).1 < n ∧ Hd (bestOf (holds Hd n)).1 ≠ [] := by
  rcases bestOf_mem Hd n with ⟨_, h1⟩ | h1
  · have := holds_nil Hd n h1
    omega
  · obtain ⟨a, b, c⟩ := holds_mem Hd n _ h1
    refine ⟨a, fun e => ?_⟩
    rw [b, e] at c
    simp at c
/-- What a round that goes on keeps: whatever lay below n0, and the box Bs. -/
def Kept (n0 Bs : Nat) (W W' : World) : Prop := Below n0 W W' ∧ W'.cell? ⟨Bs, 0, none⟩ = W.cell? ⟨Bs, 0, none⟩
theorem Kept.refl (n0 Bs : Nat) (W : World) : Kept n0 Bs W W := ⟨Below.refl _ _, rfl⟩
theorem kept_t {n0 Bs : Nat} {A B C : World} (h : Kept n0 Bs A B) (k : Kept n0 Bs B C) : Kept n0 Bs A C := ⟨h.1.trans k.1, k.2.trans h.2⟩
theorem kept_b {n0 Bs : Nat} {w : World} (hn : n0 ≤ w.heap.size) (hB : Bs < w.heap.size) (W : World) (l : Nat) (o o' : Obj) (hl : w.heap.size ≤ l) (h : W.heap[l]? = some o) (hc : o.isCells = false) (hk : o.isWalk = false) : Kept n0 Bs W (W.putObj l o') :=
  ⟨belowK_b hn W l o o' hl h hc hk, World.cell?_of_block (World.putObj_heap_other (by show Bs ≠ l; omega))⟩
set_option maxRecDepth 100000 in
set_option maxHeartbeats 2000000 in
theorem holders1_in (F : Fence) (n : Nat) (h7 : F.fn 48) (hro : F.round = none) (hn : 1 ≤ n) (l Bs : Nat) {A : Pa} {off : Bool} {w0 : World} {Qs : Nat → Prop} {hv : Nat → Option Value} {S Hd : Rows} (hP : Pl A off w0 Qs hv S Hd) (hmany : many Hd A.n ≤ 1000000) (J Jx : List (Nat × Nat) → World → Prop)
    (hY : ∀ pre x W, J pre W → pre.length < A.n → (x.1 < A.n ∧ Hd x.1 ≠ []) → YieldAt F (n - 1) Tryz.prog l #[.int .i64 (x.1 : Int), .int .i64 (x.2 : Int)] W fun e W' =>
      (e = .returned (.bool true) ∧ J (pre ++ [x]) W' ∧ Kept w0.heap.size Bs W W') ∨ (e = .returned (.bool false) ∧ Jx (pre ++ [x]) W'))
    (W : World) (hB : Below w0.heap.size w0 W) (hcs : W.cell? ⟨Bs, 0, none⟩ = some (.pointer (some ⟨A.p, 0, none⟩))) (h0 : J [] W) :
    CallsIn F n Tryz.prog 48 #[.func (.yield l) #[] #[], .pointer (some ⟨Bs, 0, none⟩)] W fun e W' => (∃ v, e = .returned v) ∧
      ((∃ ys, ys = holds Hd A.n ∧ J ys W') ∨ (∃ pre, (∃ k, k ≤ A.n ∧ pre = holds Hd k) ∧ Jx pre W')) := by
  have HP := Lib.hid hP
  have hn20 := hP.top.1
  have HMY := Lib.hid hmany
  have c1 := (hP.later hB).pool.cell 1
  simp at c1
  clear hP hmany
  refine callsIn_of_wp Tryz.func48 rfl h7 ?_ hro
  simp only [Tryz.ntmps48, List.size_toArray, List.length_cons, List.length_nil, Nat.reduceAdd, Nat.reduceSub, Array.replicate_succ, Array.replicate_zero, List.push_toArray, List.append_toArray, List.nil_append, List.cons_append]
  gi_wp2
  gi_loopw [9] (fun i wr => ∃ k : Nat, k ≤ A.n ∧ i = .int .i64 k ∧ J (holds Hd k) wr ∧ Kept w0.heap.size Bs W wr)
    (fun i _ => A.n - (intOf i).toNat)
  case atStart => exact ⟨0, Nat.zero_le _, rfl, h0, Kept.refl _ _ _⟩
  case round =>
    obtain ⟨k, hk, rfl, hJs, hnx⟩ := hrel
    have hcs' := hnx.2.trans hcs
    by_cases hlt : k < A.n
    · have hPr := HP.out.later (hB.trans hnx.1)
      have k4 := hPr.pool.cell 4
      simp at k4
      obtain ⟨v, _, hO, hl⟩ := hPr.heldAt k hlt
      obtain ⟨va, vc, rfl, _, _, _, _⟩ := own_shape hO
      have hul := holds_length Hd k
      have hkm := len_le_many Hd k A.n hlt
      have hkm2 : (Hd k).length ≤ 1000000 := Nat.le_trans hkm HMY.out
      have HX := Lib.hid hnx
      clear hPr hO hkm hnx
      obtain ⟨m, hm⟩ : ∃ m, m = (Hd k).length := ⟨_, rfl⟩
      rw [← hm] at hl hkm2
      by_cases hpos : 0 < m
      · obtain ⟨fn, tmps, assign, body, hy, hR⟩ := hY _ (k, m) wr hJs (by omega) ⟨hlt, fun e => by rw [e] at hm; simp at hm; omega⟩
        have hyes := holds_yes Hd k (by omega)
        rw [← hm] at hyes
        have HYS := Lib.hid hyes
        clear hyes hm
        dsimp only at hy
        gi_wp2
        refine hR.mono ?_
        rintro e W3 (⟨rfl, hJ3, hk3⟩ | ⟨rfl, hJx3⟩)
        · gi_wp2
          go_roundw
          case rel => exact ⟨k + 1, by omega, by simp, by rw [HYS.out]; exact hJ3, kept_t HX.out hk3⟩
          case measure => simp [intOf]; omega
        · gi_wp2
          refine bodyPost_ret (results_none rfl _ _ _) rfl ?_
          exact ⟨⟨_, rfl⟩, .inr ⟨_, ⟨k + 1, by omega, HYS.out.symm⟩, hJx3⟩⟩
      · have hno := holds_no Hd k (by omega)
        have HNO := Lib.hid hno
        clear hno hm
        obtain rfl : m = 0 := by omega
        gi_wp2
        refine ⟨fun _ h => (by cases h), ?_⟩
        gi_wp2
        go_roundw
        case rel => exact ⟨k + 1, by omega, by simp, by rw [HNO.out]; exact hJs, HX.out⟩
        case measure => simp [intOf]; omega
    · obtain rfl : k = A.n := by omega
      gi_wp2
      go_end0
      exact ⟨⟨_, rfl⟩, .inl ⟨_, rfl, hJs⟩⟩
set_option maxHeartbeats 1000000 in
theorem holders_in (F : Fence) (n : Nat) (h5 : F.fn 29) (hro : F.round = none) (a : Option Addr) (w : World) :
    CallsIn F n Tryz.prog 29 #[.pointer a] w fun e w' => e = .returned (.func (.func 48) #[] #[.pointer (some ⟨w.heap.size, 0, none⟩)]) ∧ w' = w.alloc (.cells #[.pointer a] 30) := by
  refine callsIn_of_wp Tryz.func29 rfl h5 ?_ hro
  simp only [Tryz.ntmps29, List.size_toArray, List.length_cons, List.length_nil, Nat.reduceAdd, Nat.reduceSub, Array.replicate_succ, Array.replicate_zero, List.push_toArray, List.append_toArray, List.nil_append, List.cons_append]
  gi_wp2
  go_ret
  exact ⟨rfl, rfl⟩
end Go.Proofs.YtfgjnpbffppocaaGreat.Pool
