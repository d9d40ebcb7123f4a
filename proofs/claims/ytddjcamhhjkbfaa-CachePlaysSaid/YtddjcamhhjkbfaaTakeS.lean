/- take of a cache of string: the first thing that is so, taken out of a row. -/
import Derived.Test.YtddjcamhhjkbfaaDelS
import Derived.RegionTactic
import Derived.Deep.RegionWith
import Derived.IntWalk
namespace Go.Proofs.Ytddjcamhhjkbfaa.CS
open Go.RowKit Mem

def Th.zero : Th := ⟨0, 0, ByteArray.empty⟩

set_option maxHeartbeats 1000000 in
theorem index_nil (g : Nat) (lb : Array Value) (w : World) :
    Calls Try.prog 40 #[.slice none 0 0, .func (.func g) #[] lb] w fun e w' => e = .returned (.int .i64 (-1)) ∧ Below w.heap.size w w' := by
  go_enter Try.func40, Try.ntmps40
  go_wp2_with fail
  refine wp_loop_rounds 1 ?_
  rw [rounds_succ]
  go_wp2
  go_ret
  exact ⟨rfl, Below.refl _ _⟩

/-- IndexFunc at a row that is nil or the call's own. -/
theorem index_row (g : Nat) (lb : Array Value) (p : Th → Bool) (B : Nat) (v : Value) (ts : List Th) (w : World) (hp : Asks g lb p w) (hown : w.ownsRow B 63 3 v ts.length (flat ts)) (hl : ts.length ≤ 1000) :
    Calls Try.prog 40 #[v, .func (.func g) #[] lb] w fun e w' => e = .returned (.int .i64 (firstOf p ts)) ∧ Below w.heap.size w w' := by
  rcases hown.2 with ⟨rfl, h0⟩ | ⟨b, cap, cur, rfl, _⟩
  · obtain rfl : ts = [] := List.length_eq_zero_iff.1 h0
    exact index_nil g lb w
  · exact index_any g lb p b cap ts w hp (Row.of_own hown) (hown.lt b rfl).2 hl

set_option maxHeartbeats 2000000 in
set_option maxRecDepth 100000 in
theorem take_no (g : Nat) (lb : Array Value) (p : Th → Bool) (B : Nat) (v : Value) (ts : List Th) (w : World) (hp : Asks g lb p w) (hown : w.ownsRow B 63 3 v ts.length (flat ts)) (hl : ts.length ≤ 1000) (hno : firstOf p ts = -1) :
    Calls Try.prog 37 #[v, .func (.func g) #[] lb] w fun e w' => e = .returned (.tuple #[v, Th.zero.v, .bool false]) ∧ Below w.heap.size w w' := by
  have hidx : ∀ W, Below w.heap.size w W → Calls Try.prog 40 #[v, .func (.func g) #[] lb] W fun e w' => e = .returned (.int .i64 (-1)) ∧ Below W.heap.size W w' := fun W hW => by
    rw [← hno]
    refine index_row g lb p B v ts W ⟨hp.1, fun W' t h => hp.2 W' t (hW.trans (h.mono hW.size))⟩ ?_ hl
    exact (Fr.of_below hW : Fr B [] w W).row hown (by simp)
  have HI := Lib.hid hidx
  clear hidx hp hown hno
  go_enter Try.func37, Try.ntmps37
  go_wp2_with fail
  refine (HI.out _ (((Below.refl _ w).alloc (Nat.le_refl _) _).alloc (by simp) _)).mono ?_
  rintro e w1 ⟨rfl, hB1⟩
  have b5 := (Blk.new w 63 #[.int .i64 0, .int .i64 0, .string ByteArray.empty]).alloc (.cells #[.int .i64 0, .int .i64 0, .string ByteArray.empty] 63)
  have b7 := Blk.at_ (w := w.alloc (.cells #[.int .i64 0, .int .i64 0, .string ByteArray.empty] 63)) (g := w.heap.size + 1) (t := 63) (cs := #[.int .i64 0, .int .i64 0, .string ByteArray.empty]) (by simp)
  have b5' := b5.below hB1 (by simp; omega)
  have b7' := b7.below hB1 (by simp)
  clear b5 b7
  have c50 := b5'.cell 0
  have c51 := b5'.cell 1
  have c52 := b5'.cell 2
  have f50 := b5'.frozen 0
  have f51 := b5'.frozen 1
  have f52 := b5'.frozen 2
  have c70 := b7'.cell 0
  have c71 := b7'.cell 1
  have c72 := b7'.cell 2
  simp at c50 c51 c52 c70 c71 c72
  have HB := Lib.hid hB1
  have HB5 := Lib.hid b5'
  clear hB1 b5' b7'
  go_wp2_with fail
  go_region
  all_goals
    go_wp2
    have bf := (((HB5.out.set 0 (.int .i64 0)).set 1 (.int .i64 0)).set 2 (.string ByteArray.empty)).drew
    have q0 := bf.cell 0
    have q1 := bf.cell 1
    have q2 := bf.cell 2
    simp at q0 q1 q2
    refine bodyPost_ret (v := .tuple #[v, Th.zero.v, .bool false]) (by simp [results, Try.results37, go_sem, q0, q1, q2, Th.zero, Th.v]) rfl ⟨rfl, ?_⟩
    exact (((((((Below.refl _ w).alloc (Nat.le_refl _) _).alloc (by simp) _).trans (HB.out.mono (by simp; omega))).setCell (p := ⟨w.heap.size, 0, none⟩) (by simp) _).setCell (p := ⟨w.heap.size, 1, none⟩) (by simp) _).setCell (p := ⟨w.heap.size, 2, none⟩) (by simp) _).drew

set_option maxHeartbeats 2000000 in
set_option maxRecDepth 100000 in
theorem take_yes (g : Nat) (lb : Array Value) (p : Th → Bool) (B b cap i : Nat) (t : Th) (ts : List Th) (w : World) (hp : Asks g lb p w) (hown : w.ownsRow B 63 3 (.slice (some ⟨b, 0, none⟩) ts.length cap) ts.length (flat ts)) (hl : ts.length ≤ 1000) (hi : firstOf p ts = (i : Int)) (ht : ts[i]? = some t) :
    Calls Try.prog 37 #[.slice (some ⟨b, 0, none⟩) ts.length cap, .func (.func g) #[] lb] w fun e w' => e = .returned (.tuple #[.slice (some ⟨b, 0, none⟩) (ts.length - 1) cap, t.v, .bool true]) ∧
      w'.ownsRow B 63 3 (.slice (some ⟨b, 0, none⟩) (ts.length - 1) cap) (ts.length - 1) (flat (ts.eraseIdx i)) ∧ w.grownBy w' (some b) := by
  have hlt : i < ts.length := (List.getElem?_eq_some_iff.1 ht).1
  have hbw := (hown.lt b rfl).2
  have hkeep : ∀ W, Below w.heap.size w W → W.ownsRow B 63 3 (.slice (some ⟨b, 0, none⟩) ts.length cap) ts.length (flat ts) := fun W hW => (Fr.of_below hW : Fr B [] w W).row hown (by simp)
  have hidx : ∀ W, Below w.heap.size w W → Calls Try.prog 40 #[.slice (some ⟨b, 0, none⟩) ts.length cap, .func (.func g) #[] lb] W fun e w' => e = .returned (.int .i64 i) ∧ Below W.heap.size W w' := fun W hW => by
    rw [← hi]
    exact index_row g lb p B _ ts W ⟨hp.1, fun W' t h => hp.2 W' t (hW.trans (h.mono hW.size))⟩ (hkeep W hW) hl
  have HI := Lib.hid hidx
  have HK := Lib.hid hkeep
  have HT := Lib.hid ht
  clear hidx hp hown hi hkeep ht
  go_enter Try.func37, Try.ntmps37
  go_wp2_with fail
  refine (HI.out _ (((Below.refl _ w).alloc (Nat.le_refl _) _).alloc (by simp) _)).mono ?_
  rintro e w1 ⟨rfl, hB1⟩
  have b5 := (Blk.new w 63 #[.int .i64 0, .int .i64 0, .string ByteArray.empty]).alloc (.cells #[.int .i64 0, .int .i64 0, .string ByteArray.empty] 63)
  have b5' := b5.below hB1 (by simp; omega)
  have HB5 := Lib.hid b5'
  have HB : Hid (Below w.heap.size w w1) := (((Below.refl _ w).alloc (Nat.le_refl _) _).alloc (by simp) _).trans (hB1.mono (by simp; omega))
  have hs1 : w.heap.size + 1 + 1 ≤ w1.heap.size := by have := hB1.size; simpa using this
  clear hB1 b5 b5'
  have HO := Lib.hid (HK.out w1 HB.out)
  obtain ⟨f1, f2, f3⟩ := Row.of_own HO.out i t HT.out
  go_wp2_with fail
  have b9 : Hid (Blk (w1.alloc (Obj.cells #[.int .i64 t.key, .int .i64 t.size, .string (t.x)] 63)) w1.heap.size 63 #[.int .i64 t.key, .int .i64 t.size, .string (t.x)]) := Blk.new w1 _ _
  have b5 : Hid (Blk (w1.alloc (Obj.cells #[.int .i64 t.key, .int .i64 t.size, .string (t.x)] 63)) w.heap.size 63 #[.int .i64 0, .int .i64 0, .string ByteArray.empty]) := HB5.out.alloc _
  have hdel : ∀ W, W = (w1.alloc (Obj.cells #[.int .i64 t.key, .int .i64 t.size, .string (t.x)] 63)).drew → Calls Try.prog 41 #[.slice (some ⟨b, 0, none⟩) ts.length cap, .int .i64 i, .int .i64 ((i : Int) + 1)] W fun e w' => e = .returned (.slice (some ⟨b, 0, none⟩) (ts.length - 1) cap) ∧
      w'.ownsRow B 63 3 (.slice (some ⟨b, 0, none⟩) (ts.length - 1) cap) (ts.length - 1) (flat (ts.eraseIdx i)) ∧ W.grownBy w' (some b) := fun W hW => by
    subst hW
    exact delete_any B b cap i ts _ (HO.out.alloc _) hlt hl
  have HD := Lib.hid hdel
  have n9 : Hid (some w1.heap.size ≠ some b) := fun e => by have e : w1.heap.size = b := by simpa using e
                                                            omega
  have n5 : Hid (some w.heap.size ≠ some b) := fun e => by have e : w.heap.size = b := by simpa using e
                                                           omega
  clear hdel
  have hwr : IntKind.i64.wrap ((i : Int) + 1) = (i : Int) + 1 := IntWalk.i64_in _ (by omega)
  go_region_with (go_at_call 41; refine (HD.out _ rfl).mono ?_; rintro e w2 ⟨rfl, hown2, hg2⟩; have HO2 := Lib.hid hown2; have HG2 := Lib.hid hg2; have k9 := b9.out.drew.grown hg2 n9.out; have k5 := b5.out.drew.grown hg2 n5.out; clear hown2 hg2; have c90 := k9.cell 0; have c91 := k9.cell 1; have c92 := k9.cell 2; have c50 := k5.cell 0; have c51 := k5.cell 1; have c52 := k5.cell 2; have f50 := k5.frozen 0; have f51 := k5.frozen 1; have f52 := k5.frozen 2; have K5 := Lib.hid k5; simp at c90 c91 c92 c50 c51 c52; clear k9 k5)
  all_goals
    go_wp2
    have bf := ((K5.out.set 0 (.int .i64 t.key)).set 1 (.int .i64 t.size)).set 2 (.string (t.x))
    have q0 := bf.cell 0
    have q1 := bf.cell 1
    have q2 := bf.cell 2
    simp at q0 q1 q2
    refine bodyPost_ret (v := .tuple #[.slice (some ⟨b, 0, none⟩) (ts.length - 1) cap, t.v, .bool true]) (by simp [results, Try.results37, go_sem, q0, q1, q2, Th.v]) rfl ⟨rfl, ?_, ?_⟩
    · have hne : (Value.slice (some ⟨b, 0, none⟩) (ts.length - 1) cap).ownBlock ≠ some w.heap.size := fun e => n5.out e.symm
      exact own_far (own_far (own_far HO2.out (p := ⟨w.heap.size, 0, none⟩) hne _) (p := ⟨w.heap.size, 1, none⟩) hne _) (p := ⟨w.heap.size, 2, none⟩) hne _
    · exact grown_new (grown_new (grown_new (grown_later ((HB.out.alloc (by omega) _).drew) HG2.out) (p := ⟨w.heap.size, 0, none⟩) (Nat.le_refl _) _) (p := ⟨w.heap.size, 1, none⟩) (Nat.le_refl _) _) (p := ⟨w.heap.size, 2, none⟩) (Nat.le_refl _) _
end Go.Proofs.Ytddjcamhhjkbfaa.CS
