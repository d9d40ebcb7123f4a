/- palmerlaw24.PoolDown, walked. -/
import Derived.Test.YtfgjnpbffppocaaGreatPoolSave
namespace Go.Proofs.YtfgjnpbffppocaaGreat.Pool
open Go.RowKit Go.Deep Go.ChangeShapes Go.WideShapes Mem Crc Walk
open Go.Proofs.YtfgjnpbffppocaaGreat.Store (St Chg setC none')

theorem many_pair (Hd : Rows) : many Hd 2 = (Hd 0).length + (Hd 1).length := by simp [many, List.range_succ]
/-- The pool of two rows: the second holds l; no spill. -/
structure Dn (A : Pa) (off : Bool) (B : Nat) (l : List (List Nat)) (w0 w : World) : Prop where
  all : ∃ Qs hv S Hd, Pl A off w Qs hv S Hd ∧ (∀ q, allQ A Qs hv q → B ≤ q) ∧ (∀ i, i < 2 → S i = []) ∧ Hd 0 = [] ∧ Hd 1 = l
  below : Below B w0 w
theorem Dn.later {A : Pa} {off : Bool} {B : Nat} {l : List (List Nat)} {w0 w w' : World} (h : Dn A off B l w0 w) (hB : B ≤ w0.heap.size) (hb : Below w.heap.size w w') : Dn A off B l w0 w' := by
  obtain ⟨⟨Qs, hv, S, Hd, h1, h2, h3⟩, hBel⟩ := h
  have := hBel.size
  exact ⟨⟨Qs, hv, S, Hd, h1.later hb, h2, h3⟩, hBel.trans (hb.mono (by omega))⟩
theorem dn_put {A : Pa} {B : Nat} {l : List (List Nat)} {w0 w : World} (h : Dn A false B l w0 w) (hB : B ≤ w0.heap.size) (hn : A.n = 2) (hr : l.length < A.room) (hl : l.length ≤ 1000) (x : List Nat) (hx : ok x) :
    Calls Tryz.prog 8 #[.pointer (some ⟨A.p, 0, none⟩), .int .i64 1, .agg (vals x).toArray] w fun e w' => e = .returned (.int .i64 0) ∧ Dn A false B (l ++ [x]) w0 w' := by
  obtain ⟨⟨Qs, hv, S, Hd, hp, hQ, hS, h0, h1⟩, hBel⟩ := h
  have hs := hBel.size
  have hm : many Hd A.n = l.length := by rw [hn, many_pair, h0, h1]; simp
  refine (put_room hp 1 (by omega) x hx (by rw [hm]; exact hr) (by rw [h1]; omega)).mono ?_
  rintro e w' ⟨rfl, hw⟩
  obtain ⟨Q', hv', hp', hq', _, hB'⟩ := hw.from hQ (by omega)
  refine ⟨rfl, ⟨Q', hv', _, _, hp', hq', hS, by rw [upd_other _ (by decide)]; exact h0, by rw [upd_same, h1]⟩, hBel.trans hB'⟩
theorem dn_many {A : Pa} {off : Bool} {w : World} {Qs : Nat → Prop} {hv : Nat → Option Value} {S Hd : Rows} (_ : Pl A off w Qs hv S Hd) (hn : A.n = 2) {l : List (List Nat)} (hS : ∀ i, i < 2 → S i = []) (h0 : Hd 0 = []) (h1 : Hd 1 = l) : many Hd A.n = l.length ∧ many S A.n = 0 := by
  rw [hn, many_pair, many_pair, h0, h1, hS 0 (by decide), hS 1 (by decide)]
  simp
theorem dn_off {A : Pa} {B : Nat} {l : List (List Nat)} {w0 w : World} (h : Dn A false B l w0 w) (hB : B ≤ w0.heap.size) (hn : A.n = 2) : Calls Tryz.prog 17 #[.pointer (some ⟨A.d, 0, none⟩)] w fun e w' => e = .returned (.tuple #[]) ∧ Dn A true B l w0 w' := by
  obtain ⟨⟨Qs, hv, S, Hd, hp, hQ, hS, h0, h1⟩, hBel⟩ := h
  obtain ⟨C, hst, _⟩ := id hp.store
  have hs := hBel.size
  refine (Go.Proofs.YtfgjnpbffppocaaGreat.Disk.off_any hst.disk).mono ?_
  rintro e w' ⟨rfl, hb, ho⟩
  refine ⟨rfl, ⟨Qs, hv, S, Hd, hp.turnedOff (by rw [hn]; exact hS) hb ho, hQ, hS, h0, h1⟩, hBel.trans (ho.below (by omega) (fun g hg => ?_))⟩
  rw [List.mem_singleton.1 hg]
  exact hQ _ (.inl hst.qd)
theorem dn_put_off {A : Pa} {B : Nat} {l : List (List Nat)} {w0 w : World} (h : Dn A true B l w0 w) (hB : B ≤ w0.heap.size) (hn : A.n = 2) (hr : A.room = l.length) (hl : 1 ≤ l.length ∧ l.length ≤ 1000) (x : List Nat) (hx : ok x) :
    Calls Tryz.prog 8 #[.pointer (some ⟨A.p, 0, none⟩), .int .i64 0, .agg (vals x).toArray] w fun e w' => e = .returned (.int .i64 6) ∧ Dn A true B l w0 w' := by
  obtain ⟨⟨Qs, hv, S, Hd, hp, hQ, hS, h0, h1⟩, hBel⟩ := id h
  have hm := (dn_many hp hn hS h0 h1).1
  refine (put_off hp (by rw [hn]; exact hS) (by omega) (by omega) (by omega) 0 (by omega) x hx).mono ?_
  rintro e w' ⟨rfl, hb⟩
  exact ⟨rfl, h.later hB hb⟩
theorem dn_spill_off {A : Pa} {B : Nat} {l : List (List Nat)} {w0 w : World} (h : Dn A true B l w0 w) (hB : B ≤ w0.heap.size) (hn : A.n = 2) (hl : 1 ≤ l.length ∧ l.length ≤ 1000) :
    Calls Tryz.prog 11 #[.pointer (some ⟨A.p, 0, none⟩), .int .i64 1] w fun e w' => e = .returned (.int .i64 6) ∧ Dn A true B l w0 w' := by
  obtain ⟨⟨Qs, hv, S, Hd, hp, hQ, hS, h0, h1⟩, hBel⟩ := id h
  refine (spill_off hp 1 (by omega) (hS 1 (by decide)) (fun e => by rw [h1] at e; rw [e] at hl; simp at hl) (by rw [h1]; omega)).mono ?_
  rintro e w' ⟨rfl, hb⟩
  exact ⟨rfl, h.later hB hb⟩
theorem dn_save_off {A : Pa} {B : Nat} {l : List (List Nat)} {w0 w : World} (h : Dn A true B l w0 w) (hB : B ≤ w0.heap.size) (hn : A.n = 2) (hl : 1 ≤ l.length ∧ l.length ≤ 1000) :
    Calls Tryz.prog 16 #[.pointer (some ⟨A.p, 0, none⟩)] w fun e w' => e = .returned (.int .i64 6) ∧ Dn A true B l w0 w' := by
  obtain ⟨⟨Qs, hv, S, Hd, hp, hQ, hS, h0, h1⟩, hBel⟩ := id h
  have hm := (dn_many hp hn hS h0 h1).1
  refine (save_off hp (by rw [hn]; exact hS) (by omega) (by omega)).mono ?_
  rintro e w' ⟨rfl, hb⟩
  exact ⟨rfl, h.later hB hb⟩
theorem dn_held {A : Pa} {off : Bool} {B : Nat} {l : List (List Nat)} {w0 w : World} (h : Dn A off B l w0 w) (hn : A.n = 2) : Calls Tryz.prog 9 #[.pointer (some ⟨A.p, 0, none⟩)] w fun e w' => e = .returned (.int .i64 (l.length : Int)) ∧ w' = w := by
  obtain ⟨⟨Qs, hv, S, Hd, hp, hQ, hS, h0, h1⟩, hBel⟩ := h
  have := held_any hp
  rw [(dn_many hp hn hS h0 h1).1] at this
  exact this
theorem dn_all {A : Pa} {off : Bool} {B : Nat} {l : List (List Nat)} {w0 w : World} (h : Dn A off B l w0 w) (hB : B ≤ w0.heap.size) (hn : A.n = 2) (hl : l.length ≤ 1000) : Calls Tryz.prog 10 #[.pointer (some ⟨A.p, 0, none⟩)] w fun e w' => e = .returned (.int .i64 (l.length : Int)) ∧ Dn A off B l w0 w' := by
  obtain ⟨⟨Qs, hv, S, Hd, hp, hQ, hS, h0, h1⟩, hBel⟩ := id h
  obtain ⟨m1, m2⟩ := dn_many hp hn hS h0 h1
  have := all_any hp (by omega)
  rw [m1, m2, Nat.add_zero] at this
  refine this.mono ?_
  rintro e w' ⟨rfl, hb⟩
  exact ⟨rfl, h.later hB hb⟩
theorem dn_take {A : Pa} {B : Nat} {l : List (List Nat)} {w0 w : World} (h : Dn A true B l w0 w) (hB : B ≤ w0.heap.size) (hn : A.n = 2) (hl : 1 ≤ l.length ∧ l.length ≤ 1000) :
    Calls Tryz.prog 13 #[.pointer (some ⟨A.p, 0, none⟩), .int .i64 1, .int .i64 ((l.length : Int) + 1)] w fun e w' => ∃ v, e = .returned (.tuple #[v, .int .i64 0]) ∧ OwnW w' 0 v l ∧ Dn A true B [] w0 w' := by
  obtain ⟨⟨Qs, hv, S, Hd, hp, hQ, hS, h0, h1⟩, hBel⟩ := id h
  have hm := (dn_many hp hn hS h0 h1).1
  have hs := hBel.size
  have hS1 := hS 1 (by decide)
  have ht := take_none hp 1 (by omega) (l.length + 1) (by omega) (by omega) (by rw [hS1, h1]; simp; omega) (by omega) (by rw [hS1]; rfl)
  refine ht.mono ?_
  rintro e w' ⟨v, rfl, hO, hw⟩
  obtain ⟨Q', hv', hp', hq', _, hB'⟩ := hw.from hQ (by omega)
  refine ⟨v, rfl, ?_, ⟨Q', hv', _, _, hp', hq', fun i hi => ?_, by rw [upd_other _ (by decide)]; exact h0, ?_⟩, hBel.trans hB'⟩
  · have e1 : (S 1 ++ Hd 1).take (l.length + 1) = l := by rw [hS1, h1, List.nil_append, List.take_of_length_le (by omega)]
    rw [e1] at hO
    exact own_mono hO (Nat.zero_le _)
  · by_cases e : i = 1
    · subst e; rw [upd_same, hS1]; simp
    · rw [upd_other _ e]; exact hS i hi
  · rw [upd_same, hS1, h1]
    exact List.drop_of_length_le (by simp)
theorem dn_put_last {A : Pa} {B : Nat} {w0 w : World} (h : Dn A true B [] w0 w) (hB : B ≤ w0.heap.size) (hn : A.n = 2) (hr : 1 ≤ A.room) (x : List Nat) (hx : ok x) :
    Calls Tryz.prog 8 #[.pointer (some ⟨A.p, 0, none⟩), .int .i64 0, .agg (vals x).toArray] w fun e w' => e = .returned (.int .i64 0) ∧ Below B w0 w' := by
  obtain ⟨⟨Qs, hv, S, Hd, hp, hQ, hS, h0, h1⟩, hBel⟩ := h
  have hs := hBel.size
  have hm := (dn_many hp hn hS h0 h1).1
  refine (put_room hp 0 (by omega) x hx (by rw [hm]; exact hr) (by rw [h0]; simp)).mono ?_
  rintro e w' ⟨rfl, hw⟩
  obtain ⟨Q', hv', hp', hq', _, hB'⟩ := hw.from hQ (by omega)
  exact ⟨rfl, hBel.trans hB'⟩
set_option maxHeartbeats 400000 in
set_option maxRecDepth 100000 in
theorem down_out (a : Option Addr) (n cap : Nat) (v2 : Value) (W : World) (h : n < 1 ∨ 20 < n) :
    Calls Tryz.prog 4 #[.slice a n cap, v2] W fun e w' => e = .returned (.bool true) ∧ Below W.heap.size W w' := by
  have HA := Lib.hid (awake_any W)
  by_cases h1 : n < 1
  · have t1 : decide ((n : Int) < 1) = true := by simp; omega
    clear h
    go_enter Tryz.func4, Tryz.ntmps4
    go_wp2_with fail
    refine HA.out.mono ?_
    rintro e w1 ⟨rfl, hB⟩
    go_wp2_with fail
    go_ret
    exact ⟨rfl, hB⟩
  · have t1 : decide ((n : Int) < 1) = false := by simp; omega
    have t2 : decide (20 < (n : Int)) = true := by simp; omega
    clear h h1
    go_enter Tryz.func4, Tryz.ntmps4
    go_wp2_with fail
    refine HA.out.mono ?_
    rintro e w1 ⟨rfl, hB⟩
    go_wp2_with fail
    go_ret
    exact ⟨rfl, hB⟩
end Go.Proofs.YtfgjnpbffppocaaGreat.Pool
