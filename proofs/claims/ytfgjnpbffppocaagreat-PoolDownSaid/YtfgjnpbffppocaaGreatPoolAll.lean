/- Layer 24: Take, told at once; All. -/
import Derived.Test.YtfgjnpbffppocaaGreatPoolTake
import Derived.Maps.RangeWalk
namespace Go.Proofs.YtfgjnpbffppocaaGreat.Pool
open Go.RowKit Go.Deep Mem Crc Walk Go.Maps
open Go.Proofs.YtfgjnpbffppocaaGreat.Store (St Chg setC)

theorem take_any {A : Pa} {w : World} {Qs : Nat → Prop} {hv : Nat → Option Value} {S Hd : Rows} (h : Pl A false w Qs hv S Hd) (i : Nat) (hi : i < A.n) (most : Nat) (hm1 : 1 ≤ most) (hm2 : most ≤ 100000) (hlen : (S i).length + (Hd i).length ≤ 30000) (hmany : many Hd A.n ≤ 1000000) :
    Calls Tryz.prog 13 #[.pointer (some ⟨A.p, 0, none⟩), .int .i64 (i : Int), .int .i64 (most : Int)] w fun e w' => ∃ v, e = .returned (.tuple #[v, .int .i64 0]) ∧ OwnW w' w.heap.size v ((S i ++ Hd i).take most) ∧ Went A false (allQ A Qs hv) w w' (upd S i ((S i).drop most)) (upd Hd i ((Hd i).drop (most - (S i).length))) (fun k => v.ownBlock = some k) := by
  by_cases h0 : (S i).length = 0
  · exact take_none h i hi most hm1 hm2 hlen hmany h0
  · by_cases h1 : most < (S i).length
    · exact take_some h i hi most hm1 hm2 hlen hmany h1
    · exact take_all h i hi most hm1 hm2 hlen hmany ⟨by omega, by omega⟩
/-- How many there are in the rows that are still to come. -/
def restS (left : Lit → Bool) (S : Rows) (n : Nat) : Nat := ((List.range n).map (fun i => if left (sK i) then (S i).length else 0)).sum
theorem restS_succ (left : Lit → Bool) (S : Rows) (n : Nat) : restS left S (n + 1) = restS left S n + if left (sK n) then (S n).length else 0 := by unfold restS; simp [List.range_succ]
theorem sameKey_sK (i j : Nat) : (sK i).sameKey (sK j) = decide (i = j) := by
  by_cases e : i = j
  · subst e
    have : (sK i).sameKey (sK i) = true := WideAt.sameKey_self trivial
    rw [this]; simp
  · have : (sK i).sameKey (sK j) = false := Maps.sameKey_ne (fun h => e (sK_inj h))
    rw [this]; simp [e]
theorem restS_step (left : Lit → Bool) (S : Rows) (i : Nat) : ∀ n, restS (fun z => left z && !z.sameKey (sK i)) S n + (if i < n ∧ left (sK i) = true then (S i).length else 0) = restS left S n := by
  intro n
  induction n with
  | zero => simp [restS]
  | succ n ih =>
    rw [restS_succ, restS_succ]
    simp only [sameKey_sK]
    by_cases e : n = i
    · subst e
      simp at ih ⊢
      have ih' : restS (fun z => left z && !z.sameKey (sK n)) S n = restS left S n := by simpa using ih
      simp [ih']
    · have e2 : (i < n + 1 ∧ left (sK i) = true) ↔ (i < n ∧ left (sK i) = true) := ⟨fun h => ⟨by omega, h.2⟩, fun h => ⟨by omega, h.2⟩⟩
      simp only [e2, e, decide_false, Bool.not_false, Bool.and_true]
      omega
theorem restS_none {left : Lit → Bool} (S : Rows) (n : Nat) (h : ∀ x, left x = false) : restS left S n = 0 := by
  induction n with
  | zero => rfl
  | succ n ih => rw [restS_succ, ih, h]; simp
theorem restS_start {left : Lit → Bool} (S : Rows) (n : Nat) (h : ∀ i, i < n → left (sK i) = false → S i = []) : restS left S n = many S n := by
  unfold restS many
  congr 1
  refine List.map_congr_left (fun i hi => ?_)
  by_cases hl : left (sK i) = true
  · rw [if_pos hl]
  · rw [if_neg hl, h i (List.mem_range.1 hi) (by simpa using hl)]
    rfl
set_option maxHeartbeats 1000000 in
set_option maxRecDepth 100000 in
theorem all_any {A : Pa} {off : Bool} {w : World} {Qs : Nat → Prop} {hv : Nat → Option Value} {S Hd : Rows} (h : Pl A off w Qs hv S Hd) (hmany : many Hd A.n + many S A.n ≤ 1000000) :
    Calls Tryz.prog 10 #[.pointer (some ⟨A.p, 0, none⟩)] w fun e w' => e = .returned (.int .i64 ((many Hd A.n + many S A.n : Nat) : Int)) ∧ Below w.heap.size w w' := by
  have HH := Lib.hid (held_any h)
  have c3 := h.pool.cell 3
  simp at c3
  obtain ⟨f, ⟨D, n, hown, hd⟩, hs, hf⟩ := h.spilled
  obtain ⟨W2, hrun, hrg, hgr, hsz⟩ := hown.range intKeyed Tryz.underlying54
  have hW2 : Below w.heap.size w W2 := ⟨hgr.os, hgr.tape, hgr.output, hgr.size, fun k hk => hgr.block k hk (by simp)⟩
  obtain ⟨T, hT⟩ : ∃ T, T = many Hd A.n + many S A.n := ⟨_, rfl⟩
  obtain ⟨M, hM⟩ : ∃ M, M = many Hd A.n := ⟨_, rfl⟩
  have hst : M + restS (Maps.has D) S A.n = T := by
    rw [restS_start S A.n (fun i hi hl => ?_), hT, hM]
    rw [(hd _).1, hf i hi] at hl
    by_cases e : S i = []
    · exact e
    · rw [if_neg e] at hl
      cases hl
  rw [← hT] at hmany ⊢
  rw [← hM] at HH
  have HR := Lib.hid hrg
  have HB2 := Lib.hid hW2
  have HST := Lib.hid hst
  have HD := Lib.hid hd
  have HS := Lib.hid hs
  have HF := Lib.hid hf
  have hsl : A.sm < w.heap.size := h.lt _ (.inr (.inl (.inr (.inl rfl))))
  have htop := h.top.1
  clear hrg hW2 hst hd hs hf h hT hM hgr hown
  go_enter Tryz.func10, Tryz.ntmps10
  go_wp2_with fail
  refine HH.out.mono ?_
  rintro e w1 ⟨rfl, rfl⟩
  go_wp2_with fail
  obtain ⟨r, hr⟩ : ∃ r, r = w1.heap.size := ⟨_, rfl⟩
  rw [← hr] at HR ⊢
  have HRR := Lib.hid hr
  clear hr hrun
  go_loopw [3] (fun t wq => ∃ (x : Nat) (left : Lit → Bool) (cnt : Nat), t = .int .i64 (x : Int) ∧ Hid (wq.ranges Tryz.prog 3 anyR A.sm r n D left cnt) ∧ Hid (x + restS left S A.n = T) ∧ Hid (Below w1.heap.size w1 wq)) (fun _ wq => wq.rangeLeft A.sm r)
  case atStart => exact ⟨_, _, _, rfl, HR, HST, HB2⟩
  case round =>
    obtain ⟨x, left, cnt, rfl, hR, hX, hB⟩ := hrel
    have hxT : x ≤ T := by have := hX.out; omega
    rcases hR.out.next intKeyed 0 with ⟨h0, hl, hrun⟩ | ⟨key, v, kl, y, w5, cnt', hkey, hlk, hv, hat, hrun, hR5, hlt, hg5, hs5, hen⟩
    · have HL := Lib.hid hl
      clear hl h0
      go_wp2_with fail
      go_ret
      have hx := hX.out
      rw [restS_none S A.n HL.out] at hx
      refine ⟨?_, hB.out⟩
      rw [show x = T by omega]
      rfl
    · have hlk' := hlk
      have h1 := Maps.has_true_of_atKey hat
      rw [(HD.out kl).1] at h1
      obtain ⟨u, hu⟩ := Option.isSome_iff_exists.1 h1
      obtain ⟨i, hi, rfl⟩ := HS.out kl (by rw [hu]; exact fun h => by cases h)
      have e1 : v = u := by
        have e := (hat (.held u)).symm.trans ((HD.out _).2 u hu (.held u))
        have e3 : y = (.held v, []) := (Option.some.inj hv).symm
        rw [e3] at e
        exact DataW.held.inj e
      have hfi := HF.out i hi
      rw [hu] at hfi
      have hSi : u = .int .i64 ((S i).length : Int) := by
        by_cases e : S i = []
        · rw [if_pos e] at hfi; cases hfi
        · rw [if_neg e] at hfi; exact Option.some.inj hfi
      obtain rfl : v = .int .i64 ((S i).length : Int) := e1.trans hSi
      have hstep := restS_step left S i A.n
      rw [if_pos ⟨hi, hlk⟩] at hstep
      have hkey' : key = .int .i64 (i : Int) := intKeyed.inj hkey (key_of (i := i) (by omega))
      subst hkey'
      obtain ⟨L, hL⟩ : ∃ L, L = (S i).length := ⟨_, rfl⟩
      rw [← hL] at hrun hen hstep
      have hle : L ≤ T := by have := hX.out; omega
      have hw : IntKind.i64.wrap ((x : Int) + (L : Int)) = (x : Int) + L := IntWalk.i64_in _ (by omega)
      have hml : wr.rangeLeft A.sm r = cnt := hR.out.left_eq
      have hB5 : Below w1.heap.size w1 w5 := hB.out.grown hg5 hB.out.size (fun q e => by cases e; exact Nat.le_of_eq HRR.out.symm)
      have HR5 := Lib.hid hR5
      have HML := Lib.hid hml
      have HB5 := Lib.hid hB5
      have HX5 : Hid ((x + L) + restS (fun z => left z && !z.sameKey (sK i)) S A.n = T) := Lib.hid (by have := hX.out; omega)
      clear hR5 hg5 hs5 hat hv hkey h1 hu e1 hfi hSi hstep hL hml hB5 hB hX hR hlk hlk'
      go_wp2_with fail
      exact ⟨⟨x + L, _, cnt', by push_cast; rfl, HR5, HX5, HB5⟩, by rw [HR5.out.left_eq, HML.out]; exact hlt⟩
end Go.Proofs.YtfgjnpbffppocaaGreat.Pool
