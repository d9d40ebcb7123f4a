/- Layer 2: slices.Clone and Equal on bytes; Mark, Fits. -/
import Derived.Test.YtfgjnpbffppocaaGreatCrc
import Derived.WalkSpells
namespace Go.Proofs.YtfgjnpbffppocaaGreat.Crc
open Go.RowKit Go.Deep Mem

/-- A row of bytes of the call's own. -/
abbrev OwnB (w : World) (base : Nat) (v : Value) (bs : List UInt8) : Prop := w.ownsRow base 5 1 v bs.length (bs.map bv)
theorem lies_none {w : World} {xs : List Value} (h : Lies w none xs) : xs = [] := by
  rcases h with h | ⟨g, off, e, _⟩
  · exact h
  · cases e

set_option maxHeartbeats 1000000 in
theorem clone_any (a : Option Addr) (cp : Nat) (bs : List UInt8) (w : World) (h : Lies w a (bs.map bv)) (hm : bs.length ≤ 4000000000) :
    Calls Tryz.prog 60 #[.slice a bs.length cp] w fun e w' => ∃ v, e = .returned v ∧ OwnB w' w.heap.size v bs ∧ Below w.heap.size w w' := by
  cases a with
  | none =>
    have hb : bs = [] := by simpa using lies_none h
    subst hb
    have hne := fun w => Lib.run_eql_slice_nil (P := Tryz.prog) w 23 5 none 0 cp 0 0 Tryz.underlying23
    clear h hm
    go_enter Tryz.func60, Tryz.ntmps60
    go_wp2_with fail
    go_ret
    exact ⟨_, rfl, World.ownsRow_nil _ _ _ _, Below.refl _ _⟩
  | some ad =>
    obtain ⟨i0, hi0, hz0, hz1, hz2⟩ := info_parts infoB8
    have hne := fun w => Lib.run_eql_slice_nil (P := Tryz.prog) w 23 5 (some ad) bs.length cp 0 0 Tryz.underlying23
    have hal := (Below.refl w.heap.size w).alloc (Nat.le_refl _) (.cells #[] 5)
    have hown := own_empty w 5 1
    have HC := Lib.hid (lies_add (h.later hal))
    have H1 := Lib.hid (oneCell_bytes bs)
    have HA := Lib.hid hal
    clear h hal
    go_enter Tryz.func60, Tryz.ntmps60
    go_wp2_with (first | (at_builtin; refine wpList_append_own _ rfl _ _ 23 rfl w.heap.size 5 i0 (.int .u8 0) 1 1 Tryz.underlying23 hi0 hz0 hz1 hz2 rfl (by decide) _ _ _ rfl hown ad bs.length cp (bs.map bv) rfl ?c1 HC.out H1.out ?c3 ?c4 ?c5 ?_))
    case c1 => simp
    case c3 => unfold maxLen; omega
    case c4 => omega
    case c5 => simp
    intro v' w1 hown1 hgrow1 hv
    have hB1 : Below w.heap.size w w1 := HA.out.grown hgrow1 (by simp) (fun q hq => (hown.lt q hq).1)
    have HO := Lib.hid (show OwnB w1 w.heap.size v' bs by simpa using hown1)
    clear hown1 hgrow1 hv
    go_wp2_with fail
    go_ret
    exact ⟨v', rfl, HO.out, hB1⟩

set_option maxHeartbeats 1000000 in
theorem equal_any (a b : Option Addr) (ca cb : Nat) (bs cs : List UInt8) (w : World) (h1 : Lies w a (bs.map bv)) (h2 : Lies w b (cs.map bv)) (hm : bs.length ≤ 4000000000) :
    Calls Tryz.prog 108 #[.slice a bs.length ca, .slice b cs.length cb] w fun e w' => e = .returned (.bool (bs == cs)) ∧ ∃ n, w' = w.drewN n := by
  by_cases hlm : bs.length = cs.length
  · have hc : ∀ n, n < bs.length → ∃ b1 o1 b2 o2 x y, a = some ⟨b1, o1, none⟩ ∧ b = some ⟨b2, o2, none⟩ ∧ bs[n]? = some x ∧ cs[n]? = some y ∧ w.cell? ⟨b1, o1 + n, none⟩ = some (bv x) ∧ w.cell? ⟨b2, o2 + n, none⟩ = some (bv y) := fun n hn => by
      rcases h1 with h1 | ⟨b1, o1, e1, _, i1⟩
      · exact absurd hn (by have : bs = [] := by simpa using h1
                            subst this; exact Nat.not_lt_zero _)
      · rcases h2 with h2 | ⟨b2, o2, e2, _, i2⟩
        · exact absurd hn (by have : cs = [] := by simpa using h2
                              subst this; rw [hlm]; exact Nat.not_lt_zero _)
        · exact ⟨b1, o1, b2, o2, bs[n], cs[n], e1, e2, List.getElem?_eq_getElem hn, List.getElem?_eq_getElem (by omega), i1 n _ (bv_at (List.getElem?_eq_getElem hn)), i2 n _ (bv_at (List.getElem?_eq_getElem (by omega)))⟩
    have HC := Lib.hid hc
    have HL := Lib.hid hlm
    clear hc h1 h2
    rw [← hlm]
    clear hlm
    go_enter Tryz.func108, Tryz.ntmps108
    go_wp2_with fail
    go_loopw [13] (fun i wr => ∃ n : Nat, n ≤ bs.length ∧ i = .int .i64 n ∧ Hid (bs.take n = cs.take n) ∧ ∃ q, wr = w.drewN q) (fun i _ => bs.length - (intOf i).toNat)
    case atStart => exact ⟨0, Nat.zero_le _, rfl, Lib.hid rfl, 0, rfl⟩
    case round =>
      obtain ⟨n, hn, rfl, htk, q, rfl⟩ := hrel
      by_cases hlt : n < bs.length
      · obtain ⟨b1, o1, b2, o2, x, y, rfl, rfl, hx, hy, c1, c2⟩ := HC.out n hlt
        unfold bv at c1 c2
        have hp0 : (0 : Int) ≤ (n : Int) := by omega
        have hp1 : (n : Int) < (bs.length : Int) := by omega
        have HX := Lib.hid hx
        have HY := Lib.hid hy
        clear HC hx hy
        by_cases exy : x = y
        · subst exy
          go_wp2_with fail
          go_quiet (fail)
          go_wp2_with fail
          refine ⟨⟨n + 1, by omega, by simp, Lib.hid (by rw [List.take_add_one, List.take_add_one, HX.out, HY.out, htk.out]), ⟨_, rfl⟩⟩, ?_⟩
          simp [intOf]; omega
        · have exy2 : ((x.toNat : Int) == (y.toNat : Int)) = false := by
            simp
            intro e
            exact exy (UInt8.toNat_inj.1 (by omega))
          have hno : (bs == cs) = false := by
            simp
            intro e
            subst e
            exact exy (Option.some.inj (HX.out.symm.trans HY.out))
          have HNO := Lib.hid hno
          clear hno
          go_wp2_with fail
          go_quiet (fail)
          go_wp2_with fail
          go_ret
          exact ⟨by rw [HNO.out]; rfl, q + nq, by rw [World.drewN_drewN]⟩
      · have e : n = bs.length := by omega
        have hyes : (bs == cs) = true := by
          have h := htk.out
          rw [e, List.take_of_length_le (Nat.le_refl _), HL.out, List.take_of_length_le (Nat.le_refl _)] at h
          simp [h]
        have HY := Lib.hid hyes
        clear hyes e
        go_wp2_with fail
        go_ret
        exact ⟨by rw [HY.out]; rfl, q, rfl⟩
  · have hne : decide (bs.length = cs.length) = false := by simpa using hlm
    have hne2 : ((bs.length : Int) == (cs.length : Int)) = false := by simp; omega
    have hno : (bs == cs) = false := by
      simp
      intro e
      exact hlm (by rw [e])
    rw [hno]
    clear h1 h2 hlm hno
    go_enter Tryz.func108, Tryz.ntmps108
    go_wp2_with fail
    go_ret
    exact ⟨rfl, 0, rfl⟩

/-- A number's four bytes. -/
def four (n : Nat) : List UInt8 := [UInt8.ofNat n, UInt8.ofNat (n / 256), UInt8.ofNat (n / 65536), UInt8.ofNat (n / 16777216)]
theorem four_length (n : Nat) : (four n).length = 4 := rfl
/-- Bytes with their sum. -/
def marked (bs : List UInt8) : List UInt8 := bs ++ four (sumF bs)
theorem mark_length (bs : List UInt8) : (marked bs).length = bs.length + 4 := by unfold marked; rw [List.length_append, four_length]
theorem bv_of (n : Nat) : Value.int .u8 ((n % 256 : Nat) : Int) = bv (UInt8.ofNat n) := by unfold bv; simp
theorem bvI {y : Int} {n : Nat} (h : y = ((n % 256 : Nat) : Int)) : Value.int .u8 y = bv (UInt8.ofNat n) := by rw [h, bv_of]
/-- A new block of one cell, as an append reads it. -/
theorem one_at {w : World} {t : TypeId} {u v : Value} (h : u = v) : ∀ j x, [v][j]? = some x → (w.alloc (.cells #[u] t)).cell? ((⟨w.heap.size, 0, none⟩ : Addr).add j) = some x := fun j x hx => by
  subst h
  match j, hx with
  | 0, hx =>
    have e : u = x := by simpa using hx
    subst e
    exact (Blk.new w t #[u]).cell 0
theorem one_cell (b : UInt8) : ∀ u ∈ [bv b], u.oneCell' = true := fun u hu => by simp at hu; subst hu; rfl
set_option maxHeartbeats 2000000 in
set_option maxRecDepth 100000 in
theorem mark_any (a : Option Addr) (cp : Nat) (bs : List UInt8) (w : World) (h : Lies w a (bs.map bv)) (hm : bs.length ≤ 3000000) :
    Calls Tryz.prog 66 #[.slice a bs.length cp] w fun e w' => ∃ v, e = .returned v ∧ OwnB w' w.heap.size v (marked bs) ∧ Below w.heap.size w w' := by
  obtain ⟨i0, hi0, hz0, hz1, hz2⟩ := info_parts infoB8
  have HC := Lib.hid (clone_any a cp bs w h (by omega))
  have HH := Lib.hid h
  clear h
  go_enter Tryz.func66, Tryz.ntmps66
  go_wp2_with fail
  refine HC.out.mono ?_
  rintro e w1 ⟨v, rfl, hown, hB1⟩
  have hal := (Below.refl w1.heap.size w1).alloc (Nat.le_refl _) (.cells #[.slice a bs.length cp] 23)
  have hL1 := (HH.out.later hB1).later hal
  have hsum := sum_any (some ⟨w1.heap.size, 0, none⟩) a 1 cp bs (w1.alloc (.cells #[.slice a bs.length cp] 23)) hL1 (new_lies w1 _ _) (by omega)
  have HS := Lib.hid hsum
  have HO := Lib.hid (own_later hown hal)
  have HB := Lib.hid (hB1.trans (hal.mono hB1.size))
  have hs1 := hB1.size
  clear hal hL1 hsum hown hB1
  go_wp2_with fail
  refine HS.out.mono ?_
  rintro e w2 ⟨rfl, hB2⟩
  have HO2 := Lib.hid (own_later HO.out hB2)
  have HB2 := Lib.hid (HB.out.trans (hB2.mono (by simp; omega)))
  obtain ⟨x, hx⟩ : ∃ x, x = sumF bs := ⟨_, rfl⟩
  have hx32 : x < 2 ^ 32 := by rw [hx]; exact sumF_lt bs
  have HM := Lib.hid (show marked bs = bs ++ four x by rw [hx]; rfl)
  rw [← hx]
  clear hB2 HS HO HB HC hx
  go_wp2_with fail
  go_loopw [3, 5] (fun o i wr => ∃ k : Nat, k ≤ 4 ∧ i = .int .i64 k ∧ Hid (OwnB wr w.heap.size o (bs ++ (four x).take k)) ∧ Hid (Below w.heap.size w wr)) (fun _ i _ => 4 - (intOf i).toNat)
  case atStart => exact ⟨0, by omega, rfl, Lib.hid (by simpa using HO2.out), HB2⟩
  case round =>
    obtain ⟨k, hk, rfl, hown, hB⟩ := hrel
    have hBs := hB.out.size
    have hbr := hown.out
    have hl : (bs ++ (four x).take k).length = bs.length + k := by rw [List.length_append, List.length_take, four_length]; omega
    by_cases h4 : k < 4
    · rcases (show k = 0 ∨ k = 1 ∨ k = 2 ∨ k = 3 by omega) with rfl | rfl | rfl | rfl
      · have E0 := Lib.hid (show Value.int .u8 ((x : Int) % 256) = bv (UInt8.ofNat x) from bvI (by omega))
        go_wp2_with (first | (at_builtin; refine wpList_append_own _ rfl _ _ 23 rfl w.heap.size 5 i0 (.int .u8 0) 1 1 Tryz.underlying23 hi0 hz0 hz1 hz2 rfl (by decide) _ _ _ rfl (hbr.alloc _) ⟨wr.heap.size, 0, none⟩ 1 1 [bv (UInt8.ofNat x)] rfl rfl (one_at E0.out) (one_cell _) ?c03 ?c04 ?c05 ?_))
        case c03 => rw [hl]; unfold maxLen; omega
        case c04 => rw [hl]; omega
        case c05 => simp; omega
        intro v' w3 hown3 hgrow3 _
        have hB3 : Below w.heap.size w w3 := (hB.out.alloc hBs _).grown hgrow3 (by simp; omega) (fun q hq => (hbr.lt q hq).1)
        have hO3 : OwnB w3 w.heap.size v' (bs ++ (four x).take 1) := by
          have e : bs ++ (four x).take 1 = (bs ++ (four x).take 0) ++ [UInt8.ofNat x] := by rw [List.append_assoc]; rfl
          rw [e]
          unfold OwnB
          rw [List.map_append, List.length_append]
          exact (show w3.ownsRow _ _ _ _ _ _ by simpa [four_length] using hown3)
        have HB3 := Lib.hid hB3
        have HO3 := Lib.hid hO3
        clear hown3 hgrow3 hB3 hO3
        go_wp2_with fail
        go_roundw
        case rel => exact ⟨1, by omega, rfl, HO3, HB3⟩
        case measure => simp [intOf]
      · have E1 := Lib.hid (show Value.int .u8 ((x : Int) / 256 % 256) = bv (UInt8.ofNat (x / 256)) from bvI (by omega))
        go_wp2_with (first | (at_builtin; refine wpList_append_own _ rfl _ _ 23 rfl w.heap.size 5 i0 (.int .u8 0) 1 1 Tryz.underlying23 hi0 hz0 hz1 hz2 rfl (by decide) _ _ _ rfl (hbr.alloc _) ⟨wr.heap.size, 0, none⟩ 1 1 [bv (UInt8.ofNat (x / 256))] rfl rfl (one_at E1.out) (one_cell _) ?c13 ?c14 ?c15 ?_))
        case c13 => rw [hl]; unfold maxLen; omega
        case c14 => rw [hl]; omega
        case c15 => simp; omega
        intro v' w3 hown3 hgrow3 _
        have hB3 : Below w.heap.size w w3 := (hB.out.alloc hBs _).grown hgrow3 (by simp; omega) (fun q hq => (hbr.lt q hq).1)
        have hO3 : OwnB w3 w.heap.size v' (bs ++ (four x).take 2) := by
          have e : bs ++ (four x).take 2 = (bs ++ (four x).take 1) ++ [UInt8.ofNat (x / 256)] := by rw [List.append_assoc]; rfl
          rw [e]
          unfold OwnB
          rw [List.map_append, List.length_append]
          exact (show w3.ownsRow _ _ _ _ _ _ by simpa [four_length] using hown3)
        have HB3 := Lib.hid hB3
        have HO3 := Lib.hid hO3
        clear hown3 hgrow3 hB3 hO3
        go_wp2_with fail
        go_roundw
        case rel => exact ⟨2, by omega, rfl, HO3, HB3⟩
        case measure => simp [intOf]
      · have E2 := Lib.hid (show Value.int .u8 ((x : Int) / 65536 % 256) = bv (UInt8.ofNat (x / 65536)) from bvI (by omega))
        go_wp2_with (first | (at_builtin; refine wpList_append_own _ rfl _ _ 23 rfl w.heap.size 5 i0 (.int .u8 0) 1 1 Tryz.underlying23 hi0 hz0 hz1 hz2 rfl (by decide) _ _ _ rfl (hbr.alloc _) ⟨wr.heap.size, 0, none⟩ 1 1 [bv (UInt8.ofNat (x / 65536))] rfl rfl (one_at E2.out) (one_cell _) ?c23 ?c24 ?c25 ?_))
        case c23 => rw [hl]; unfold maxLen; omega
        case c24 => rw [hl]; omega
        case c25 => simp; omega
        intro v' w3 hown3 hgrow3 _
        have hB3 : Below w.heap.size w w3 := (hB.out.alloc hBs _).grown hgrow3 (by simp; omega) (fun q hq => (hbr.lt q hq).1)
        have hO3 : OwnB w3 w.heap.size v' (bs ++ (four x).take 3) := by
          have e : bs ++ (four x).take 3 = (bs ++ (four x).take 2) ++ [UInt8.ofNat (x / 65536)] := by rw [List.append_assoc]; rfl
          rw [e]
          unfold OwnB
          rw [List.map_append, List.length_append]
          exact (show w3.ownsRow _ _ _ _ _ _ by simpa [four_length] using hown3)
        have HB3 := Lib.hid hB3
        have HO3 := Lib.hid hO3
        clear hown3 hgrow3 hB3 hO3
        go_wp2_with fail
        go_roundw
        case rel => exact ⟨3, by omega, rfl, HO3, HB3⟩
        case measure => simp [intOf]
      · have E3 := Lib.hid (show Value.int .u8 ((x : Int) / 16777216) = bv (UInt8.ofNat (x / 16777216)) from bvI (by omega))
        go_wp2_with (first | (at_builtin; refine wpList_append_own _ rfl _ _ 23 rfl w.heap.size 5 i0 (.int .u8 0) 1 1 Tryz.underlying23 hi0 hz0 hz1 hz2 rfl (by decide) _ _ _ rfl (hbr.alloc _) ⟨wr.heap.size, 0, none⟩ 1 1 [bv (UInt8.ofNat (x / 16777216))] rfl rfl (one_at E3.out) (one_cell _) ?c33 ?c34 ?c35 ?_))
        case c33 => rw [hl]; unfold maxLen; omega
        case c34 => rw [hl]; omega
        case c35 => simp; omega
        intro v' w3 hown3 hgrow3 _
        have hB3 : Below w.heap.size w w3 := (hB.out.alloc hBs _).grown hgrow3 (by simp; omega) (fun q hq => (hbr.lt q hq).1)
        have hO3 : OwnB w3 w.heap.size v' (bs ++ (four x).take 4) := by
          have e : bs ++ (four x).take 4 = (bs ++ (four x).take 3) ++ [UInt8.ofNat (x / 16777216)] := by rw [List.append_assoc]; rfl
          rw [e]
          unfold OwnB
          rw [List.map_append, List.length_append]
          exact (show w3.ownsRow _ _ _ _ _ _ by simpa [four_length] using hown3)
        have HB3 := Lib.hid hB3
        have HO3 := Lib.hid hO3
        clear hown3 hgrow3 hB3 hO3
        go_wp2_with fail
        go_roundw
        case rel => exact ⟨4, by omega, rfl, HO3, HB3⟩
        case measure => simp [intOf]
    · obtain rfl : k = 4 := by omega
      rw [List.take_of_length_le (by rw [four_length]; exact Nat.le_refl _), ← HM.out] at hbr
      have HBR := Lib.hid hbr
      clear hbr hown
      go_wp2_with fail
      go_ret
      exact ⟨_, rfl, HBR.out, hB.out⟩
end Go.Proofs.YtfgjnpbffppocaaGreat.Crc
