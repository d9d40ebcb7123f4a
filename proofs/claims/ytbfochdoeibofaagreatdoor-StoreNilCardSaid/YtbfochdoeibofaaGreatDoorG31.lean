/- OwnW, OwnL, Nil10, NilW, NilL, in one text. -/
import Derived.Test.YtbfochdoeibofaaGreatDoorG29
import Derived.Test.YtbfochdoeibofaaGreatDoorG30
/- palmerlaw10: StoreOwn. -/
namespace Go.Proofs.YtbfochdoeibofaaGreatDoor.Full
open Go.RowKit Go.Deep Mem Crc Go.Maps Go.Proofs.YtbfochdoeibofaaGreatDoor.Dk Go.Proofs.YtbfochdoeibofaaGreatDoor.Mani
open Go.Proofs.YtbfochdoeibofaaGreatDoor.Store (Chg none' nv Files setC setC_same setC_other)
open Go.Proofs.YtbfochdoeibofaaGreatDoor.Ext (Tab freeN)

/-- A row of bytes that may be written. -/
def Row8 (w : World) (g n : Nat) : Prop := ∃ cs, Blk w g 5 cs ∧ n ≤ cs.size ∧ ∀ j, j < n → ∃ x : Int, cs[j]? = some (.int .u8 x)
theorem row8_of {w : World} {base : Nat} {v : Value} {b : List UInt8} (h : OwnB w base v b) : ∃ a c, v = .slice a b.length c ∧ (b.length = 0 ∨ ∃ g, a = some ⟨g, 0, none⟩ ∧ base ≤ g ∧ Row8 w g b.length) := by
  have hl := h.1
  rcases h.2 with ⟨rfl, e⟩ | ⟨g, cap, cur, rfl, hbg, hg, hnc, hcm, hcs, htk⟩
  · have : b = [] := List.length_eq_zero_iff.1 e
    subst this
    exact ⟨none, 0, rfl, .inl rfl⟩
  · refine ⟨_, _, rfl, .inr ⟨g, rfl, hbg, cur, hg, by omega, fun j hj => ?_⟩⟩
    have hx : (b.map bv)[j]? = some (bv (b[j])) := by simp [hj]
    rw [← htk, List.getElem?_take] at hx
    split at hx
    · exact ⟨_, by rw [← Array.getElem?_toList]; exact hx⟩
    · cases hx
theorem Row8.cell {w : World} {g n j : Nat} (h : Row8 w g n) (hj : j < n) : ∃ x : Int, w.cell? ⟨g, j, none⟩ = some (.int .u8 x) := by
  obtain ⟨cs, hb, _, hc⟩ := h
  obtain ⟨x, hx⟩ := hc j hj
  exact ⟨x, by rw [hb.cell]; exact hx⟩
theorem Row8.frozen {w : World} {g n : Nat} (h : Row8 w g n) (j : Nat) : w.frozen? ⟨g, j, none⟩ = false := by
  obtain ⟨cs, hb, _, _⟩ := h
  exact hb.frozen j
theorem Row8.set {w : World} {g n : Nat} (h : Row8 w g n) (j : Nat) (x : Int) : Row8 (w.setCell ⟨g, j, none⟩ (.int .u8 x)) g n := by
  obtain ⟨cs, hb, hs, hc⟩ := h
  refine ⟨_, hb.set j _, by simpa using hs, fun k hk => ?_⟩
  by_cases e : j = k
  · subst e
    exact ⟨x, by simp [Array.getElem?_setIfInBounds]; omega⟩
  · obtain ⟨y, hy⟩ := hc k hk
    exact ⟨y, by rw [Array.getElem?_setIfInBounds_ne e]; exact hy⟩
theorem Row8.upon {w w' : World} {g n : Nat} {X : Nat → Prop} (h : Row8 w g n) (hu : Upon X w w') (hx : ¬ X g) : Row8 w' g n := by
  obtain ⟨cs, hb, hc⟩ := h
  exact ⟨cs, hb.upon hu hx, hc⟩
theorem Row8.lt {w : World} {g n : Nat} (h : Row8 w g n) : g < w.heap.size := by
  obtain ⟨cs, hb, _⟩ := h
  exact hb.lt
attribute [local go_sem] Oper.semAt_some
set_option maxHeartbeats 4000000 in
set_option maxRecDepth 200000 in
theorem own_law (a : Option Addr) (cp : Nat) (b : List UInt8) (y : Int) (w : World) (hL : Lies w a (b.map bv)) (hT : Tab w) :
    Calls Tryz.prog 3 #[.slice a b.length cp, .int .u8 y] w fun e w' => e = .returned (.bool true) ∧ Below w.heap.size w w' := by
  obtain ⟨n, hn⟩ : ∃ n, n = b.length := ⟨_, rfl⟩
  rw [← hn]
  by_cases hbig : 1000 < n
  · have hd : decide (1000 < (n : Int)) = true := decide_eq_true (by omega)
    have HA := Lib.hid (awake_any w hT)
    clear hL hT hn
    go_enter Tryz.func3, Tryz.ntmps3
    go_wp2_with fail
    refine HA.out.mono ?_
    rintro e w1 ⟨rfl, hB⟩
    go_wp2_with fail
    go_ret
    exact ⟨rfl, hB⟩
  · have hd : decide (1000 < (n : Int)) = false := decide_eq_false (by omega)
    have HB : Hid (Calls Tryz.prog 10 #[.int .i64 60] w fun e w' => ∃ p s d g cm Q, e = .returned (.tuple #[.pointer (some ⟨p, 0, none⟩), .bool true]) ∧ Blk w' p 38 #[.pointer (some ⟨s, 0, none⟩), .pointer (some ⟨d, 0, none⟩), .int .u64 0, .int .u32 0, .slice none 0 0, .slice none 0 0, .slice none 0 0, .slice none 0 0, .bool false] ∧ On w.heap.size s d g cm w' Q (D0 60) 0 0 [] none' (fun _ => none) 0 ∧ ¬ Q p ∧ w.heap.size ≤ p ∧ Below w.heap.size w w') := Lib.hid (begin_on 60 (by decide) (by decide) w hT)
    have HL := Lib.hid hL
    have HN := Lib.hid hn
    have HT := Lib.hid hT
    clear hL hT hn
    go_enter Tryz.func3, Tryz.ntmps3
    go_wp2_with fail
    refine HB.out.mono ?_
    rintro e w1 ⟨p, s, d, g, cm, Q, rfl, hp, hon, hqp, hpl, hB1⟩
    obtain ⟨W, hW⟩ : ∃ W, W = w1.alloc (.cells #[] 5) := ⟨_, rfl⟩
    have hBW : Below w1.heap.size w1 W := by rw [hW]; exact (Below.refl _ w1).alloc (Nat.le_refl _) _
    obtain ⟨v3, w3, hr3, hO3, hg3⟩ := run_append_bytes (base := w1.heap.size) W 22 (.slice (some ⟨w1.heap.size, 0, none⟩) 0 0) [] (by rw [hW]; exact own_empty w1 5 1) a cp b ((HL.out.later hB1).later hBW) (by simp; rw [← HN.out]; omega) hBW.size
    rw [← HN.out, hW] at hr3
    rw [List.nil_append] at hO3
    have hB3 : Below w1.heap.size w1 w3 := hBW.grown hg3 hBW.size (fun q e => by cases e; exact Nat.le_refl _)
    have hon3 := hon.later hB3
    obtain ⟨a3, c3, rfl, hrow⟩ := row8_of hO3
    obtain ⟨a3', c3', e3, _, hL3, hlt3, _⟩ := own_shape hO3
    cases e3
    have hwr := on_write hon3 (by decide) [97] (by decide) (by decide) a3 c3 b hL3 (by rw [← HN.out]; omega)
    have hp3 := hp.below hB3 hp.lt
    have p0 := hp3.cell 0
    simp at p0
    have hpw := hp.lt
    rw [← HN.out] at hwr hrow hr3
    have HWR := Lib.hid hwr
    have HP3 := Lib.hid hp3
    have HQP := Lib.hid hqp
    have HPL := Lib.hid hpl
    have HB1 := Lib.hid hB1
    have HB3 := Lib.hid hB3
    have HON3 := Lib.hid hon3
    have HROW := Lib.hid hrow
    have HQL := Lib.hid hon.lt
    clear hp hon hqp hpl hB1 hBW hW hO3 hg3 hB3 hon3 hrow hL3 hlt3 hwr hp3 HB
    go_wp2_with (first | (at_builtin; refine Lib.wpList_append_run _ rfl _ _ _ _ rfl _ _ rfl rfl _ _ hr3 ?_))
    refine HWR.out.mono ?_
    rintro e w4 ⟨rfl, Q4, hon4, hq4, hu4⟩
    obtain ⟨X, hX⟩ : ∃ X : Nat → Prop, X = fun k => w1.heap.size ≤ k ∧ k < w3.heap.size := ⟨_, rfl⟩
    have hXq : ∀ k, X k → ¬ Q4 k ∧ k ≠ 0 := fun k hk => by
      rw [hX] at hk
      refine ⟨fun h => (hq4 k h).elim (fun h2 => by have := HQL.out k h2; omega) (fun h2 => by omega), fun e => ?_⟩
      have := HT.out.lt
      have := HB1.out.size
      omega
    have hXp : ¬ X p := fun h => by rw [hX] at h; omega
    have hrow4 : n = 0 ∨ ∃ g0, a3 = some ⟨g0, 0, none⟩ ∧ X g0 ∧ Row8 w4 g0 n := HROW.out.imp id (fun ⟨g0, h1, h2, h3⟩ => ⟨g0, h1, by rw [hX]; exact ⟨h2, h3.lt⟩, h3.upon hu4 (fun hq => by have := HQL.out g0 hq; omega)⟩)
    have hB4 : Below w.heap.size w w4 := (HB1.out.trans (HB3.out.mono HB1.out.size)).trans (HON3.out.up hu4)
    have hp4 := HP3.out.upon hu4 HQP.out
    have hqp4 : ¬ Q4 p := fun hk => (hq4 p hk).elim HQP.out (fun h => by have := HB3.out.size; omega)
    have HROW4 := Lib.hid hrow4
    have HXQ := Lib.hid hXq
    have HXP := Lib.hid hXp
    have HB4 := Lib.hid hB4
    have HP4 := Lib.hid hp4
    have HQP4 := Lib.hid hqp4
    have HON4 := Lib.hid hon4
    have HXE := Lib.hid hX
    clear hX hXq hXp hrow4 hB4 hp4 hqp4 hon4 hq4 hu4 HROW HWR
    go_wp2_with fail
    go_loopw [9] (fun i wr => ∃ j : Nat, j ≤ n ∧ i = .int .i64 j ∧ Hid (Upon X w4 wr) ∧ Hid (n = 0 ∨ ∃ g0, a3 = some ⟨g0, 0, none⟩ ∧ X g0 ∧ Row8 wr g0 n)) (fun i _ => n - (intOf i).toNat)
    case atStart => exact ⟨0, Nat.zero_le _, rfl, Lib.hid (Upon.refl _ _), HROW4⟩
    case round =>
      obtain ⟨j, hj, rfl, hU, hR⟩ := hrel
      by_cases hlt : j < n
      · have hjd : decide ((j : Int) < (n : Int)) = true := decide_eq_true (by omega)
        obtain ⟨g0, rfl, hXg, hr8⟩ := hR.out.resolve_left (by omega)
        obtain ⟨x, hx⟩ := hr8.cell hlt
        have hfz := hr8.frozen j
        have HR8 := Lib.hid hr8
        have HXG := Lib.hid hXg
        clear hr8 hXg
        go_wp2_with fail
        exact ⟨⟨j + 1, by omega, by simp, Lib.hid (hU.out.set (.inl HXG.out) _), Lib.hid (.inr ⟨g0, rfl, HXG.out, HR8.out.set j _⟩)⟩, by simp [intOf]; omega⟩
      · obtain rfl : n = j := by omega
        have hjd : decide ((n : Int) < (n : Int)) = false := decide_eq_false (by omega)
        have hon5 := HON4.out.keep hU.out HXQ.out
        have hp5 := HP4.out.upon hU.out HXP.out
        have hB5 : Below w.heap.size w wr := HB4.out.trans (hU.out.below HB4.out.size (fun k hk => by rw [HXE.out] at hk; have := HB1.out.size; omega))
        have p0 := hp5.cell 0
        simp at p0
        have hrd := on_read hon5 [97] (by decide)
        have hans : ansF (nowF (setC none' [97] (some (some b))) (fun _ => none) [97]) = (b, 0) := by
          unfold nowF
          rw [setC_same]
          rfl
        rw [hans] at hrd
        have HRD := Lib.hid hrd
        have HON5 := Lib.hid hon5
        have HP5 := Lib.hid hp5
        have HB5 := Lib.hid hB5
        clear hon5 hp5 hB5 hrd hans hU hR HROW4
        go_wp2_with fail
        refine HRD.out.mono ?_
        rintro e w6 ⟨v6, rfl, hO6, hB6⟩
        obtain ⟨a6, c6, rfl, hrow6⟩ := row8_of hO6
        obtain ⟨a6', c6', e6, _, hL6, _, _⟩ := own_shape hO6
        cases e6
        obtain ⟨sb, hsb⟩ : ∃ sb : ByteArray, nv b = .string sb := ⟨_, rfl⟩
        have hB6w := HB5.out.trans (hB6.mono HB5.out.size)
        have hcv1 := conv_any (vc := c6) hL6
        have hcv2 := conv_any (vc := cp) (HL.out.later hB6w)
        have hon6 := HON5.out.later hB6
        have hp6 := HP5.out.below hB6 HP5.out.lt
        have p0 := hp6.cell 0
        simp at p0
        have hmany : Mani.many b.length ≤ (freeB 60 []).length := by
          rw [free60]
          have := HN.out
          unfold Mani.many
          split <;> omega
        have hcm := commit_one (b := b) hon6 (by decide) (by have := HN.out; omega) hmany
        rw [← HN.out] at hrow6 hcv1 hcv2
        rw [hsb] at hcv1 hcv2
        have HCM := Lib.hid hcm
        have HON6 := Lib.hid hon6
        have HP6 := Lib.hid hp6
        have HB6w := Lib.hid hB6w
        have HROW6 := Lib.hid hrow6
        have HSB := Lib.hid hsb
        have HZ6 := Lib.hid hB6.size
        have HLT5 := Lib.hid HON5.out.lt
        rw [← HN.out]
        clear hon6 hp6 hB6w hrow6 hsb hcm hmany hL6 hO6 hB6 HRD
        go_wp2_with fail
        refine HCM.out.mono ?_
        rintro e w7 ⟨rfl, Q7, m7, hon7, _, hq7, hu7⟩
        obtain ⟨Y, hY⟩ : ∃ Y : Nat → Prop, Y = fun k => wr.heap.size ≤ k ∧ k < w6.heap.size := ⟨_, rfl⟩
        have hw0 := HT.out.lt
        have hwr0 := HB5.out.size
        have hpr := HP5.out.lt
        have hYq : ∀ k, Y k → ¬ Q7 k ∧ k ≠ 0 := fun k hk => by
          rw [hY] at hk
          refine ⟨fun h => (hq7 k h).elim (fun h2 => by have := HLT5.out k h2; omega) (fun h2 => by omega), fun e => by omega⟩
        have hYp : ¬ Y p := fun h => by rw [hY] at h; omega
        have hrow7 : n = 0 ∨ ∃ g0, a6 = some ⟨g0, 0, none⟩ ∧ Y g0 ∧ Row8 w7 g0 n := HROW6.out.imp id (fun ⟨g0, h1, h2, h3⟩ => ⟨g0, h1, by rw [hY]; exact ⟨h2, h3.lt⟩, h3.upon hu7 (fun hq => by have := HLT5.out g0 hq; omega)⟩)
        have hB7 : Below w.heap.size w w7 := HB6w.out.trans (HON6.out.up hu7)
        have hp7 := HP6.out.upon hu7 HQP4.out
        have HROW7 := Lib.hid hrow7
        have HYQ := Lib.hid hYq
        have HYP := Lib.hid hYp
        have HB7 := Lib.hid hB7
        have HP7 := Lib.hid hp7
        have HON7 := Lib.hid hon7
        have HYE := Lib.hid hY
        clear hY hYq hYp hrow7 hB7 hp7 hon7 hq7 hu7 HROW6 HCM hcv1 hcv2
        go_wp2_with fail
        go_loopw [12] (fun i wr2 => ∃ j : Nat, j ≤ n ∧ i = .int .i64 j ∧ Hid (Upon Y w7 wr2) ∧ Hid (n = 0 ∨ ∃ g0, a6 = some ⟨g0, 0, none⟩ ∧ Y g0 ∧ Row8 wr2 g0 n)) (fun i _ => n - (intOf i).toNat)
        case atStart => exact ⟨0, Nat.zero_le _, rfl, Lib.hid (Upon.refl _ _), HROW7⟩
        case round =>
          obtain ⟨j, hj, rfl, hU, hR⟩ := hrel
          rename_i wr2
          by_cases hlt : j < n
          · have hjd : decide ((j : Int) < (n : Int)) = true := decide_eq_true (by omega)
            obtain ⟨g0, rfl, hXg, hr8⟩ := hR.out.resolve_left (by omega)
            obtain ⟨x, hx⟩ := hr8.cell hlt
            have hfz := hr8.frozen j
            have HR8 := Lib.hid hr8
            have HXG := Lib.hid hXg
            clear hr8 hXg
            go_wp2_with fail
            exact ⟨⟨j + 1, by omega, by simp, Lib.hid (hU.out.set (.inl HXG.out) _), Lib.hid (.inr ⟨g0, rfl, HXG.out, HR8.out.set j _⟩)⟩, by simp [intOf]; omega⟩
          · obtain rfl : n = j := by omega
            have hjd : decide ((n : Int) < (n : Int)) = false := decide_eq_false (by omega)
            have hon8 := HON7.out.keep hU.out HYQ.out
            have hp8 := HP7.out.upon hU.out HYP.out
            have hB8 := HB7.out.trans (hU.out.below HB7.out.size (fun k hk => by rw [HYE.out] at hk; omega))
            have p0 := hp8.cell 0
            simp at p0
            have hrd := on_read hon8 [97] (by decide)
            have hans : ansF (nowF none' (nowF (oneC [97] b) (fun _ => none)) [97]) = (b, 0) := by
              rw [nowF_none]
              unfold nowF
              rw [oneC_same]
              rfl
            rw [hans] at hrd
            have HRD := Lib.hid hrd
            have HB8 := Lib.hid hB8
            clear hon8 hp8 hB8 hrd hans hU hR HROW7
            go_wp2_with fail
            refine HRD.out.mono ?_
            rintro e w9 ⟨v9, rfl, hO9, hB9⟩
            obtain ⟨a9, c9, rfl, _, hL9, _, _⟩ := own_shape hO9
            have hB9w := HB8.out.trans (hB9.mono HB8.out.size)
            have hcv1 := conv_any (vc := c9) hL9
            have hcv2 := conv_any (vc := cp) (HL.out.later hB9w)
            have HAW := Lib.hid (awake_any w9 (HT.out.below hB9w hw0))
            rw [← HN.out] at hcv1 hcv2
            rw [HSB.out] at hcv1 hcv2
            have HB9w := Lib.hid hB9w
            rw [← HN.out]
            clear hO9 hL9 hB9 hB9w HRD
            go_wp2_with fail
            refine HAW.out.mono ?_
            rintro e w10 ⟨rfl, hB10⟩
            have HB10 := Lib.hid (HB9w.out.trans (hB10.mono HB9w.out.size))
            clear hB10
            go_wp2_with fail
            go_ret
            exact ⟨rfl, HB10.out⟩
end Go.Proofs.YtbfochdoeibofaaGreatDoor.Full

/- palmerlaw10.StoreOwn, at whatever comes in. -/
namespace Go.Proofs.YtbfochdoeibofaaGreatDoor.Full
open Go.RowKit Go.Deep Go.ChangeShapes Go.WideShapes Mem Crc
open Go.Proofs.YtbfochdoeibofaaGreatDoor.Ext (Tab)

set_option maxRecDepth 100000 in
theorem own_in {H : Type} {enc : TypeId × Value → H} {base : Nat} (v0 v1 : Value) (d0 d1 : DataW H) (p0 p1 : List MemPlace) (W : World) (hT : Tab W)
    (q0 : Value.okWide Tryz.prog W .any base 22 v0) (h0 : DataW.Trod enc Tryz.prog W 0 (fun _ => true) true 22 v0 d0 p0)
    (q1 : Value.okWide Tryz.prog W .any base 5 v1) (h1 : DataW.Trod enc Tryz.prog W 0 (fun _ => true) true 5 v1 d1 p1) :
    Calls Tryz.prog 3 #[v0, v1] W fun e w' => e = .returned (.bool true) ∧ Below W.heap.size W w' := by
  obtain ⟨a, cp, b, rfl, _, _, hL⟩ := Args.bytes_open Tryz.underlying22 Tryz.underlying5 (by kernel_rfl) q0 h0
  obtain ⟨m, rfl, _⟩ := Args.int_open Tryz.underlying5 q1 h1
  exact own_law a cp b m W hL hT
end Go.Proofs.YtbfochdoeibofaaGreatDoor.Full

/- Layer 10: a nil store; a disk that was turned off; a disk that is too small. -/
namespace Go.Proofs.YtbfochdoeibofaaGreatDoor.Full
open Go.RowKit Go.Deep Mem Crc Go.Maps Go.Proofs.YtbfochdoeibofaaGreatDoor.Dk Go.Proofs.YtbfochdoeibofaaGreatDoor.Mani
open Go.Proofs.YtbfochdoeibofaaGreatDoor.Store (Chg none' nv Files setC setC_same setC_other)
open Go.Proofs.YtbfochdoeibofaaGreatDoor.Ext (Tab freeN)
open Go.Proofs.YtbfochdoeibofaaGreatDoor.Disk (Blank)

attribute [local go_sem] Oper.semAt_some
theorem ndown_nil (w : World) : Calls Tryz.prog 38 #[.pointer none] w fun e w' => e = .returned (.bool true) ∧ w' = w := by
  go_enter Tryz.func38, Tryz.ntmps38
  go_wp2_with fail
  go_ret
  exact ⟨rfl, rfl⟩
theorem nread_nil (w : World) (x : Value) : Calls Tryz.prog 12 #[.pointer none, x] w fun e w' => e = .returned (.tuple #[.slice none 0 0, .int .i64 6]) ∧ w' = w := by
  have HD := Lib.hid (ndown_nil w)
  go_enter Tryz.func12, Tryz.ntmps12
  go_wp2_with fail
  refine HD.out.mono ?_
  rintro e w1 ⟨rfl, rfl⟩
  go_wp2_with fail
  go_ret2
  exact ⟨rfl, rfl⟩
theorem nwrite_nil (w : World) (x : Value) (ad : Option Addr) (n cp : Nat) : Calls Tryz.prog 11 #[.pointer none, x, .slice ad n cp] w fun e w' => e = .returned (.int .i64 6) ∧ w' = w := by
  have HD := Lib.hid (ndown_nil w)
  go_enter Tryz.func11, Tryz.ntmps11
  go_wp2_with fail
  refine HD.out.mono ?_
  rintro e w1 ⟨rfl, rfl⟩
  go_wp2_with fail
  go_ret
  exact ⟨rfl, rfl⟩
/-- Append, where Read tells that it is down. -/
theorem append_down (w : World) (st x : Value) (ad : Option Addr) (n cp : Nat) (hr : Calls Tryz.prog 12 #[st, x] w fun e w' => e = .returned (.tuple #[.slice none 0 0, .int .i64 6]) ∧ w' = w) : Calls Tryz.prog 26 #[st, x, .slice ad n cp] w fun e w' => e = .returned (.int .i64 6) ∧ w' = w := by
  have HR := Lib.hid hr
  clear hr
  go_enter Tryz.func26, Tryz.ntmps26
  go_wp2_with fail
  refine HR.out.mono ?_
  rintro e w1 ⟨rfl, rfl⟩
  go_wp2_with fail
  go_ret
  exact ⟨rfl, rfl⟩
theorem nremove_nil (w : World) (x : Value) : Calls Tryz.prog 27 #[.pointer none, x] w fun e w' => e = .returned (.int .i64 6) ∧ w' = w := by
  have HD := Lib.hid (ndown_nil w)
  go_enter Tryz.func27, Tryz.ntmps27
  go_wp2_with fail
  refine HD.out.mono ?_
  rintro e w1 ⟨rfl, rfl⟩
  go_wp2_with fail
  go_ret
  exact ⟨rfl, rfl⟩
theorem ncommit_nil (w : World) : Calls Tryz.prog 13 #[.pointer none] w fun e w' => e = .returned (.int .i64 6) ∧ w' = w := by
  have HD := Lib.hid (ndown_nil w)
  go_enter Tryz.func13, Tryz.ntmps13
  go_wp2_with fail
  refine HD.out.mono ?_
  rintro e w1 ⟨rfl, rfl⟩
  go_wp2_with fail
  go_ret
  exact ⟨rfl, rfl⟩
theorem nversion_nil (w : World) : Calls Tryz.prog 16 #[.pointer none] w fun e w' => e = .returned (.int .u64 0) ∧ w' = w := by
  go_enter Tryz.func16, Tryz.ntmps16
  go_wp2_with fail
  go_ret
  exact ⟨rfl, rfl⟩
theorem nnames_nil (w : World) : Calls Tryz.prog 28 #[.pointer none] w fun e w' => e = .returned (.slice none 0 0) ∧ w' = w := by
  go_enter Tryz.func28, Tryz.ntmps28
  go_wp2_with fail
  go_ret
  exact ⟨rfl, rfl⟩
/-- A disk is turned off. -/
theorem dk_off {d g : Nat} {wv : Value} {m : DM} {w : World} (h : Dk w d g wv m) :
    Calls Tryz.prog 25 #[.pointer (some ⟨d, 0, none⟩)] w fun e w' => e = .returned (.tuple #[]) ∧ Dk w' d g wv { m with off := true } ∧ Only [d] w w' := by
  have fz := h.disk.frozen 2
  have c2 := h.cells.2.2.1
  have ho : Only [d] w (w.setCell ⟨d, 2, none⟩ (.bool true)) := (Only.refl [d] w).set (p := ⟨d, 2, none⟩) (.inl (by simp)) (.bool true)
  have hd : Dk (w.setCell ⟨d, 2, none⟩ (.bool true)) d g wv { m with off := true } := ⟨h.disk.set 2 (.bool true), h.row.far (Ne.symm h.dg) _, own_far h.wt h.wd _, h.len, h.wlen, h.f0, h.f1, h.small, h.nil⟩
  have HD := Lib.hid hd
  have HO := Lib.hid ho
  clear h hd ho
  go_enter Tryz.func25, Tryz.ntmps25
  go_wp2_with fail
  go_end0
  exact ⟨rfl, HD.out, HO.out⟩
/-- A store whose disk alone was written. -/
theorem Fu.disked {w w' : World} {Q : Nat → Prop} {s d g cm : Nat} {wv : Value} {m m' : DM} {ver next : Nat} {a : Option Addr} {c : Nat} {l : List FR} {bad : Bool} {C : Chg} (h : Fu w Q s d g cm wv m ver next a c l bad C) (ho : Only [d] w w') (hd : Dk w' d g wv m') : Fu w' Q s d g cm wv m' ver next a c l bad C := by
  have hkk : ∀ k, k < w.heap.size → k ≠ d → w'.heap[k]? = w.heap[k]? := fun k hk hne => ho.block k hk (by simpa using hne)
  have haw := h.away
  obtain ⟨f, h1, h2, h3⟩ := h.map
  have hown : ∀ k, Own Q s d g cm wv k → w'.heap[k]? = w.heap[k]? := fun k hk => hkk k (h.lt k hk.1) (fun e => hk.2.2.2 (.inl e))
  exact ⟨(hkk s h.store.lt (fun e => haw.1 (.inl e))).trans h.store, hd, h.files.keep ho.size (fun k e => hown k (h.fr k e)) (fun x hx k e => hown k (h.br x hx k e)), h.fr, h.br, ⟨f, h1.keep (hkk cm (h.lt cm h.qm) (fun e => haw.2 (.inl e))), h2, fun nm => (h3 nm).keep ho.size hown (fun _ h => h)⟩, h.qs, h.qm, h.qd, fun k hk => Nat.lt_of_lt_of_le (h.lt k hk) ho.size⟩
set_option maxHeartbeats 400000 in
set_option maxRecDepth 100000 in
/-- A disk that is too small has no manifest, no store. -/
theorem read_small {d g N : Nat} (hN : N ≤ 32) {w : World} (h : Blank w d g N false) :
    Calls Tryz.prog 20 #[.pointer (some ⟨d, 0, none⟩)] w fun e w' => e = .returned (.tuple #[.agg #[.int .u64 0, .int .u32 0, .slice none 0 0], .int .i64 1]) ∧ Below w.heap.size w w' := by
  have hal := (Below.refl w.heap.size w).alloc (Nat.le_refl _) (Obj.cells #[Value.int .u64 0, Value.int .u32 0, Value.slice none 0 0] 34)
  have hC := Lib.hid (Disk.count_any (h.later hal))
  have hd0 : decide ((N : Int) ≤ 32) = true := decide_eq_true (by omega)
  clear h hal
  obtain ⟨r, hr⟩ : ∃ r, r = w.heap.size := ⟨_, rfl⟩
  obtain ⟨W, hW⟩ : ∃ W, W = w.alloc (.cells #[.int .u64 0, .int .u32 0, .slice none 0 0] 34) := ⟨_, rfl⟩
  have hb : Blk W r 34 #[.int .u64 0, .int .u32 0, .slice none 0 0] := by rw [hW, hr]; exact Blk.new w _ _
  have z0 := hb.frozen 0
  have z1 := hb.frozen 1
  have z2 := hb.frozen 2
  have m0 := hb.cell 0
  have m1 := hb.cell 1
  have m2 := hb.cell 2
  simp at m0 m1 m2
  have hBW : Below w.heap.size w W := by rw [hW]; exact (Below.refl _ w).alloc (Nat.le_refl _) _
  have HB := Lib.hid hb
  have HBW := Lib.hid hBW
  have HRE := Lib.hid hr
  rw [← hW] at hC
  clear hb hBW
  go_enter Tryz.func20, Tryz.ntmps20
  go_wp2_with fail
  rw [← hW, ← hr]
  clear hW hr
  refine hC.out.mono ?_
  rintro e w1 ⟨rfl, rfl⟩
  go_wp2_with fail
  obtain ⟨y0, y1, y2⟩ := res_set HB.out (.int .u64 0) (.int .u32 0) (.slice none 0 0)
  have hBf := below_res HBW.out (show w.heap.size ≤ r by rw [HRE.out]; exact Nat.le_refl _) (.int .u64 0) (.int .u32 0) (.slice none 0 0)
  refine bodyPost_ret (v := .tuple #[.agg #[.int .u64 0, .int .u32 0, .slice none 0 0], .int .i64 1]) (by simp [results, Tryz.f20, Tryz.results20, go_sem, y0, y1, y2]) rfl ?_
  exact ⟨rfl, hBf⟩
theorem open_small {d g N : Nat} (hN : N ≤ 32) {w : World} (h : Blank w d g N false) :
    Calls Tryz.prog 23 #[.pointer (some ⟨d, 0, none⟩)] w fun e w' => e = .returned (.tuple #[.pointer none, .int .i64 1]) ∧ Below w.heap.size w w' := by
  have hal := (Below.refl w.heap.size w).alloc (Nat.le_refl _) (Obj.cells #[Value.pointer (some ⟨d, 0, none⟩)] 29)
  have HM := Lib.hid (read_small hN (h.later hal))
  have HA := Lib.hid hal
  clear h hal
  go_enter Tryz.func23, Tryz.ntmps23
  go_wp2_with fail
  refine HM.out.mono ?_
  rintro e w1 ⟨rfl, hB1⟩
  have HB1 := Lib.hid (HA.out.trans (hB1.mono (by simp)))
  have hs := HB1.out.size
  clear hB1 HM
  go_wp2_with fail
  go_ret2
  exact ⟨rfl, HB1.out.alloc hs _⟩
end Go.Proofs.YtbfochdoeibofaaGreatDoor.Full

/- palmerlaw10: StoreNil. -/
namespace Go.Proofs.YtbfochdoeibofaaGreatDoor.Full
open Go.RowKit Go.Deep Mem Crc Go.Maps Go.Proofs.YtbfochdoeibofaaGreatDoor.Dk Go.Proofs.YtbfochdoeibofaaGreatDoor.Mani
open Go.Proofs.YtbfochdoeibofaaGreatDoor.Store (Chg none' nv Files setC setC_same setC_other)
open Go.Proofs.YtbfochdoeibofaaGreatDoor.Ext (Tab freeN)
open Go.Proofs.YtbfochdoeibofaaGreatDoor.Disk (Blank)

attribute [local go_sem] Oper.semAt_some
set_option maxHeartbeats 4000000 in
set_option maxRecDepth 200000 in
theorem nil_law (sb : ByteArray) (a : Option Addr) (cp n : Nat) (count : Int) (hc : -9223372036854775808 ≤ count ∧ count ≤ 9223372036854775807) (w : World) (hT : Tab w) :
    Calls Tryz.prog 5 #[.string sb, .slice a n cp, .int .i64 count] w fun e w' => e = .returned (.bool true) ∧ Below w.heap.size w w' := by

  have hlen : ∀ w : World, (Builtin.len_ #[9] 3 #[.string sb]).run Tryz.prog w = .ok (.int .i64 (sb.size : Int)) w := fun w => by
    simp [Builtin.len_, run_underlying Tryz.underlying9, goInt, Result.andThen]
  have HA := Lib.hid (awake_any w hT)
  by_cases hbig : 100 < sb.size ∨ 100 < n
  · clear hT
    by_cases h1 : 100 < sb.size
    · have hd : decide (100 < (sb.size : Int)) = true := decide_eq_true (by omega)
      clear hbig
      go_enter Tryz.func5, Tryz.ntmps5
      go_wp2_with fail
      refine HA.out.mono ?_
      rintro e w1 ⟨rfl, hB⟩
      go_wp2_with fail
      go_ret
      exact ⟨rfl, hB⟩
    · have hd : decide (100 < (sb.size : Int)) = false := decide_eq_false (by omega)
      have hd2 : decide (100 < (n : Int)) = true := decide_eq_true (by omega)
      clear hbig
      go_enter Tryz.func5, Tryz.ntmps5
      go_wp2_with fail
      refine HA.out.mono ?_
      rintro e w1 ⟨rfl, hB⟩
      go_wp2_with fail
      go_ret
      exact ⟨rfl, hB⟩
  · have hd : decide (100 < (sb.size : Int)) = false := decide_eq_false (by omega)
    have hd2 : decide (100 < (n : Int)) = false := decide_eq_false (by omega)
    have HB : Hid (Calls Tryz.prog 10 #[.int .i64 40] w fun e w' => ∃ p s d g cm Q, e = .returned (.tuple #[.pointer (some ⟨p, 0, none⟩), .bool true]) ∧ Blk w' p 38 #[.pointer (some ⟨s, 0, none⟩), .pointer (some ⟨d, 0, none⟩), .int .u64 0, .int .u32 0, .slice none 0 0, .slice none 0 0, .slice none 0 0, .slice none 0 0, .bool false] ∧ On w.heap.size s d g cm w' Q (D0 40) 0 0 [] none' (fun _ => none) 0 ∧ ¬ Q p ∧ w.heap.size ≤ p ∧ Below w.heap.size w w') := Lib.hid (begin_on 40 (by decide) (by decide) w hT)
    have HF := Lib.hid (forget_nil w)
    have HT := Lib.hid hT
    have HW0 := Lib.hid hT.lt
    clear hT HA hbig
    go_enter Tryz.func5, Tryz.ntmps5
    go_wp2_with fail
    refine HF.out.mono ?_
    rintro e w0 ⟨rfl, rfl⟩
    go_wp2_with fail
    refine HB.out.mono ?_
    rintro e w1 ⟨p, s, d, g, cm, Q, rfl, hp, hon, hqp, hpl, hB1⟩
    obtain ⟨wv, fa, fc, fl, hfu, hfl⟩ := hon.fu
    obtain rfl : fl = [] := List.map_eq_nil_iff.1 hfl
    have p0 := hp.cell 0
    have p1 := hp.cell 1
    simp at p0 p1
    have HOFF := Lib.hid (dk_off hfu.disk)
    have HFU := Lib.hid hfu
    have HON := Lib.hid hon
    have HP := Lib.hid hp
    have HQP := Lib.hid hqp
    have HB1 := Lib.hid hB1
    clear hp hon hqp hpl hB1 hfu hfl HB HF
    go_wp2_with fail
    refine HOFF.out.mono ?_
    rintro e w2 ⟨rfl, hd2k, ho2⟩
    have hfu2 := HFU.out.disked ho2 hd2k
    have hdq : Q d := HFU.out.qd d (.inl rfl)
    have hu2 : Upon Q w1 w2 := Upon.of_only ho2 (fun k hk => .inl (by rw [List.mem_singleton.1 hk]; exact hdq))
    have hB2 := HB1.out.trans (HON.out.up hu2)
    have hp2 := HP.out.upon hu2 HQP.out
    have p0 := hp2.cell 0
    simp at p0
    obtain ⟨W, hW⟩ : ∃ W, W = w2.alloc (.cells #[.pointer none, .pointer (some ⟨s, 0, none⟩)] 28) := ⟨_, rfl⟩
    obtain ⟨gl, hgl⟩ : ∃ b, b = w2.heap.size := ⟨_, rfl⟩
    have hBW : Below w2.heap.size w2 W := by rw [hW]; exact (Below.refl _ w2).alloc (Nat.le_refl _) _
    have hbl : Blk W gl 28 #[.pointer none, .pointer (some ⟨s, 0, none⟩)] := by rw [hW, hgl]; exact Blk.new w2 _ _
    have HFU2 := Lib.hid (hfu2.later hBW)
    have HBW := Lib.hid (hB2.trans (hBW.mono hB2.size))
    have HBL := Lib.hid hbl
    clear hfu2 hdq hu2 hB2 hp2 hBW hbl hd2k ho2 HOFF
    go_wp2_with fail
    rw [← hW, ← hgl]
    clear hW hgl
    go_loopw [11] (fun i wr => ∃ j : Nat, j ≤ 2 ∧ i = .int .i64 j ∧ Hid (Below W.heap.size W wr)) (fun i _ => 2 - (intOf i).toNat)
    case atStart => exact ⟨0, by omega, rfl, Lib.hid (Below.refl _ _)⟩
    case round =>
      obtain ⟨j, hj, rfl, hB⟩ := hrel
      have hbl := HBL.out.below hB.out HBL.out.lt
      by_cases hlt : j < 2
      · have hjd : decide ((j : Int) < 2) = true := decide_eq_true (by omega)
        by_cases hj0 : j = 0
        · have hc0 : wr.cell? ⟨gl, j, none⟩ = some (.pointer none) := by rw [hj0]; exact hbl.cell 0
          have HRD := Lib.hid (nread_nil wr (.string sb))
          have HWR := Lib.hid (nwrite_nil wr (.string sb) a n cp)
          have HAP := Lib.hid (append_down wr (.pointer none) (.string sb) a n cp (nread_nil wr (.string sb)))
          have HRM := Lib.hid (nremove_nil wr (.string sb))
          have HCM := Lib.hid (ncommit_nil wr)
          have HVR := Lib.hid (nversion_nil wr)
          have HNM := Lib.hid (nnames_nil wr)
          have HJ := Lib.hid hj0
          clear hbl hj0
          go_wp2_with fail
          refine HRD.out.mono ?_
          rintro e w4 ⟨rfl, rfl⟩
          go_wp2_with fail
          refine HWR.out.mono ?_
          rintro e w5 ⟨rfl, rfl⟩
          go_wp2_with fail
          refine HAP.out.mono ?_
          rintro e w6 ⟨rfl, rfl⟩
          go_wp2_with fail
          refine HRM.out.mono ?_
          rintro e w7 ⟨rfl, rfl⟩
          go_wp2_with fail
          refine HCM.out.mono ?_
          rintro e w8 ⟨rfl, rfl⟩
          go_wp2_with fail
          refine HVR.out.mono ?_
          rintro e w9 ⟨rfl, rfl⟩
          go_wp2_with fail
          refine HNM.out.mono ?_
          rintro e w10 ⟨rfl, rfl⟩
          go_wp2_with fail
          exact ⟨⟨j + 1, by omega, by simp, hB⟩, by simp [intOf]; omega⟩
        · have hc0 : wr.cell? ⟨gl, j, none⟩ = some (.pointer (some ⟨s, 0, none⟩)) := by
            rw [show j = 1 by omega]
            exact hbl.cell 1
          have hfr := HFU2.out.later hB.out
          have HRD := Lib.hid (fread_off hfr rfl (.string sb))
          have HWR := Lib.hid (fwrite_off hfr rfl (.string sb) a n cp)
          have HAP := Lib.hid (append_down wr (.pointer (some ⟨s, 0, none⟩)) (.string sb) a n cp (fread_off hfr rfl (.string sb)))
          have HRM := Lib.hid (fremove_off hfr rfl (.string sb))
          have HCM := Lib.hid (commit_off hfr rfl)
          have HVR : Hid (Calls Tryz.prog 16 #[.pointer (some ⟨s, 0, none⟩)] wr fun e w' => e = .returned (.int .u64 0) ∧ w' = wr) := Lib.hid (version_any hfr)
          have HNM := Lib.hid (fnames_any hfr [] (fun x h => absurd rfl h) (by decide) (fun x hx => by cases hx) (by decide) (fun x hx => by cases hx))
          have HJ := Lib.hid hj0
          clear hbl hj0 hfr
          go_wp2_with fail
          refine HRD.out.mono ?_
          rintro e w4 ⟨rfl, rfl⟩
          go_wp2_with fail
          refine HWR.out.mono ?_
          rintro e w5 ⟨rfl, rfl⟩
          go_wp2_with fail
          refine HAP.out.mono ?_
          rintro e w6 ⟨rfl, rfl⟩
          go_wp2_with fail
          refine HRM.out.mono ?_
          rintro e w7 ⟨rfl, rfl⟩
          go_wp2_with fail
          refine HCM.out.mono ?_
          rintro e w8 ⟨rfl, rfl⟩
          go_wp2_with fail
          refine HVR.out.mono ?_
          rintro e w9 ⟨rfl, rfl⟩
          go_wp2_with fail
          refine HNM.out.mono ?_
          rintro e w11 ⟨v, ss, rfl, hO, hm, _, _, hB11⟩
          have hss : ss = [] := List.eq_nil_iff_forall_not_mem.2 (fun x hx => by
            have := (hm x).1 hx
            cases this)
          subst hss
          obtain ⟨va, vc, rfl, _, _, _, _⟩ := own_shape hO
          have HB11 := Lib.hid (hB.out.trans (hB11.mono hB.out.size))
          simp only [List.length_nil]
          clear hO hm hB11
          go_wp2_with fail
          exact ⟨⟨j + 1, by omega, by simp, HB11⟩, by simp [intOf]; omega⟩
      · have hjd : decide ((j : Int) < 2) = false := decide_eq_false (by omega)
        have hBr := HBW.out.trans (hB.out.mono HBW.out.size)
        have HBR := Lib.hid hBr
        have HAW := Lib.hid (awake_any wr (HT.out.below hBr HW0.out))
        clear hBr hbl
        by_cases hc1 : 32 < count ∨ count < 1
        · have HFR := Lib.hid (frees_nil wr)
          by_cases hc2 : 32 < count
          · have hd3 : decide (32 < count) = true := decide_eq_true hc2
            clear hc1
            go_wp2_with fail
            refine HFR.out.mono ?_
            rintro e w5 ⟨rfl, rfl⟩
            go_wp2_with fail
            refine HAW.out.mono ?_
            rintro e w6 ⟨rfl, hB6⟩
            have HB6 := Lib.hid (HBR.out.trans (hB6.mono HBR.out.size))
            clear hB6
            go_wp2_with fail
            go_ret
            exact ⟨rfl, HB6.out⟩
          · have hd3 : decide (32 < count) = false := decide_eq_false hc2
            have hd4 : decide (count < 1) = true := decide_eq_true (by omega)
            clear hc1
            go_wp2_with fail
            refine HFR.out.mono ?_
            rintro e w5 ⟨rfl, rfl⟩
            go_wp2_with fail
            refine HAW.out.mono ?_
            rintro e w6 ⟨rfl, hB6⟩
            have HB6 := Lib.hid (HBR.out.trans (hB6.mono HBR.out.size))
            clear hB6
            go_wp2_with fail
            go_ret
            exact ⟨rfl, HB6.out⟩
        · have hd3 : decide (32 < count) = false := decide_eq_false (by omega)
          have hd4 : decide (count < 1) = false := decide_eq_false (by omega)
          obtain ⟨M, hM⟩ : ∃ M : Nat, count = (M : Int) := ⟨count.toNat, by omega⟩
          have hND := Disk.new_any M wr (by omega) (by omega)
          rw [← hM] at hND
          have HND := Lib.hid hND
          have HM := Lib.hid hM
          have hM32 : M ≤ 32 := by omega
          clear hND hM hc1
          go_wp2_with fail
          refine HND.out.mono ?_
          rintro e w5 ⟨d2, g2, rfl, hbk, _, _, hB5⟩
          have HOP := Lib.hid (open_small hM32 hbk)
          have HB5 := Lib.hid (HBR.out.trans (hB5.mono HBR.out.size))
          clear hbk hB5 HND
          go_wp2_with fail
          refine HOP.out.mono ?_
          rintro e w6 ⟨rfl, hB6⟩
          have hB6w := HB5.out.trans (hB6.mono HB5.out.size)
          have HAW6 := Lib.hid (awake_any w6 (HT.out.below hB6w HW0.out))
          have HB6 := Lib.hid hB6w
          clear hB6 hB6w HAW
          go_wp2_with fail
          refine HAW6.out.mono ?_
          rintro e w7 ⟨rfl, hB7⟩
          have HB7 := Lib.hid (HB6.out.trans (hB7.mono HB6.out.size))
          clear hB7
          go_wp2_with fail
          go_ret
          exact ⟨rfl, HB7.out⟩
end Go.Proofs.YtbfochdoeibofaaGreatDoor.Full

/- palmerlaw10.StoreNil, at whatever comes in. -/
namespace Go.Proofs.YtbfochdoeibofaaGreatDoor.Full
open Go.RowKit Go.Deep Go.ChangeShapes Go.WideShapes Mem Crc
open Go.Proofs.YtbfochdoeibofaaGreatDoor.Ext (Tab)

set_option maxRecDepth 100000 in
theorem nil_in {H : Type} {enc : TypeId × Value → H} {base : Nat} (v0 v1 v2 : Value) (d0 d1 d2 : DataW H) (p0 p1 p2 : List MemPlace) (W : World) (hT : Tab W)
    (q0 : Value.okWide Tryz.prog W .any base 9 v0) (h0 : DataW.Trod enc Tryz.prog W 0 (fun _ => true) true 9 v0 d0 p0)
    (q1 : Value.okWide Tryz.prog W .any base 22 v1) (h1 : DataW.Trod enc Tryz.prog W 0 (fun _ => true) true 22 v1 d1 p1)
    (q2 : Value.okWide Tryz.prog W .any base 3 v2) (h2 : DataW.Trod enc Tryz.prog W 0 (fun _ => true) true 3 v2 d2 p2) :
    Calls Tryz.prog 5 #[v0, v1, v2] W fun e w' => e = .returned (.bool true) ∧ Below W.heap.size W w' := by
  obtain ⟨s, rfl⟩ := okWide_string Tryz.underlying9 q0
  obtain ⟨a, cp, b, rfl, _, _, hL⟩ := Args.bytes_open Tryz.underlying22 Tryz.underlying5 (by kernel_rfl) q1 h1
  obtain ⟨m, rfl, hm⟩ := Args.int_open Tryz.underlying3 q2 h2
  exact nil_law s a cp b.length m (Go.bounds_i64 hm) W hT
end Go.Proofs.YtbfochdoeibofaaGreatDoor.Full
