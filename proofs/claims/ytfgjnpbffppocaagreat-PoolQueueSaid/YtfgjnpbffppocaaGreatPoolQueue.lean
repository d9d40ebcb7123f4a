/- palmerlaw24.PoolQueue, walked. -/
import Derived.Test.YtfgjnpbffppocaaGreatPoolInvB
import Derived.Outline
namespace Go.Proofs.YtfgjnpbffppocaaGreat.Pool
open Go.RowKit Go.Deep Mem Crc Walk
open Go.Proofs.YtfgjnpbffppocaaGreat.Store (St Chg setC none')

set_option maxHeartbeats 4000000 in
set_option maxRecDepth 100000 in
theorem queue_in (room : Nat) (a : Option Addr) (cap : Nat) (l : List (List Nat)) (wa : Option Addr) (wc : Nat) (wl : List UInt8) (sa : Option Addr) (sc : Nat) (sl : List Bool) (most : Int) (W : World)
    (hr1 : 1 ≤ room) (hr2 : room ≤ 65536) (hn : l.length ≤ 100) (hm : 0 ≤ most ∧ most ≤ 255) (hok : ∀ x ∈ l, ok x) (hL : Lies W a (flatW l)) (hW : Lies W wa (wl.map bv)) (hS : Lies W sa (sl.map Value.bool)) (hwl : wl.length ≤ maxLen) (hsl : sl.length ≤ maxLen) :
    Calls Tryz.prog 3 #[.int .i64 (room : Int), .slice a l.length cap, .slice wa wl.length wc, .slice sa sl.length sc, .int .u8 most] W fun e w' => e = .returned (.bool true) ∧ Below W.heap.size W w' := by
  have HBG := Lib.hid (begin_any W)
  obtain ⟨n, hne⟩ : ∃ n, n = l.length := ⟨_, rfl⟩
  obtain ⟨wn, hwne⟩ : ∃ wn, wn = wl.length := ⟨_, rfl⟩
  obtain ⟨sn, hsne⟩ : ∃ sn, sn = sl.length := ⟨_, rfl⟩
  rw [← hne] at hn ⊢
  rw [← hwne] at hwl ⊢
  rw [← hsne] at hsl ⊢
  have HOK := Lib.hid hok
  have HL := Lib.hid hL
  have HWH := Lib.hid hW
  have HSP := Lib.hid hS
  have HN := Lib.hid hne
  have HWN := Lib.hid hwne
  have HSN := Lib.hid hsne
  have t1 : decide (100 < (n : Int)) = false := by simp; omega
  have t2 : decide ((room : Int) < 1) = false := by simp; omega
  have t3 : decide (65536 < (room : Int)) = false := by simp; omega
  have hwl : wn ≤ 9223372036854775807 := by unfold maxLen at hwl; omega
  have hsl : sn ≤ 9223372036854775807 := by unfold maxLen at hsl; omega
  clear hok hL hW hS hne hwne hsne
  go_enter Tryz.func3, Tryz.ntmps3
  go_wp2_with fail
  refine HBG.out.mono ?_
  rintro e w1 ⟨d, s, g, cm, Q, rfl, hst, hQ, hB1⟩
  have HNW : Hid (Calls Tryz.prog 7 #[.pointer (some ⟨s, 0, none⟩), .int .i64 20, .int .i64 (room : Int)] w1 fun e w' => ∃ A : Pa, e = .returned (.tuple #[.pointer (some ⟨A.p, 0, none⟩), .int .i64 0]) ∧ Pl A false w' Q (fun _ => none) no no ∧ (∀ k, allQ A Q (fun _ => none) k → W.heap.size ≤ k) ∧ A.n = 20 ∧ A.room = room ∧ A.s = s ∧ A.d = d ∧ A.g = g ∧ A.N = 400 ∧ A.cm = cm ∧ Below w1.heap.size w1 w') := Lib.hid (new_at hst hQ hB1.size 20 room (by decide) hr1 hr2)
  have HB1 := Lib.hid hB1
  clear hst hQ hB1
  go_wp2_with fail
  refine HNW.out.mono ?_
  rintro e w2 ⟨A, rfl, hp, hq, hAn, hAr, hAs, _, _, _, _, hB2⟩
  have HAN := Lib.hid hAn
  have HAR := Lib.hid hAr
  have HAS := Lib.hid hAs
  have HB2 := Lib.hid (HB1.out.trans (hB2.mono HB1.out.size))
  have HP := Lib.hid hp
  have HQ := Lib.hid hq
  clear hp hq hAn hAr hAs hB2
  have hmk : ∀ w, (Instr.makeSlice 34 (.int .i64 20) (.int .i64 20)).run Tryz.prog w = .ok (.slice (some ⟨w.heap.size, 0, none⟩) 20 20) (w.alloc (.cells (rcells (fun _ => .slice none 0 0)) 22)) := fun w => by kernel_rfl
  go_wp2_with fail
  obtain ⟨W3, hW3⟩ : ∃ W3, W3 = w2.alloc (.cells (rcells (fun _ => .slice none 0 0)) 22) := ⟨_, rfl⟩
  have hinv := inv_start (room := room) HP.out HQ.out HB2.out HB2.out.size hW3
  rw [← hW3]
  obtain ⟨RB, hRB⟩ : ∃ RB, RB = w2.heap.size := ⟨_, rfl⟩
  rw [← hRB] at hinv ⊢
  have HI := Lib.hid hinv
  clear hinv hW3 hmk hRB
  go_loopw [17] (fun i wr => ∃ k : Nat, k ≤ n ∧ i = .int .i64 (k : Int) ∧ Hid (Inv A W.heap.size RB room k W wr)) (fun i _ => n - (intOf i).toNat)
  case atStart => exact ⟨0, Nat.zero_le _, rfl, HI⟩
  case round =>
    obtain ⟨k, hk, rfl, hI⟩ := hrel
    by_cases hlt : k < n
    · have hx : l[k]? = some (l[k]'(by rw [← HN.out]; exact hlt)) := List.getElem?_eq_getElem _
      obtain ⟨x, hxe⟩ : ∃ x, x = l[k]'(by rw [← HN.out]; exact hlt) := ⟨_, rfl⟩
      rw [← hxe] at hx
      have hxo := HOK.out x (List.mem_of_getElem? hx)
      have hne : flatW l ≠ [] := fun e => by
        have := flatW_length l HOK.out
        rw [e] at this
        simp at this
        have := HN.out
        omega
      obtain ⟨gl, ol, rfl, hgl, hcl⟩ := HL.out.resolve_left hne
      have hql : ∀ wq : World, Below W.heap.size W wq → ∀ j u, (vals x)[j]? = some u → wq.cell? ⟨gl, ol + (k * 7 + j), none⟩ = some u := fun wq hb j u hu => cells_at HOK.out (HL.out.later hb) hx j u hu
      obtain ⟨a, b, c, d, e, f, g, rfl⟩ := ok_seven hxo
      have HXO := Lib.hid hxo
      have HQL := Lib.hid hql
      clear hql hx hxe hxo hne hcl
      by_cases hkw : k < wn
      · have hwx : wl[k]? = some (wl[k]'(by rw [← HWN.out]; exact hkw)) := List.getElem?_eq_getElem _
        obtain ⟨y, hye⟩ : ∃ y, y = wl[k]'(by rw [← HWN.out]; exact hkw) := ⟨_, rfl⟩
        rw [← hye] at hwx
        obtain ⟨gw, ow, rfl, hgw, hcw⟩ := HWH.out.resolve_left (fun e => by
          rw [List.map_eq_nil_iff] at e
          rw [e] at hwx
          cases hwx)
        have hwc : wr.cell? ⟨gw, ow + k, none⟩ = some (.int .u8 (y.toNat : Int)) := (hI.out.below.cell (p := ⟨gw, ow + k, none⟩) hgw).trans (hcw k _ (by rw [List.getElem?_map, hwx]; rfl))
        obtain ⟨b8, hb8⟩ : ∃ b8 : Nat, b8 = y.toNat := ⟨_, rfl⟩
        have hb8l : b8 < 256 := by rw [hb8]; exact UInt8.toNat_lt _
        rw [← hb8] at hwc
        obtain ⟨q, hqe⟩ : ∃ q : Nat, q = b8 % 20 := ⟨_, rfl⟩
        have hq20 : q < 20 := by omega
        have hqi : (b8 : Int) % 20 = (q : Int) := by omega
        have hq1 : (0 : Int) ≤ (q : Int) := by omega
        have hq2 : (q : Int) < 20 := by omega
        clear hwx hye hcw hb8 hqe
        have hcl := HQL.out wr hI.out.below
        have p0 := hcl 0 _ rfl
        have p1 := hcl 1 _ rfl
        have p2 := hcl 2 _ rfl
        have p3 := hcl 3 _ rfl
        have p4 := hcl 4 _ rfl
        have p5 := hcl 5 _ rfl
        have p6 := hcl 6 _ rfl
        simp only [Nat.add_zero, ← Nat.add_assoc] at p0 p1 p2 p3 p4 p5 p6
        have HPT := Lib.hid (put_inv (q := q) hI.out (Nat.le_refl _) HAN.out HAR.out hr1 (by omega) (by omega) [a, b, c, d, e, f, g] HXO.out)
        clear hcl
        go_wp2_with fail
        refine HPT.out.mono ?_
        rintro e3 w3 ⟨rfl, hf3⟩
        obtain ⟨m3, hm3, hc3⟩ := half_held hf3 HAN.out
        have HH3 := Lib.hid hc3
        have HF3 := Lib.hid hf3
        have tm : decide (room < m3) = false := by simp; omega
        clear hc3 hf3 p0 p1 p2 p3 p4 p5 p6
        go_wp2_with fail
        refine HH3.out.mono ?_
        rintro e4 w4 ⟨rfl, rfl⟩
        have HA4 := Lib.hid (half_all HF3.out (Nat.le_refl _) HAN.out (by omega))
        go_wp2_with fail
        refine HA4.out.mono ?_
        rintro e5 w5 ⟨rfl, hf5⟩
        obtain ⟨⟨Qs, hv, S, Hd, rv, R, hp5, hQ5, hrw5, hd5, hrow5, hmy5, htot5, hne5⟩, hB5⟩ := hf5
        have hal := Below.drew ((Below.refl w5.heap.size w5).alloc (Nat.le_refl _) (.cells #[.int .u32 (a : Int), .int .u32 (b : Int), .int .u32 (c : Int), .int .u32 (d : Int), .int .u32 (e : Int), .int .u32 (f : Int), .int .u32 (g : Int)] 38))
        have hcl := HQL.out w5 hB5
        have p0 := hcl 0 _ rfl
        have p1 := hcl 1 _ rfl
        have p2 := hcl 2 _ rfl
        have p3 := hcl 3 _ rfl
        have p4 := hcl 4 _ rfl
        have p5 := hcl 5 _ rfl
        have p6 := hcl 6 _ rfl
        simp only [Nat.add_zero, ← Nat.add_assoc] at p0 p1 p2 p3 p4 p5 p6
        have hglw : gl < w5.heap.size := Nat.lt_of_lt_of_le hgl hB5.size
        have hglb : gl < W.heap.size := hgl
        have hRBl := hrw5.blk.lt
        have k0 : w5.cell? ⟨RB, q, none⟩ = some (rv q) := (hrw5.blk.cell q).trans (rcells_at rv q (by omega))
        have kA : (w5.alloc (.cells #[.int .u32 (a : Int), .int .u32 (b : Int), .int .u32 (c : Int), .int .u32 (d : Int), .int .u32 (e : Int), .int .u32 (f : Int), .int .u32 (g : Int)] 38)).cell? ⟨RB, q, none⟩ = some (rv q) := (hal.cell (p := ⟨RB, q, none⟩) hRBl).trans k0
        have pA : ∀ j, (w5.alloc (.cells #[.int .u32 (a : Int), .int .u32 (b : Int), .int .u32 (c : Int), .int .u32 (d : Int), .int .u32 (e : Int), .int .u32 (f : Int), .int .u32 (g : Int)] 38)).cell? ⟨gl, j, none⟩ = w5.cell? ⟨gl, j, none⟩ := fun j => hal.cell (p := ⟨gl, j, none⟩) hglw
        have qA := fun j => hal.cell (p := ⟨gl, j, none⟩) hglw
        have r0 := (pA _).trans p0
        have r1 := (pA _).trans p1
        have r2 := (pA _).trans p2
        have r3 := (pA _).trans p3
        have r4 := (pA _).trans p4
        have r5 := (pA _).trans p5
        have r6 := (pA _).trans p6
        clear pA qA hcl
        obtain ⟨v, hv0⟩ : ∃ v, v = rv q := ⟨_, rfl⟩
        rw [← hv0] at k0 kA
        have hO0 := hrw5.rows q (by omega)
        rw [← hv0] at hO0
        obtain ⟨ln, hln⟩ : ∃ ln, ln = (R q).length := ⟨_, rfl⟩
        have hlnl : ln ≤ 100 := by
          have h1 := congrArg List.length (hrow5 q (by omega))
          rw [upd_same] at h1
          simp only [List.length_append, List.length_singleton] at h1
          have h2 := len_le_many S q 20 (by omega)
          have h3 := len_le_many Hd q 20 (by omega)
          omega
        have hOA : (w5.alloc (.cells #[.int .u32 (a : Int), .int .u32 (b : Int), .int .u32 (c : Int), .int .u32 (d : Int), .int .u32 (e : Int), .int .u32 (f : Int), .int .u32 (g : Int)] 38)).drew.ownsRow 0 38 7 v ln (flatW (R q)) := by rw [hln]; exact own_later hO0 hal
        have hnews : ∀ j u, ([.int .u32 (a : Int), .int .u32 (b : Int), .int .u32 (c : Int), .int .u32 (d : Int), .int .u32 (e : Int), .int .u32 (f : Int), .int .u32 (g : Int)] : List Value)[j]? = some u → (w5.alloc (.cells #[.int .u32 (a : Int), .int .u32 (b : Int), .int .u32 (c : Int), .int .u32 (d : Int), .int .u32 (e : Int), .int .u32 (f : Int), .int .u32 (g : Int)] 38)).drew.cell? ((⟨w5.heap.size, 0, none⟩ : Addr).add j) = some u := World.news_of_block (heap_alloc_new w5 _)
        have hone : ∀ u ∈ ([.int .u32 (a : Int), .int .u32 (b : Int), .int .u32 (c : Int), .int .u32 (d : Int), .int .u32 (e : Int), .int .u32 (f : Int), .int .u32 (g : Int)] : List Value), u.oneCell' = true := fun u hu => by
          simp only [List.mem_cons, List.not_mem_nil, or_false] at hu
          rcases hu with rfl | rfl | rfl | rfl | rfl | rfl | rfl <;> rfl
        have hvRB : some RB ≠ v.ownBlock := fun e => own_ne_blk hO0 hrw5.blk (by decide) e.symm
        have HP5 := Lib.hid hp5
        have HQ5 := Lib.hid hQ5
        have HR5 := Lib.hid hrw5
        have HD5 := Lib.hid hd5
        have HW5 := Lib.hid hrow5
        have HM5 := Lib.hid hmy5
        have HT5 := Lib.hid htot5
        have HE5 := Lib.hid hne5
        have HB5 := Lib.hid hB5
        have HAL := Lib.hid hal
        have HV0 := Lib.hid hv0
        have HOA := Lib.hid hOA
        have HNW2 := Lib.hid hnews
        have HON := Lib.hid hone
        have HLN := Lib.hid hln
        have HVR := Lib.hid hvRB
        obtain ⟨i0, hi0, hz0, hz1, hz2⟩ := info_parts infoW7
        clear hp5 hQ5 hrw5 hd5 hrow5 hmy5 htot5 hne5 hB5 hal hv0 hOA hnews hone hln hvRB hO0 hI
        go_wp2_with fail
        go_region_law (refine step_append_lies _ rfl (.tmp 96) (.tmp 101) 22 rfl 0 38 i0 (.agg #[.int .u32 0, .int .u32 0, .int .u32 0, .int .u32 0, .int .u32 0, .int .u32 0, .int .u32 0]) 7 28 Tryz.underlying22 hi0 hz0 hz1 hz2 rfl (by decide) v ln (flatW (R q)) (by simp [Act.eval]) HOA.out ⟨w5.heap.size, 0, none⟩ 1 1 [.int .u32 (a : Int), .int .u32 (b : Int), .int .u32 (c : Int), .int .u32 (d : Int), .int .u32 (e : Int), .int .u32 (f : Int), .int .u32 (g : Int)] (by simp [Act.eval]) rfl HNW2.out HON.out (by decide) (by unfold maxLen; omega) (by omega) (Nat.zero_le _) _ rfl ?_; intro g3 cap3 w6 hown6 hgrow6 hat6 hlt6; have hb6 := (HR5.out.blk.below HAL.out hRBl).grown hgrow6 HVR.out; have k6 := (hb6.cell q).trans (rcells_at rv q (by omega)); have f6 := hb6.frozen q; rw [HLN.out] at hown6; rw [HV0.out] at hgrow6 hat6; have hpe := push_end (x := [a, b, c, d, e, f, g]) (by omega) HP5.out HQ5.out HR5.out HD5.out HW5.out HM5.out HT5.out HE5.out HB5.out (Nat.le_refl _) HAL.out hown6 hgrow6 hat6; rw [← HLN.out] at hpe; have HPE := Lib.hid hpe; clear hpe hb6 hown6 hgrow6 hat6 hlt6)
        all_goals
          clear r0 r1 r2 r3 r4 r5 r6 p0 p1 p2 p3 p4 p5 p6 k0 kA k6 f6
          obtain ⟨w7, hw7⟩ : ∃ w7, w7 = w6.setCell ⟨RB, q, none⟩ (.slice (some ⟨g3, 0, none⟩) (ln + 1) cap3) := ⟨_, rfl⟩
          have hpe7 := HPE.out
          rw [← hw7] at hpe7 ⊢
          have HPE7 := Lib.hid hpe7
          clear hpe7 hw7
          by_cases hks : k < sn
          · have hsx : sl[k]? = some (sl[k]'(by rw [← HSN.out]; exact hks)) := List.getElem?_eq_getElem _
            obtain ⟨y2, hye⟩ : ∃ y2, y2 = sl[k]'(by rw [← HSN.out]; exact hks) := ⟨_, rfl⟩
            rw [← hye] at hsx
            obtain ⟨gs, os, rfl, hgs, hcs⟩ := HSP.out.resolve_left (fun e => by
              rw [List.map_eq_nil_iff] at e
              rw [e] at hsx
              cases hsx)
            have hsc : w7.cell? ⟨gs, os + k, none⟩ = some (.bool y2) := (HPE7.out.below.cell (p := ⟨gs, os + k, none⟩) hgs).trans (hcs k _ (by rw [List.getElem?_map, hsx]; rfl))
            clear hsx hye hcs
            cases y2
            · go_wp2_with fail
              go_roundw
              case rel => exact ⟨k + 1, by omega, by go_num, Lib.hid HPE7.out.inv⟩
              case measure => simp [intOf]; omega
            · have HSPL := Lib.hid (spill_inv HPE7.out (Nat.le_refl _) HAN.out (by omega) (by omega))
              go_wp2_with fail
              refine HSPL.out.mono ?_
              rintro e8 w8 ⟨rfl, hi8⟩
              have HI8 := Lib.hid hi8
              clear hi8
              go_wp2_with fail
              go_roundw
              case rel => exact ⟨k + 1, by omega, by go_num, HI8⟩
              case measure => simp [intOf]; omega
          · go_wp2_with fail
            go_roundw
            case rel => exact ⟨k + 1, by omega, by go_num, Lib.hid HPE7.out.inv⟩
            case measure => simp [intOf]; omega
      · have hq20 : 0 < 20 := by decide
        have hcl := HQL.out wr hI.out.below
        have p0 := hcl 0 _ rfl
        have p1 := hcl 1 _ rfl
        have p2 := hcl 2 _ rfl
        have p3 := hcl 3 _ rfl
        have p4 := hcl 4 _ rfl
        have p5 := hcl 5 _ rfl
        have p6 := hcl 6 _ rfl
        simp only [Nat.add_zero, ← Nat.add_assoc] at p0 p1 p2 p3 p4 p5 p6
        have HPT := Lib.hid (put_inv (q := 0) hI.out (Nat.le_refl _) HAN.out HAR.out hr1 (by omega) (by omega) [a, b, c, d, e, f, g] HXO.out)
        clear hcl
        go_wp2_with fail
        refine HPT.out.mono ?_
        rintro e3 w3 ⟨rfl, hf3⟩
        obtain ⟨m3, hm3, hc3⟩ := half_held hf3 HAN.out
        have HH3 := Lib.hid hc3
        have HF3 := Lib.hid hf3
        have tm : decide (room < m3) = false := by simp; omega
        clear hc3 hf3 p0 p1 p2 p3 p4 p5 p6
        go_wp2_with fail
        refine HH3.out.mono ?_
        rintro e4 w4 ⟨rfl, rfl⟩
        have HA4 := Lib.hid (half_all HF3.out (Nat.le_refl _) HAN.out (by omega))
        go_wp2_with fail
        refine HA4.out.mono ?_
        rintro e5 w5 ⟨rfl, hf5⟩
        obtain ⟨⟨Qs, hv, S, Hd, rv, R, hp5, hQ5, hrw5, hd5, hrow5, hmy5, htot5, hne5⟩, hB5⟩ := hf5
        have hal := Below.drew ((Below.refl w5.heap.size w5).alloc (Nat.le_refl _) (.cells #[.int .u32 (a : Int), .int .u32 (b : Int), .int .u32 (c : Int), .int .u32 (d : Int), .int .u32 (e : Int), .int .u32 (f : Int), .int .u32 (g : Int)] 38))
        have hcl := HQL.out w5 hB5
        have p0 := hcl 0 _ rfl
        have p1 := hcl 1 _ rfl
        have p2 := hcl 2 _ rfl
        have p3 := hcl 3 _ rfl
        have p4 := hcl 4 _ rfl
        have p5 := hcl 5 _ rfl
        have p6 := hcl 6 _ rfl
        simp only [Nat.add_zero, ← Nat.add_assoc] at p0 p1 p2 p3 p4 p5 p6
        have hglw : gl < w5.heap.size := Nat.lt_of_lt_of_le hgl hB5.size
        have hglb : gl < W.heap.size := hgl
        have hRBl := hrw5.blk.lt
        have k0 : w5.cell? ⟨RB, 0, none⟩ = some (rv 0) := (hrw5.blk.cell 0).trans (rcells_at rv 0 (by omega))
        have kA : (w5.alloc (.cells #[.int .u32 (a : Int), .int .u32 (b : Int), .int .u32 (c : Int), .int .u32 (d : Int), .int .u32 (e : Int), .int .u32 (f : Int), .int .u32 (g : Int)] 38)).cell? ⟨RB, 0, none⟩ = some (rv 0) := (hal.cell (p := ⟨RB, 0, none⟩) hRBl).trans k0
        have pA : ∀ j, (w5.alloc (.cells #[.int .u32 (a : Int), .int .u32 (b : Int), .int .u32 (c : Int), .int .u32 (d : Int), .int .u32 (e : Int), .int .u32 (f : Int), .int .u32 (g : Int)] 38)).cell? ⟨gl, j, none⟩ = w5.cell? ⟨gl, j, none⟩ := fun j => hal.cell (p := ⟨gl, j, none⟩) hglw
        have qA := fun j => hal.cell (p := ⟨gl, j, none⟩) hglw
        have r0 := (pA _).trans p0
        have r1 := (pA _).trans p1
        have r2 := (pA _).trans p2
        have r3 := (pA _).trans p3
        have r4 := (pA _).trans p4
        have r5 := (pA _).trans p5
        have r6 := (pA _).trans p6
        clear pA qA hcl
        obtain ⟨v, hv0⟩ : ∃ v, v = rv 0 := ⟨_, rfl⟩
        rw [← hv0] at k0 kA
        have hO0 := hrw5.rows 0 (by omega)
        rw [← hv0] at hO0
        obtain ⟨ln, hln⟩ : ∃ ln, ln = (R 0).length := ⟨_, rfl⟩
        have hlnl : ln ≤ 100 := by
          have h1 := congrArg List.length (hrow5 0 (by omega))
          rw [upd_same] at h1
          simp only [List.length_append, List.length_singleton] at h1
          have h2 := len_le_many S 0 20 (by omega)
          have h3 := len_le_many Hd 0 20 (by omega)
          omega
        have hOA : (w5.alloc (.cells #[.int .u32 (a : Int), .int .u32 (b : Int), .int .u32 (c : Int), .int .u32 (d : Int), .int .u32 (e : Int), .int .u32 (f : Int), .int .u32 (g : Int)] 38)).drew.ownsRow 0 38 7 v ln (flatW (R 0)) := by rw [hln]; exact own_later hO0 hal
        have hnews : ∀ j u, ([.int .u32 (a : Int), .int .u32 (b : Int), .int .u32 (c : Int), .int .u32 (d : Int), .int .u32 (e : Int), .int .u32 (f : Int), .int .u32 (g : Int)] : List Value)[j]? = some u → (w5.alloc (.cells #[.int .u32 (a : Int), .int .u32 (b : Int), .int .u32 (c : Int), .int .u32 (d : Int), .int .u32 (e : Int), .int .u32 (f : Int), .int .u32 (g : Int)] 38)).drew.cell? ((⟨w5.heap.size, 0, none⟩ : Addr).add j) = some u := World.news_of_block (heap_alloc_new w5 _)
        have hone : ∀ u ∈ ([.int .u32 (a : Int), .int .u32 (b : Int), .int .u32 (c : Int), .int .u32 (d : Int), .int .u32 (e : Int), .int .u32 (f : Int), .int .u32 (g : Int)] : List Value), u.oneCell' = true := fun u hu => by
          simp only [List.mem_cons, List.not_mem_nil, or_false] at hu
          rcases hu with rfl | rfl | rfl | rfl | rfl | rfl | rfl <;> rfl
        have hvRB : some RB ≠ v.ownBlock := fun e => own_ne_blk hO0 hrw5.blk (by decide) e.symm
        have HP5 := Lib.hid hp5
        have HQ5 := Lib.hid hQ5
        have HR5 := Lib.hid hrw5
        have HD5 := Lib.hid hd5
        have HW5 := Lib.hid hrow5
        have HM5 := Lib.hid hmy5
        have HT5 := Lib.hid htot5
        have HE5 := Lib.hid hne5
        have HB5 := Lib.hid hB5
        have HAL := Lib.hid hal
        have HV0 := Lib.hid hv0
        have HOA := Lib.hid hOA
        have HNW2 := Lib.hid hnews
        have HON := Lib.hid hone
        have HLN := Lib.hid hln
        have HVR := Lib.hid hvRB
        obtain ⟨i0, hi0, hz0, hz1, hz2⟩ := info_parts infoW7
        clear hp5 hQ5 hrw5 hd5 hrow5 hmy5 htot5 hne5 hB5 hal hv0 hOA hnews hone hln hvRB hO0 hI
        go_wp2_with fail
        go_region_law (refine step_append_lies _ rfl (.tmp 96) (.tmp 101) 22 rfl 0 38 i0 (.agg #[.int .u32 0, .int .u32 0, .int .u32 0, .int .u32 0, .int .u32 0, .int .u32 0, .int .u32 0]) 7 28 Tryz.underlying22 hi0 hz0 hz1 hz2 rfl (by decide) v ln (flatW (R 0)) (by simp [Act.eval]) HOA.out ⟨w5.heap.size, 0, none⟩ 1 1 [.int .u32 (a : Int), .int .u32 (b : Int), .int .u32 (c : Int), .int .u32 (d : Int), .int .u32 (e : Int), .int .u32 (f : Int), .int .u32 (g : Int)] (by simp [Act.eval]) rfl HNW2.out HON.out (by decide) (by unfold maxLen; omega) (by omega) (Nat.zero_le _) _ rfl ?_; intro g3 cap3 w6 hown6 hgrow6 hat6 hlt6; have hb6 := (HR5.out.blk.below HAL.out hRBl).grown hgrow6 HVR.out; have k6 := (hb6.cell 0).trans (rcells_at rv 0 (by omega)); have f6 := hb6.frozen 0; rw [HLN.out] at hown6; rw [HV0.out] at hgrow6 hat6; have hpe := push_end (x := [a, b, c, d, e, f, g]) (by omega) HP5.out HQ5.out HR5.out HD5.out HW5.out HM5.out HT5.out HE5.out HB5.out (Nat.le_refl _) HAL.out hown6 hgrow6 hat6; rw [← HLN.out] at hpe; have HPE := Lib.hid hpe; clear hpe hb6 hown6 hgrow6 hat6 hlt6)
        all_goals
          clear r0 r1 r2 r3 r4 r5 r6 p0 p1 p2 p3 p4 p5 p6 k0 kA k6 f6
          obtain ⟨w7, hw7⟩ : ∃ w7, w7 = w6.setCell ⟨RB, 0, none⟩ (.slice (some ⟨g3, 0, none⟩) (ln + 1) cap3) := ⟨_, rfl⟩
          have hpe7 := HPE.out
          rw [← hw7] at hpe7 ⊢
          have HPE7 := Lib.hid hpe7
          clear hpe7 hw7
          by_cases hks : k < sn
          · have hsx : sl[k]? = some (sl[k]'(by rw [← HSN.out]; exact hks)) := List.getElem?_eq_getElem _
            obtain ⟨y2, hye⟩ : ∃ y2, y2 = sl[k]'(by rw [← HSN.out]; exact hks) := ⟨_, rfl⟩
            rw [← hye] at hsx
            obtain ⟨gs, os, rfl, hgs, hcs⟩ := HSP.out.resolve_left (fun e => by
              rw [List.map_eq_nil_iff] at e
              rw [e] at hsx
              cases hsx)
            have hsc : w7.cell? ⟨gs, os + k, none⟩ = some (.bool y2) := (HPE7.out.below.cell (p := ⟨gs, os + k, none⟩) hgs).trans (hcs k _ (by rw [List.getElem?_map, hsx]; rfl))
            clear hsx hye hcs
            cases y2
            · go_wp2_with fail
              go_roundw
              case rel => exact ⟨k + 1, by omega, by go_num, Lib.hid HPE7.out.inv⟩
              case measure => simp [intOf]; omega
            · have HSPL := Lib.hid (spill_inv HPE7.out (Nat.le_refl _) HAN.out (by omega) (by omega))
              go_wp2_with fail
              refine HSPL.out.mono ?_
              rintro e8 w8 ⟨rfl, hi8⟩
              have HI8 := Lib.hid hi8
              clear hi8
              go_wp2_with fail
              go_roundw
              case rel => exact ⟨k + 1, by omega, by go_num, HI8⟩
              case measure => simp [intOf]; omega
          · go_wp2_with fail
            go_roundw
            case rel => exact ⟨k + 1, by omega, by go_num, Lib.hid HPE7.out.inv⟩
            case measure => simp [intOf]; omega
    · obtain rfl : k = n := by omega
      go_wp2_with fail
      have HI2 := Lib.hid (inv2_start hI.out)
      obtain ⟨mq, hmq, hmq9⟩ : ∃ mq : Nat, most % 9 = (mq : Int) ∧ mq < 9 := ⟨(most % 9).toNat, by omega, by omega⟩
      obtain ⟨hm0, hm1⟩ := hm
      have HST := Lib.hid (show ∀ wq, Below W.heap.size W wq → True from fun _ _ => trivial)
      clear hI
      go_loopw [19] (fun i wq => ∃ j : Nat, j ≤ 20 ∧ i = .int .i64 (j : Int) ∧ Hid (Inv2 A W.heap.size RB k j W wq)) (fun i _ => 20 - (intOf i).toNat)
      case atStart => exact ⟨0, Nat.zero_le _, rfl, HI2⟩
      case round =>
        obtain ⟨j, hj, rfl, hI⟩ := hrel
        by_cases hlt : j < 20
        · have hjd : decide ((j : Int) < 20) = true := by simp; omega
          have HS3 := Lib.hid (inv3_start hI.out (Nat.le_refl _) hlt)
          go_wp2_with fail
          obtain ⟨wo, hwo⟩ : ∃ wo, wo = wr.alloc (.cells #[] 38) := ⟨_, rfl⟩
          have hs3 := HS3.out
          rw [← hwo] at hs3 ⊢
          obtain ⟨g0, hg0⟩ : ∃ g0, g0 = wr.heap.size := ⟨_, rfl⟩
          rw [← hg0] at hs3 ⊢
          have HS3' := Lib.hid hs3
          clear hwo hs3 HS3 hI hg0
          go_loopw [20, 21] (fun gt i wq => ∃ (t : Nat) (T : List (List Nat)), i = .int .i64 (t : Int) ∧ t ≤ T.length ∧ Hid (Inv3 A W.heap.size RB k j T gt W wq)) (fun _ i _ => k + 1 - (intOf i).toNat)
          case atStart => exact ⟨0, [], rfl, Nat.le_refl _, HS3'⟩
          case round =>
            obtain ⟨t, T, rfl, htT, hI3⟩ := hrel
            obtain ⟨Qs, hv, S, Hd, rv, R, h3⟩ := hI3.out.all
            have HA3 := Lib.hid h3
            obtain ⟨hp, hQ, hrw, hd, hrow, hrest, hdone, htot, hgo, hgot, hBel, hokT⟩ := h3
            have l1 := len_le_many S j 20 hlt
            have l2 := len_le_many Hd j 20 hlt
            obtain ⟨ga, gc, rfl, _, hLg, _, _⟩ := own_shape hgo
            obtain ⟨ra, rc, hrv, _, hLr, _, _⟩ := own_shape (hrw.rows j hlt)
            have hwt := waiting_any hp j (by rw [HAN.out]; exact hlt) (by omega) (by omega)
            have htk : t ≤ k := by omega
            by_cases hm0 : (S j).length + (Hd j).length = 0
            · rw [hm0] at hwt
              have hTR : T = R j := by
                rw [← hrow, List.eq_nil_of_length_eq_zero (l := S j) (by omega), List.eq_nil_of_length_eq_zero (l := Hd j) (by omega)]
                simp
              have kRB : (wr.drew.cell? ⟨RB, j, none⟩ = some (.slice ra T.length rc)) := by
                rw [hTR, ← hrv]
                exact (hrw.blk.cell j).trans (rcells_at rv j hlt)
              have hdr : Below wr.heap.size wr wr.drew := (Below.refl _ wr).drew
              have hsm := same_eq ga ra gc rc T wr.drew hLg (by rw [hTR]; exact hLr) hokT (by omega)
              have HSM := Lib.hid hsm
              have HWT := Lib.hid hwt
              have HM0 := Lib.hid hm0
              clear hp hQ hrw hd hrow hrest hdone htot hgo hgot hBel hrv hLr hLg hwt hTR hm0 hsm hokT hdr l1 l2
              go_wp2_with fail
              refine HWT.out.mono ?_
              rintro e5 w5 ⟨rfl, rfl⟩
              go_wp2_with fail
              refine HSM.out.mono ?_
              rintro e6 w6 ⟨rfl, hb6⟩
              have hI2 := inv3_end HA3.out (Nat.le_refl _) HM0.out (((Below.refl _ wr).drew).trans hb6)
              have HI2n := Lib.hid hI2
              clear hb6 hI2
              go_wp2_with fail
              go_roundw
              case rel => exact ⟨j + 1, by omega, by go_num, HI2n⟩
              case measure => simp [intOf]; omega
            · obtain ⟨m, hme⟩ : ∃ m, m = (S j).length + (Hd j).length := ⟨_, rfl⟩
              rw [← hme] at hwt hm0
              have hmp : 0 < m := by omega
              have hmk : m ≤ 1000 := by omega
              have htk' : T.length ≤ 100 := by omega
              have HWT := Lib.hid hwt
              have HME := Lib.hid hme
              have HTK := Lib.hid (inv3_take HA3.out.drew (Nat.le_refl _) HAN.out hlt hn mq hmq9 (by omega))
              clear hp hQ hrw hd hrow hrest hdone htot hgo hgot hBel hrv hLr hLg hwt hm0 hme hokT l1 l2
              go_wp2_with fail
              refine HWT.out.mono ?_
              rintro e5 w5 ⟨rfl, rfl⟩
              go_wp2_with fail
              refine HTK.out.mono ?_
              rintro e6 w6 ⟨v, X, rfl, hX1, hX2, Q6, hv6, S6, Hd6, h6⟩
              have HA6 := Lib.hid h6
              obtain ⟨_, _, _, _, _, _, _, htot6, hgo6, hvo6, _, _, hok6⟩ := h6
              rw [List.length_append] at htot6
              obtain ⟨va, vc, rfl, _, hLv, _, _⟩ := own_shape hvo6
              have hXl := flatW_length X (fun x hx => hok6 x (List.mem_append_right _ hx))
              obtain ⟨gv, ov, rfl, _, _⟩ := hLv.resolve_left (fun e => by
                rw [e] at hXl
                simp at hXl
                omega)
              obtain ⟨c, hc⟩ : ∃ c, c = X.length := ⟨_, rfl⟩
              obtain ⟨tl, htl⟩ : ∃ tl, tl = T.length := ⟨_, rfl⟩
              rw [← hc] at hX1 hX2 htot6 hXl
              rw [← htl] at htot6 htT htk'
              have hgo6' : w6.ownsRow W.heap.size 38 7 (.slice ga tl gc) tl (flatW T) := by rw [htl]; exact hgo6
              have hz : ((c : Int) == 0) = false := by
                have : ¬ (c : Int) = 0 := by omega
                simpa using this
              have hg1 : decide (mq + 1 < c) = false := by simp; omega
              have hg2 : decide ((mq : Int) + 1 < (c : Int)) = false := by simp; omega
              have HGO := Lib.hid hgo6'
              have HLV := Lib.hid (lies_add hLv)
              have HXL := Lib.hid hXl
              have HON := Lib.hid (oneCell_flatW X)
              have HCC := Lib.hid hc
              have HTL := Lib.hid htl
              have hWs : W.heap.size ≤ w6.heap.size := by
                have := HA6.out.2.2.2.2.2.2.2.2.2.2.2.1.size
                exact this
              rw [← HTL.out, ← HCC.out]
              obtain ⟨i0, hi0, hz0, hz1, hz2⟩ := info_parts infoW7
              clear hgo6 hgo6' hvo6 hLv hXl hok6 hc htl
              go_wp2_with (first | (at_builtin; refine wpList_append_lies _ rfl (.tmp 163) (.tmp 164) 22 rfl W.heap.size 38 i0 (.agg #[.int .u32 0, .int .u32 0, .int .u32 0, .int .u32 0, .int .u32 0, .int .u32 0, .int .u32 0]) 7 28 Tryz.underlying22 hi0 hz0 hz1 hz2 rfl (by decide) (.slice ga tl gc) tl (flatW T) rfl HGO.out ⟨gv, ov, none⟩ c vc (flatW X) rfl HXL.out HLV.out HON.out hX1 ?c3 ?c4 ?c5 _ rfl ?_))
              case c3 => unfold maxLen; omega
              case c4 => omega
              case c5 => exact hWs
              intro g7 cap7 w7 hown7 hgrow7 hat7 hlt7
              have hI7 := inv4_end (g := g7) (cap := cap7) HA6.out (Nat.le_refl _) (by rw [← HTL.out, ← HCC.out]; exact hown7) (by rw [← HTL.out] ; exact hgrow7) (by rw [← HTL.out]; exact hat7)
              rw [← HTL.out, ← HCC.out] at hI7
              have HI7 := Lib.hid hI7
              have htx : t + 1 ≤ (T ++ X).length := by rw [List.length_append, ← HTL.out, ← HCC.out]; omega
              clear hI7 hown7 hgrow7 hat7 hlt7
              go_wp2_with fail
              go_roundw
              case rel => exact ⟨t + 1, T ++ X, by go_num, htx, HI7⟩
              case measure => simp [intOf]; omega
        · obtain rfl : j = 20 := by omega
          have hjd : decide (((20 : Nat) : Int) < 20) = false := by decide
          obtain ⟨Qs, hv, S, Hd, hp, hS0, hH0, hS⟩ := inv2_end hI.out HAN.out
          have hal := all_any hp (by rw [hS0, hH0]; decide)
          rw [hS0, hH0] at hal
          have HAL : Hid (Calls Tryz.prog 10 #[.pointer (some ⟨A.p, 0, none⟩)] wr fun e w' => e = .returned (.int .i64 0) ∧ Below wr.heap.size wr w') := Lib.hid hal
          have HPP := Lib.hid hp
          have HH0 := Lib.hid hH0
          have HSS := Lib.hid hS
          have HBE := Lib.hid hI.out.below
          clear hal hp hS0 hH0 hS hI
          go_wp2_with fail
          refine HAL.out.mono ?_
          rintro e5 w5 ⟨rfl, hb5⟩
          have hp5 := HPP.out.later hb5
          have hh5 := held_any hp5
          rw [HH0.out] at hh5
          have HHD : Hid (Calls Tryz.prog 9 #[.pointer (some ⟨A.p, 0, none⟩)] w5 fun e w' => e = .returned (.int .i64 0) ∧ w' = w5) := Lib.hid hh5
          have hnm := no_names hp5 (by rw [HAN.out]; exact HSS.out)
          rw [HAS.out] at hnm
          have HNM := Lib.hid hnm
          have HB5 := Lib.hid hb5
          clear hp5 hh5 hnm hb5
          go_wp2_with fail
          refine HHD.out.mono ?_
          rintro e6 w6 ⟨rfl, rfl⟩
          go_wp2_with fail
          refine HNM.out.mono ?_
          rintro e7 w7 ⟨na, nc, rfl, hb7⟩
          have HAW := Lib.hid (awake_any w7)
          have HB7 := Lib.hid hb7
          clear hb7
          go_wp2_with fail
          refine HAW.out.mono ?_
          rintro e8 w8 ⟨rfl, hb8⟩
          have HB8 := Lib.hid hb8
          clear hb8
          go_wp2_with fail
          go_ret
          have z0 := HBE.out.size
          have z5 := HB5.out.size
          have z7 := HB7.out.size
          exact ⟨rfl, ((HBE.out.trans (HB5.out.mono z0)).trans (HB7.out.mono (by omega))).trans (HB8.out.mono (by omega))⟩
end Go.Proofs.YtfgjnpbffppocaaGreat.Pool
