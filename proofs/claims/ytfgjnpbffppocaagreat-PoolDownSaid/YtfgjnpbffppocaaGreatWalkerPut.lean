/- Layer 20: Put of walkers behind nothing. -/
import Derived.Test.YtfgjnpbffppocaaGreatWalker
namespace Go.Proofs.YtfgjnpbffppocaaGreat.Walk
open Go.RowKit Go.Deep Mem Crc

theorem vals_length (x : List Nat) : (vals x).length = x.length := by simp [vals]
theorem flatW_length (l : List (List Nat)) (h : ∀ x ∈ l, ok x) : (flatW l).length = l.length * 7 := by
  unfold flatW
  induction l with
  | nil => rfl
  | cons x r ih =>
    rw [List.flatMap_cons, List.length_append, ih (fun y hy => h y (List.mem_cons_of_mem _ hy)), vals_length, (h x (List.mem_cons_self ..)).1, List.length_cons]
    omega
theorem bytes_length (x : List Nat) (h : ok x) : (bytes x).length = 28 := by
  obtain ⟨a, b, c, d, e, f, g, rfl⟩ := ok_seven h
  rfl
theorem all_length (l : List (List Nat)) (h : ∀ x ∈ l, ok x) : (all l).length = l.length * 28 := by
  unfold all
  induction l with
  | nil => rfl
  | cons x r ih =>
    rw [List.flatMap_cons, List.length_append, ih (fun y hy => h y (List.mem_cons_of_mem _ hy)), bytes_length x (h x (List.mem_cons_self ..)), List.length_cons]
    omega
theorem flatW_at {l : List (List Nat)} (h : ∀ x ∈ l, ok x) {i j : Nat} {x : List Nat} (hx : l[i]? = some x) (hj : j < 7) : (flatW l)[i * 7 + j]? = (vals x)[j]? := by
  induction l generalizing i with
  | nil => simp at hx
  | cons y r ih =>
    unfold flatW
    rw [List.flatMap_cons]
    have hy := (h y (List.mem_cons_self ..)).1
    cases i with
    | zero =>
      obtain rfl : y = x := by simpa using hx
      rw [Nat.zero_mul, Nat.zero_add, List.getElem?_append_left (by rw [vals_length]; omega)]
    | succ i =>
      rw [List.getElem?_append_right (by rw [vals_length]; omega), vals_length, hy, show (i + 1) * 7 + j - 7 = i * 7 + j by omega]
      exact ih (fun z hz => h z (List.mem_cons_of_mem _ hz)) (by simpa using hx)
/-- A walker's seven cells in a row. -/
theorem cells_at {w : World} {g off : Nat} {l : List (List Nat)} (h : ∀ x ∈ l, ok x) (hL : Lies w (some ⟨g, off, none⟩) (flatW l)) {i : Nat} {x : List Nat} (hx : l[i]? = some x) (j : Nat) (u : Value) (hu : (vals x)[j]? = some u) : w.cell? ⟨g, off + (i * 7 + j), none⟩ = some u := by
  have hj : j < 7 := by
    have := (List.getElem?_eq_some_iff.1 hu).1
    rw [vals_length, (h x (List.mem_of_getElem? hx)).1] at this
    exact this
  rcases hL with h0 | ⟨g', off', e, _, hc⟩
  · have := flatW_length l h
    rw [h0] at this
    have hi := (List.getElem?_eq_some_iff.1 hx).1
    simp at this
    omega
  · cases e
    exact hc _ u (by rw [flatW_at h hx hj]; exact hu)
theorem all_snoc (l : List (List Nat)) (i : Nat) (x : List Nat) (h : l[i]? = some x) : all (l.take (i + 1)) = all (l.take i) ++ bytes x := by
  unfold all
  rw [List.take_add_one, h, List.flatMap_append]
  simp
theorem bytes_snoc (x : List Nat) (i n : Nat) (h : x[i]? = some n) : bytes (x.take (i + 1)) = bytes (x.take i) ++ four n := by
  unfold bytes
  rw [List.take_add_one, h, List.flatMap_append]
  simp
theorem index0 (a b c d e f g : Nat) (w : World) : (Instr.index 130 (.agg #[.int .u32 (a : Int), .int .u32 (b : Int), .int .u32 (c : Int), .int .u32 (d : Int), .int .u32 (e : Int), .int .u32 (f : Int), .int .u32 (g : Int)]) (.int .i64 0)).run Tryz.prog w = .ok (.int .u32 (a : Int)) w := by kernel_rfl
theorem index1 (a b c d e f g : Nat) (w : World) : (Instr.index 130 (.agg #[.int .u32 (a : Int), .int .u32 (b : Int), .int .u32 (c : Int), .int .u32 (d : Int), .int .u32 (e : Int), .int .u32 (f : Int), .int .u32 (g : Int)]) (.int .i64 1)).run Tryz.prog w = .ok (.int .u32 (b : Int)) w := by kernel_rfl
theorem index2 (a b c d e f g : Nat) (w : World) : (Instr.index 130 (.agg #[.int .u32 (a : Int), .int .u32 (b : Int), .int .u32 (c : Int), .int .u32 (d : Int), .int .u32 (e : Int), .int .u32 (f : Int), .int .u32 (g : Int)]) (.int .i64 2)).run Tryz.prog w = .ok (.int .u32 (c : Int)) w := by kernel_rfl
theorem index3 (a b c d e f g : Nat) (w : World) : (Instr.index 130 (.agg #[.int .u32 (a : Int), .int .u32 (b : Int), .int .u32 (c : Int), .int .u32 (d : Int), .int .u32 (e : Int), .int .u32 (f : Int), .int .u32 (g : Int)]) (.int .i64 3)).run Tryz.prog w = .ok (.int .u32 (d : Int)) w := by kernel_rfl
theorem index4 (a b c d e f g : Nat) (w : World) : (Instr.index 130 (.agg #[.int .u32 (a : Int), .int .u32 (b : Int), .int .u32 (c : Int), .int .u32 (d : Int), .int .u32 (e : Int), .int .u32 (f : Int), .int .u32 (g : Int)]) (.int .i64 4)).run Tryz.prog w = .ok (.int .u32 (e : Int)) w := by kernel_rfl
theorem index5 (a b c d e f g : Nat) (w : World) : (Instr.index 130 (.agg #[.int .u32 (a : Int), .int .u32 (b : Int), .int .u32 (c : Int), .int .u32 (d : Int), .int .u32 (e : Int), .int .u32 (f : Int), .int .u32 (g : Int)]) (.int .i64 5)).run Tryz.prog w = .ok (.int .u32 (f : Int)) w := by kernel_rfl
theorem index6 (a b c d e f g : Nat) (w : World) : (Instr.index 130 (.agg #[.int .u32 (a : Int), .int .u32 (b : Int), .int .u32 (c : Int), .int .u32 (d : Int), .int .u32 (e : Int), .int .u32 (f : Int), .int .u32 (g : Int)]) (.int .i64 6)).run Tryz.prog w = .ok (.int .u32 (g : Int)) w := by kernel_rfl
theorem index_at (a b c d e f g : Nat) (j n : Nat) (w : World) (hn : [a, b, c, d, e, f, g][j]? = some n) : (Instr.index 130 (.agg #[.int .u32 (a : Int), .int .u32 (b : Int), .int .u32 (c : Int), .int .u32 (d : Int), .int .u32 (e : Int), .int .u32 (f : Int), .int .u32 (g : Int)]) (.int .i64 (j : Int))).run Tryz.prog w = .ok (.int .u32 (n : Int)) w := by
  match j, hn with
  | 0, hn => cases hn; exact index0 a b c d e f g w
  | 1, hn => cases hn; exact index1 a b c d e f g w
  | 2, hn => cases hn; exact index2 a b c d e f g w
  | 3, hn => cases hn; exact index3 a b c d e f g w
  | 4, hn => cases hn; exact index4 a b c d e f g w
  | 5, hn => cases hn; exact index5 a b c d e f g w
  | 6, hn => cases hn; exact index6 a b c d e f g w
  | _ + 7, hn => simp at hn
set_option maxHeartbeats 1000000 in
set_option maxRecDepth 100000 in
theorem put_nil (a : Option Addr) (cp : Nat) (l : List (List Nat)) (w : World) (h : Lies w a (flatW l)) (hok : ∀ x ∈ l, ok x) (hm : l.length ≤ 100000) :
    Calls Tryz.prog 43 #[.slice none 0 0, .slice a l.length cp] w fun e w' => ∃ v, e = .returned v ∧ OwnB w' w.heap.size v (all l) ∧ Below w.heap.size w w' := by
  obtain ⟨i0, hi0, hz0, hz1, hz2⟩ := info_parts infoB8
  have HL := Lib.hid h
  have HOK := Lib.hid hok
  clear h hok
  go_enter Tryz.func43, Tryz.ntmps43
  go_wp2_with fail
  go_loopw [0, 11] (fun b i wr => ∃ k : Nat, k ≤ l.length ∧ i = .int .i64 k ∧ Hid (OwnB wr w.heap.size b (all (l.take k))) ∧ Hid (Below w.heap.size w wr)) (fun _ i _ => l.length - (intOf i).toNat)
  case atStart => exact ⟨0, Nat.zero_le _, rfl, Lib.hid (World.ownsRow_nil _ _ _ _), Lib.hid (Below.refl _ _)⟩
  case round =>
    obtain ⟨k, hk, rfl, hO, hB⟩ := hrel
    by_cases hlt : k < l.length
    · obtain ⟨x, hx⟩ : ∃ x, l[k]? = some x := ⟨_, List.getElem?_eq_getElem hlt⟩
      have hxk := HOK.out x (List.mem_of_getElem? hx)
      obtain ⟨x0, x1, x2, x3, x4, x5, x6, ex⟩ := ok_seven hxk
      obtain ⟨g, off, rfl, _, _⟩ := HL.out.resolve_left (fun e => by
        have := flatW_length l HOK.out
        rw [e] at this
        simp at this
        omega)
      have hc := cells_at HOK.out (HL.out.later hB.out) hx
      rw [ex] at hc
      have c0 := hc 0 _ rfl
      have c1 := hc 1 _ rfl
      have c2 := hc 2 _ rfl
      have c3 := hc 3 _ rfl
      have c4 := hc 4 _ rfl
      have c5 := hc 5 _ rfl
      have c6 := hc 6 _ rfl
      simp only [Nat.add_zero, ← Nat.add_assoc] at c0 c1 c2 c3 c4 c5 c6
      have hap := apart_any x (wr.alloc (.cells (vals x).toArray 38)) hxk
      rw [ex] at hap
      simp only [vals, List.map] at hap
      have HAP := Lib.hid hap
      clear hc hap
      have hal := (Below.refl wr.heap.size wr).alloc (Nat.le_refl _) (.cells #[.int .u32 x0, .int .u32 x1, .int .u32 x2, .int .u32 x3, .int .u32 x4, .int .u32 x5, .int .u32 x6] 38)
      have HAL := Lib.hid hal
      have hBs := hB.out.size
      have hxlt : ∀ n ∈ x, n < 4294967296 := hxk.2
      have HX := Lib.hid hx
      have HXK := Lib.hid hxk
      have HEX := Lib.hid ex
      have HXLT := Lib.hid hxlt
      have hix : ∀ (j : Nat) (n : Nat) (w : World), x[j]? = some n → (Instr.index 130 (.agg #[.int .u32 x0, .int .u32 x1, .int .u32 x2, .int .u32 x3, .int .u32 x4, .int .u32 x5, .int .u32 x6]) (.int .i64 (j : Int))).run Tryz.prog w = .ok (.int .u32 (n : Int)) w := fun j n w hn => index_at _ _ _ _ _ _ _ j n w (by rw [← ex]; exact hn)
      have HIX := Lib.hid hix
      clear hal hx hxk ex hxlt hix
      go_wp2_with fail
      refine HAP.out.mono ?_
      rintro e w1 ⟨rfl, hB1⟩
      have HO1 := Lib.hid (own_later (own_later hO.out HAL.out) hB1)
      have HB1 := Lib.hid ((hB.out.trans (HAL.out.mono hBs)).trans (hB1.mono (by simp; omega)))
      clear hB1
      go_wp2_with fail
      go_loopw [0, 17] (fun b i wq => ∃ j : Nat, j ≤ 7 ∧ i = .int .i64 j ∧ Hid (OwnB wq w.heap.size b (all (l.take k) ++ bytes (x.take j))) ∧ Hid (Below w.heap.size w wq)) (fun _ i _ => 7 - (intOf i).toNat)
      case atStart => exact ⟨0, by omega, rfl, Lib.hid (by simpa [bytes] using HO1.out), HB1⟩
      case round =>
        obtain ⟨j, hj, rfl, hO, hB⟩ := hrel
        by_cases hj7 : j < 7
        · obtain ⟨n, hn⟩ : ∃ n, x[j]? = some n := ⟨_, List.getElem?_eq_getElem (by have := HXK.out.1; omega)⟩
          have hn32 := HXLT.out n (List.mem_of_getElem? hn)
          have hin := fun w => HIX.out j n w hn
          have hd7 : decide ((j : Int) < 7) = true := by simp; omega
          have HN := Lib.hid hn
          clear hn
          obtain ⟨pre, hpre⟩ : ∃ pre, pre = all (l.take k) ++ bytes (x.take j) := ⟨_, rfl⟩
          have hpl : pre.length ≤ 2800028 := by
            rw [hpre, List.length_append, all_length _ (fun y hy => HOK.out y (List.mem_of_mem_take hy)), List.length_take]
            have h1 : (bytes (x.take j)).length ≤ 28 := by
              have h2 : (bytes x).length = 28 := bytes_length x HXK.out
              have h3 : bytes x = bytes (x.take j) ++ bytes (x.drop j) := by unfold bytes; rw [← List.flatMap_append, List.take_append_drop]
              rw [h3, List.length_append] at h2
              omega
            omega
          have HPRE := Lib.hid hpre
          have HO' := Lib.hid (show OwnB _ w.heap.size u0 pre by rw [hpre]; exact hO.out)
          clear hpre
          go_wp2_with fail
          go_loopw [0, 8, 20] (fun b q i wq => ∃ k : Nat, k ≤ 4 ∧ i = .int .i64 k ∧ q = .int .u32 ((n / 256 ^ k : Nat) : Int) ∧ Hid (OwnB wq w.heap.size b (pre ++ (four n).take k)) ∧ Hid (Below w.heap.size w wq)) (fun _ _ i _ => 4 - (intOf i).toNat)
          case atStart => exact ⟨0, by omega, rfl, by simp, Lib.hid (by simpa using HO'.out), hB⟩
          case round =>
            obtain ⟨k4, hk4, rfl, rfl, hown, hB⟩ := hrel
            have hBs := hB.out.size
            have hbr := hown.out
            have hl : (pre ++ (four n).take k4).length = pre.length + k4 := by rw [List.length_append, List.length_take, four_length]; omega
            by_cases h4 : k4 < 4
            · rcases (show k4 = 0 ∨ k4 = 1 ∨ k4 = 2 ∨ k4 = 3 by omega) with rfl | rfl | rfl | rfl
              · have E0 := Lib.hid (show Value.int .u8 ((n : Int) % 256) = bv (UInt8.ofNat n) from bvI (by omega))
                go_wp2_with (first | (at_builtin; refine wpList_append_own _ rfl _ _ 23 rfl w.heap.size 5 i0 (.int .u8 0) 1 1 Tryz.underlying23 hi0 hz0 hz1 hz2 rfl (by decide) _ _ _ rfl (hbr.alloc _) ⟨wr.heap.size, 0, none⟩ 1 1 [bv (UInt8.ofNat n)] rfl rfl (one_at E0.out) (one_cell _) ?c03 ?c04 ?c05 ?_))
                case c03 => rw [hl]; unfold maxLen; omega
                case c04 => rw [hl]; omega
                case c05 => simp; omega
                intro v' w3 hown3 hgrow3 _
                have hB3 : Below w.heap.size w w3 := (hB.out.alloc hBs _).grown hgrow3 (by simp; omega) (fun q hq => (hbr.lt q hq).1)
                have hO3 : OwnB w3 w.heap.size v' (pre ++ (four n).take 1) := by
                  have e : pre ++ (four n).take 1 = (pre ++ (four n).take 0) ++ [UInt8.ofNat n] := by rw [List.append_assoc]; rfl
                  rw [e]
                  unfold OwnB
                  rw [List.map_append, List.length_append]
                  exact (show w3.ownsRow _ _ _ _ _ _ by simpa [four_length] using hown3)
                have HB3 := Lib.hid hB3
                have HO3 := Lib.hid hO3
                clear hown3 hgrow3 hB3 hO3
                go_wp2_with fail
                go_roundw
                case rel => exact ⟨1, by omega, rfl, by simp, HO3, HB3⟩
                case measure => simp [intOf]
              · have E1 := Lib.hid (show Value.int .u8 (((n / 256 : Nat) : Int) % 256) = bv (UInt8.ofNat (n / 256)) from bvI (by omega))
                go_wp2_with (first | (at_builtin; refine wpList_append_own _ rfl _ _ 23 rfl w.heap.size 5 i0 (.int .u8 0) 1 1 Tryz.underlying23 hi0 hz0 hz1 hz2 rfl (by decide) _ _ _ rfl (hbr.alloc _) ⟨wr.heap.size, 0, none⟩ 1 1 [bv (UInt8.ofNat (n / 256))] rfl rfl (one_at E1.out) (one_cell _) ?c13 ?c14 ?c15 ?_))
                case c13 => rw [hl]; unfold maxLen; omega
                case c14 => rw [hl]; omega
                case c15 => simp; omega
                intro v' w3 hown3 hgrow3 _
                have hB3 : Below w.heap.size w w3 := (hB.out.alloc hBs _).grown hgrow3 (by simp; omega) (fun q hq => (hbr.lt q hq).1)
                have hO3 : OwnB w3 w.heap.size v' (pre ++ (four n).take 2) := by
                  have e : pre ++ (four n).take 2 = (pre ++ (four n).take 1) ++ [UInt8.ofNat (n / 256)] := by rw [List.append_assoc]; rfl
                  rw [e]
                  unfold OwnB
                  rw [List.map_append, List.length_append]
                  exact (show w3.ownsRow _ _ _ _ _ _ by simpa [four_length] using hown3)
                have HB3 := Lib.hid hB3
                have HO3 := Lib.hid hO3
                clear hown3 hgrow3 hB3 hO3
                go_wp2_with fail
                go_roundw
                case rel => exact ⟨2, by omega, rfl, by simp; omega, HO3, HB3⟩
                case measure => simp [intOf]
              · have E2 := Lib.hid (show Value.int .u8 (((n / 65536 : Nat) : Int) % 256) = bv (UInt8.ofNat (n / 65536)) from bvI (by omega))
                go_wp2_with (first | (at_builtin; refine wpList_append_own _ rfl _ _ 23 rfl w.heap.size 5 i0 (.int .u8 0) 1 1 Tryz.underlying23 hi0 hz0 hz1 hz2 rfl (by decide) _ _ _ rfl (hbr.alloc _) ⟨wr.heap.size, 0, none⟩ 1 1 [bv (UInt8.ofNat (n / 65536))] rfl rfl (one_at E2.out) (one_cell _) ?c23 ?c24 ?c25 ?_))
                case c23 => rw [hl]; unfold maxLen; omega
                case c24 => rw [hl]; omega
                case c25 => simp; omega
                intro v' w3 hown3 hgrow3 _
                have hB3 : Below w.heap.size w w3 := (hB.out.alloc hBs _).grown hgrow3 (by simp; omega) (fun q hq => (hbr.lt q hq).1)
                have hO3 : OwnB w3 w.heap.size v' (pre ++ (four n).take 3) := by
                  have e : pre ++ (four n).take 3 = (pre ++ (four n).take 2) ++ [UInt8.ofNat (n / 65536)] := by rw [List.append_assoc]; rfl
                  rw [e]
                  unfold OwnB
                  rw [List.map_append, List.length_append]
                  exact (show w3.ownsRow _ _ _ _ _ _ by simpa [four_length] using hown3)
                have HB3 := Lib.hid hB3
                have HO3 := Lib.hid hO3
                clear hown3 hgrow3 hB3 hO3
                go_wp2_with fail
                go_roundw
                case rel => exact ⟨3, by omega, rfl, by simp; omega, HO3, HB3⟩
                case measure => simp [intOf]
              · have E3 := Lib.hid (show Value.int .u8 (((n / 16777216 : Nat) : Int)) = bv (UInt8.ofNat (n / 16777216)) from bvI (by omega))
                go_wp2_with (first | (at_builtin; refine wpList_append_own _ rfl _ _ 23 rfl w.heap.size 5 i0 (.int .u8 0) 1 1 Tryz.underlying23 hi0 hz0 hz1 hz2 rfl (by decide) _ _ _ rfl (hbr.alloc _) ⟨wr.heap.size, 0, none⟩ 1 1 [bv (UInt8.ofNat (n / 16777216))] rfl rfl (one_at E3.out) (one_cell _) ?c33 ?c34 ?c35 ?_))
                case c33 => rw [hl]; unfold maxLen; omega
                case c34 => rw [hl]; omega
                case c35 => simp; omega
                intro v' w3 hown3 hgrow3 _
                have hB3 : Below w.heap.size w w3 := (hB.out.alloc hBs _).grown hgrow3 (by simp; omega) (fun q hq => (hbr.lt q hq).1)
                have hO3 : OwnB w3 w.heap.size v' (pre ++ (four n).take 4) := by
                  have e : pre ++ (four n).take 4 = (pre ++ (four n).take 3) ++ [UInt8.ofNat (n / 16777216)] := by rw [List.append_assoc]; rfl
                  rw [e]
                  unfold OwnB
                  rw [List.map_append, List.length_append]
                  exact (show w3.ownsRow _ _ _ _ _ _ by simpa [four_length] using hown3)
                have HB3 := Lib.hid hB3
                have HO3 := Lib.hid hO3
                clear hown3 hgrow3 hB3 hO3
                go_wp2_with fail
                go_roundw
                case rel => exact ⟨4, by omega, rfl, by simp; omega, HO3, HB3⟩
                case measure => simp [intOf]
            · obtain rfl : k4 = 4 := by omega
              have e : pre ++ (four n).take 4 = all (l.take k) ++ bytes (x.take (j + 1)) := by
                rw [bytes_snoc x j n HN.out, HPRE.out, List.append_assoc]
                rfl
              have hfin := hbr
              rw [e] at hfin
              clear e
              have HFIN := Lib.hid hfin
              clear hfin hbr hown
              go_wp2_with fail
              go_roundw
              case rel => exact ⟨j + 1, by omega, by simp, HFIN, hB⟩
              case measure => simp [intOf]; omega
        · obtain rfl : j = 7 := by omega
          have e : all (l.take k) ++ bytes (x.take 7) = all (l.take (k + 1)) := by
            rw [all_snoc l k x HX.out, show x.take 7 = x from List.take_of_length_le (by have := HXK.out.1; omega)]
          have hfin := hO.out
          rw [e] at hfin
          clear e
          have HFIN := Lib.hid hfin
          clear hfin
          go_wp2_with fail
          go_roundw
          case rel => exact ⟨k + 1, by omega, by simp, HFIN, hB⟩
          case measure => simp [intOf]; omega
    · obtain rfl : k = l.length := by omega
      have hfin := hO.out
      rw [List.take_of_length_le (Nat.le_refl _)] at hfin
      have HFIN := Lib.hid hfin
      clear hfin hO
      go_wp2_with fail
      go_ret
      exact ⟨_, rfl, HFIN.out, hB.out⟩
end Go.Proofs.YtfgjnpbffppocaaGreat.Walk
