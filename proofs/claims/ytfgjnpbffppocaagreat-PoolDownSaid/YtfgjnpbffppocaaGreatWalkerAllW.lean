/- Layer 20: All, walked. -/
import Derived.Test.YtfgjnpbffppocaaGreatWalkerAll
namespace Go.Proofs.YtfgjnpbffppocaaGreat.Walk
open Go.RowKit Go.Deep Mem Crc

def lenOf : Value → Nat
  | .slice _ n _ => n
  | _ => 0
theorem flatW_snoc (l : List (List Nat)) (x : List Nat) : flatW (l ++ [x]) = flatW l ++ vals x := by unfold flatW; rw [List.flatMap_append]; simp
theorem shl_byte (b r : Nat) (hr : r < 4) (hb : b < 256) : IntKind.u32.wrap ((b : Int) * 2 ^ (8 * (r : Int)).toNat) = ((b * 256 ^ r : Nat) : Int) := by
  have e1 : (8 * (r : Int)).toNat = 8 * r := by omega
  have hp : 256 ^ r = 2 ^ (8 * r) := by rw [show 256 = 2 ^ 8 by decide, ← Nat.pow_mul]
  have h2 : 256 ^ r ≤ 256 ^ 3 := Nat.pow_le_pow_right (by decide) (by omega)
  have h3 : b * 256 ^ r ≤ 255 * 256 ^ 3 := Nat.mul_le_mul (by omega) h2
  have h4 : (255 : Nat) * 256 ^ 3 = 4278190080 := by decide
  rw [e1, show (b : Int) * 2 ^ (8 * r) = ((b * 256 ^ r : Nat) : Int) by rw [hp]; push_cast; rfl]
  exact IntWalk.u32_in _ (by omega)
set_option maxHeartbeats 1000000 in
set_option maxRecDepth 100000 in
theorem all_ok (a : Option Addr) (cp N : Nat) (bs : List UInt8) (w : World) (h : Lies w a (bs.map bv)) (hcp : bs.length ≤ cp) (hN : bs.length = N * 28) (hm : N ≤ 100000) :
    Calls Tryz.prog 40 #[.slice a bs.length cp] w fun e w' => ∃ v, e = .returned (.tuple #[v, .int .i64 0]) ∧ w'.ownsRow w.heap.size 38 7 v N (flatW (unall N bs)) ∧ Below w.heap.size w w' := by
  obtain ⟨i0, hi0, hz0, hz1, hz2⟩ := info_parts infoW7
  obtain ⟨n, hn⟩ : ∃ n, n = bs.length := ⟨_, rfl⟩
  have hmod : ((n : Int) % 28 == 0) = true := by simp; omega
  have hmod2 : ((n : Int) % 28 != 0) = false := by simp; omega
  have HL := Lib.hid h
  have HN := Lib.hid hn
  have HNN := Lib.hid hN
  rw [← hn] at hcp ⊢
  have hn28 : n ≤ 2800000 := by omega
  clear h hn hN
  go_enter Tryz.func40, Tryz.ntmps40
  go_wp2_with fail
  go_loopw [0, 4] (fun b o wr => ∃ (k : Nat) (a' : Option Addr) (cp' : Nat), k ≤ N ∧ b = .slice a' ((N - k) * 28) cp' ∧ (N - k) * 28 ≤ cp' ∧ Hid (Lies w a' ((bs.drop (k * 28)).map bv)) ∧ Hid (wr.ownsRow w.heap.size 38 7 o k (flatW (unall k bs))) ∧ Hid (Below w.heap.size w wr)) (fun b _ _ => lenOf b)
  case atStart => exact ⟨0, a, cp, Nat.zero_le _, by rw [Nat.sub_zero, HN.out, HNN.out], by rw [Nat.sub_zero, ← HNN.out, ← HN.out]; exact hcp, Lib.hid (by simpa using HL.out), Lib.hid (World.ownsRow_nil _ _ _ _), Lib.hid (Below.refl _ _)⟩
  case round =>
    obtain ⟨k, a', cp', hk, rfl, hc', hL, hO, hB⟩ := hrel
    obtain ⟨m, hm'⟩ : ∃ m, m = (N - k) * 28 := ⟨_, rfl⟩
    rw [← hm'] at hc' ⊢
    have hBs := hB.out.size
    by_cases hlt : k < N
    · have hm28 : 28 ≤ m := by omega
      have hd0 : decide (0 < m) = true := by simp; omega
      obtain ⟨ds, hds⟩ : ∃ ds, ds = bs.drop (k * 28) := ⟨_, rfl⟩
      have hdl : ds.length = m := by rw [hds, List.length_drop, HNN.out, hm', Nat.sub_mul]
      rw [← hds] at hL
      obtain ⟨g, off, rfl, hg, hc⟩ := hL.out.resolve_left (fun e => by
        rw [List.map_eq_nil_iff] at e
        rw [e] at hdl
        simp at hdl
        omega)
      have HC := Lib.hid hc
      have HDS := Lib.hid hds
      have HDL := Lib.hid hdl
      have HM' := Lib.hid hm'
      have hal := (Below.refl wr.heap.size wr).alloc (Nat.le_refl _) (.cells #[.int .u32 0, .int .u32 0, .int .u32 0, .int .u32 0, .int .u32 0, .int .u32 0, .int .u32 0] 130)
      have hbl : Blk (wr.alloc (.cells #[.int .u32 0, .int .u32 0, .int .u32 0, .int .u32 0, .int .u32 0, .int .u32 0, .int .u32 0] 130)) wr.heap.size 130 (vals (fill ds 0)).toArray := by
        have e : (vals (fill ds 0)).toArray = #[.int .u32 0, .int .u32 0, .int .u32 0, .int .u32 0, .int .u32 0, .int .u32 0, .int .u32 0] := rfl
        rw [e]
        exact Blk.new _ _ _
      have HB1 := Lib.hid (hB.out.trans (hal.mono hBs))
      have HO1 := Lib.hid (own_later hO.out hal)
      have HBL := Lib.hid hbl
      have HSB := Lib.hid hBs
      clear hal hbl hc hds hdl hm' hL
      go_wp2_with fail
      go_loopw [16] (fun i wq => ∃ j : Nat, j ≤ 28 ∧ i = .int .i64 j ∧ Hid (Blk wq wr.heap.size 130 (vals (fill ds j)).toArray) ∧ Hid (wq.ownsRow w.heap.size 38 7 u4 k (flatW (unall k bs))) ∧ Hid (Below w.heap.size w wq)) (fun i _ => 28 - (intOf i).toNat)
      case atStart => exact ⟨0, by omega, rfl, HBL, HO1, HB1⟩
      case round =>
        obtain ⟨j, hj, rfl, hb, hO, hB⟩ := hrel
        by_cases hj28 : j < 28
        · obtain ⟨q, hq⟩ : ∃ q, q = j / 4 := ⟨_, rfl⟩
          obtain ⟨r, hr⟩ : ∃ r, r = j % 4 := ⟨_, rfl⟩
          have hq7 : q < 7 := by omega
          have hr4 : r < 4 := by omega
          obtain ⟨bt, hbt⟩ : ∃ bt, bt = at0 ds j := ⟨_, rfl⟩
          have hbt8 : bt < 256 := by rw [hbt]; exact at0_lt _ _
          have hjl : j < ds.length := by rw [HDL.out]; omega
          have c0 := (hB.out.cell (p := ⟨g, off + j, none⟩) hg).trans (HC.out j _ (bv_at (List.getElem?_eq_getElem hjl)))
          have ec : bv ds[j] = .int .u8 (bt : Int) := by
            rw [hbt]
            unfold bv at0
            rw [List.getD_eq_getElem?_getD, List.getElem?_eq_getElem hjl]
            rfl
          rw [ec] at c0
          obtain ⟨pv, hpv⟩ : ∃ pv, pv = part ds q r := ⟨_, rfl⟩
          have hpv2 : (fill ds j)[q]? = some pv := by
            rw [fill_at ds j q hq7, hpv]
            congr 2
            omega
          have hplt : pv < 256 ^ r := by rw [hpv]; exact part_lt ds q r
          have c1 := (hb.out.cell q).trans (show (vals (fill ds j)).toArray[q]? = some (.int .u32 (pv : Int)) by simp [vals, hpv2])
          have fz := hb.out.frozen q
          have hor := or_byte pv bt r hr4 hplt hbt8
          obtain ⟨nv, hnv⟩ : ∃ nv, nv = pv + bt * 256 ^ r := ⟨_, rfl⟩
          have hsh : IntKind.u32.wrap ((bt : Int) * 2 ^ (8 * (r : Int)).toNat) = ((bt * 256 ^ r : Nat) : Int) := shl_byte bt r hr4 hbt8
          obtain ⟨sv, hsv⟩ : ∃ sv, sv = bt * 256 ^ r := ⟨_, rfl⟩
          rw [← hnv, ← hsv] at hor
          rw [← hsv] at hsh
          clear hsv
          have hset := hb.out.set q (.int .u32 (nv : Int))
          have hnext : (vals (fill ds j)).toArray.setIfInBounds q (.int .u32 (nv : Int)) = (vals (fill ds (j + 1))).toArray := by
            rw [fill_next ds j hj28, ← hq, ← hr, ← hpv, ← hbt, ← hnv]
            simp [vals]
          rw [hnext] at hset
          have hofar := own_past hO.out hb.out (by decide) q (.int .u32 (nv : Int))
          have hbel : Below w.heap.size w (wr.setCell ⟨_, q, none⟩ (.int .u32 (nv : Int))) := hB.out.setCell HSB.out (.int .u32 (nv : Int))
          have e1 : (j : Int) / 4 = (q : Int) := by omega
          have HOR := Lib.hid hor
          have HSET := Lib.hid hset
          have HFAR := Lib.hid hofar
          have HBEL := Lib.hid hbel
          have HQ := Lib.hid hq
          have hd28 : decide ((j : Int) < 28) = true := by simp; omega
          clear hset hofar hbel hnext hpv2 ec hbt hpv hq hnv
          have wq : IntKind.i64.wrap (q : Int) = q := IntWalk.i64_in _ (by omega)
          have hq7' : (q : Int) < 7 := by omega
          have hjm : j < m := by omega
          have hd1 : decide ((0 : Int) ≤ 8 * (r : Int)) = true := by simp; omega
          have e2 : (j : Int).tmod 4 = (r : Int) := by rw [Int.tmod_eq_emod_of_nonneg (by omega)]; omega
          have w8 : IntKind.i64.wrap (8 * (r : Int)) = 8 * (r : Int) := IntWalk.i64_in _ (by omega)
          have wb : IntKind.u32.wrap (bt : Int) = bt := IntWalk.u32_in _ (by omega)
          clear hr
          go_wp2_with fail
          go_still_tail 14, (by kernel_rfl)
          change wpList _ _ _ _ _ wr.drew
          have fz' := (hb.out.drew).frozen q
          go_wp2_with fail
          exact ⟨⟨j + 1, by omega, by simp, Lib.hid HSET.out.drew, Lib.hid (own_later HFAR.out ((Below.refl _ _).drew)), Lib.hid HBEL.out.drew⟩, by simp [intOf]; omega⟩
        · obtain rfl : j = 28 := by omega
          obtain ⟨x0, x1, x2, x3, x4, x5, x6, hx⟩ := ok_seven (seven_ok ds)
          have hok7 := seven_ok ds
          have hb7 := hb.out
          rw [fill_end, hx] at hb7
          rw [hx] at hok7
          have HX := Lib.hid hx
          have c0 := hb7.cell 0
          have c1 := hb7.cell 1
          have c2 := hb7.cell 2
          have c3 := hb7.cell 3
          have c4 := hb7.cell 4
          have c5 := hb7.cell 5
          have c6 := hb7.cell 6
          simp [vals] at c0 c1 c2 c3 c4 c5 c6
          have hd28 : decide ((28 : Int) < 28) = false := by decide
          have HT := Lib.hid (together_any [x0, x1, x2, x3, x4, x5, x6] wr hok7)
          clear hx hb7 hb hok7
          go_wp2_with fail
          refine HT.out.mono ?_
          rintro e w1 ⟨rfl, hB1⟩
          simp only [vals, List.map]
          have HB1 := Lib.hid hB1
          have hs1 := hB1.size
          have hs0 := hB.out.size
          have halA := (Below.refl w1.heap.size w1).alloc (Nat.le_refl _) (.cells #[.int .u32 x0, .int .u32 x1, .int .u32 x2, .int .u32 x3, .int .u32 x4, .int .u32 x5, .int .u32 x6] 38)
          have hO1 := own_later (own_later hO.out hB1) halA
          have hcel : ∀ j u, ([.int .u32 x0, .int .u32 x1, .int .u32 x2, .int .u32 x3, .int .u32 x4, .int .u32 x5, .int .u32 x6] : List Value)[j]? = some u → (w1.alloc (.cells #[.int .u32 x0, .int .u32 x1, .int .u32 x2, .int .u32 x3, .int .u32 x4, .int .u32 x5, .int .u32 x6] 38)).cell? ((⟨w1.heap.size, 0, none⟩ : Addr).add j) = some u := fun j u hu =>
            lies_add (new_lies w1 38 #[.int .u32 x0, .int .u32 x1, .int .u32 x2, .int .u32 x3, .int .u32 x4, .int .u32 x5, .int .u32 x6]) j u hu
          have HCEL := Lib.hid hcel
          have HALA := Lib.hid halA
          clear hcel halA hB1
          go_wp2_with (first | (at_builtin; refine wpList_append_own _ rfl _ _ 22 rfl w.heap.size 38 i0 (.agg #[.int .u32 0, .int .u32 0, .int .u32 0, .int .u32 0, .int .u32 0, .int .u32 0, .int .u32 0]) 7 28 Tryz.underlying22 hi0 hz0 hz1 hz2 rfl (by decide) _ _ _ rfl hO1 ⟨w1.heap.size, 0, none⟩ 1 1 [.int .u32 x0, .int .u32 x1, .int .u32 x2, .int .u32 x3, .int .u32 x4, .int .u32 x5, .int .u32 x6] rfl rfl HCEL.out ?c2 ?c3 ?c4 ?c5 ?_))
          case c2 => intro u hu; simp at hu; rcases hu with rfl | rfl | rfl | rfl | rfl | rfl | rfl <;> rfl
          case c3 => unfold maxLen; omega
          case c4 => omega
          case c5 => simp; omega
          intro v' w2 hown2 hgrow2 _
          have hB2 : Below w.heap.size w w2 := ((hB.out.trans (HB1.out.mono hs0)).trans (HALA.out.mono (by omega))).grown hgrow2 (by simp; omega) (fun q hq => (hO1.lt q hq).1)
          have hO2 : w2.ownsRow w.heap.size 38 7 v' (k + 1) (flatW (unall (k + 1) bs)) := by
            rw [unall_snoc, flatW_snoc, ← HDS.out, HX.out]
            exact hown2
          have hdl : (ds.drop 28) = bs.drop ((k + 1) * 28) := by rw [HDS.out, List.drop_drop, Nat.succ_mul]
          have hLd : Lies w (some ⟨g, off + 28, none⟩) ((bs.drop ((k + 1) * 28)).map bv) := by
            rw [← hdl, List.map_drop]
            exact Lies.drop (.inr ⟨g, off, rfl, hg, HC.out⟩) 28
          have HLD := Lib.hid hLd
          have HO2 := Lib.hid hO2
          have HB2 := Lib.hid hB2
          clear hown2 hgrow2 hO1 hB2 hO2 hdl hLd HALA HCEL
          have hmN : m - 28 = (N - (k + 1)) * 28 := by
            have := HM'.out
            omega
          by_cases hlast : 28 = cp'
          · subst hlast
            obtain rfl : m = 28 := by omega
            have hnil : bs.drop ((k + 1) * 28) = [] := List.eq_nil_of_length_eq_zero (by rw [List.length_drop, HNN.out, ← Nat.sub_mul]; omega)
            have h00 : (N - (k + 1)) * 28 = 0 := by omega
            have HMN := Lib.hid h00
            have HNIL := Lib.hid hnil
            clear hmN h00 hnil
            go_wp2_with fail
            go_roundw
            case rel => exact ⟨k + 1, _, _, hlt, by rw [HMN.out], by rw [HMN.out]; exact Nat.zero_le _, by rw [HNIL.out]; exact Lib.hid (.inl rfl), HO2, HB2⟩
            case measure => simp [lenOf]
          · have hlt9 : 28 < cp' := by omega
            have HMN := Lib.hid hmN
            clear hmN
            go_wp2_with fail
            go_roundw
            case rel => exact ⟨k + 1, _, _, hlt, by rw [← HMN.out], by rw [← HMN.out]; omega, HLD, HO2, HB2⟩
            case measure => simp [lenOf]; omega
    · obtain rfl : k = N := by omega
      have hm0 : m = 0 := by rw [hm', Nat.sub_self, Nat.zero_mul]
      subst hm0
      clear hm'
      go_wp2_with fail
      go_ret2
      exact ⟨_, rfl, hO.out, hB.out⟩
end Go.Proofs.YtfgjnpbffppocaaGreat.Walk
