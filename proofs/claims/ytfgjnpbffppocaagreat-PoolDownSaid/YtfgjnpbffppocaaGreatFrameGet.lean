/- Layer 5: Get of a section. -/
import Derived.Test.YtfgjnpbffppocaaGreatFrame
import Derived.Laws.ResultCell
namespace Go.Proofs.YtfgjnpbffppocaaGreat.Frame
open Go.RowKit Go.Deep Mem Crc

/-- The number that stands in four bytes, behind the first one. -/
def num (h : List UInt8) : Nat := (h.getD 1 0).toNat + (h.getD 2 0).toNat * 256 + (h.getD 3 0).toNat * 65536 + (h.getD 4 0).toNat * 16777216
/-- The section in front: its kind, its body, how many bytes it takes, the error's number. -/
def got (bs : List UInt8) : UInt8 × List UInt8 × Nat × Int :=
  if bs.length < 9 then (0, [], 0, 2)
  else if fitsE (bs.take 9) = 5 then (0, [], 0, 5)
  else if 1048576 < num (bodyOf (bs.take 9)) then (0, [], 0, 4)
  else if bs.length < 13 + num (bodyOf (bs.take 9)) then (0, [], 0, 2)
  else if fitsE ((bs.drop 9).take (num (bodyOf (bs.take 9)) + 4)) = 5 then (0, [], 0, 5)
  else ((bs.take 9).getD 0 0, bodyOf ((bs.drop 9).take (num (bodyOf (bs.take 9)) + 4)), 13 + num (bodyOf (bs.take 9)), 0)
theorem fitsE_cases {bs : List UInt8} (h : 4 ≤ bs.length) : fitsE bs = 0 ∨ fitsE bs = 5 := by
  unfold fitsE
  rw [if_neg (by omega)]
  split
  · exact .inl rfl
  · exact .inr rfl
theorem fitsL_ok {bs : List UInt8} (h : 4 ≤ bs.length) (h2 : fitsE bs = 0) : fitsL bs = bodyOf bs := by
  unfold fitsE at h2
  rw [if_neg (by omega)] at h2
  unfold fitsL
  by_cases hm : marked (bodyOf bs) = bs
  · rw [if_pos ⟨h, hm⟩]
  · rw [if_neg hm] at h2; cases h2
theorem i64_or_nat (a b : Nat) (ha : a < 9223372036854775808) (hb : b < 9223372036854775808) : bits .or .i64 (a : Int) (b : Int) = ((a ||| b : Nat) : Int) := by
  have hx : a ||| b < 2 ^ 63 := Nat.or_lt_two_pow (by omega) (by omega)
  show IntKind.i64.wrap ((BitVec.ofInt 64 (a : Int) ||| BitVec.ofInt 64 (b : Int)).toNat : Int) = _
  rw [BitVec.toNat_or, ofInt_u64 a (by omega), ofInt_u64 b (by omega)]
  exact IntWalk.i64_in _ (by omega)
theorem or_four (a b c d : Nat) (ha : a < 256) (hb : b < 256) (hc : c < 256) (hd : d < 256) :
    bits .or .i64 (bits .or .i64 (bits .or .i64 (a : Int) ((b : Int) * 256)) ((c : Int) * 65536)) ((d : Int) * 16777216) = ((a + b * 256 + c * 65536 + d * 16777216 : Nat) : Int) := by
  have e1 : bits .or .i64 (a : Int) ((b : Int) * 256) = ((a + b * 256 : Nat) : Int) := by
    have := i64_or_nat a (b * 256) (by omega) (by omega)
    rw [Nat.or_comm, nat_join 8 (b * 256) a (by omega) (by omega)] at this
    rw [show ((b : Int) * 256) = ((b * 256 : Nat) : Int) by omega, this]
    congr 1
    omega
  have e2 : bits .or .i64 ((a + b * 256 : Nat) : Int) ((c : Int) * 65536) = ((a + b * 256 + c * 65536 : Nat) : Int) := by
    have := i64_or_nat (a + b * 256) (c * 65536) (by omega) (by omega)
    rw [Nat.or_comm, nat_join 16 (c * 65536) (a + b * 256) (by omega) (by omega)] at this
    rw [show ((c : Int) * 65536) = ((c * 65536 : Nat) : Int) by omega, this]
    congr 1
    omega
  have := i64_or_nat (a + b * 256 + c * 65536) (d * 16777216) (by omega) (by omega)
  rw [Nat.or_comm, nat_join 24 (d * 16777216) (a + b * 256 + c * 65536) (by omega) (by omega)] at this
  rw [e1, e2, show ((d : Int) * 16777216) = ((d * 16777216 : Nat) : Int) by omega, this]
  congr 1
  omega
theorem box_set {w : World} {b : Nat} {t : TypeId} {p q : Value} (h : Blk w b t #[p, q]) (x y : Value) : Blk ((w.setCell ⟨b, 0, none⟩ x).setCell ⟨b, 1, none⟩ y) b t #[x, y] := (h.set 0 x).set 1 y
/-- What Get leaves. -/
structure Got (bs : List UInt8) (w : World) (e : Ending) (w' : World) : Prop where
  out : ∃ v, e = .returned (.tuple #[.agg #[bv (got bs).1, v], .int .i64 (got bs).2.2.1, .int .i64 (got bs).2.2.2]) ∧ OwnB w' w.heap.size v (got bs).2.1
  below : Below w.heap.size w w'
set_option maxHeartbeats 400000 in
set_option maxRecDepth 100000 in
theorem get_any (a : Option Addr) (cp : Nat) (bs : List UInt8) (w : World) (h : Lies w a (bs.map bv)) (hcp : bs.length ≤ cp) (hm : bs.length ≤ 3000000) :
    Calls Tryz.prog 63 #[.slice a bs.length cp] w fun e w' => Got bs w e w' := by
  by_cases h9 : bs.length < 9
  · have e0 : got bs = (0, [], 0, 2) := if_pos h9
    clear h hcp
    go_enter Tryz.func63, Tryz.ntmps63
    go_wp2_with fail
    refine bodyPost_ret (v := .tuple #[.agg #[.int .u8 0, .slice none 0 0], .int .i64 0, .int .i64 2]) (by simp [results, Tryz.results63, go_sem]) rfl ⟨⟨.slice none 0 0, by rw [e0]; rfl, by rw [e0]; exact World.ownsRow_nil _ _ _ _⟩, (Below.refl _ w).alloc (Nat.le_refl _) _⟩
  · obtain ⟨g, off, rfl, hg, hc⟩ := h.resolve_left (fun e => by
      rw [List.map_eq_nil_iff] at e
      subst e
      exact h9 (by decide))
    have hL : Lies w (some ⟨g, off, none⟩) (bs.map bv) := .inr ⟨g, off, rfl, hg, hc⟩
    obtain ⟨h, hh⟩ : ∃ h, h = bs.take 9 := ⟨_, rfl⟩
    have hhl : h.length = 9 := by rw [hh, List.length_take]; omega
    have hL9 : Lies (w.alloc (.cells #[.int .u8 0, .slice none 0 0] 104)) (some ⟨g, off, none⟩) (h.map bv) := by
      rw [hh, List.map_take]
      exact (hL.later ((Below.refl _ w).alloc (Nat.le_refl _) _)).take _
    have hfit := fits_any (some ⟨g, off, none⟩) cp h _ hL9 (by omega) (by omega)
    rw [hhl] at hfit
    have HF := Lib.hid hfit
    have h9c : (9 : Nat) ≤ cp := by omega
    have hb9 : decide ((bs.length : Int) < 9) = false := by simp; omega
    have HL := Lib.hid hL
    have hal := (Below.refl w.heap.size w).alloc (Nat.le_refl _) (.cells #[.int .u8 0, .slice none 0 0] 104)
    have hbx := Blk.new w 104 #[.int .u8 0, .slice none 0 0]
    have HAL := Lib.hid hal
    have HBX := Lib.hid hbx
    have HH := Lib.hid hh
    clear hc hg hL hL9 hfit hal hbx hh
    go_enter Tryz.func63, Tryz.ntmps63
    go_wp2_with fail
    refine HF.out.mono ?_
    rintro e w1 ⟨v1, rfl, hown1, hB1⟩
    have hbx1 := HBX.out.below hB1 HBX.out.lt
    have x0 := hbx1.cell 0
    have x1 := hbx1.cell 1
    simp at x0 x1
    have z0 := hbx1.frozen 0
    have z1 := hbx1.frozen 1
    have hlt1 := hbx1.lt
    have HBX1 := Lib.hid hbx1
    have HB1 := Lib.hid (HAL.out.trans (hB1.mono (by simp)))
    have HOW1 := Lib.hid hown1
    clear hbx1 hB1 hown1 HF
    have hend : ∀ (w2 : World) (x y : Value), Below w.heap.size w w2 → Below w.heap.size w ((w2.setCell ⟨w.heap.size, 0, none⟩ x).setCell ⟨w.heap.size, 1, none⟩ y) := fun w2 x y hb => (hb.setCell (Nat.le_refl _) _).setCell (Nat.le_refl _) _
    have HEND := Lib.hid hend
    clear hend
    rcases fitsE_cases (bs := h) (by omega) with hf | hf
    · have hlb : fitsL h = bodyOf h := fitsL_ok (by omega) hf
      have hbl : (bodyOf h).length = 5 := by rw [bodyOf_length]; omega
      have hown := HOW1.out
      rw [hlb] at hown
      obtain ⟨g1, c1, e1, hc1, hg1, hg1'⟩ := own_some hown (by omega)
      obtain ⟨a1, c1', e1', _, hl1, _, _⟩ := own_shape hown
      rw [e1] at e1'
      cases e1'
      rw [hbl] at e1
      have hcell : ∀ j, j < 5 → w1.cell? ⟨g1, j, none⟩ = some (.int .u8 (((bodyOf h).getD j 0).toNat : Int)) := fun j hj => by
        obtain ⟨q, o, e, _, hq⟩ := hl1.resolve_left (by intro e; rw [List.map_eq_nil_iff] at e; rw [e] at hbl; cases hbl)
        cases e
        have := hq j _ (bv_at (List.getElem?_eq_getElem (by omega)))
        rw [Nat.zero_add] at this
        rw [this, List.getD_eq_getElem?_getD, List.getElem?_eq_getElem (by omega)]
        rfl
      have b1 := hcell 1 (by omega)
      have b2 := hcell 2 (by omega)
      have b3 := hcell 3 (by omega)
      have b4 := hcell 4 (by omega)
      obtain ⟨n1, m1⟩ : ∃ n, n = ((bodyOf h).getD 1 0).toNat := ⟨_, rfl⟩
      obtain ⟨n2, m2⟩ : ∃ n, n = ((bodyOf h).getD 2 0).toNat := ⟨_, rfl⟩
      obtain ⟨n3, m3⟩ : ∃ n, n = ((bodyOf h).getD 3 0).toNat := ⟨_, rfl⟩
      obtain ⟨n4, m4⟩ : ∃ n, n = ((bodyOf h).getD 4 0).toNat := ⟨_, rfl⟩
      have l1 : n1 < 256 := by rw [m1]; exact UInt8.toNat_lt _
      have l2 : n2 < 256 := by rw [m2]; exact UInt8.toNat_lt _
      have l3 : n3 < 256 := by rw [m3]; exact UInt8.toNat_lt _
      have l4 : n4 < 256 := by rw [m4]; exact UInt8.toNat_lt _
      rw [← m1] at b1
      rw [← m2] at b2
      rw [← m3] at b3
      rw [← m4] at b4
      obtain ⟨N, hN⟩ : ∃ N, N = n1 + n2 * 256 + n3 * 65536 + n4 * 16777216 := ⟨_, rfl⟩
      have hor := or_four n1 n2 n3 n4 l1 l2 l3 l4
      rw [← hN] at hor
      have hnum : num (bodyOf h) = N := by rw [hN, m1, m2, m3, m4]; rfl
      have HNUM := Lib.hid hnum
      have hNlt : N < 4294967296 := by omega
      have HCELL := Lib.hid hcell
      have HF0 := Lib.hid hf
      rw [hf]
      subst e1
      clear hown hl1 hcell m1 m2 m3 m4 hN hnum hf hlb
      go_wp2_with fail
      go_quiet (fail)
      have hw13 : IntKind.i64.wrap (9 + (N : Int)) = 9 + N := IntWalk.i64_in _ (by omega)
      have hw14 : IntKind.i64.wrap (9 + (N : Int) + 4) = 9 + N + 4 := IntWalk.i64_in _ (by omega)
      by_cases hN1 : 1048576 < N
      · have e0 : got bs = (0, [], 0, 4) := by
          unfold got
          rw [if_neg h9, if_neg (by rw [← HH.out, HF0.out]; decide), if_pos (by rw [← HH.out, HNUM.out]; exact hN1)]
        have E0 := Lib.hid e0
        have q := box_set (HBX1.out.drewN nq) (.int .u8 0) (.slice none 0 0)
        have q0 := q.cell 0
        have q1 := q.cell 1
        simp at q0 q1
        have hB2 := HEND.out (w1.drewN nq) (.int .u8 0) (.slice none 0 0) (below_drewN HB1.out nq)
        clear e0 q
        have d0 : decide ((1048576 : Int) < (N : Int)) = true := by simp; omega
        go_wp2_with fail
        refine bodyPost_ret (v := .tuple #[.agg #[.int .u8 0, .slice none 0 0], .int .i64 0, .int .i64 4]) (by simp [results, Tryz.results63, go_sem, q0, q1]) rfl ⟨⟨.slice none 0 0, by rw [E0.out]; rfl, by rw [E0.out]; exact World.ownsRow_nil _ _ _ _⟩, hB2⟩
      · have d0 : decide ((1048576 : Int) < (N : Int)) = false := by simp; omega
        by_cases hN2 : bs.length < 13 + N
        · have e0 : got bs = (0, [], 0, 2) := by
            unfold got
            rw [if_neg h9, if_neg (by rw [← HH.out, HF0.out]; decide), if_neg (by rw [← HH.out, HNUM.out]; exact hN1), if_pos (by rw [← HH.out, HNUM.out]; exact hN2)]
          have E0 := Lib.hid e0
          have q := box_set (HBX1.out.drewN nq) (.int .u8 0) (.slice none 0 0)
          have q0 := q.cell 0
          have q1 := q.cell 1
          simp at q0 q1
          have hB2 := HEND.out (w1.drewN nq) (.int .u8 0) (.slice none 0 0) (below_drewN HB1.out nq)
          clear e0 q
          have d1 : decide ((bs.length : Int) < 9 + (N : Int) + 4) = true := by simp; omega
          go_wp2_with fail
          refine bodyPost_ret (v := .tuple #[.agg #[.int .u8 0, .slice none 0 0], .int .i64 0, .int .i64 2]) (by simp [results, Tryz.results63, go_sem, q0, q1]) rfl ⟨⟨.slice none 0 0, by rw [E0.out]; rfl, by rw [E0.out]; exact World.ownsRow_nil _ _ _ _⟩, hB2⟩
        · have d1 : decide ((bs.length : Int) < 9 + (N : Int) + 4) = false := by simp; omega
          obtain ⟨o, ho⟩ : ∃ o, o = (bs.drop 9).take (N + 4) := ⟨_, rfl⟩
          have hol : o.length = N + 4 := by rw [ho, List.length_take, List.length_drop]; omega
          have hLo : Lies (w1.drewN nq) (some ⟨g, off + 9, none⟩) (o.map bv) := by
            rw [ho, List.map_take]
            refine Lies.take ?_ _
            rw [List.map_drop]
            exact ((HL.out.later HB1.out).drop 9).drewN nq
          have hfit2 := fits_any (some ⟨g, off + 9, none⟩) (cp - 9) o (w1.drewN nq) hLo (by omega) (by omega)
          rw [show o.length = 9 + N - 5 by omega] at hfit2
          have HF2 := Lib.hid hfit2
          have HO := Lib.hid ho
          have HOL := Lib.hid hol
          have h13 : 13 + N ≤ cp := by omega
          clear hfit2 hLo ho hol
          go_wp2_with fail
          refine HF2.out.mono ?_
          rintro e w2 ⟨v2, rfl, hown2, hB2⟩
          have hbx2 := (HBX1.out.drewN nq).below hB2 HBX1.out.lt
          have y0 := hbx2.cell 0
          have y1 := hbx2.cell 1
          simp at y0 y1
          have u0 := hbx2.frozen 0
          have u1 := hbx2.frozen 1
          have hlt2 := hbx2.lt
          have c0 := ((below_drewN (Below.refl w1.heap.size w1) nq).trans hB2).cell (p := ⟨g1, 0, none⟩) hg1' |>.trans (HCELL.out 0 (by omega))
          obtain ⟨kd, hkd⟩ : ∃ kd, kd = ((bodyOf h).getD 0 0).toNat := ⟨_, rfl⟩
          rw [← hkd] at c0
          have HKD := Lib.hid hkd
          have HBX2 := Lib.hid hbx2
          have HB2 := Lib.hid ((below_drewN HB1.out nq).trans (hB2.mono HB1.out.size))
          have HOW2 := Lib.hid hown2
          have hsz1 := HB1.out.size
          clear hbx2 hB2 hown2 x0 x1 hkd
          rcases fitsE_cases (bs := o) (by rw [HOL.out]; omega) with hf | hf
          · have e0 : got bs = ((bodyOf h).getD 0 0, bodyOf o, 13 + N, 0) := by
              unfold got
              rw [if_neg h9, if_neg (by rw [← HH.out, HF0.out]; decide), if_neg (by rw [← HH.out, HNUM.out]; exact hN1), if_neg (by rw [← HH.out, HNUM.out]; exact hN2), ← HH.out, HNUM.out, ← HO.out, if_neg (by rw [hf]; decide)]
              have e9 : (bodyOf h).getD 0 0 = h.getD 0 0 := by
                unfold bodyOf
                rw [List.getD_eq_getElem?_getD, List.getD_eq_getElem?_getD, List.getElem?_take, if_pos (by omega)]
              rw [e9]
            have hlb : fitsL o = bodyOf o := fitsL_ok (by rw [HOL.out]; omega) hf
            have hown3 := HOW2.out
            rw [hlb] at hown3
            have E0 := Lib.hid e0
            obtain ⟨a2, c2, e2, _, _, hb2, _⟩ := own_shape hown3
            subst e2
            have q := box_set HBX2.out (.int .u8 (kd : Int)) (.slice a2 (bodyOf o).length c2)
            have q0 := q.cell 0
            have q1 := q.cell 1
            simp at q0 q1
            have hB3 := HEND.out w2 (.int .u8 (kd : Int)) (.slice a2 (bodyOf o).length c2) HB2.out
            have hown4 : OwnB ((w2.setCell ⟨w.heap.size, 0, none⟩ (.int .u8 (kd : Int))).setCell ⟨w.heap.size, 1, none⟩ (.slice a2 (bodyOf o).length c2)) w.heap.size (.slice a2 (bodyOf o).length c2) (bodyOf o) := by
              have hne : (Value.slice a2 (bodyOf o).length c2).ownBlock ≠ some w.heap.size := fun e => by
                have := (hown3.lt _ e).1
                simp at this
                omega
              exact own_mono (own_far (own_far hown3 hne _) hne _) hsz1
            have HO4 := Lib.hid hown4
            rw [hf]
            clear e0 hlb hown3 q hf hb2 hown4
            go_wp2_with fail
            have e9 : (9 + (N : Int) + 4) = ((13 + N : Nat) : Int) := by omega
            refine bodyPost_ret (v := .tuple #[.agg #[.int .u8 (kd : Int), .slice a2 (bodyOf o).length c2], .int .i64 (9 + (N : Int) + 4), .int .i64 0]) (by simp [results, Tryz.results63, go_sem, q0, q1]) rfl ⟨⟨.slice a2 (bodyOf o).length c2, ?_, by rw [E0.out]; exact HO4.out⟩, hB3⟩
            rw [E0.out, e9, HKD.out]
            rfl
          · have e0 : got bs = (0, [], 0, 5) := by
              unfold got
              rw [if_neg h9, if_neg (by rw [← HH.out, HF0.out]; decide), if_neg (by rw [← HH.out, HNUM.out]; exact hN1), if_neg (by rw [← HH.out, HNUM.out]; exact hN2), ← HH.out, HNUM.out, ← HO.out, if_pos hf]
            have E0 := Lib.hid e0
            have q := box_set HBX2.out (.int .u8 0) (.slice none 0 0)
            have q0 := q.cell 0
            have q1 := q.cell 1
            simp at q0 q1
            have hB3 := HEND.out w2 (.int .u8 0) (.slice none 0 0) HB2.out
            rw [hf]
            clear e0 q hf
            go_wp2_with fail
            refine bodyPost_ret (v := .tuple #[.agg #[.int .u8 0, .slice none 0 0], .int .i64 0, .int .i64 5]) (by simp [results, Tryz.results63, go_sem, q0, q1]) rfl ⟨⟨.slice none 0 0, by rw [E0.out]; rfl, by rw [E0.out]; exact World.ownsRow_nil _ _ _ _⟩, hB3⟩
    · rw [hf]
      have e0 : got bs = (0, [], 0, 5) := by unfold got; rw [if_neg h9, if_pos (by rw [← HH.out]; exact hf)]
      have E0 := Lib.hid e0
      have q := box_set HBX1.out (.int .u8 0) (.slice none 0 0)
      have q0 := q.cell 0
      have q1 := q.cell 1
      simp at q0 q1
      have hB2 := HEND.out w1 (.int .u8 0) (.slice none 0 0) HB1.out
      clear e0 hf q
      go_wp2_with fail
      refine bodyPost_ret (v := .tuple #[.agg #[.int .u8 0, .slice none 0 0], .int .i64 0, .int .i64 5]) (by simp [results, Tryz.results63, go_sem, q0, q1]) rfl ⟨⟨.slice none 0 0, by rw [E0.out]; rfl, by rw [E0.out]; exact World.ownsRow_nil _ _ _ _⟩, hB2⟩
end Go.Proofs.YtfgjnpbffppocaaGreat.Frame
