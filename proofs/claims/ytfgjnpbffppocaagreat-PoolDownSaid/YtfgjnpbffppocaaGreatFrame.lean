/- Layer 5: Put of a section (behind nothing). -/
import Derived.Test.YtfgjnpbffppocaaGreatFits
namespace Go.Proofs.YtfgjnpbffppocaaGreat.Frame
open Go.RowKit Go.Deep Mem Crc

/-- A section's head. -/
def head (kind : UInt8) (n : Nat) : List UInt8 := [kind, UInt8.ofNat n, UInt8.ofNat (n / 256), UInt8.ofNat (n / 65536), UInt8.ofNat (n / 16777216)]
/-- A section's bytes. -/
def frameL (kind : UInt8) (body : List UInt8) : List UInt8 := marked (head kind body.length) ++ marked body
theorem frameL_length (kind : UInt8) (body : List UInt8) : (frameL kind body).length = body.length + 13 := by
  unfold frameL
  rw [List.length_append, mark_length, mark_length]
  simp [head]
  omega
/-- A row of the call's own that is not empty has an address. -/
theorem own_some {w : World} {base : Nat} {v : Value} {bs : List UInt8} (h : OwnB w base v bs) (h0 : 0 < bs.length) : ∃ g cap, v = .slice (some ⟨g, 0, none⟩) bs.length cap ∧ bs.length ≤ cap ∧ base ≤ g ∧ g < w.heap.size := by
  rcases h.2 with ⟨_, e⟩ | ⟨g, cap, cur, e, r⟩
  · omega
  · subst e
    exact ⟨g, cap, rfl, r.2.2.1, World.ownsRow.lt h g rfl⟩
set_option maxHeartbeats 400000 in
set_option maxRecDepth 100000 in
theorem put_nil (kind : UInt8) (a : Option Addr) (cp : Nat) (body : List UInt8) (w : World) (h : Lies w a (body.map bv)) (hm : body.length ≤ 1048576) :
    Calls Tryz.prog 42 #[.slice none 0 0, .agg #[.int .u8 (kind.toNat : Int), .slice a body.length cp]] w fun e w' => ∃ v, e = .returned (.tuple #[v, .int .i64 0]) ∧ OwnB w' w.heap.size v (frameL kind body) ∧ Below w.heap.size w w' := by
  obtain ⟨i0, hi0, hz0, hz1, hz2⟩ := info_parts infoB8
  have hal := (Below.refl w.heap.size w).alloc (Nat.le_refl _) (.cells #[.int .u8 (kind.toNat : Int), .slice a body.length cp] 104)
  have hbx := Blk.new w 104 #[.int .u8 (kind.toNat : Int), .slice a body.length cp]
  obtain ⟨n, hn⟩ : ∃ n, n = body.length := ⟨_, rfl⟩
  obtain ⟨W, hW⟩ : ∃ W, W = w.alloc (.cells #[.int .u8 (kind.toNat : Int), .slice a body.length cp] 104) := ⟨_, rfl⟩
  rw [← hW] at hal hbx
  rw [← hn] at hbx
  have hhd := hal.alloc (by have := hal.size; exact this) (.cells ((head kind n).map bv).toArray 5)
  have hmk := mark_any (some ⟨W.heap.size, 0, none⟩) 5 (head kind n) (W.alloc (.cells ((head kind n).map bv).toArray 5)) (by have := new_lies W 5 ((head kind n).map bv).toArray; simpa using this) (by simp [head])
  have hWs : W.heap.size = w.heap.size + 1 := by rw [hW]; simp
  rw [hWs, show (head kind n).length = 5 from rfl] at hmk
  have HMK := Lib.hid hmk
  have HL := Lib.hid h
  have HAL := Lib.hid hal
  have HHD := Lib.hid hhd
  have HBX := Lib.hid (hbx.alloc (.cells ((head kind n).map bv).toArray 5))
  have HW := Lib.hid hW
  have HN := Lib.hid hn
  have hsW := hal.size
  have hm2 : n ≤ 1048576 := by omega
  have hm3 : decide ((1048576 : Int) < (n : Int)) = false := by simp; omega
  have E := Lib.hid (show (#[.int .u8 (kind.toNat : Int), .int .u8 ((n : Int) % 256), .int .u8 ((n : Int) / 256 % 256), .int .u8 ((n : Int) / 65536), .int .u8 ((n : Int) / 16777216)] : Array Value) = ((head kind n).map bv).toArray by
    rw [bvI (y := (n : Int) % 256) (n := n) (by omega), bvI (y := (n : Int) / 256 % 256) (n := n / 256) (by omega), bvI (y := (n : Int) / 65536) (n := n / 65536) (by omega), bvI (y := (n : Int) / 16777216) (n := n / 16777216) (by omega)]
    rfl)
  rw [← hn] at HW ⊢
  clear h hal hhd hmk hbx hn hm hWs
  go_enter Tryz.func42, Tryz.ntmps42
  go_wp2_with fail
  rw [E.out, ← HW.out]
  refine HMK.out.mono ?_
  rintro e w1 ⟨v1, rfl, hown1, hB1⟩
  obtain ⟨g1, c1, e1, hc1, _, hg1⟩ := own_some hown1 (by rw [mark_length]; omega)
  subst e1
  have hs1 := hB1.size
  have hs0 : w.heap.size + 2 ≤ (W.alloc (.cells ((head kind n).map bv).toArray 5)).heap.size := by rw [HW.out]; simp
  have hBw : Below w.heap.size w w1 := HHD.out.trans (hB1.mono (by omega))
  obtain ⟨a1, c1', e1', _, hl1, _, _⟩ := own_shape hown1
  cases e1'
  have hml : (marked (head kind n)).length = 9 := by rw [mark_length]; rfl
  rw [hml]
  have HL1 := Lib.hid (lies_add hl1)
  have H1 := Lib.hid (oneCell_bytes (marked (head kind n)))
  have hbx1 := HBX.out.below hB1 HBX.out.lt
  have x1 := hbx1.cell 1
  simp at x1
  have HML := Lib.hid hml
  have HBw := Lib.hid hBw
  have HBX1 := Lib.hid hbx1
  have hnil := World.ownsRow_nil w1 w.heap.size 5 1
  have hsw1 := hBw.size
  clear hown1 hl1 hml hbx1 hBw hB1 HMK HHD HAL E HW
  go_wp2_with (first | (at_builtin; refine wpList_append_own _ rfl _ _ 23 rfl w.heap.size 5 i0 (.int .u8 0) 1 1 Tryz.underlying23 hi0 hz0 hz1 hz2 rfl (by decide) _ _ _ rfl hnil ⟨g1, 0, none⟩ 9 c1 ((marked (head kind n)).map bv) rfl ?c1 HL1.out H1.out ?c3 ?c4 ?c5 ?_))
  case c1 => rw [List.length_map, HML.out]
  case c3 => decide
  case c4 => decide
  case c5 => exact hsw1
  intro v2 w2 hown2 hgrow2 _
  have hB12 : Below w1.heap.size w1 w2 := (Below.refl _ w1).grown hgrow2 (Nat.le_refl _) (fun k hk => by cases hk)
  have hbx2 := HBX1.out.below hB12 HBX1.out.lt
  have x2 := hbx2.cell 1
  simp at x2
  have HB2 := Lib.hid (HBw.out.trans (hB12.mono hsw1))
  have hO2 : OwnB w2 w.heap.size v2 (marked (head kind n)) := by unfold OwnB; rw [HML.out]; exact hown2
  have hmk2 := mark_any a cp body w2 (HL.out.later HB2.out) (by have := HN.out; omega)
  rw [← HN.out] at hmk2
  have HMK2 := Lib.hid hmk2
  have HO2 := Lib.hid hO2
  have hs2 := HB2.out.size
  have hlt2 := hbx2.lt
  clear hown2 hgrow2 hbx2 hB12 hO2 hmk2 x1 hnil
  go_wp2_with fail
  refine HMK2.out.mono ?_
  rintro e w3 ⟨v3, rfl, hown3, hB3⟩
  obtain ⟨g3, c3, e3, hc3, _, hg3⟩ := own_some hown3 (by rw [mark_length]; omega)
  subst e3
  obtain ⟨a3, c3', e3', _, hl3, _, _⟩ := own_shape hown3
  cases e3'
  have hs3 := hB3.size
  have HL3 := Lib.hid (lies_add hl3)
  have H3 := Lib.hid (oneCell_bytes (marked body))
  have hO3 := own_later HO2.out hB3
  have HB3 := Lib.hid (HB2.out.trans (hB3.mono hs2))
  have hl0 : (marked (head kind n)).length + (marked body).length ≤ 1048600 := by rw [HML.out, mark_length, ← HN.out]; omega
  clear hown3 hl3 hB3 HMK2 x2
  go_wp2_with (first | (at_builtin; refine wpList_append_own _ rfl _ _ 23 rfl w.heap.size 5 i0 (.int .u8 0) 1 1 Tryz.underlying23 hi0 hz0 hz1 hz2 rfl (by decide) _ _ _ rfl hO3 ⟨g3, 0, none⟩ (marked body).length c3 ((marked body).map bv) rfl ?d1 HL3.out H3.out ?d3 ?d4 ?d5 ?_))
  case d1 => simp
  case d3 => unfold maxLen; omega
  case d4 => omega
  case d5 => omega
  intro v4 w4 hown4 hgrow4 _
  have hB4 := HB3.out.grown hgrow4 (by omega) (fun q hq => (hO3.lt q hq).1)
  have hO4 : OwnB w4 w.heap.size v4 (frameL kind body) := by
    unfold OwnB frameL
    rw [List.map_append, List.length_append, ← HN.out]
    exact hown4
  have HO4 := Lib.hid hO4
  clear hown4 hgrow4 hO4 hO3
  go_wp2_with fail
  go_ret2
  exact ⟨v4, rfl, HO4.out, hB4⟩
end Go.Proofs.YtfgjnpbffppocaaGreat.Frame
