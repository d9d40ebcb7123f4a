/- Layer 24: read. -/
import Derived.Test.YtfgjnpbffppocaaGreatPoolWait
import Derived.Deep.RegionHeld3
namespace Go.Proofs.YtfgjnpbffppocaaGreat.Pool
open Go.RowKit Go.Deep Mem Crc Walk
open Go.Proofs.YtfgjnpbffppocaaGreat.Store (St Chg)

set_option maxHeartbeats 400000 in
set_option maxRecDepth 100000 in
theorem read_none {A : Pa} {off : Bool} {w : World} {Qs : Nat → Prop} {hv : Nat → Option Value} {S Hd : Rows} (h : Pl A off w Qs hv S Hd) (i : Nat) (hi : i < A.n) (he : S i = []) :
    Calls Tryz.prog 22 #[.pointer (some ⟨A.p, 0, none⟩), .int .i64 (i : Int)] w fun e w' => e = .returned (.tuple #[.slice none 0 0, .int .i64 0]) ∧ Below w.heap.size w w' := by
  have hs := h.spilledAt i hi
  rw [he] at hs
  have c3 := h.pool.cell 3
  simp at c3 hs
  clear h
  go_enter Tryz.func22, Tryz.ntmps22
  go_wp2_with fail
  go_ret2
  exact ⟨rfl, Below.refl _ _⟩
theorem one_sec : ∀ {l : List Go.Proofs.YtfgjnpbffppocaaGreat.Frame.Sec} {k : UInt8} {b : List UInt8}, l.map Go.Proofs.YtfgjnpbffppocaaGreat.Frame.Sec.kb = [(k, b)] → ∃ sec, l = [sec] ∧ sec.kind = k ∧ sec.body = b
  | [], _, _, h => by cases h
  | [sec], _, _, h => by
    injection h with h
    injection h with h1 h2
    exact ⟨sec, rfl, h1, h2⟩
  | _ :: _ :: _, _, _, h => by
    injection h with _ h
    cases h
set_option maxHeartbeats 400000 in
set_option maxRecDepth 100000 in
theorem read_some {A : Pa} {w : World} {Qs : Nat → Prop} {hv : Nat → Option Value} {S Hd : Rows} (h : Pl A false w Qs hv S Hd) (i : Nat) (hi : i < A.n) (he : S i ≠ []) (hm : (S i).length ≤ 30000) :
    Calls Tryz.prog 22 #[.pointer (some ⟨A.p, 0, none⟩), .int .i64 (i : Int)] w fun e w' => ∃ v, e = .returned (.tuple #[v, .int .i64 0]) ∧ OwnW w' w.heap.size v (S i) ∧ Below w.heap.size w w' := by
  have hs := h.spilledAt i hi
  have c3 := h.pool.cell 3
  have c0 := h.pool.cell 0
  simp at c3 c0
  obtain ⟨C, hst, hfl⟩ := h.store
  have hC := hfl.2 i hi
  rw [if_neg he] at hC
  have hok := h.okS i hi
  have hal := all_length (S i) hok
  have hin := h.top.1
  have H := Lib.hid h
  have HST := Lib.hid hst
  have HC := Lib.hid hC
  have HN := Lib.hid (name_any i (by omega) w.drew)
  obtain ⟨a, ha⟩ : ∃ a, a = (S i).length := ⟨_, rfl⟩
  have ha0 : 0 < a := by rw [ha]; exact List.length_pos_iff.2 he
  rw [← ha] at hs
  have hne : ((a : Int) == 0) = false := by
    have : ¬ (a : Int) = 0 := by omega
    simpa using this
  have HA := Lib.hid ha
  have HE := Lib.hid he
  have HLP := Lib.hid h.pool.lt
  have er : Go.Proofs.YtfgjnpbffppocaaGreat.Store.readOf C (pname i) = (Go.Proofs.YtfgjnpbffppocaaGreat.Frame.frameL 80 (all (S i)), 0) := by unfold Go.Proofs.YtfgjnpbffppocaaGreat.Store.readOf; rw [hC]
  have hrd : ∀ W, Below w.heap.size w W → Calls Tryz.prog 38 #[.pointer (some ⟨A.s, 0, none⟩), .string ⟨(pname i).toArray⟩] W fun e w' => ∃ v, e = .returned (.tuple #[v, .int .i64 0]) ∧ OwnB w' W.heap.size v (Go.Proofs.YtfgjnpbffppocaaGreat.Frame.frameL 80 (all (S i))) ∧ Below W.heap.size W w' := fun W hW => by
    have := Go.Proofs.YtfgjnpbffppocaaGreat.Store.read_any (hst.later hW) (pname i) (by have := pname_len i; omega) (fun b hb => by
      rw [hC] at hb
      injection hb with hb
      injection hb with hb
      subst hb
      rw [Go.Proofs.YtfgjnpbffppocaaGreat.Frame.frameL_length, hal]
      omega)
    rw [er] at this
    exact this
  have HRD := Lib.hid hrd
  clear hrd er
  clear h hst hfl hC he ha
  go_enter Tryz.func22, Tryz.ntmps22
  go_wp2_with fail
  go_region_held3 (fun w' => w'.cell? ⟨A.p, 0, none⟩ = some (.pointer (some ⟨A.s, 0, none⟩))) (first | exact c0 | exact hk3 | exact hk2) ((first | (go_at_call 21; refine HN.out.mono ?_; rintro e w1 ⟨rfl, hB1⟩; have hBd := ((Below.refl w.heap.size w).drew).trans hB1; have hk2 := (hBd.cell (p := ⟨A.p, 0, none⟩) HLP.out).trans c0; dsimp only) | (go_at_call 38; refine (HRD.out _ hBd).mono ?_; rintro e w2 ⟨v2, rfl, hO2, hB2⟩; have hBe := hBd.trans (hB2.mono hBd.size); have hk3 := (hBe.cell (p := ⟨A.p, 0, none⟩) HLP.out).trans c0; dsimp only)))
  obtain ⟨va, vc, rfl, hvc, hL, _, _⟩ := own_shape hO2
  have hbl : (all (S i)).length ≤ 1048576 := by rw [hal]; omega
  have hAll := Go.Proofs.YtfgjnpbffppocaaGreat.Frame.all_any va vc _ w2 hL hvc (by rw [Go.Proofs.YtfgjnpbffppocaaGreat.Frame.frameL_length, hal]; omega)
  have HAL := Lib.hid hAll
  have HBE := Lib.hid hBe
  have HFR := Lib.hid (Go.Proofs.YtfgjnpbffppocaaGreat.Frame.all_frame 80 (all (S i)) hbl)
  clear hAll hL hO2 hB2 hBe
  go_wp2_with fail
  refine HAL.out.mono ?_
  rintro e w3 ⟨⟨v3, l, rfl, hO3, hkb, hbod⟩, hB3⟩
  rw [HFR.out] at hkb ⊢
  obtain ⟨sec, rfl, hsk, hsb⟩ := one_sec hkb
  obtain ⟨va3, vc3, rfl, hvc3, hL3, _, _⟩ := own_shape hO3
  have hbd := hbod sec (by simp)
  obtain ⟨g3, off3, rfl, hg3, hc3⟩ := hL3.resolve_left (fun e => by simp [Go.Proofs.YtfgjnpbffppocaaGreat.Frame.flatS, Go.Proofs.YtfgjnpbffppocaaGreat.Frame.Sec.vs] at e)
  have k0 := hc3 0 (.int .u8 80) (by simp [Go.Proofs.YtfgjnpbffppocaaGreat.Frame.flatS, Go.Proofs.YtfgjnpbffppocaaGreat.Frame.Sec.vs, hsk, bv])
  have k1 := hc3 1 (.slice sec.a sec.body.length sec.cp) (by simp [Go.Proofs.YtfgjnpbffppocaaGreat.Frame.flatS, Go.Proofs.YtfgjnpbffppocaaGreat.Frame.Sec.vs])
  rw [hsb] at k1 hbd
  rw [Nat.add_zero] at k0
  simp only [List.length_singleton]
  obtain ⟨va4, vc4, ev4, hvc4, hL4, _, _⟩ := own_shape hbd
  injection ev4 with ea4 _ ec4
  rw [← ea4] at hL4
  rw [← ec4] at hvc4
  have hwa := all_ok sec.a sec.cp (S i).length (all (S i)) w3 hL4 hvc4 hal (by omega)
  rw [hal, unall_all (S i) hok] at hwa
  have HWA := Lib.hid hwa
  have hpos : 0 < (S i).length := by rw [← HA.out]; exact ha0
  have z1 : (((S i).length : Int) * 28 == 0) = false := beq_eq_false_iff_ne.2 (by omega)
  have z2 : ((((S i).length * 28 : Nat) : Int) == 0) = false := beq_eq_false_iff_ne.2 (by omega)
  have HBZ := Lib.hid (HBE.out.trans (hB3.mono HBE.out.size))
  have HH := Lib.hid hal
  clear hkb hbod hO3 hL3 hc3 hwa hL4 hB3 ea4 ec4
  go_wp2_with fail
  refine HWA.out.mono ?_
  rintro e w4 ⟨v4, rfl, hO4, hB4⟩
  have HO4 := Lib.hid (own_mono hO4 HBZ.out.size)
  have HB4 := Lib.hid (HBZ.out.trans (hB4.mono HBZ.out.size))
  clear hO4 hB4
  go_wp2_with fail
  go_ret2
  exact ⟨_, rfl, HO4.out, HB4.out⟩
end Go.Proofs.YtfgjnpbffppocaaGreat.Pool
