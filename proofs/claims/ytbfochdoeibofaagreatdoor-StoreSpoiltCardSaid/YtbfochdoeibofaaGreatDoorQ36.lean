/- PlaysL, SpoilL, in one text. -/
import Derived.Test.YtbfochdoeibofaaGreatDoorQ32
import Derived.Test.YtbfochdoeibofaaGreatDoorQ35
/- palmerlaw10.StorePlays, at whatever comes in. -/
namespace Go.Proofs.YtbfochdoeibofaaGreatDoor.Full
open Go.RowKit Go.Deep Go.ChangeShapes Go.WideShapes Mem Crc
open Go.Proofs.YtbfochdoeibofaaGreatDoor.Ext (Tab)
open Go.Proofs.YtbfochdoeibofaaGreatDoor.Store (nv)

instance : Inhabited AR := ⟨⟨0, [], [], none, 0⟩⟩
set_option maxRecDepth 100000 in
/-- A row of acts that came in. -/
theorem acts_open {H : Type} {enc : TypeId × Value → H} {base : Nat} {v : Value} {d : DataW H} {p : List MemPlace} {W : World} (q : Value.okWide Tryz.prog W .any base 44 v) (h : DataW.Trod enc Tryz.prog W 0 (fun _ => true) true 44 v d p) :
    ∃ a c l, v = .slice a (l : List AR).length c ∧ ActsIn W a l := by
  have hint : Tryz.prog.cellsOf 3 = 1 := by kernel_rfl
  have hstr : Tryz.prog.cellsOf 9 = 1 := by kernel_rfl
  have hbts : Tryz.prog.cellsOf 22 = 1 := by kernel_rfl
  obtain ⟨a, len, cap, l, rfl, _, _, rfl, h1, h2⟩ := Args.slice_open (α := AR) AR.vs (fun x => Lies W x.a (x.b.map bv)) Tryz.underlying44 (by kernel_rfl : Tryz.prog.cellsOf 48 = 3) (by decide) (fun fuel cs y hl hy => by
    obtain ⟨ys, n', _, _, _, hyl, hfld⟩ := DataW.trod_struct Tryz.underlying48 hy
    match cs, hl with
    | [c0, c1, c2], _ =>
      have g0 := hfld 0 _ rfl
      have g1 := hfld 1 _ rfl
      have g2 := hfld 2 _ rfl
      simp [hint, hstr, hbts] at g0 g1 g2
      have hyl : ys.length = 3 := hyl
      obtain ⟨y0, e0⟩ : ∃ y, ys[0]? = some y := ⟨_, List.getElem?_eq_getElem (by omega)⟩
      obtain ⟨y1, e1⟩ : ∃ y, ys[1]? = some y := ⟨_, List.getElem?_eq_getElem (by omega)⟩
      obtain ⟨y2, e2⟩ : ∃ y, ys[2]? = some y := ⟨_, List.getElem?_eq_getElem (by omega)⟩
      rw [e0] at g0
      rw [e1] at g1
      rw [e2] at g2
      obtain ⟨k, hk, _, _⟩ := DataW.trod_int Tryz.underlying3 g0
      obtain ⟨s, hs, _, _⟩ := DataW.trod_string Tryz.underlying9 g1
      obtain ⟨a2, cp2, b2, hb, _, _, hL⟩ := Args.bytes_open_trod Tryz.underlying22 Tryz.underlying5 (by kernel_rfl) g2
      injection hk with hk _
      injection hs with hs _
      injection hb with hb _
      subst hk hs hb
      refine ⟨⟨k, s.data.toList, b2, a2, cp2⟩, ?_, hL⟩
      unfold AR.vs Store.nv
      rfl) q h
  exact ⟨a, cap, l, rfl, ⟨h2, h1⟩⟩
end Go.Proofs.YtbfochdoeibofaaGreatDoor.Full

/- palmerlaw10.StoreSpoilt, at whatever comes in. -/
namespace Go.Proofs.YtbfochdoeibofaaGreatDoor.Spoil
open Go.RowKit Go.Deep Go.ChangeShapes Go.WideShapes Mem Crc
open Go.Proofs.YtbfochdoeibofaaGreatDoor.Ext (Tab)

set_option maxRecDepth 100000 in
theorem spoilt_in {H : Type} {enc : TypeId × Value → H} {base : Nat} (v0 v1 v2 v3 v4 : Value) (d0 d1 d2 d3 d4 : DataW H) (p0 p1 p2 p3 p4 : List MemPlace) (W : World) (hT : Tab W)
    (q0 : Value.okWide Tryz.prog W .any base 3 v0) (h0 : DataW.Trod enc Tryz.prog W 0 (fun _ => true) true 3 v0 d0 p0)
    (q1 : Value.okWide Tryz.prog W .any base 44 v1) (h1 : DataW.Trod enc Tryz.prog W 0 (fun _ => true) true 44 v1 d1 p1)
    (q2 : Value.okWide Tryz.prog W .any base 3 v2) (h2 : DataW.Trod enc Tryz.prog W 0 (fun _ => true) true 3 v2 d2 p2)
    (q3 : Value.okWide Tryz.prog W .any base 3 v3) (h3 : DataW.Trod enc Tryz.prog W 0 (fun _ => true) true 3 v3 d3 p3)
    (q4 : Value.okWide Tryz.prog W .any base 5 v4) (h4 : DataW.Trod enc Tryz.prog W 0 (fun _ => true) true 5 v4 d4 p4) :
    Calls Tryz.prog 6 #[v0, v1, v2, v3, v4] W fun e w' => e = .returned (.bool true) ∧ Below W.heap.size W w' := by
  obtain ⟨m, rfl, _⟩ := Args.int_open Tryz.underlying3 q0 h0
  obtain ⟨a, c, l, rfl, hA⟩ := Full.acts_open q1 h1
  obtain ⟨i, rfl, _⟩ := Args.int_open Tryz.underlying3 q2 h2
  obtain ⟨t, rfl, _⟩ := Args.int_open Tryz.underlying3 q3 h3
  obtain ⟨y, rfl, hy⟩ := Args.int_open Tryz.underlying5 q4 h4
  have hb := bounds_u8 hy
  have e : (Value.int .u8 y) = bv (UInt8.ofNat y.toNat) := by
    unfold Mem.bv
    have : ((UInt8.ofNat y.toNat).toNat : Int) = y := by simp; omega
    rw [this]
  rw [e]
  exact spoilt_law m a c l i t _ W hA hT
end Go.Proofs.YtbfochdoeibofaaGreatDoor.Spoil
