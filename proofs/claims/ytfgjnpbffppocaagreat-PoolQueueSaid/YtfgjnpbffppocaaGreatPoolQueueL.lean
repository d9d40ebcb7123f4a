/- palmerlaw24.PoolQueue, at whatever comes in. -/
import Derived.Test.YtfgjnpbffppocaaGreatPoolQueue
namespace Go.Proofs.YtfgjnpbffppocaaGreat.Pool
open Go.RowKit Go.Deep Go.ChangeShapes Go.WideShapes Mem Crc Walk

set_option maxRecDepth 100000 in
theorem queue_law {H : Type} {enc : TypeId × Value → H} {base : Nat} (v0 v1 v2 v3 v4 : Value) (d0 d1 d2 d3 d4 : DataW H) (p0 p1 p2 p3 p4 : List MemPlace) (W : World)
    (q0 : Value.okWide Tryz.prog W .any base 3 v0) (h0 : DataW.Trod enc Tryz.prog W 0 (fun _ => true) true 3 v0 d0 p0)
    (q1 : Value.okWide Tryz.prog W .any base 22 v1) (h1 : DataW.Trod enc Tryz.prog W 0 (fun _ => true) true 22 v1 d1 p1)
    (q2 : Value.okWide Tryz.prog W .any base 23 v2) (h2 : DataW.Trod enc Tryz.prog W 0 (fun _ => true) true 23 v2 d2 p2)
    (q3 : Value.okWide Tryz.prog W .any base 24 v3) (h3 : DataW.Trod enc Tryz.prog W 0 (fun _ => true) true 24 v3 d3 p3)
    (q4 : Value.okWide Tryz.prog W .any base 5 v4) (h4 : DataW.Trod enc Tryz.prog W 0 (fun _ => true) true 5 v4 d4 p4) :
    Calls Tryz.prog 3 #[v0, v1, v2, v3, v4] W fun e w' => e = .returned (.bool true) ∧ Below W.heap.size W w' := by
  obtain ⟨k0, rfl, _⟩ := Args.int_open Tryz.underlying3 q0 h0
  obtain ⟨a, cap, l, rfl, _, _, hok, hL⟩ := walkers_open q1 h1
  obtain ⟨wa, wc, wl, rfl, hwc, hwm, hWL⟩ := Args.bytes_open Tryz.underlying23 Tryz.underlying5 (by kernel_rfl) q2 h2
  obtain ⟨sa, sc, sl, rfl, hsc, hsm, hSL⟩ := Args.bools_open Tryz.underlying24 Tryz.underlying4 (by kernel_rfl) q3 h3
  obtain ⟨m, rfl, hw4⟩ := Args.int_open Tryz.underlying5 q4 h4
  by_cases h : 100 < l.length ∨ k0 < 1 ∨ 65536 < k0
  · exact queue_out k0 a l.length cap _ _ _ W h
  · obtain ⟨r, rfl⟩ : ∃ r : Nat, k0 = (r : Int) := ⟨k0.toNat, by omega⟩
    exact queue_in r a cap l wa wc wl sa sc sl m W (by omega) (by omega) (by omega) (Go.bounds_u8 hw4) hok hL hWL hSL (Nat.le_trans hwc hwm) (Nat.le_trans hsc hsm)
end Go.Proofs.YtfgjnpbffppocaaGreat.Pool
