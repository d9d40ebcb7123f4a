/- Layer 20: a walker's bytes: apart, together, Put. -/
import Derived.Test.YtfgjnpbffppocaaGreatFrame
import Derived.Laws.ResultCell
namespace Go.Proofs.YtfgjnpbffppocaaGreat.Walk
open Go.RowKit Go.Deep Mem Crc

/-- A walker's seven numbers. -/
def ok (x : List Nat) : Prop := x.length = 7 ∧ ∀ n ∈ x, n < 4294967296
def vals (x : List Nat) : List Value := x.map (fun n : Nat => Value.int .u32 (n : Int))
def flatW (l : List (List Nat)) : List Value := l.flatMap vals
/-- Its bytes. -/
def bytes (x : List Nat) : List UInt8 := x.flatMap four
def all (l : List (List Nat)) : List UInt8 := l.flatMap bytes
theorem ok_seven {x : List Nat} (h : ok x) : ∃ a b c d e f g : Nat, x = [a, b, c, d, e, f, g] := by
  obtain ⟨hl, _⟩ := h
  match x, hl with
  | [a, b, c, d, e, f, g], _ => exact ⟨a, b, c, d, e, f, g, rfl⟩
set_option maxHeartbeats 400000 in
theorem apart_any (x : List Nat) (w : World) (h : ok x) :
    Calls Tryz.prog 67 #[.agg (vals x).toArray] w fun e w' => e = .returned (.agg (vals x).toArray) ∧ Below w.heap.size w w' := by
  obtain ⟨a, b, c, d, e, f, g, rfl⟩ := ok_seven h
  clear h
  simp only [vals, List.map]
  go_enter Tryz.func67, Tryz.ntmps67
  go_wp2_with fail
  refine bodyPost_ret (v := .agg #[.int .u32 a, .int .u32 b, .int .u32 c, .int .u32 d, .int .u32 e, .int .u32 f, .int .u32 g]) (by simp [results, Tryz.results67, go_sem]) rfl ⟨rfl, ?_⟩
  exact ((Below.refl _ w).alloc (Nat.le_refl _) _).alloc (by simp) _
set_option maxHeartbeats 400000 in
theorem together_any (x : List Nat) (w : World) (h : ok x) :
    Calls Tryz.prog 64 #[.agg (vals x).toArray] w fun e w' => e = .returned (.agg (vals x).toArray) ∧ Below w.heap.size w w' := by
  obtain ⟨a, b, c, d, e, f, g, rfl⟩ := ok_seven h
  clear h
  simp only [vals, List.map]
  go_enter Tryz.func64, Tryz.ntmps64
  go_wp2_with fail
  refine bodyPost_ret (v := .agg #[.int .u32 a, .int .u32 b, .int .u32 c, .int .u32 d, .int .u32 e, .int .u32 f, .int .u32 g]) (by simp [results, Tryz.results64, go_sem]) rfl ⟨rfl, ?_⟩
  exact ((Below.refl _ w).alloc (Nat.le_refl _) _).alloc (by simp) _
end Go.Proofs.YtfgjnpbffppocaaGreat.Walk
