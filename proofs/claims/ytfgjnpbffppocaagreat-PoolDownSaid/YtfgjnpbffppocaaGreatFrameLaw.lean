/- Layer 5, plain: a section that was put is got; All of it is it alone. -/
import Derived.Test.YtfgjnpbffppocaaGreatFrameAll
namespace Go.Proofs.YtfgjnpbffppocaaGreat.Frame
open Mem Crc

theorem num_head (k : UInt8) (n : Nat) (h : n ≤ 1048576) : num (head k n) = n := by
  unfold num head
  simp only [List.getD_cons_succ, List.getD_cons_zero, UInt8.toNat_ofNat']
  omega
theorem got_frame (k : UInt8) (b : List UInt8) (hb : b.length ≤ 1048576) : got (frameL k b) = (k, b, 13 + b.length, 0) := by
  have hl := frameL_length k b
  have hh : (marked (head k b.length)).length = 9 := by rw [mark_length]; rfl
  have e1 : (frameL k b).take 9 = marked (head k b.length) := by
    unfold frameL
    rw [List.take_append_of_le_length (by omega), List.take_of_length_le (by omega)]
  have e2 : (frameL k b).drop 9 = marked b := by
    unfold frameL
    rw [List.drop_append, List.drop_eq_nil_of_le (by omega), hh]
    simp
  have h1 := (fits_mark (head k b.length)).2
  have h2 := (fits_mark b).2
  have e3 : (marked b).take (b.length + 4) = marked b := List.take_of_length_le (by rw [mark_length]; omega)
  have e4 : bodyOf (marked (head k b.length)) = head k b.length := bodyOf_mark _
  unfold got
  rw [e1, e2, e4, num_head k b.length hb, e3, h1, h2, bodyOf_mark, hl]
  rw [if_neg (by omega), if_neg (by decide), if_neg (by omega), if_neg (by omega), if_neg (by decide)]
  rfl
theorem all_frame (k : UInt8) (b : List UInt8) (hb : b.length ≤ 1048576) : allF ((frameL k b).length + 1) (frameL k b) = ([(k, b)], 0) := by
  have hl := frameL_length k b
  have hne : frameL k b ≠ [] := fun e => by rw [e] at hl; simp at hl
  have hg := got_frame k b hb
  unfold allF
  rw [if_neg hne, hg]
  have hd : (frameL k b).drop (13 + b.length) = [] := List.drop_eq_nil_of_le (by omega)
  simp only [hd, allF_nil]
  rfl
end Go.Proofs.YtfgjnpbffppocaaGreat.Frame
