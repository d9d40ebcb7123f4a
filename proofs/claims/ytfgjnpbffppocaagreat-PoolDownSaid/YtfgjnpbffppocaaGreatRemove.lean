/- Layer 10: Remove. -/
import Derived.Test.YtfgjnpbffppocaaGreatNames
import Derived.Test.YtfgjnpbffppocaaGreatShelf
namespace Go.Proofs.YtfgjnpbffppocaaGreat.Store
open Go.RowKit Go.Deep Mem Crc Disk Man Go.Maps

/-- Contains, on a row of names. -/
theorem contains_name (v : Value) (B : Nat) (ss : List (List UInt8)) (nm : List UInt8) (w : World) (h : w.ownsRow B 9 1 v ss.length (ss.map encStr)) (hin : nm ∈ ss) (hm : ss.length ≤ 1000000) :
    Calls Tryz.prog 65 #[v, nv nm] w fun e w' => e = .returned (.bool true) ∧ w' = w := by
  obtain ⟨a, cap, rfl, hc, hL, _, _⟩ := own_shape h
  obtain ⟨g, off, rfl, _, hcs⟩ := hL.resolve_left (fun e => by
    rw [List.map_eq_nil_iff] at e
    subst e
    cases hin)
  have := Tryz.slices_Contains_string g off ss.length cap (ss.map fun l => (⟨l.toArray⟩ : ByteArray)) ⟨nm.toArray⟩ w (by simp) (by omega) (fun j hj => by
    rw [List.length_map] at hj
    have := hcs j (encStr ss[j]) (by simp [hj])
    rw [this]
    simp [hj])
  have hci : Lib.containsS ((ss.map fun l => (⟨l.toArray⟩ : ByteArray)).take ss.length) ⟨nm.toArray⟩ = true := by
    rw [Lib.containsS_iff, List.take_of_length_le (by simp)]
    exact List.mem_map.2 ⟨nm, hin, rfl⟩
  rw [hci] at this
  exact this
set_option maxHeartbeats 400000 in
set_option maxRecDepth 100000 in
theorem remove_any {w : World} {Q : Nat → Prop} {s d g N cm : Nat} {C : Chg} (h : St w Q s d g N cm false C) (L : List (List UInt8)) (hL : ∀ x, C x ≠ none → x ∈ L) (hn : L.length ≤ 1000000) (hLn : ∀ x ∈ L, x.length ≤ 1000000) (nm : List UInt8) (hf : isFile C nm = true) :
    Calls Tryz.prog 41 #[.pointer (some ⟨s, 0, none⟩), nv nm] w fun e w' => e = .returned (.int .i64 0) ∧ ∃ Q', St w' Q' s d g N cm false (setC C nm (some none)) ∧ (∀ k, Q' k → Q k ∨ w.heap.size ≤ k) ∧ (∀ k, Q k → Q' k) ∧ Only [cm] w w' := by
  have HD := Lib.hid (down_any h)
  have HN := Lib.hid (names_any h L hL hn hLn)
  have H := Lib.hid h
  have HLS := Lib.hid h.store.lt
  have hnm : nm.length ≤ 1000000 := hLn nm (hL nm (fun e => by unfold isFile at hf; rw [e] at hf; cases hf))
  clear h
  obtain ⟨x, hx⟩ : ∃ x, x = nv nm := ⟨_, rfl⟩
  rw [← hx]
  have HX := Lib.hid hx
  clear hx
  go_enter Tryz.func41, Tryz.ntmps41
  go_wp2_with fail
  refine HD.out.mono ?_
  rintro e w1 ⟨rfl, rfl⟩
  go_wp2_with fail
  refine HN.out.mono ?_
  rintro e w2 ⟨v, ss, rfl, hO, hmem, hle, hB2⟩
  have hC := Lib.hid (contains_name v _ ss nm w2 hO ((hmem nm).2 hf) (by omega))
  rw [← HX.out] at hC
  obtain ⟨w3, hrun, hst3, ho3, hs3⟩ := H.out.changed (w1 := w2) hB2 L hL hn nm hnm none (.agg #[.slice none 0 0, .bool true]) rfl
  rw [← HX.out] at hrun
  have c4 := (hB2.cell (p := ⟨s, 4, none⟩) HLS.out).trans (H.out.store.cell 4)
  simp at c4
  have HST3 := Lib.hid hst3
  have HO3 := Lib.hid ho3
  clear hO hmem hB2 hst3 ho3 hs3
  go_wp2_with fail
  refine hC.out.mono ?_
  rintro e w4 ⟨rfl, rfl⟩
  go_wp2_with fail
  go_ret
  exact ⟨rfl, _, HST3.out, fun k hk => hk.imp id And.left, fun k hk => .inl hk, HO3.out⟩
/-- On a disk that is off. -/
theorem remove_off {w : World} {Q : Nat → Prop} {s d g N cm : Nat} {C : Chg} (h : St w Q s d g N cm true C) (x : Value) :
    Calls Tryz.prog 41 #[.pointer (some ⟨s, 0, none⟩), x] w fun e w' => e = .returned (.int .i64 6) ∧ w' = w := by
  have HD := Lib.hid (down_any h)
  clear h
  go_enter Tryz.func41, Tryz.ntmps41
  go_wp2_with fail
  refine HD.out.mono ?_
  rintro e w1 ⟨rfl, rfl⟩
  go_wp2_with fail
  go_ret
  exact ⟨rfl, rfl⟩
end Go.Proofs.YtfgjnpbffppocaaGreat.Store
