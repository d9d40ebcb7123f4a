/- Remove, Sto, in one text. -/
import Derived.Test.YtbfochdoeibofaaGreatDoorG2
import Derived.Test.YtbfochdoeibofaaGreatDoorG9
import Derived.Test.YtbfochdoeibofaaGreatDoorShelf
/- Layer 10: Remove. -/
namespace Go.Proofs.YtbfochdoeibofaaGreatDoor.Store
open Go.RowKit Go.Deep Mem Crc Disk Man Go.Maps

/-- Contains, on a row of names. -/
theorem contains_name (v : Value) (B : Nat) (ss : List (List UInt8)) (nm : List UInt8) (w : World) (h : w.ownsRow B 9 1 v ss.length (ss.map encStr)) (hin : nm ∈ ss) (hm : ss.length ≤ 1000000) :
    Calls Tryz.prog 57 #[v, nv nm] w fun e w' => e = .returned (.bool true) ∧ w' = w := by
  obtain ⟨a, cap, rfl, hc, hL, _, _⟩ := own_shape h
  obtain ⟨g, off, rfl, _, hcs⟩ := hL.resolve_left (fun e => by
    rw [List.map_eq_nil_iff] at e
    subst e
    cases hin)
  have := Tryz.slices_Contains_string g off ss.length cap (ss.map fun l => (⟨l.toArray⟩ : ByteArray)) ⟨nm.toArray⟩ w (by simp) (by omega) (fun j hj => by
    rw [List.length_map] at hj
    have := hcs j (encStr ss[j]) (by simp [hj])
    rw [this]
    simp [hj])
  have hci : Lib.containsS ((ss.map fun l => (⟨l.toArray⟩ : ByteArray)).take ss.length) ⟨nm.toArray⟩ = true := by
    rw [Lib.containsS_iff, List.take_of_length_le (by simp)]
    exact List.mem_map.2 ⟨nm, hin, rfl⟩
  rw [hci] at this
  exact this
set_option maxHeartbeats 400000 in
set_option maxRecDepth 100000 in
theorem remove_any {w : World} {Q : Nat → Prop} {s d g N cm : Nat} {C : Chg} (h : St w Q s d g N cm false C) (L : List (List UInt8)) (hL : ∀ x, C x ≠ none → x ∈ L) (hn : L.length ≤ 1000000) (hLn : ∀ x ∈ L, x.length ≤ 1000000) (nm : List UInt8) (hf : isFile C nm = true) :
    Calls Tryz.prog 27 #[.pointer (some ⟨s, 0, none⟩), nv nm] w fun e w' => e = .returned (.int .i64 0) ∧ ∃ Q', St w' Q' s d g N cm false (setC C nm (some none)) ∧ (∀ k, Q' k → Q k ∨ w.heap.size ≤ k) ∧ (∀ k, Q k → Q' k) ∧ Only [cm] w w' := by
  have HD := Lib.hid (down_any h)
  have HN := Lib.hid (names_any h L hL hn hLn)
  have H := Lib.hid h
  have HLS := Lib.hid h.store.lt
  have hnm : nm.length ≤ 1000000 := hLn nm (hL nm (fun e => by unfold isFile at hf; rw [e] at hf; cases hf))
  clear h
  obtain ⟨x, hx⟩ : ∃ x, x = nv nm := ⟨_, rfl⟩
  rw [← hx]
  have HX := Lib.hid hx
  clear hx
  go_enter Tryz.func27, Tryz.ntmps27
  go_wp2_with fail
  refine HD.out.mono ?_
  rintro e w1 ⟨rfl, rfl⟩
  go_wp2_with fail
  refine HN.out.mono ?_
  rintro e w2 ⟨v, ss, rfl, hO, hmem, hle, hB2⟩
  have hC := Lib.hid (contains_name v _ ss nm w2 hO ((hmem nm).2 hf) (by omega))
  rw [← HX.out] at hC
  obtain ⟨w3, hrun, hst3, ho3, hs3⟩ := H.out.changed (w1 := w2) hB2 L hL hn nm hnm none (.agg #[.slice none 0 0, .bool true]) rfl
  rw [← HX.out] at hrun
  have c4 := (hB2.cell (p := ⟨s, 4, none⟩) HLS.out).trans (H.out.store.cell 4)
  simp at c4
  have HST3 := Lib.hid hst3
  have HO3 := Lib.hid ho3
  clear hO hmem hB2 hst3 ho3 hs3
  go_wp2_with fail
  refine hC.out.mono ?_
  rintro e w4 ⟨rfl, rfl⟩
  go_wp2_with fail
  go_ret
  exact ⟨rfl, _, HST3.out, fun k hk => hk.imp id And.left, fun k hk => .inl hk, HO3.out⟩
/-- On a disk that is off. -/
theorem remove_off {w : World} {Q : Nat → Prop} {s d g N cm : Nat} {C : Chg} (h : St w Q s d g N cm true C) (x : Value) :
    Calls Tryz.prog 27 #[.pointer (some ⟨s, 0, none⟩), x] w fun e w' => e = .returned (.int .i64 6) ∧ w' = w := by
  have HD := Lib.hid (down_any h)
  clear h
  go_enter Tryz.func27, Tryz.ntmps27
  go_wp2_with fail
  refine HD.out.mono ?_
  rintro e w1 ⟨rfl, rfl⟩
  go_wp2_with fail
  go_ret
  exact ⟨rfl, rfl⟩
end Go.Proofs.YtbfochdoeibofaaGreatDoor.Store

/- Layer 10, as the layers above see it: what a store answers, by names' bytes. -/
namespace Go.Proofs.YtbfochdoeibofaaGreatDoor.Store
open Go.RowKit Go.Deep Mem Crc Disk Man Go.Maps

abbrev Files := List UInt8 → Option (List UInt8)
noncomputable def setF (F : Files) (nm : List UInt8) (b : Option (List UInt8)) : Files := fun x => open Classical in if x = nm then b else F x
theorem setF_same (F : Files) (nm : List UInt8) (b : Option (List UInt8)) : setF F nm b nm = b := by unfold setF; rw [if_pos rfl]
theorem setF_other {F : Files} {nm x : List UInt8} (b : Option (List UInt8)) (h : x ≠ nm) : setF F nm b x = F x := by unfold setF; rw [if_neg h]
/-- A store at block s: At w Q off F n says that it lies in w, in blocks of Q alone; that it is down; its files as they are now; at most n names were ever changed. -/
structure Sto (s : Nat) where
  At : World → (Nat → Prop) → Bool → Files → Nat → Prop
  lt : ∀ {w : World} {Q : Nat → Prop} {off : Bool} {F : Files} {n : Nat}, At w Q off F n → ∀ k, Q k → k < w.heap.size
  keep : ∀ {w w' : World} {Q : Nat → Prop} {off : Bool} {F : Files} {n : Nat}, At w Q off F n → w.heap.size ≤ w'.heap.size → (∀ k, Q k → w'.heap[k]? = w.heap[k]?) → At w' Q off F n
  short : ∀ {w : World} {Q : Nat → Prop} {off : Bool} {F : Files} {n : Nat}, At w Q off F n → ∀ nm b, F nm = some b → nm.length ≤ 32 ∧ b.length ≤ 1048576
  write : ∀ {w : World} {Q : Nat → Prop} {F : Files} {n : Nat}, At w Q false F n → n < 100000 → ∀ (nm : List UInt8), 1 ≤ nm.length → nm.length ≤ 32 → ∀ (a : Option Addr) (cp : Nat) (b : List UInt8), Lies w a (b.map bv) → b.length ≤ 1048576 →
    Calls Tryz.prog 11 #[.pointer (some ⟨s, 0, none⟩), nv nm, .slice a b.length cp] w fun e w' => e = .returned (.int .i64 0) ∧ ∃ Q', At w' Q' false (setF F nm (some b)) (n + 1) ∧ (∀ k, Q' k → Q k ∨ w.heap.size ≤ k) ∧ Upon Q w w'
  write_off : ∀ {w : World} {Q : Nat → Prop} {F : Files} {n : Nat}, At w Q true F n → ∀ (x : Value) (a : Option Addr) (m cp : Nat),
    Calls Tryz.prog 11 #[.pointer (some ⟨s, 0, none⟩), x, .slice a m cp] w fun e w' => e = .returned (.int .i64 6) ∧ Below w.heap.size w w'
  read_some : ∀ {w : World} {Q : Nat → Prop} {F : Files} {n : Nat}, At w Q false F n → ∀ (nm b : List UInt8), F nm = some b →
    Calls Tryz.prog 12 #[.pointer (some ⟨s, 0, none⟩), nv nm] w fun e w' => ∃ v, e = .returned (.tuple #[v, .int .i64 0]) ∧ OwnB w' w.heap.size v b ∧ Below w.heap.size w w'
  read_none : ∀ {w : World} {Q : Nat → Prop} {F : Files} {n : Nat}, At w Q false F n → ∀ (nm : List UInt8), nm.length ≤ 1000000 → F nm = none →
    Calls Tryz.prog 12 #[.pointer (some ⟨s, 0, none⟩), nv nm] w fun e w' => ∃ v, e = .returned (.tuple #[v, .int .i64 8]) ∧ OwnB w' w.heap.size v [] ∧ Below w.heap.size w w'
  read_off : ∀ {w : World} {Q : Nat → Prop} {F : Files} {n : Nat}, At w Q true F n → ∀ (x : Value),
    Calls Tryz.prog 12 #[.pointer (some ⟨s, 0, none⟩), x] w fun e w' => e = .returned (.tuple #[.slice none 0 0, .int .i64 6]) ∧ Below w.heap.size w w'
  remove : ∀ {w : World} {Q : Nat → Prop} {F : Files} {n : Nat}, At w Q false F n → n < 100000 → ∀ (nm : List UInt8), F nm ≠ none →
    Calls Tryz.prog 27 #[.pointer (some ⟨s, 0, none⟩), nv nm] w fun e w' => e = .returned (.int .i64 0) ∧ ∃ Q', At w' Q' false (setF F nm none) (n + 1) ∧ (∀ k, Q' k → Q k ∨ w.heap.size ≤ k) ∧ Upon Q w w'
  remove_off : ∀ {w : World} {Q : Nat → Prop} {F : Files} {n : Nat}, At w Q true F n → ∀ (x : Value),
    Calls Tryz.prog 27 #[.pointer (some ⟨s, 0, none⟩), x] w fun e w' => e = .returned (.int .i64 6) ∧ Below w.heap.size w w'
  names : ∀ {w : World} {Q : Nat → Prop} {off : Bool} {F : Files} {n : Nat}, At w Q off F n →
    Calls Tryz.prog 28 #[.pointer (some ⟨s, 0, none⟩)] w fun e w' => ∃ (v : Value) (ss : List (List UInt8)), e = .returned v ∧ w'.ownsRow w.heap.size 9 1 v ss.length (ss.map encStr) ∧ (∀ nm, nm ∈ ss ↔ F nm ≠ none) ∧ ss.length ≤ 200000 ∧ Below w.heap.size w w'
theorem Sto.later {s : Nat} (S : Sto s) {w w' : World} {Q : Nat → Prop} {off : Bool} {F : Files} {n : Nat} (h : S.At w Q off F n) (hB : Below w.heap.size w w') : S.At w' Q off F n := S.keep h hB.size (fun k hk => hB.block k (S.lt h k hk))
theorem Sto.upon {s : Nat} (S : Sto s) {w w' : World} {P Q : Nat → Prop} {off : Bool} {F : Files} {n : Nat} (h : S.At w Q off F n) (hB : Upon P w w') (hP : ∀ k, P k → ¬ Q k) : S.At w' Q off F n := S.keep h hB.size (fun k hk => hB.block k (S.lt h k hk) (fun hp => hP k hp hk))
/-- The files of a store of which nothing was committed. -/
def filesOf (C : Chg) : Files := fun nm => match C nm with
  | some c => c
  | none => none
theorem filesOf_file (C : Chg) (nm : List UInt8) : isFile C nm = true ↔ filesOf C nm ≠ none := by
  unfold isFile filesOf
  cases C nm with
  | none => simp
  | some c => cases c <;> simp
theorem filesOf_set (C : Chg) (nm : List UInt8) (c : Option (List UInt8)) : filesOf (setC C nm (some c)) = setF (filesOf C) nm c := by
  funext x
  by_cases e : x = nm
  · subst e
    rw [setF_same]
    unfold filesOf
    rw [setC_same]
  · rw [setF_other _ e]
    unfold filesOf
    rw [setC_other _ e]
/-- The store's state, where nothing was committed. -/
structure Bare (s d g N cm : Nat) (w : World) (Q : Nat → Prop) (off : Bool) (F : Files) (n : Nat) : Prop where
  at_ : ∃ (C : Chg) (L : List (List UInt8)), St w Q s d g N cm off C ∧ F = filesOf C ∧ (∀ x, C x ≠ none → x ∈ L) ∧ L.length ≤ n ∧ ∀ x ∈ L, x.length ≤ 32
  few : n ≤ 100000
  long : ∀ nm b, F nm = some b → b.length ≤ 1048576
theorem readOf_file {C : Chg} {nm b : List UInt8} (h : filesOf C nm = some b) : readOf C nm = (b, 0) := by
  unfold filesOf at h
  unfold readOf
  cases hc : C nm with
  | none => rw [hc] at h; cases h
  | some c =>
    rw [hc] at h
    dsimp only at h
    rw [h]
theorem readOf_none {C : Chg} {nm : List UInt8} (h : filesOf C nm = none) : readOf C nm = ([], 8) := by
  unfold filesOf at h
  unfold readOf
  cases hc : C nm with
  | none => rfl
  | some c =>
    rw [hc] at h
    dsimp only at h
    rw [h]
/-- A store of which nothing was committed, as one. -/
def bare (s d g N cm : Nat) : Sto s where
  At := Bare s d g N cm
  lt h k hk := by
    obtain ⟨C, L, hs, _⟩ := h.at_
    exact hs.lt k hk
  keep h hsz hk := by
    obtain ⟨C, L, hs, r⟩ := h.at_
    exact ⟨⟨C, L, hs.keep hsz hk, r⟩, h.few, h.long⟩
  short h nm b hb := by
    obtain ⟨C, L, hs, hF, hL, hn, hl⟩ := h.at_
    refine ⟨hl nm (hL nm (fun e => ?_)), h.long nm b hb⟩
    rw [hF] at hb
    unfold filesOf at hb
    rw [e] at hb
    cases hb
  write h hn nm h1 h2 a cp b hL hb := by
    obtain ⟨C, L, hs, hF, hLs, hLn, hLl⟩ := h.at_
    refine (write_any hs L hLs (by omega) nm h1 h2 a cp b hL hb).mono ?_
    rintro e w' ⟨rfl, Q', hst, hq1, hq2, ho⟩
    refine ⟨rfl, Q', ⟨⟨_, nm :: L, hst, ?_, ?_, ?_, ?_⟩, by omega, ?_⟩, hq1, Upon.of_only ho (fun g hg => .inl (by rw [List.mem_singleton.1 hg]; exact hs.qm))⟩
    · rw [filesOf_set, hF]
    · intro x hx
      by_cases e : x = nm
      · rw [e]; simp
      · rw [setC_other _ e] at hx
        exact List.mem_cons_of_mem _ (hLs x hx)
    · simp; omega
    · intro x hx
      rcases List.mem_cons.1 hx with rfl | hx
      · exact h2
      · exact hLl x hx
    · intro x b' hx
      by_cases e : x = nm
      · subst e
        rw [setF_same] at hx
        cases hx
        exact hb
      · rw [setF_other _ e] at hx
        exact h.long x b' hx
  write_off h x a m cp := by
    obtain ⟨C, L, hs, _⟩ := h.at_
    refine (Store.write_off hs x a m cp).mono ?_
    rintro e w' ⟨rfl, rfl⟩
    exact ⟨rfl, Below.refl _ _⟩
  read_some h nm b hb := by
    obtain ⟨C, L, hs, hF, hL, hn, hl⟩ := h.at_
    have hlen := h.long
    have hnm : nm.length ≤ 32 := hl nm (hL nm (fun e => by
      rw [hF] at hb
      unfold filesOf at hb
      rw [e] at hb
      cases hb))
    rw [hF] at hb hlen
    refine (read_any hs nm (by omega) (fun b' hb' => ?_)).mono ?_
    · have := hlen nm b' (by unfold filesOf; rw [hb'])
      omega
    · rw [readOf_file hb]
      rintro e w' ⟨v, rfl, h1, h2⟩
      exact ⟨v, rfl, h1, h2⟩
  read_none h nm hn hb := by
    obtain ⟨C, L, hs, hF, hL, hn', hl⟩ := h.at_
    have hlen := h.long
    rw [hF] at hb hlen
    refine (read_any hs nm hn (fun b' hb' => ?_)).mono ?_
    · have := hlen nm b' (by unfold filesOf; rw [hb'])
      omega
    · rw [readOf_none hb]
      rintro e w' ⟨v, rfl, h1, h2⟩
      exact ⟨v, rfl, h1, h2⟩
  read_off h x := by
    obtain ⟨C, L, hs, _⟩ := h.at_
    exact Store.read_off hs x
  remove h hn nm hf := by
    obtain ⟨C, L, hs, hF, hLs, hLn, hLl⟩ := h.at_
    rw [hF] at hf
    refine (remove_any hs L hLs (by omega) (fun x hx => by have := hLl x hx; omega) nm ((filesOf_file C nm).2 hf)).mono ?_
    rintro e w' ⟨rfl, Q', hst, hq1, hq2, ho⟩
    refine ⟨rfl, Q', ⟨⟨_, nm :: L, hst, ?_, ?_, ?_, ?_⟩, by omega, ?_⟩, hq1, Upon.of_only ho (fun g hg => .inl (by rw [List.mem_singleton.1 hg]; exact hs.qm))⟩
    · rw [filesOf_set, hF]
    · intro x hx
      by_cases e : x = nm
      · rw [e]; simp
      · rw [setC_other _ e] at hx
        exact List.mem_cons_of_mem _ (hLs x hx)
    · simp; omega
    · intro x hx
      rcases List.mem_cons.1 hx with rfl | hx
      · refine hLl x (hLs x (fun e => hf ?_))
        unfold filesOf
        rw [e]
      · exact hLl x hx
    · intro x b' hx
      by_cases e : x = nm
      · subst e
        rw [setF_same] at hx
        cases hx
      · rw [setF_other _ e] at hx
        exact h.long x b' hx
  remove_off h x := by
    obtain ⟨C, L, hs, _⟩ := h.at_
    refine (Store.remove_off hs x).mono ?_
    rintro e w' ⟨rfl, rfl⟩
    exact ⟨rfl, Below.refl _ _⟩
  names h := by
    obtain ⟨C, L, hs, hF, hLs, hLn, hLl⟩ := h.at_
    have hfew := h.few
    refine (names_any hs L hLs (by omega) (fun x hx => by have := hLl x hx; omega)).mono ?_
    rintro e w' ⟨v, ss, rfl, h1, h2, h3, h4⟩
    refine ⟨v, ss, rfl, h1, fun nm => ?_, by omega, h4⟩
    rw [h2, hF]
    exact filesOf_file C nm
end Go.Proofs.YtbfochdoeibofaaGreatDoor.Store
