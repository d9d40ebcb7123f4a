/- Layer 7: Hold, Give and Take. -/
import Derived.Test.YtdpfhpecidmllaaDoorTz
namespace Go.Proofs.YtdpfhpecidmllaaDoor.Ext
open Go.RowKit Go.Shelf Mem

/-- A row of numbers in memory, nil or not, whose block is none of bs. -/
structure Row (w : World) (bs : List Nat) (a : Option Addr) (cp : Nat) (l : List Int) : Prop where
  cap : l.length ≤ cp
  len : l.length ≤ 100000
  lies : l = [] ∨ ∃ b off, a = some ⟨b, off, none⟩ ∧ b < w.heap.size ∧ b ∉ bs ∧ Ints w b off l

set_option maxHeartbeats 1000000 in
theorem contains_empty (q : Nat) (a : Option Addr) (cp : Nat) (w : World) :
    Calls Tryd.prog 24 #[.slice a 0 cp, .func (.func 25) #[] #[.pointer (some ⟨q, 0, none⟩)]] w fun e w' => e = .returned (.bool false) ∧ w = w' := by
  have HI : ∀ w, Calls Tryd.prog 27 #[.slice a 0 cp, .func (.func 25) #[] #[.pointer (some ⟨q, 0, none⟩)]] w fun e w' => e = .returned (.int .i64 (-1)) ∧ w = w' := by
    intro w
    go_enter Tryd.func27, Tryd.ntmps27
    go_wp2_with fail
    refine wp_loop_rounds 1 ?_
    rw [rounds_succ]
    go_wp2
    go_ret
    exact ⟨rfl, rfl⟩
  go_enter Tryd.func24, Tryd.ntmps24
  go_wp2_with (go_at_call 27; refine (HI _).mono ?_; rintro e w1 ⟨rfl, rfl⟩)
  go_ret
  exact ⟨rfl, rfl⟩
set_option maxHeartbeats 1000000 in
theorem turn_empty (C g cap cp : Nat) (a : Option Addr) (k : List Bool) (taken : Bool) (w : World) (h : Holds C g cap k w) :
    Calls Tryd.prog 23 #[.pointer (some ⟨C, 0, none⟩), .slice a 0 cp, .bool taken] w fun e w' => e = .returned (.int .i64 0) ∧ Below w.heap.size w w' := by
  have c1 := h.map.cell 1
  simp at c1
  have hCw := h.lt.1
  go_enter Tryd.func23, Tryd.ntmps23
  go_wp2_with (go_at_call 24; refine (contains_empty _ _ _ _).mono ?_; rintro e w1 ⟨rfl, rfl⟩)
  refine wp_loop_rounds 1 ?_
  rw [rounds_succ]
  go_wp2
  go_ret
  exact ⟨rfl, (Below.refl _ w).alloc (Nat.le_refl _) _⟩
theorem turn_row (C g cap cp : Nat) (a : Option Addr) (k : List Bool) (l : List Int) (taken : Bool) (w : World) (h : Holds C g cap k w) (hl : Row w [C, g] a cp l) :
    Calls Tryd.prog 23 #[.pointer (some ⟨C, 0, none⟩), .slice a l.length cp, .bool taken] w fun e w' => e = .returned (.int .i64 (turnE k l taken)) ∧ Holds C g cap (turnK k l taken) w' ∧ Only [C, g] w w' := by
  rcases hl.lies with rfl | ⟨b, off, rfl, hb, hn, hi⟩
  · refine (turn_empty C g cap cp a k taken w h).mono fun e w' ⟨he, hB⟩ => ⟨he, h.later hB, Only.of_below hB⟩
  · simp at hn
    exact turn_any C g cap b off cp k l taken w h hi hb hn.1 hn.2 hl.len hl.cap
set_option maxHeartbeats 1000000 in
theorem hold_any (C g cap cp : Nat) (a : Option Addr) (k : List Bool) (l : List Int) (w : World) (h : Holds C g cap k w) (hl : Row w [C, g] a cp l) :
    Calls Tryd.prog 17 #[.pointer (some ⟨C, 0, none⟩), .slice a l.length cp] w fun e w' => e = .returned (.int .i64 (turnE k l false)) ∧ Holds C g cap (turnK k l false) w' ∧ Only [C, g] w w' := by
  have HT := Lib.hid (turn_row C g cap cp a k l false w h hl)
  clear h hl
  go_enter Tryd.func17, Tryd.ntmps17
  go_wp2_with (go_at_call 23; refine HT.out.mono ?_; rintro e w1 ⟨rfl, hh, ho⟩)
  go_ret
  exact ⟨rfl, hh, ho⟩
set_option maxHeartbeats 1000000 in
theorem give_any (C g cap cp : Nat) (a : Option Addr) (k : List Bool) (l : List Int) (w : World) (h : Holds C g cap k w) (hl : Row w [C, g] a cp l) :
    Calls Tryd.prog 16 #[.pointer (some ⟨C, 0, none⟩), .slice a l.length cp] w fun e w' => e = .returned (.int .i64 (turnE k l true)) ∧ Holds C g cap (turnK k l true) w' ∧ Only [C, g] w w' := by
  have HT := Lib.hid (turn_row C g cap cp a k l true w h hl)
  clear h hl
  go_enter Tryd.func16, Tryd.ntmps16
  go_wp2_with (go_at_call 23; refine HT.out.mono ?_; rintro e w1 ⟨rfl, hh, ho⟩)
  go_ret
  exact ⟨rfl, hh, ho⟩

/-- The free blocks, rising. -/
def freeL (k : List Bool) : List Int := frees (fun i => k.getD i true) k.length
/-- As many are free. -/
def freeN (k : List Bool) : Nat := k.length - tak k
def takeL (k : List Bool) (n : Int) : List Int := if n < 0 ∨ (freeN k : Int) < n then [] else (freeL k).take n.toNat
def takeK (k : List Bool) (n : Int) : List Bool := flips k (takeL k n)
def takeEr (k : List Bool) (n : Int) : Int := if n < 0 then 1 else if (freeN k : Int) < n then 7 else 0
theorem freeL_length : ∀ (k : List Bool), (freeL k).length = freeN k := by
  intro k
  have h : ∀ m, m ≤ k.length → (frees (fun i => k.getD i true) m).length + tak (k.take m) = m := by
    intro m
    induction m with
    | zero => intro _; simp [frees, tak]
    | succ m ih =>
      intro hm
      have := ih (by omega)
      generalize hL : frees (fun i => k.getD i true) m = L at this
      rw [frees_succ, hL, List.take_add_one, List.getElem?_eq_getElem (by omega), List.length_append]
      unfold tak at this ⊢
      rw [List.count_append, List.getD_eq_getElem?_getD, List.getElem?_eq_getElem (by omega)]
      cases k[m] <;> simp <;> omega
  have := h k.length (Nat.le_refl _)
  rw [List.take_of_length_le (Nat.le_refl _)] at this
  unfold freeL freeN
  omega
theorem takeL_fits (k : List Bool) (n : Int) : fits false k (takeL k n) = true ∧ (takeL k n).any (outs k.length) = false := by
  have hm : ∀ x ∈ takeL k n, x ∈ freeL k := fun x hx => by
    unfold takeL at hx
    split at hx
    · simp at hx
    · exact List.mem_of_mem_take hx
  have hn : (takeL k n).Nodup := by
    unfold takeL
    split
    · exact List.nodup_nil
    · exact (frees_nodup _ _).sublist (List.take_sublist _ _)
  have hg : ∀ x ∈ takeL k n, ∃ i : Nat, x = i ∧ i < k.length ∧ k.getD i true = false := fun x hx => (frees_mem _ _ x).1 (hm x hx)
  constructor
  · refine fits_free _ k hn (fun x hx => ?_)
    obtain ⟨i, rfl, h1, h2⟩ := hg x hx
    refine ⟨by omega, ?_⟩
    rw [List.getD_eq_getElem?_getD, List.getElem?_eq_getElem h1] at h2
    rw [List.getD_eq_getElem?_getD, Int.toNat_natCast, List.getElem?_eq_getElem h1]
    simpa using h2
  · rw [List.any_eq_false]
    intro x hx
    obtain ⟨i, rfl, h1, _⟩ := hg x hx
    unfold outs
    simp
    omega
theorem takeL_turn (k : List Bool) (n : Int) : turnK k (takeL k n) false = takeK k n := by
  obtain ⟨h1, h2⟩ := takeL_fits k n
  unfold turnK
  rw [h2, h1]
  rfl
theorem takeL_len (k : List Bool) (n : Int) : (takeL k n).length ≤ k.length := by
  unfold takeL
  split
  · simp
  · have := freeL_length k
    have h2 : freeN k ≤ k.length := Nat.sub_le _ _
    rw [List.length_take]
    omega
end Go.Proofs.YtdpfhpecidmllaaDoor.Ext
