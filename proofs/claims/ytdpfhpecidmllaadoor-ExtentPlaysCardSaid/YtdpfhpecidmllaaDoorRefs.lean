/- Layer 7: the reference: Free, Turn, Same. -/
import Derived.Test.YtdpfhpecidmllaaDoorClone
namespace Go.Proofs.YtdpfhpecidmllaaDoor.Ext
open Go.RowKit Go.Shelf Go.Deep Mem

/-- A row of flags of the call's own. -/
def BK (B g cp : Nat) (k : List Bool) (w : World) : Prop := w.ownsRow B 4 1 (.slice (some ⟨g, 0, none⟩) k.length cp) k.length (k.map Value.bool)
theorem BK.cell {B g cp : Nat} {k : List Bool} {w : World} (h : BK B g cp k w) (i : Nat) (x : Bool) (hx : k[i]? = some x) : w.cell? ⟨g, i, none⟩ = some (.bool x) := by
  have hi : i < k.length := (List.getElem?_eq_some_iff.1 hx).1
  have := World.ownsRow.cellAt h i (by simpa using hi)
  rw [this]
  simp [hx]
theorem BK.frozen {B g cp : Nat} {k : List Bool} {w : World} (h : BK B g cp k w) (i : Nat) : w.frozen? ⟨g, i, none⟩ = false := World.ownsRow.frozenAt h i
theorem BK.lt {B g cp : Nat} {k : List Bool} {w : World} (h : BK B g cp k w) : B ≤ g ∧ g < w.heap.size := World.ownsRow.lt h g rfl
theorem own_below {w w' : World} {B base : Nat} {e : TypeId} {size n : Nat} {v : Value} {xs : List Value} (h : w.ownsRow base e size v n xs) (hB : Below B w w') (hl : ∀ q, v.ownBlock = some q → q < B) : w'.ownsRow base e size v n xs := by
  refine ⟨h.1, ?_⟩
  rcases h.2 with h0 | ⟨g, cap, cur, rfl, hg, hgg, r⟩
  · exact .inl h0
  · exact .inr ⟨g, cap, cur, rfl, hg, (hB.block g (hl g rfl)).trans hgg, r⟩
theorem own_mono {w : World} {base base' : Nat} {e : TypeId} {size n : Nat} {v : Value} {xs : List Value} (h : w.ownsRow base e size v n xs) (hb : base' ≤ base) : w.ownsRow base' e size v n xs := by
  refine ⟨h.1, ?_⟩
  rcases h.2 with h0 | ⟨g, cap, cur, rfl, hg, r⟩
  · exact .inl h0
  · exact .inr ⟨g, cap, cur, rfl, Nat.le_trans hb hg, r⟩
theorem BK.later {B g cp : Nat} {k : List Bool} {w w' : World} (h : BK B g cp k w) (hB : Below w.heap.size w w') : BK B g cp k w' := own_below h hB (fun q hq => by cases hq; exact h.lt.2)
theorem BK.mono {B B' g cp : Nat} {k : List Bool} {w : World} (h : BK B g cp k w) (hb : B' ≤ B) : BK B' g cp k w := own_mono h hb
theorem BK.only {B g cp : Nat} {k : List Bool} {w w' : World} {bs : List Nat} (h : BK B g cp k w) (hB : Only bs w w') (hn : g ∉ bs) : BK B g cp k w' := own_only h hB (fun q hq => by cases hq; exact hn)
theorem BK.set {B g cp : Nat} {k : List Bool} {w : World} (h : BK B g cp k w) (i : Nat) (x : Bool) : BK B g cp (k.set i x) (w.setCell ⟨g, i, none⟩ (.bool x)) := by
  have := World.ownsRow.stored h i (.bool x)
  unfold BK
  rw [List.length_set, List.map_set]
  exact this.1
theorem tak_take (k : List Bool) (n : Nat) (x : Bool) (h : k[n]? = some x) : tak (k.take (n + 1)) = tak (k.take n) + (if x then 1 else 0) := by
  unfold tak
  rw [List.take_add_one, h, List.count_append]
  cases x <;> simp

set_option maxHeartbeats 1000000 in
theorem ref_free (B g cp : Nat) (k : List Bool) (w : World) (h : BK B g cp k w) (hk : k.length ≤ 65536) :
    Calls Tryd.prog 13 #[.slice (some ⟨g, 0, none⟩) k.length cp] w fun e w' => e = .returned (.int .i64 (freeN k)) ∧ w = w' := by
  have HH := Lib.hid h
  clear h
  go_enter Tryd.func13, Tryd.ntmps13
  go_wp2_with fail
  go_loopw [3, 7] (fun c i wr => ∃ n : Nat, n ≤ k.length ∧ i = .int .i64 n ∧ (∃ m : Nat, c = .int .i64 m ∧ m ≤ n ∧ m + tak (k.take n) = n) ∧ w = wr) (fun _ i _ => k.length - (intOf i).toNat)
  case atStart => exact ⟨0, Nat.zero_le _, rfl, ⟨0, rfl, Nat.le_refl _, by simp [tak]⟩, rfl⟩
  case round =>
    obtain ⟨n, hn, rfl, ⟨m, rfl, hmn, hm⟩, rfl⟩ := hrel
    by_cases hlt : n < k.length
    · obtain ⟨x, hx⟩ : ∃ x, k[n]? = some x := ⟨_, List.getElem?_eq_getElem hlt⟩
      have c0 := HH.out.cell n x hx
      have ht := tak_take k n x hx
      have HT := Lib.hid ht
      have HM := Lib.hid hm
      clear hx ht hm
      cases x
      · go_wp2_with fail
        refine ⟨⟨n + 1, by omega, by simp, ⟨m + 1, by simp, by omega, ?_⟩, trivial⟩, ?_⟩
        · have h1 := HT.out; have h2 := HM.out; simp at h1; omega
        · simp [intOf]; omega
      · go_wp2_with fail
        refine ⟨⟨n + 1, by omega, by simp, ⟨m, by simp, by omega, ?_⟩, trivial⟩, ?_⟩
        · have h1 := HT.out; have h2 := HM.out; simp at h1; omega
        · simp [intOf]; omega
    · obtain rfl : n = k.length := by omega
      rw [List.take_of_length_le (Nat.le_refl _)] at hm
      have e : m = freeN k := by unfold freeN; omega
      subst e
      clear hm hmn
      go_wp2_with fail
      go_ret
      exact ⟨rfl, rfl⟩

set_option maxHeartbeats 1000000 in
theorem ref_same (a b : Option Addr) (ca cb : Nat) (l : List Int) (w : World) (h1 : Row w [] a ca l) (h2 : Row w [] b cb l) :
    Calls Tryd.prog 21 #[.slice a l.length ca, .slice b l.length cb] w fun e w' => e = .returned (.bool true) ∧ ∃ n, w' = w.drewN n := by
  have hlen := h1.len
  have hc : ∀ n, n < l.length → ∃ b1 o1 b2 o2 x, a = some ⟨b1, o1, none⟩ ∧ b = some ⟨b2, o2, none⟩ ∧ w.cell? ⟨b1, o1 + n, none⟩ = some (.int .i64 x) ∧ w.cell? ⟨b2, o2 + n, none⟩ = some (.int .i64 x) := fun n hn => by
    rcases h1.lies with rfl | ⟨b1, o1, e1, _, _, i1⟩
    · simp at hn
    · rcases h2.lies with rfl | ⟨b2, o2, e2, _, _, i2⟩
      · simp at hn
      · exact ⟨b1, o1, b2, o2, l[n], e1, e2, i1 n _ (List.getElem?_eq_getElem hn), i2 n _ (List.getElem?_eq_getElem hn)⟩
  have HC := Lib.hid hc
  clear hc h1 h2
  go_enter Tryd.func21, Tryd.ntmps21
  go_wp2_with fail
  go_loopw [13] (fun i wr => ∃ n : Nat, n ≤ l.length ∧ i = .int .i64 n ∧ ∃ q, wr = w.drewN q) (fun i _ => l.length - (intOf i).toNat)
  case atStart => exact ⟨0, Nat.zero_le _, rfl, 0, rfl⟩
  case round =>
    obtain ⟨n, hn, rfl, q, rfl⟩ := hrel
    by_cases hlt : n < l.length
    · obtain ⟨b1, o1, b2, o2, x, rfl, rfl, c1, c2⟩ := HC.out n hlt
      have hp0 : (0 : Int) ≤ (n : Int) := by omega
      have hp1 : (n : Int) < (l.length : Int) := by omega
      clear HC
      go_wp2_with fail
      go_quiet (fail)
      go_wp2_with fail
      refine ⟨⟨n + 1, by omega, by simp, ⟨_, rfl⟩⟩, ?_⟩
      simp [intOf]; omega
    · obtain rfl : n = l.length := by omega
      go_wp2_with fail
      go_ret
      exact ⟨rfl, q, rfl⟩
end Go.Proofs.YtdpfhpecidmllaaDoor.Ext
