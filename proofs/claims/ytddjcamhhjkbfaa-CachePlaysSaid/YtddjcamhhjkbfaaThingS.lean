/- The things of a cache of string, in memory; the first one of a row that is so. -/
import Derived.Test.YtddjcamhhjkbfaaBase
import Derived.OwnWalk
import Derived.Maps.AppendAt
import Derived.Outline
namespace Go.Proofs.Ytddjcamhhjkbfaa.CS
open Go.RowKit Mem

/-- A thing. -/
structure Th where
  key : Int
  size : Int
  x : ByteArray

def Th.vs (t : Th) : List Value := [.int .i64 t.key, .int .i64 t.size, .string (t.x)]
def Th.v (t : Th) : Value := .agg #[.int .i64 t.key, .int .i64 t.size, .string (t.x)]
def flat (ts : List Th) : List Value := ts.flatMap Th.vs
theorem flat_cons (t : Th) (ts : List Th) : flat (t :: ts) = t.vs ++ flat ts := rfl
theorem flat_append (a b : List Th) : flat (a ++ b) = flat a ++ flat b := by simp [flat]
theorem flat_length (ts : List Th) : (flat ts).length = ts.length * 3 := by
  induction ts with
  | nil => rfl
  | cons t r ih => rw [flat_cons, List.length_append, ih]; simp [Th.vs]; omega
theorem flat_at : ∀ (ts : List Th) (i : Nat) (t : Th), ts[i]? = some t → (flat ts)[i * 3]? = some (.int .i64 t.key) ∧ (flat ts)[i * 3 + 1]? = some (.int .i64 t.size) ∧ (flat ts)[i * 3 + 2]? = some (.string (t.x))
  | [], i, t, h => by simp at h
  | y :: r, 0, t, h => by
    obtain rfl : y = t := by simpa using h
    simp [flat_cons, Th.vs]
  | y :: r, i + 1, t, h => by
    have h' : r[i]? = some t := by simpa using h
    obtain ⟨h1, h2, h3⟩ := flat_at r i t h'
    have e : ∀ j, (flat (y :: r))[(i + 1) * 3 + j]? = (flat r)[i * 3 + j]? := fun j => by
      rw [flat_cons, List.getElem?_append_right (by simp [Th.vs]; omega)]
      congr 1
      simp [Th.vs]
      omega
    exact ⟨(e 0).trans h1, (e 1).trans h2, (e 2).trans h3⟩

theorem info : (Try.prog.info? 63).map (fun i => (i.zero, i.size, i.bytes)) = some (some (.agg #[.int .i64 0, .int .i64 0, .string ByteArray.empty]), 3, 32) := by kernel_rfl

/-- What a predicate of the program answers of every thing, in each later world. -/
def Asks (g : Nat) (lb : Array Value) (p : Th → Bool) (w : World) : Prop :=
  (∀ args W, (callFunc g args).run Try.prog W = .ok (.enter g args) W) ∧
  ∀ (W : World) (t : Th), Below w.heap.size w W → Calls Try.prog g (#[t.v] ++ lb) W fun e w' => e = .returned (.bool (p t)) ∧ Below W.heap.size W w'

theorem addr_add (g j : Nat) : (⟨g, 0, none⟩ : Addr).add j = ⟨g, j, none⟩ := by
  unfold Addr.add
  split <;> simp_all

/-- The cells of a row of things, thing by thing. -/
def Row (w : World) (b : Nat) (ts : List Th) : Prop := ∀ i t, ts[i]? = some t → w.cell? ⟨b, i * 3, none⟩ = some (.int .i64 t.key) ∧ w.cell? ⟨b, i * 3 + 1, none⟩ = some (.int .i64 t.size) ∧ w.cell? ⟨b, i * 3 + 2, none⟩ = some (.string (t.x))
theorem Row.of_own {w : World} {B b cap n : Nat} {ts : List Th} (h : w.ownsRow B 63 3 (.slice (some ⟨b, 0, none⟩) n cap) n (flat ts)) : Row w b ts := fun i t ht => by
  have hc := h.cells (g := b) rfl
  obtain ⟨h1, h2, h3⟩ := flat_at ts i t ht
  have e1 := hc _ _ h1
  have e2 := hc _ _ h2
  have e3 := hc _ _ h3
  rw [addr_add] at e1 e2 e3
  exact ⟨e1, e2, e3⟩
theorem Row.below {w w' : World} {B b : Nat} {ts : List Th} (h : Row w b ts) (hB : Below B w w') (hb : b < B) : Row w' b ts := fun i t ht => by
  obtain ⟨h1, h2, h3⟩ := h i t ht
  exact ⟨(hB.cell (p := ⟨b, i * 3, none⟩) hb).trans h1, (hB.cell (p := ⟨b, i * 3 + 1, none⟩) hb).trans h2, (hB.cell (p := ⟨b, i * 3 + 2, none⟩) hb).trans h3⟩

/-- The number of the first thing that is so; -1. -/
def firstOf (p : Th → Bool) (ts : List Th) : Int := (ts.findIdx? p).elim (-1) (fun i => (i : Int))
theorem firstOf_no {p : Th → Bool} {ts : List Th} (h : ∀ j t, j < ts.length → ts[j]? = some t → p t = false) : firstOf p ts = -1 := by
  unfold firstOf
  rw [List.findIdx?_eq_none_iff.2 (fun x hx => by
    obtain ⟨i, hi⟩ := List.getElem?_of_mem hx
    exact h i x (List.getElem?_eq_some_iff.1 hi).1 hi)]
  rfl
theorem firstOf_at {p : Th → Bool} {ts : List Th} {k : Nat} {t : Th} (ht : ts[k]? = some t) (hp : p t = true) (h : ∀ j u, j < k → ts[j]? = some u → p u = false) : firstOf p ts = (k : Int) := by
  unfold firstOf
  obtain ⟨hk, e⟩ := List.getElem?_eq_some_iff.1 ht
  rw [List.findIdx?_eq_some_iff_getElem.2 ⟨hk, by rw [e]; exact hp, fun j hj => by
    have := h j ts[j] hj (List.getElem?_eq_getElem (by omega))
    simp [this]⟩]
  rfl

set_option maxHeartbeats 1000000 in
theorem index_any (g : Nat) (lb : Array Value) (p : Th → Bool) (b cap : Nat) (ts : List Th) (w : World) (hp : Asks g lb p w) (hrow : Row w b ts) (hb : b < w.heap.size) (hl : ts.length ≤ 1000) :
    Calls Try.prog 40 #[.slice (some ⟨b, 0, none⟩) ts.length cap, .func (.func g) #[] lb] w fun e w' => e = .returned (.int .i64 (firstOf p ts)) ∧ Below w.heap.size w w' := by
  obtain ⟨eg, hc⟩ := hp
  have HC := Lib.hid hc
  have HR := Lib.hid hrow
  clear hc hrow
  go_enter Try.func40, Try.ntmps40
  go_wp2_with fail
  go_loopw [8] (fun i wr => ∃ k : Nat, k ≤ ts.length ∧ i = .int .i64 k ∧ Hid (∀ j t, j < k → ts[j]? = some t → p t = false) ∧ Below w.heap.size w wr) (fun i _ => ts.length - (intOf i).toNat)
  case atStart => exact ⟨0, Nat.zero_le _, rfl, fun j t h => by omega, Below.refl _ _⟩
  case round =>
    obtain ⟨k, hk, rfl, hno, hB⟩ := hrel
    by_cases hlt : k < ts.length
    · obtain ⟨t, ht⟩ : ∃ t, ts[k]? = some t := ⟨_, List.getElem?_eq_getElem hlt⟩
      obtain ⟨f1, f2, f3⟩ := (HR.out.below hB hb) k t ht
      have HT := Lib.hid ht
      clear ht
      rcases hpt : p t with _ | _
      · have HP := Lib.hid hpt
        go_wp2_with fail
        refine (HC.out wr t hB).mono ?_
        rintro e w1 ⟨rfl, hB1⟩
        rw [HP.out]
        have HB1 := Lib.hid hB1
        clear hB1
        go_wp2_with fail
        go_roundw
        case rel =>
          refine ⟨k + 1, by omega, by go_num, fun j u hj hu => ?_, hB.trans (HB1.out.mono hB.size)⟩
          by_cases e : j = k
          · subst e
            have := HT.out.symm.trans hu
            cases this
            exact HP.out
          · exact hno.out j u (by omega) hu
        case measure => simp [intOf]; omega
      · have HP := Lib.hid hpt
        go_wp2_with fail
        refine (HC.out wr t hB).mono ?_
        rintro e w1 ⟨rfl, hB1⟩
        rw [HP.out]
        have HB1 := Lib.hid hB1
        clear hB1
        go_wp2_with fail
        go_ret
        exact ⟨by rw [firstOf_at HT.out HP.out hno.out]; rfl, hB.trans (HB1.out.mono hB.size)⟩
    · obtain rfl : k = ts.length := by omega
      go_wp2_with fail
      go_ret
      exact ⟨by rw [firstOf_no hno.out]; rfl, hB⟩
end Go.Proofs.Ytddjcamhhjkbfaa.CS
