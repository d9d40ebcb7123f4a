/- VisitLaw2, VisitLaw3, FrameGet, FrameAll, Disk, Slot, ManRead, Map, Store, StoreRW, StoreR, Names, Remove, FrameLaw, Sto, Sees, Recs, Compare, Collect, AppendSeq, Chunk, SortRec, SortAny, Sorted, Section, SectionW, IsSorted, CloneRows, Less, Swap, PopHeads, in one text. -/
import Derived.Test.YtndkohocgfmamaaGreatG2
import Derived.Laws.ResultCell
import Derived.Deep.RegionHeld3
import Derived.Outline
import Derived.Test.YtndkohocgfmamaaGreatIter
import Derived.RangeFuncBound
import Derived.RangeFuncNested
import Derived.Maps.OwnSet
import Derived.Maps.Range
import Derived.StringKeys
import Derived.Maps.RangeWalk
import Derived.Test.YtndkohocgfmamaaGreatShelf
import Derived.RangeFuncWrites
import Derived.OwnWalkIn
import Derived.Deep.AppendLies
import Derived.Lib.Bytealg
import Derived.Laws.Externs
import Derived.RangeFuncBox
import Derived.RangeFuncLeaves
import Derived.Shelf.Abstract
import Derived.TacticsInMore
import Derived.LoopNIn
import Derived.LoopIn
import Derived.Shelf.SlIter.Collect
import Derived.Sort.QuietIn
import Derived.Test.YtndkohocgfmamaaGreatLay2
import Derived.Deep.QuietTactic
import Derived.BigQuiet
import Derived.RegionTactic
import Derived.ChangeAlike
/- Layer 27, plain: what is held, what was added. -/
namespace Go.Proofs.YtndkohocgfmamaaGreat.Visit
open Go.Proofs.YtndkohocgfmamaaGreat.Merge

/-- Distinct pairs, each with a count. -/
structure Held (H : List KC) : Prop where
  ok : ∀ p ∈ H, okP p
  one : H.Pairwise (fun p q => p.1 ≠ q.1)
theorem held_nil : Held [] := ⟨fun _ h => (by cases h), List.Pairwise.nil⟩
theorem tot_none {l : List KC} {k : Nat} (h : ∀ p ∈ l, p.1 ≠ k) : tot l k = 0 := by
  unfold tot
  rw [List.filter_eq_nil_iff.2 (fun p hp => by simpa using h p hp)]
  rfl
theorem Held.tot {H : List KC} (h : Held H) {p : KC} (hp : p ∈ H) : tot H p.1 = p.2 := by
  obtain ⟨h1, h2⟩ := h
  clear h1
  revert hp
  induction H with
  | nil => intro hp; cases hp
  | cons a t ih =>
    intro hp
    obtain ⟨h3, h4⟩ := List.pairwise_cons.1 h2
    rw [tot_cons]
    rcases List.mem_cons.1 hp with rfl | hp
    · rw [if_pos rfl, tot_none (fun q hq => (h3 q hq).symm)]
      rfl
    · rw [if_neg (h3 p hp), ih h4 hp, Nat.zero_add]
theorem Held.mem {H : List KC} (h : Held H) {k : Nat} (hk : Visit.tot H k ≠ 0) : (k, Visit.tot H k) ∈ H := by
  obtain ⟨p, hp, rfl⟩ := (tot_pos (fun p hp => (h.ok p hp).2.1) k).1 (by omega)
  rw [h.tot hp]
  exact hp
theorem Held.tot_le {H : List KC} (h : Held H) (k : Nat) : Visit.tot H k ≤ top64 := by
  by_cases hk : Visit.tot H k = 0
  · rw [hk]; exact Nat.zero_le _
  · exact (h.ok _ (h.mem hk)).2.2
/-- One more count of a pair. -/
def putH (H : List KC) (p : KC) : List KC := H.filter (fun q => q.1 != p.1) ++ [(p.1, sat (tot H p.1 + p.2))]
theorem tot_filter (H : List KC) (k k' : Nat) : tot (H.filter (fun q => q.1 != k)) k' = if k' = k then 0 else tot H k' := by
  induction H with
  | nil => simp [tot_nil]
  | cons a t ih =>
    rw [List.filter_cons]
    by_cases e : a.1 = k
    · have : (a.1 != k) = false := by simpa using e
      rw [this]
      simp only [Bool.false_eq_true, if_false]
      rw [ih, tot_cons]
      by_cases e2 : k' = k
      · rw [if_pos e2, if_pos e2]
      · rw [if_neg e2, if_neg e2, if_neg (by omega), Nat.zero_add]
    · have : (a.1 != k) = true := by simpa using e
      rw [this]
      simp only [if_true]
      rw [tot_cons, tot_cons, ih]
      by_cases e2 : k' = k
      · rw [if_pos e2, if_pos e2, if_neg (by omega)]
      · rw [if_neg e2, if_neg e2]
theorem tot_putH (H : List KC) (p : KC) (k : Nat) : tot (putH H p) k = if k = p.1 then sat (tot H p.1 + p.2) else tot H k := by
  unfold putH
  rw [tot_append, tot_filter, tot_cons, tot_nil]
  by_cases e : k = p.1
  · rw [if_pos e, if_pos e, if_pos e.symm]; omega
  · rw [if_neg e, if_neg e, if_neg (fun h => e h.symm)]; omega
theorem Held.put {H : List KC} (h : Held H) {p : KC} (hp : okP p) : Held (putH H p) := by
  unfold putH
  refine ⟨fun q hq => ?_, List.pairwise_append.2 ⟨h.one.filter _, by simp, fun a ha b hb => ?_⟩⟩
  · rcases List.mem_append.1 hq with hq | hq
    · exact h.ok q (List.mem_filter.1 hq).1
    · have e : q = (p.1, sat (Visit.tot H p.1 + p.2)) := by simpa using hq
      rw [e]
      refine ⟨hp.1, ?_, sat_le _⟩
      show 0 < sat (Visit.tot H p.1 + p.2)
      have := hp.2.1
      unfold sat
      split
      · omega
      · decide
  · have e : b = (p.1, sat (Visit.tot H p.1 + p.2)) := by simpa using hb
    rw [e]
    have := (List.mem_filter.1 ha).2
    simpa using this
theorem filter_ne_length {H : List KC} (h : H.Pairwise (fun p q => p.1 ≠ q.1)) (k : Nat) : (H.filter (fun q => q.1 != k)).length + (if (∃ p ∈ H, p.1 = k) then 1 else 0) = H.length := by
  induction H with
  | nil => simp
  | cons a t ih =>
    obtain ⟨h3, h4⟩ := List.pairwise_cons.1 h
    have ih := ih h4
    rw [List.filter_cons]
    by_cases e : a.1 = k
    · have hb : (a.1 != k) = false := by simpa using e
      rw [hb]
      have hn : ¬ ∃ p ∈ t, p.1 = k := fun ⟨p, hp, e2⟩ => h3 p hp (by omega)
      rw [if_neg hn] at ih
      have hy : ∃ p ∈ a :: t, p.1 = k := ⟨a, by simp, e⟩
      rw [if_pos hy, List.length_cons]
      simpa using ih
    · have hb : (a.1 != k) = true := by simpa using e
      rw [hb]
      simp only [if_true, List.length_cons]
      have hiff : (∃ p ∈ a :: t, p.1 = k) ↔ ∃ p ∈ t, p.1 = k := by
        constructor
        · rintro ⟨p, hp, e2⟩
          rcases List.mem_cons.1 hp with rfl | hp
          · exact absurd e2 e
          · exact ⟨p, hp, e2⟩
        · rintro ⟨p, hp, e2⟩
          exact ⟨p, by simp [hp], e2⟩
      by_cases hx : ∃ p ∈ t, p.1 = k
      · rw [if_pos hx] at ih
        rw [if_pos (hiff.2 hx)]
        omega
      · rw [if_neg hx] at ih
        rw [if_neg (fun h => hx (hiff.1 h))]
        omega
theorem putH_length {H : List KC} (h : Held H) (p : KC) : (putH H p).length = H.length + (if tot H p.1 = 0 then 1 else 0) := by
  have h1 := filter_ne_length h.one p.1
  have h2 := tot_pos (fun p hp => (h.ok p hp).2.1) p.1
  unfold putH
  rw [List.length_append]
  simp only [List.length_cons, List.length_nil]
  by_cases hx : ∃ q ∈ H, q.1 = p.1
  · have := h2.2 hx
    rw [if_pos hx] at h1
    rw [if_neg (by omega)]
    omega
  · have : ¬ 0 < tot H p.1 := fun h => hx (h2.1 h)
    rw [if_neg hx] at h1
    rw [if_pos (by omega)]
    omega
/-- What is in memory and in the runs is what was added. -/
structure Sums (V R : List KC) : Prop where
  ok : ∀ p ∈ R, okP p
  sum : ∀ k, sat (tot R k) = sat (tot V k)
  pos : ∀ k, 0 < tot R k ↔ 0 < tot V k
theorem sums_nil : Sums [] [] := ⟨fun _ h => (by cases h), fun _ => rfl, fun _ => Iff.rfl⟩
theorem Sums.perm {V R R' : List KC} (h : Sums V R) (hp : R'.Perm R) : Sums V R' :=
  ⟨fun p hp' => h.ok p (hp.mem_iff.1 hp'), fun k => by rw [tot_perm hp, h.sum], fun k => by rw [tot_perm hp, h.pos]⟩
/-- Nothing was added. -/
theorem Sums.none {V R : List KC} (h : Sums V R) (k : Nat) : Sums (V ++ [(k, 0)]) R := by
  have e : ∀ k', tot (V ++ [(k, 0)]) k' = tot V k' := fun k' => by
    rw [tot_append, tot_cons, tot_nil]
    split <;> omega
  exact ⟨h.ok, fun k' => by rw [e, h.sum], fun k' => by rw [e, h.pos]⟩
theorem Sums.put {V H R : List KC} (h : Sums V (H ++ R)) (hH : Held H) {p : KC} (hp : okP p) : Sums (V ++ [p]) (putH H p ++ R) := by
  refine ⟨fun q hq => ?_, fun k => ?_, fun k => ?_⟩
  · rcases List.mem_append.1 hq with hq | hq
    · exact (hH.put hp).ok q hq
    · exact h.ok q (List.mem_append_right _ hq)
  · have h1 := h.sum k
    rw [tot_append] at h1
    rw [tot_append, tot_putH, tot_append, tot_cons, tot_nil]
    by_cases e : k = p.1
    · rw [if_pos e, if_pos e.symm, sat_sat, ← e, Nat.add_zero, ← sat_sat (tot V k) p.2, ← h1, sat_sat]
      congr 1
      omega
    · rw [if_neg e, if_neg (fun h => e h.symm)]
      simpa using h1
  · have h1 := h.pos k
    rw [tot_append] at h1
    rw [tot_append, tot_putH, tot_append, tot_cons, tot_nil]
    have hp0 := hp.2.1
    by_cases e : k = p.1
    · rw [if_pos e, if_pos e.symm]
      have : 0 < sat (tot H p.1 + p.2) := by
        unfold sat
        split
        · omega
        · decide
      constructor <;> intro <;> omega
    · rw [if_neg e, if_neg (fun h => e h.symm)]
      simpa using h1
theorem nodup_perm {α : Type} [DecidableEq α] {l m : List α} (hl : l.Nodup) (hm : m.Nodup) (h : ∀ x, x ∈ l ↔ x ∈ m) : l.Perm m := by
  rw [List.perm_iff_count]
  intro a
  rw [hl.count, hm.count]
  simp [h a]
theorem Held.nodup {H : List KC} (h : Held H) : H.Nodup := h.one.imp (fun {a b} hne e => hne (by rw [e]))
/-- What All answers. -/
structure Answers (V out : List KC) : Prop where
  rises : out.Pairwise (fun p q => p.1 < q.1)
  some_ : ∀ k, (∃ p ∈ out, p.1 = k) ↔ 0 < tot V k
  sum : ∀ p ∈ out, p.2 = sat (tot V p.1)
  ok : ∀ p ∈ out, okP p
theorem answers_of {V R K : List KC} (h : Sums V R) (hp : K.Perm R) (hr : K.Pairwise (fun p q => p.1 ≤ q.1)) : Answers V (merged K) := by
  have hok : ∀ p ∈ K, okP p := fun p hp' => h.ok p (hp.mem_iff.1 hp')
  obtain ⟨⟨h1, h2, h3⟩, _⟩ := merged_is K hr (fun p hp' => (hok p hp').2.2)
  have hsum : ∀ p ∈ merged K, p.2 = sat (tot V p.1) := fun p hp' => by rw [h3 p hp', tot_perm hp, h.sum]
  refine ⟨h1, fun k => ?_, hsum, fun p hp' => ?_⟩
  · rw [h2 k, ← tot_pos (fun p hp' => (hok p hp').2.1) k, tot_perm hp, h.pos]
  · obtain ⟨q, hq, e⟩ := (h2 p.1).1 ⟨p, hp', rfl⟩
    refine ⟨by rw [← e]; exact (hok q hq).1, ?_, by rw [hsum p hp']; exact sat_le _⟩
    have := (tot_pos (fun p hp' => (hok p hp').2.1) p.1).2 ⟨q, hq, e⟩
    rw [h3 p hp']
    unfold sat
    split
    · exact this
    · decide
end Go.Proofs.YtndkohocgfmamaaGreat.Visit

/- Layer 27, plain: how the statement counts the pairs. -/
namespace Go.Proofs.YtndkohocgfmamaaGreat.Visit
open Go.Proofs.YtndkohocgfmamaaGreat.Merge

/-- Is the visit at j the first one of its pair that counts? -/
def firstB (V : List KC) (j : Nat) : Bool :=
  match V[j]? with
  | some p => decide (0 < p.2) && decide (tot (V.take j) p.1 = 0)
  | none => false
def pairsN (V : List KC) : Nat → Nat
  | 0 => 0
  | j + 1 => pairsN V j + (if firstB V j = true then 1 else 0)
theorem pairsN_le (V : List KC) (j : Nat) : pairsN V j ≤ j := by
  induction j with
  | zero => exact Nat.le_refl _
  | succ j ih => unfold pairsN; split <;> omega
theorem pairs_keys (V : List KC) : ∀ j, j ≤ V.length → ∃ ks : List Nat, ks.Nodup ∧ ks.length = pairsN V j ∧ ∀ k, k ∈ ks ↔ 0 < tot (V.take j) k := by
  intro j
  induction j with
  | zero => intro _; exact ⟨[], List.nodup_nil, rfl, fun k => by simp [tot_nil]⟩
  | succ j ih =>
    intro hj
    obtain ⟨ks, h1, h2, h3⟩ := ih (by omega)
    obtain ⟨p, hp⟩ : ∃ p, V[j]? = some p := ⟨V[j], List.getElem?_eq_getElem (by omega)⟩
    have htk : V.take (j + 1) = V.take j ++ [p] := by rw [List.take_add_one, hp]; rfl
    have ht : ∀ k, tot (V.take (j + 1)) k = tot (V.take j) k + (if p.1 = k then p.2 else 0) := fun k => by
      rw [htk, tot_append, tot_cons, tot_nil, Nat.add_zero]
    have hf : firstB V j = (decide (0 < p.2) && decide (tot (V.take j) p.1 = 0)) := by unfold firstB; rw [hp]
    unfold pairsN
    by_cases hb : firstB V j = true
    · rw [if_pos hb]
      rw [hf] at hb
      simp at hb
      refine ⟨p.1 :: ks, List.nodup_cons.2 ⟨fun hm => by have := (h3 p.1).1 hm; omega, h1⟩, by simp [h2], fun k => ?_⟩
      rw [ht k, List.mem_cons, h3 k]
      by_cases e : p.1 = k
      · rw [if_pos e]
        constructor
        · intro _; omega
        · intro _; exact .inl e.symm
      · rw [if_neg e]
        constructor
        · rintro (h | h)
          · exact absurd h.symm e
          · omega
        · intro h; right; omega
    · rw [if_neg hb]
      rw [hf] at hb
      simp at hb
      refine ⟨ks, h1, by simp [h2], fun k => ?_⟩
      rw [ht k, h3 k]
      by_cases e : p.1 = k
      · rw [if_pos e]
        constructor
        · intro h; omega
        · intro h
          by_cases h0 : 0 < p.2
          · have := hb h0
            rw [e] at this
            omega
          · omega
      · rw [if_neg e, Nat.add_zero]
theorem Answers.keys_nodup {V out : List KC} (h : Answers V out) : (out.map Prod.fst).Nodup := List.pairwise_map.2 (h.rises.imp (fun {a b} hlt e => by omega))
theorem Answers.pairs {V out : List KC} (h : Answers V out) : pairsN V V.length = out.length := by
  obtain ⟨ks, h1, h2, h3⟩ := pairs_keys V V.length (Nat.le_refl _)
  rw [List.take_length] at h3
  have hp := nodup_perm h1 h.keys_nodup (fun k => by
    rw [h3 k, ← h.some_ k, List.mem_map])
  have := hp.length_eq
  rw [List.length_map] at this
  omega
theorem Answers.met {V out : List KC} (h : Answers V out) {j : Nat} {p : KC} (hp : V[j]? = some p) (hf : firstB V j = true) : (p.1, sat (tot V p.1)) ∈ out := by
  have h0 : 0 < p.2 := by
    unfold firstB at hf
    rw [hp] at hf
    simp at hf
    exact hf.1
  have ht : 0 < tot V p.1 := by
    obtain ⟨s, t, e⟩ := List.append_of_mem (List.mem_of_getElem? hp)
    rw [e, tot_append, tot_cons, if_pos rfl]
    omega
  obtain ⟨q, hq, e⟩ := (h.some_ p.1).2 ht
  have : q = (p.1, sat (tot V p.1)) := Prod.ext e (by rw [h.sum q hq, e])
  rw [← this]
  exact hq
/-- The statement's two running facts on the visit at i, behind k visits. -/
def runN (V : List KC) (i k : Nat) (p : KC) : Bool := decide (0 < p.2) && decide (tot (V.take (min k i)) p.1 = 0)
theorem runN_start (V : List KC) (i : Nat) (p : KC) : runN V i 0 p = decide (0 < p.2) := by simp [runN, tot_nil]
theorem runN_end {V : List KC} {i : Nat} {p : KC} (hp : V[i]? = some p) : runN V i V.length p = firstB V i := by
  have := (List.getElem?_eq_some_iff.1 hp).1
  unfold runN firstB
  rw [hp, Nat.min_eq_right (by omega)]
theorem runN_step {V : List KC} {i k : Nat} {p q : KC} (hq : V[k]? = some q) : runN V i (k + 1) p = (if q.1 = p.1 then runN V i k p && (decide (i ≤ k) || decide (q.2 = 0)) else runN V i k p) := by
  unfold runN
  by_cases hk : i ≤ k
  · rw [Nat.min_eq_right (by omega), Nat.min_eq_right hk]
    simp [hk]
  · rw [Nat.min_eq_left (by omega), Nat.min_eq_left (by omega), List.take_add_one, hq]
    show (decide (0 < p.2) && decide (tot (V.take k ++ [q]) p.1 = 0)) = _
    rw [tot_append, tot_cons, tot_nil]
    by_cases e : q.1 = p.1
    · simp [hk, e, Bool.and_assoc]
    · simp [e]
theorem sumN_step {V : List KC} {k : Nat} {p q : KC} (hq : V[k]? = some q) : sat (tot (V.take (k + 1)) p.1) = (if q.1 = p.1 then sat (sat (tot (V.take k) p.1) + q.2) else sat (tot (V.take k) p.1)) := by
  rw [List.take_add_one, hq]
  show sat (tot (V.take k ++ [q]) p.1) = _
  rw [tot_append, tot_cons, tot_nil]
  split
  · rw [sat_sat]
    rfl
  · rfl
end Go.Proofs.YtndkohocgfmamaaGreat.Visit

/- Layer 5: Get of a section. -/
namespace Go.Proofs.YtndkohocgfmamaaGreat.Frame
open Go.RowKit Go.Deep Mem Crc

/-- The number that stands in four bytes, behind the first one. -/
def num (h : List UInt8) : Nat := (h.getD 1 0).toNat + (h.getD 2 0).toNat * 256 + (h.getD 3 0).toNat * 65536 + (h.getD 4 0).toNat * 16777216
/-- The section in front: its kind, its body, how many bytes it takes, the error's number. -/
def got (bs : List UInt8) : UInt8 × List UInt8 × Nat × Int :=
  if bs.length < 9 then (0, [], 0, 2)
  else if fitsE (bs.take 9) = 5 then (0, [], 0, 5)
  else if 1048576 < num (bodyOf (bs.take 9)) then (0, [], 0, 4)
  else if bs.length < 13 + num (bodyOf (bs.take 9)) then (0, [], 0, 2)
  else if fitsE ((bs.drop 9).take (num (bodyOf (bs.take 9)) + 4)) = 5 then (0, [], 0, 5)
  else ((bs.take 9).getD 0 0, bodyOf ((bs.drop 9).take (num (bodyOf (bs.take 9)) + 4)), 13 + num (bodyOf (bs.take 9)), 0)
theorem fitsE_cases {bs : List UInt8} (h : 4 ≤ bs.length) : fitsE bs = 0 ∨ fitsE bs = 5 := by
  unfold fitsE
  rw [if_neg (by omega)]
  split
  · exact .inl rfl
  · exact .inr rfl
theorem fitsL_ok {bs : List UInt8} (h : 4 ≤ bs.length) (h2 : fitsE bs = 0) : fitsL bs = bodyOf bs := by
  unfold fitsE at h2
  rw [if_neg (by omega)] at h2
  unfold fitsL
  by_cases hm : marked (bodyOf bs) = bs
  · rw [if_pos ⟨h, hm⟩]
  · rw [if_neg hm] at h2; cases h2
theorem i64_or_nat (a b : Nat) (ha : a < 9223372036854775808) (hb : b < 9223372036854775808) : bits .or .i64 (a : Int) (b : Int) = ((a ||| b : Nat) : Int) := by
  have hx : a ||| b < 2 ^ 63 := Nat.or_lt_two_pow (by omega) (by omega)
  show IntKind.i64.wrap ((BitVec.ofInt 64 (a : Int) ||| BitVec.ofInt 64 (b : Int)).toNat : Int) = _
  rw [BitVec.toNat_or, ofInt_u64 a (by omega), ofInt_u64 b (by omega)]
  exact IntWalk.i64_in _ (by omega)
theorem or_four (a b c d : Nat) (ha : a < 256) (hb : b < 256) (hc : c < 256) (hd : d < 256) :
    bits .or .i64 (bits .or .i64 (bits .or .i64 (a : Int) ((b : Int) * 256)) ((c : Int) * 65536)) ((d : Int) * 16777216) = ((a + b * 256 + c * 65536 + d * 16777216 : Nat) : Int) := by
  have e1 : bits .or .i64 (a : Int) ((b : Int) * 256) = ((a + b * 256 : Nat) : Int) := by
    have := i64_or_nat a (b * 256) (by omega) (by omega)
    rw [Nat.or_comm, nat_join 8 (b * 256) a (by omega) (by omega)] at this
    rw [show ((b : Int) * 256) = ((b * 256 : Nat) : Int) by omega, this]
    congr 1
    omega
  have e2 : bits .or .i64 ((a + b * 256 : Nat) : Int) ((c : Int) * 65536) = ((a + b * 256 + c * 65536 : Nat) : Int) := by
    have := i64_or_nat (a + b * 256) (c * 65536) (by omega) (by omega)
    rw [Nat.or_comm, nat_join 16 (c * 65536) (a + b * 256) (by omega) (by omega)] at this
    rw [show ((c : Int) * 65536) = ((c * 65536 : Nat) : Int) by omega, this]
    congr 1
    omega
  have := i64_or_nat (a + b * 256 + c * 65536) (d * 16777216) (by omega) (by omega)
  rw [Nat.or_comm, nat_join 24 (d * 16777216) (a + b * 256 + c * 65536) (by omega) (by omega)] at this
  rw [e1, e2, show ((d : Int) * 16777216) = ((d * 16777216 : Nat) : Int) by omega, this]
  congr 1
  omega
theorem box_set {w : World} {b : Nat} {t : TypeId} {p q : Value} (h : Blk w b t #[p, q]) (x y : Value) : Blk ((w.setCell ⟨b, 0, none⟩ x).setCell ⟨b, 1, none⟩ y) b t #[x, y] := (h.set 0 x).set 1 y
/-- What Get leaves. -/
structure Got (bs : List UInt8) (w : World) (e : Ending) (w' : World) : Prop where
  out : ∃ v, e = .returned (.tuple #[.agg #[bv (got bs).1, v], .int .i64 (got bs).2.2.1, .int .i64 (got bs).2.2.2]) ∧ OwnB w' w.heap.size v (got bs).2.1
  below : Below w.heap.size w w'
set_option maxHeartbeats 400000 in
set_option maxRecDepth 100000 in
theorem get_any (a : Option Addr) (cp : Nat) (bs : List UInt8) (w : World) (h : Lies w a (bs.map bv)) (hcp : bs.length ≤ cp) (hm : bs.length ≤ 3000000) :
    Calls Tryz.prog 87 #[.slice a bs.length cp] w fun e w' => Got bs w e w' := by
  by_cases h9 : bs.length < 9
  · have e0 : got bs = (0, [], 0, 2) := if_pos h9
    clear h hcp
    go_enter Tryz.func87, Tryz.ntmps87
    go_wp2_with fail
    refine bodyPost_ret (v := .tuple #[.agg #[.int .u8 0, .slice none 0 0], .int .i64 0, .int .i64 2]) (by simp [results, Tryz.results87, go_sem]) rfl ⟨⟨.slice none 0 0, by rw [e0]; rfl, by rw [e0]; exact World.ownsRow_nil _ _ _ _⟩, (Below.refl _ w).alloc (Nat.le_refl _) _⟩
  · obtain ⟨g, off, rfl, hg, hc⟩ := h.resolve_left (fun e => by
      rw [List.map_eq_nil_iff] at e
      subst e
      exact h9 (by decide))
    have hL : Lies w (some ⟨g, off, none⟩) (bs.map bv) := .inr ⟨g, off, rfl, hg, hc⟩
    obtain ⟨h, hh⟩ : ∃ h, h = bs.take 9 := ⟨_, rfl⟩
    have hhl : h.length = 9 := by rw [hh, List.length_take]; omega
    have hL9 : Lies (w.alloc (.cells #[.int .u8 0, .slice none 0 0] 137)) (some ⟨g, off, none⟩) (h.map bv) := by
      rw [hh, List.map_take]
      exact (hL.later ((Below.refl _ w).alloc (Nat.le_refl _) _)).take _
    have hfit := fits_any (some ⟨g, off, none⟩) cp h _ hL9 (by omega) (by omega)
    rw [hhl] at hfit
    have HF := Lib.hid hfit
    have h9c : (9 : Nat) ≤ cp := by omega
    have hb9 : decide ((bs.length : Int) < 9) = false := by simp; omega
    have HL := Lib.hid hL
    have hal := (Below.refl w.heap.size w).alloc (Nat.le_refl _) (.cells #[.int .u8 0, .slice none 0 0] 137)
    have hbx := Blk.new w 137 #[.int .u8 0, .slice none 0 0]
    have HAL := Lib.hid hal
    have HBX := Lib.hid hbx
    have HH := Lib.hid hh
    clear hc hg hL hL9 hfit hal hbx hh
    go_enter Tryz.func87, Tryz.ntmps87
    go_wp2_with fail
    refine HF.out.mono ?_
    rintro e w1 ⟨v1, rfl, hown1, hB1⟩
    have hbx1 := HBX.out.below hB1 HBX.out.lt
    have x0 := hbx1.cell 0
    have x1 := hbx1.cell 1
    simp at x0 x1
    have z0 := hbx1.frozen 0
    have z1 := hbx1.frozen 1
    have hlt1 := hbx1.lt
    have HBX1 := Lib.hid hbx1
    have HB1 := Lib.hid (HAL.out.trans (hB1.mono (by simp)))
    have HOW1 := Lib.hid hown1
    clear hbx1 hB1 hown1 HF
    have hend : ∀ (w2 : World) (x y : Value), Below w.heap.size w w2 → Below w.heap.size w ((w2.setCell ⟨w.heap.size, 0, none⟩ x).setCell ⟨w.heap.size, 1, none⟩ y) := fun w2 x y hb => (hb.setCell (Nat.le_refl _) _).setCell (Nat.le_refl _) _
    have HEND := Lib.hid hend
    clear hend
    rcases fitsE_cases (bs := h) (by omega) with hf | hf
    · have hlb : fitsL h = bodyOf h := fitsL_ok (by omega) hf
      have hbl : (bodyOf h).length = 5 := by rw [bodyOf_length]; omega
      have hown := HOW1.out
      rw [hlb] at hown
      obtain ⟨g1, c1, e1, hc1, hg1, hg1'⟩ := own_some hown (by omega)
      obtain ⟨a1, c1', e1', _, hl1, _, _⟩ := own_shape hown
      rw [e1] at e1'
      cases e1'
      rw [hbl] at e1
      have hcell : ∀ j, j < 5 → w1.cell? ⟨g1, j, none⟩ = some (.int .u8 (((bodyOf h).getD j 0).toNat : Int)) := fun j hj => by
        obtain ⟨q, o, e, _, hq⟩ := hl1.resolve_left (by intro e; rw [List.map_eq_nil_iff] at e; rw [e] at hbl; cases hbl)
        cases e
        have := hq j _ (bv_at (List.getElem?_eq_getElem (by omega)))
        rw [Nat.zero_add] at this
        rw [this, List.getD_eq_getElem?_getD, List.getElem?_eq_getElem (by omega)]
        rfl
      have b1 := hcell 1 (by omega)
      have b2 := hcell 2 (by omega)
      have b3 := hcell 3 (by omega)
      have b4 := hcell 4 (by omega)
      obtain ⟨n1, m1⟩ : ∃ n, n = ((bodyOf h).getD 1 0).toNat := ⟨_, rfl⟩
      obtain ⟨n2, m2⟩ : ∃ n, n = ((bodyOf h).getD 2 0).toNat := ⟨_, rfl⟩
      obtain ⟨n3, m3⟩ : ∃ n, n = ((bodyOf h).getD 3 0).toNat := ⟨_, rfl⟩
      obtain ⟨n4, m4⟩ : ∃ n, n = ((bodyOf h).getD 4 0).toNat := ⟨_, rfl⟩
      have l1 : n1 < 256 := by rw [m1]; exact UInt8.toNat_lt _
      have l2 : n2 < 256 := by rw [m2]; exact UInt8.toNat_lt _
      have l3 : n3 < 256 := by rw [m3]; exact UInt8.toNat_lt _
      have l4 : n4 < 256 := by rw [m4]; exact UInt8.toNat_lt _
      rw [← m1] at b1
      rw [← m2] at b2
      rw [← m3] at b3
      rw [← m4] at b4
      obtain ⟨N, hN⟩ : ∃ N, N = n1 + n2 * 256 + n3 * 65536 + n4 * 16777216 := ⟨_, rfl⟩
      have hor := or_four n1 n2 n3 n4 l1 l2 l3 l4
      rw [← hN] at hor
      have hnum : num (bodyOf h) = N := by rw [hN, m1, m2, m3, m4]; rfl
      have HNUM := Lib.hid hnum
      have hNlt : N < 4294967296 := by omega
      have HCELL := Lib.hid hcell
      have HF0 := Lib.hid hf
      rw [hf]
      subst e1
      clear hown hl1 hcell m1 m2 m3 m4 hN hnum hf hlb
      go_wp2_with fail
      go_quiet (fail)
      have hw13 : IntKind.i64.wrap (9 + (N : Int)) = 9 + N := IntWalk.i64_in _ (by omega)
      have hw14 : IntKind.i64.wrap (9 + (N : Int) + 4) = 9 + N + 4 := IntWalk.i64_in _ (by omega)
      by_cases hN1 : 1048576 < N
      · have e0 : got bs = (0, [], 0, 4) := by
          unfold got
          rw [if_neg h9, if_neg (by rw [← HH.out, HF0.out]; decide), if_pos (by rw [← HH.out, HNUM.out]; exact hN1)]
        have E0 := Lib.hid e0
        have q := box_set (HBX1.out.drewN nq) (.int .u8 0) (.slice none 0 0)
        have q0 := q.cell 0
        have q1 := q.cell 1
        simp at q0 q1
        have hB2 := HEND.out (w1.drewN nq) (.int .u8 0) (.slice none 0 0) (below_drewN HB1.out nq)
        clear e0 q
        have d0 : decide ((1048576 : Int) < (N : Int)) = true := by simp; omega
        go_wp2_with fail
        refine bodyPost_ret (v := .tuple #[.agg #[.int .u8 0, .slice none 0 0], .int .i64 0, .int .i64 4]) (by simp [results, Tryz.results87, go_sem, q0, q1]) rfl ⟨⟨.slice none 0 0, by rw [E0.out]; rfl, by rw [E0.out]; exact World.ownsRow_nil _ _ _ _⟩, hB2⟩
      · have d0 : decide ((1048576 : Int) < (N : Int)) = false := by simp; omega
        by_cases hN2 : bs.length < 13 + N
        · have e0 : got bs = (0, [], 0, 2) := by
            unfold got
            rw [if_neg h9, if_neg (by rw [← HH.out, HF0.out]; decide), if_neg (by rw [← HH.out, HNUM.out]; exact hN1), if_pos (by rw [← HH.out, HNUM.out]; exact hN2)]
          have E0 := Lib.hid e0
          have q := box_set (HBX1.out.drewN nq) (.int .u8 0) (.slice none 0 0)
          have q0 := q.cell 0
          have q1 := q.cell 1
          simp at q0 q1
          have hB2 := HEND.out (w1.drewN nq) (.int .u8 0) (.slice none 0 0) (below_drewN HB1.out nq)
          clear e0 q
          have d1 : decide ((bs.length : Int) < 9 + (N : Int) + 4) = true := by simp; omega
          go_wp2_with fail
          refine bodyPost_ret (v := .tuple #[.agg #[.int .u8 0, .slice none 0 0], .int .i64 0, .int .i64 2]) (by simp [results, Tryz.results87, go_sem, q0, q1]) rfl ⟨⟨.slice none 0 0, by rw [E0.out]; rfl, by rw [E0.out]; exact World.ownsRow_nil _ _ _ _⟩, hB2⟩
        · have d1 : decide ((bs.length : Int) < 9 + (N : Int) + 4) = false := by simp; omega
          obtain ⟨o, ho⟩ : ∃ o, o = (bs.drop 9).take (N + 4) := ⟨_, rfl⟩
          have hol : o.length = N + 4 := by rw [ho, List.length_take, List.length_drop]; omega
          have hLo : Lies (w1.drewN nq) (some ⟨g, off + 9, none⟩) (o.map bv) := by
            rw [ho, List.map_take]
            refine Lies.take ?_ _
            rw [List.map_drop]
            exact ((HL.out.later HB1.out).drop 9).drewN nq
          have hfit2 := fits_any (some ⟨g, off + 9, none⟩) (cp - 9) o (w1.drewN nq) hLo (by omega) (by omega)
          rw [show o.length = 9 + N - 5 by omega] at hfit2
          have HF2 := Lib.hid hfit2
          have HO := Lib.hid ho
          have HOL := Lib.hid hol
          have h13 : 13 + N ≤ cp := by omega
          clear hfit2 hLo ho hol
          go_wp2_with fail
          refine HF2.out.mono ?_
          rintro e w2 ⟨v2, rfl, hown2, hB2⟩
          have hbx2 := (HBX1.out.drewN nq).below hB2 HBX1.out.lt
          have y0 := hbx2.cell 0
          have y1 := hbx2.cell 1
          simp at y0 y1
          have u0 := hbx2.frozen 0
          have u1 := hbx2.frozen 1
          have hlt2 := hbx2.lt
          have c0 := ((below_drewN (Below.refl w1.heap.size w1) nq).trans hB2).cell (p := ⟨g1, 0, none⟩) hg1' |>.trans (HCELL.out 0 (by omega))
          obtain ⟨kd, hkd⟩ : ∃ kd, kd = ((bodyOf h).getD 0 0).toNat := ⟨_, rfl⟩
          rw [← hkd] at c0
          have HKD := Lib.hid hkd
          have HBX2 := Lib.hid hbx2
          have HB2 := Lib.hid ((below_drewN HB1.out nq).trans (hB2.mono HB1.out.size))
          have HOW2 := Lib.hid hown2
          have hsz1 := HB1.out.size
          clear hbx2 hB2 hown2 x0 x1 hkd
          rcases fitsE_cases (bs := o) (by rw [HOL.out]; omega) with hf | hf
          · have e0 : got bs = ((bodyOf h).getD 0 0, bodyOf o, 13 + N, 0) := by
              unfold got
              rw [if_neg h9, if_neg (by rw [← HH.out, HF0.out]; decide), if_neg (by rw [← HH.out, HNUM.out]; exact hN1), if_neg (by rw [← HH.out, HNUM.out]; exact hN2), ← HH.out, HNUM.out, ← HO.out, if_neg (by rw [hf]; decide)]
              have e9 : (bodyOf h).getD 0 0 = h.getD 0 0 := by
                unfold bodyOf
                rw [List.getD_eq_getElem?_getD, List.getD_eq_getElem?_getD, List.getElem?_take, if_pos (by omega)]
              rw [e9]
            have hlb : fitsL o = bodyOf o := fitsL_ok (by rw [HOL.out]; omega) hf
            have hown3 := HOW2.out
            rw [hlb] at hown3
            have E0 := Lib.hid e0
            obtain ⟨a2, c2, e2, _, _, hb2, _⟩ := own_shape hown3
            subst e2
            have q := box_set HBX2.out (.int .u8 (kd : Int)) (.slice a2 (bodyOf o).length c2)
            have q0 := q.cell 0
            have q1 := q.cell 1
            simp at q0 q1
            have hB3 := HEND.out w2 (.int .u8 (kd : Int)) (.slice a2 (bodyOf o).length c2) HB2.out
            have hown4 : OwnB ((w2.setCell ⟨w.heap.size, 0, none⟩ (.int .u8 (kd : Int))).setCell ⟨w.heap.size, 1, none⟩ (.slice a2 (bodyOf o).length c2)) w.heap.size (.slice a2 (bodyOf o).length c2) (bodyOf o) := by
              have hne : (Value.slice a2 (bodyOf o).length c2).ownBlock ≠ some w.heap.size := fun e => by
                have := (hown3.lt _ e).1
                simp at this
                omega
              exact own_mono (own_far (own_far hown3 hne _) hne _) hsz1
            have HO4 := Lib.hid hown4
            rw [hf]
            clear e0 hlb hown3 q hf hb2 hown4
            go_wp2_with fail
            have e9 : (9 + (N : Int) + 4) = ((13 + N : Nat) : Int) := by omega
            refine bodyPost_ret (v := .tuple #[.agg #[.int .u8 (kd : Int), .slice a2 (bodyOf o).length c2], .int .i64 (9 + (N : Int) + 4), .int .i64 0]) (by simp [results, Tryz.results87, go_sem, q0, q1]) rfl ⟨⟨.slice a2 (bodyOf o).length c2, ?_, by rw [E0.out]; exact HO4.out⟩, hB3⟩
            rw [E0.out, e9, HKD.out]
            rfl
          · have e0 : got bs = (0, [], 0, 5) := by
              unfold got
              rw [if_neg h9, if_neg (by rw [← HH.out, HF0.out]; decide), if_neg (by rw [← HH.out, HNUM.out]; exact hN1), if_neg (by rw [← HH.out, HNUM.out]; exact hN2), ← HH.out, HNUM.out, ← HO.out, if_pos hf]
            have E0 := Lib.hid e0
            have q := box_set HBX2.out (.int .u8 0) (.slice none 0 0)
            have q0 := q.cell 0
            have q1 := q.cell 1
            simp at q0 q1
            have hB3 := HEND.out w2 (.int .u8 0) (.slice none 0 0) HB2.out
            rw [hf]
            clear e0 q hf
            go_wp2_with fail
            refine bodyPost_ret (v := .tuple #[.agg #[.int .u8 0, .slice none 0 0], .int .i64 0, .int .i64 5]) (by simp [results, Tryz.results87, go_sem, q0, q1]) rfl ⟨⟨.slice none 0 0, by rw [E0.out]; rfl, by rw [E0.out]; exact World.ownsRow_nil _ _ _ _⟩, hB3⟩
    · rw [hf]
      have e0 : got bs = (0, [], 0, 5) := by unfold got; rw [if_neg h9, if_pos (by rw [← HH.out]; exact hf)]
      have E0 := Lib.hid e0
      have q := box_set HBX1.out (.int .u8 0) (.slice none 0 0)
      have q0 := q.cell 0
      have q1 := q.cell 1
      simp at q0 q1
      have hB2 := HEND.out w1 (.int .u8 0) (.slice none 0 0) HB1.out
      clear e0 hf q
      go_wp2_with fail
      refine bodyPost_ret (v := .tuple #[.agg #[.int .u8 0, .slice none 0 0], .int .i64 0, .int .i64 5]) (by simp [results, Tryz.results87, go_sem, q0, q1]) rfl ⟨⟨.slice none 0 0, by rw [E0.out]; rfl, by rw [E0.out]; exact World.ownsRow_nil _ _ _ _⟩, hB2⟩
end Go.Proofs.YtndkohocgfmamaaGreat.Frame

/- Layer 5: All sections. -/
namespace Go.Proofs.YtndkohocgfmamaaGreat.Frame
open Go.RowKit Go.Deep Mem Crc

/-- All sections, or the first error. -/
def allF : Nat → List UInt8 → List (UInt8 × List UInt8) × Int
  | 0, _ => ([], 0)
  | f + 1, bs =>
    if bs = [] then ([], 0)
    else if (got bs).2.2.2 = 0 then
      let r := allF f (bs.drop (got bs).2.2.1)
      if r.2 = 0 then (((got bs).1, (got bs).2.1) :: r.1, 0) else ([], r.2)
    else ([], (got bs).2.2.2)
/-- A section as a row holds it. -/
structure Sec where
  kind : UInt8
  body : List UInt8
  a : Option Addr
  cp : Nat
def Sec.vs (s : Sec) : List Value := [bv s.kind, .slice s.a s.body.length s.cp]
def flatS (l : List Sec) : List Value := l.flatMap Sec.vs
theorem flatS_length (l : List Sec) : (flatS l).length = l.length * 2 := by
  unfold flatS
  induction l with
  | nil => rfl
  | cons s r ih => rw [List.flatMap_cons, List.length_append, ih]; simp [Sec.vs]; omega
theorem flatS_snoc (l : List Sec) (s : Sec) : flatS (l ++ [s]) = flatS l ++ s.vs := by unfold flatS; rw [List.flatMap_append]; simp
def Sec.kb (s : Sec) : UInt8 × List UInt8 := (s.kind, s.body)
/-- The bodies lie there, each at or above B. -/
def Bodies (B : Nat) (w : World) (l : List Sec) : Prop := ∀ s ∈ l, OwnB w B (.slice s.a s.body.length s.cp) s.body
theorem Bodies.later {B : Nat} {w w' : World} {l : List Sec} (h : Bodies B w l) (hB : Below w.heap.size w w') : Bodies B w' l := fun s hs => own_later (h s hs) hB
theorem got_pos {bs : List UInt8} (h : (got bs).2.2.2 = 0) : 13 ≤ (got bs).2.2.1 ∧ (got bs).2.2.1 ≤ bs.length := by
  unfold got at h ⊢
  split at h
  · cases h
  · rename_i h1
    rw [if_neg h1]
    split at h
    · cases h
    · rename_i h2
      rw [if_neg h2]
      split at h
      · cases h
      · rename_i h3
        rw [if_neg h3]
        split at h
        · cases h
        · rename_i h4
          rw [if_neg h4]
          split at h
          · cases h
          · rename_i h5
            rw [if_neg h5]
            constructor
            · show 13 ≤ 13 + _; omega
            · show 13 + _ ≤ _; omega
theorem allF_fuel : ∀ (f f' : Nat) (bs : List UInt8), bs.length < f → bs.length < f' → allF f bs = allF f' bs
  | 0, _, _, h, _ => absurd h (Nat.not_lt_zero _)
  | _ + 1, 0, _, _, h => absurd h (Nat.not_lt_zero _)
  | f + 1, f' + 1, bs, h, h' => by
    unfold allF
    split
    · rfl
    · rename_i hne
      split
      · rename_i h0
        have hp := got_pos h0
        have hl : (bs.drop (got bs).2.2.1).length < bs.length := by rw [List.length_drop]; omega
        rw [allF_fuel f f' _ (by omega) (by omega)]
      · rfl
/-- Sections ahead of what is left. -/
def glue (l : List (UInt8 × List UInt8)) (r : List (UInt8 × List UInt8) × Int) : List (UInt8 × List UInt8) × Int := if r.2 = 0 then (l ++ r.1, 0) else ([], r.2)
theorem allF_nil (F : Nat) : allF F [] = ([], 0) := by cases F <;> rfl
theorem allF_bad {F : Nat} {bs : List UInt8} (hF : bs.length < F) (hne : bs ≠ []) (h : ¬ (got bs).2.2.2 = 0) : allF F bs = ([], (got bs).2.2.2) := by
  cases F with
  | zero => omega
  | succ f => unfold allF; rw [if_neg hne, if_neg h]
theorem allF_step {F : Nat} {bs : List UInt8} (hF : bs.length < F) (hne : bs ≠ []) (h : (got bs).2.2.2 = 0) (l : List (UInt8 × List UInt8)) : glue l (allF F bs) = glue (l ++ [((got bs).1, (got bs).2.1)]) (allF F (bs.drop (got bs).2.2.1)) := by
  cases F with
  | zero => omega
  | succ f =>
    have hp := got_pos h
    have hl : (bs.drop (got bs).2.2.1).length < bs.length := by rw [List.length_drop]; omega
    have e : allF (f + 1) bs = if (allF (f + 1) (bs.drop (got bs).2.2.1)).2 = 0 then (((got bs).1, (got bs).2.1) :: (allF (f + 1) (bs.drop (got bs).2.2.1)).1, 0) else ([], (allF (f + 1) (bs.drop (got bs).2.2.1)).2) := by
      rw [allF_fuel (f + 1) f (bs.drop (got bs).2.2.1) (by omega) (by omega)]
      conv => lhs; unfold allF
      rw [if_neg hne, if_pos h]
    rw [e]
    generalize allF (f + 1) (bs.drop (got bs).2.2.1) = r
    obtain ⟨r1, r2⟩ := r
    unfold glue
    by_cases hr : r2 = 0
    · subst hr
      simp
    · simp [hr]
theorem infoS : (Tryz.prog.info? 137).map (fun i => (i.zero, i.size, i.bytes)) = some (some (.agg #[.int .u8 0, .slice none 0 0]), 2, 32) := by kernel_rfl
def lenOf : Value → Nat
  | .slice _ n _ => n
  | _ => 0
theorem glue_nil (r : List (UInt8 × List UInt8) × Int) (h : r.2 = 0 ∨ r.1 = []) : glue [] r = r := by
  obtain ⟨r1, r2⟩ := r
  unfold glue
  by_cases hr : r2 = 0
  · subst hr; simp
  · rcases h with h | h
    · exact absurd h hr
    · simp at h; subst h; simp [hr]
theorem allF_shape (F : Nat) (bs : List UInt8) : (allF F bs).2 = 0 ∨ (allF F bs).1 = [] := by
  cases F with
  | zero => exact .inl rfl
  | succ f =>
    unfold allF
    split
    · exact .inl rfl
    · split
      · dsimp only
        split
        · exact .inl rfl
        · exact .inr rfl
      · exact .inr rfl
/-- What All leaves. -/
structure AllGot (bs : List UInt8) (w : World) (e : Ending) (w' : World) : Prop where
  out : ∃ v l, e = .returned (.tuple #[v, .int .i64 (allF (bs.length + 1) bs).2]) ∧ w'.ownsRow w.heap.size 137 2 v l.length (flatS l) ∧ l.map Sec.kb = (allF (bs.length + 1) bs).1 ∧ Bodies w.heap.size w' l
  below : Below w.heap.size w w'
set_option maxHeartbeats 400000 in
set_option maxRecDepth 100000 in
theorem all_any (a : Option Addr) (cp : Nat) (bs : List UInt8) (w : World) (h : Lies w a (bs.map bv)) (hcp : bs.length ≤ cp) (hm : bs.length ≤ 3000000) :
    Calls Tryz.prog 74 #[.slice a bs.length cp] w fun e w' => AllGot bs w e w' := by
  obtain ⟨i0, hi0, hz0, hz1, hz2⟩ := info_parts infoS
  have HL := Lib.hid h
  clear h
  go_enter Tryz.func74, Tryz.ntmps74
  go_wp2_with fail
  go_loopw [0, 4] (fun b o wr => ∃ (a' : Option Addr) (cp' : Nat) (l : List Sec) (rest : List UInt8), b = .slice a' rest.length cp' ∧ rest.length ≤ cp' ∧ l.length + rest.length ≤ bs.length ∧ Hid (Lies w a' (rest.map bv)) ∧ Hid (wr.ownsRow w.heap.size 137 2 o l.length (flatS l)) ∧ Hid (Bodies w.heap.size wr l) ∧ Hid (allF (bs.length + 1) bs = glue (l.map Sec.kb) (allF (bs.length + 1) rest)) ∧ Hid (Below w.heap.size w wr)) (fun b _ _ => lenOf b)
  case atStart => exact ⟨a, cp, [], bs, rfl, hcp, by simp, HL, Lib.hid (World.ownsRow_nil _ _ _ _), Lib.hid (fun s hs => by simp at hs), Lib.hid (glue_nil _ (allF_shape _ _)).symm, Lib.hid (Below.refl _ _)⟩
  case round =>
    obtain ⟨a', cp', l, rest, rfl, hc', hlr, hL, hO, hBo, hA, hB⟩ := hrel
    have hBs := hB.out.size
    obtain ⟨n, hn⟩ : ∃ n, n = rest.length := ⟨_, rfl⟩
    rw [← hn] at hc' hlr ⊢
    have HN := Lib.hid hn
    by_cases h0 : 0 < n
    · have hne : rest ≠ [] := fun e => by subst e; simp at hn; omega
      have hgt := get_any a' cp' rest wr (hL.out.later hB.out) (by omega) (by omega)
      rw [← hn] at hgt
      have HG := Lib.hid hgt
      have HNE := Lib.hid hne
      have hd0 : decide ((0 : Int) < (n : Int)) = true := by simp; omega
      clear hgt hne hn
      go_wp2_with fail
      refine HG.out.mono ?_
      rintro e w1 ⟨⟨v, rfl, hown⟩, hB1⟩
      obtain ⟨va, vc, ev, hvc, hvl, hvb, _⟩ := own_shape hown
      subst ev
      obtain ⟨kd, hkd⟩ : ∃ kd, kd = (got rest).1 := ⟨_, rfl⟩
      obtain ⟨bd, hbd⟩ : ∃ bd, bd = (got rest).2.1 := ⟨_, rfl⟩
      obtain ⟨m, hm'⟩ : ∃ m, m = (got rest).2.2.1 := ⟨_, rfl⟩
      obtain ⟨er, her⟩ : ∃ er, er = (got rest).2.2.2 := ⟨_, rfl⟩
      rw [← hbd] at hvc hvl
      rw [← hkd, ← hbd, ← hm', ← her]
      unfold bv
      have HOWN := Lib.hid (show OwnB w1 wr.heap.size (.slice va bd.length vc) bd by rw [hbd]; exact hown)
      have HVL := Lib.hid hvl
      have HVB := Lib.hid hvb
      have HKD := Lib.hid hkd
      have HBD := Lib.hid hbd
      have HM' := Lib.hid hm'
      have HER := Lib.hid her
      have HB1 := Lib.hid hB1
      clear hown hvl hvb hkd hbd hm' her hB1
      by_cases he : er = 0
      · subst he
        have hgp := got_pos (bs := rest) (by rw [← HER.out])
        have hm13 : 13 ≤ m := by rw [HM'.out]; exact hgp.1
        have hmn : m ≤ n := by rw [HM'.out, HN.out]; exact hgp.2
        have halA := (Below.refl w1.heap.size w1).alloc (Nat.le_refl _) (.cells #[.int .u8 (kd.toNat : Int), .slice va bd.length vc] 137)
        have halB := halA.alloc (by simp) (.cells #[.int .u8 (kd.toNat : Int), .slice va bd.length vc] 137)
        have hO1 := own_later (own_later hO.out HB1.out) halB
        have hBs1 := HB1.out.size
        have hcel : ∀ j u, ([.int .u8 (kd.toNat : Int), .slice va bd.length vc] : List Value)[j]? = some u → ((w1.alloc (.cells #[.int .u8 (kd.toNat : Int), .slice va bd.length vc] 137)).alloc (.cells #[.int .u8 (kd.toNat : Int), .slice va bd.length vc] 137)).cell? ((⟨w1.heap.size + 1, 0, none⟩ : Addr).add j) = some u := fun j u hu => by
          have h9 := lies_add (new_lies (w1.alloc (.cells #[.int .u8 (kd.toNat : Int), .slice va bd.length vc] 137)) 137 #[.int .u8 (kd.toNat : Int), .slice va bd.length vc]) j u hu
          rw [World.size_alloc] at h9
          exact h9
        have HCEL := Lib.hid hcel
        have HALB := Lib.hid halB
        clear hcel halA halB
        go_wp2_with (first | (at_builtin; refine wpList_append_own _ rfl _ _ 142 rfl w.heap.size 137 i0 (.agg #[.int .u8 0, .slice none 0 0]) 2 32 Tryz.underlying142 hi0 hz0 hz1 hz2 rfl (by decide) _ _ _ rfl hO1 ⟨w1.heap.size + 1, 0, none⟩ 1 1 [.int .u8 (kd.toNat : Int), .slice va bd.length vc] rfl rfl HCEL.out ?c2 ?c3 ?c4 ?c5 ?_))
        case c2 => intro u hu; simp at hu; rcases hu with rfl | rfl <;> rfl
        case c3 => unfold maxLen; omega
        case c4 => omega
        case c5 => simp; omega
        intro v' w2 hown2 hgrow2 _
        have hB2 : Below w.heap.size w w2 := ((hB.out.trans (HB1.out.mono hBs)).trans (HALB.out.mono (by omega))).grown hgrow2 (by simp; omega) (fun q hq => (hO1.lt q hq).1)
        have hBo2 : Bodies w.heap.size w2 (l ++ [⟨(got rest).1, bd, va, vc⟩]) := fun x hx => by
          have h1 : OwnB ((w1.alloc (.cells #[.int .u8 (kd.toNat : Int), .slice va bd.length vc] 137)).alloc (.cells #[.int .u8 (kd.toNat : Int), .slice va bd.length vc] 137)) w.heap.size (.slice x.a x.body.length x.cp) x.body := by
            rcases List.mem_append.1 hx with hx | hx
            · exact own_later (own_later (hBo.out x hx) HB1.out) HALB.out
            · obtain rfl : x = (⟨(got rest).1, bd, va, vc⟩ : Sec) := by simpa using hx
              exact own_mono (own_later HOWN.out HALB.out) hBs
          exact World.ownsRow.kept h1 hgrow2 (own_apart h1 hO1 (by decide))
        have hO2 : w2.ownsRow w.heap.size 137 2 v' (l ++ [(⟨(got rest).1, bd, va, vc⟩ : Sec)]).length (flatS (l ++ [(⟨(got rest).1, bd, va, vc⟩ : Sec)])) := by
          rw [List.length_append, flatS_snoc, Sec.vs, ← HKD.out]
          exact hown2
        have hA2 : allF (bs.length + 1) bs = glue ((l ++ [(⟨(got rest).1, bd, va, vc⟩ : Sec)]).map Sec.kb) (allF (bs.length + 1) (rest.drop m)) := by
          have hne : rest ≠ [] := HNE.out
          rw [hA.out, allF_step (by have := HN.out; omega) hne HER.out.symm, List.map_append, ← HM'.out, ← HBD.out]
          rfl
        have hdl : (rest.drop m).length = n - m := by rw [List.length_drop, ← HN.out]
        obtain ⟨ga, oa, ea, hga, hca⟩ := hL.out.resolve_left (fun e => HNE.out (by simpa using e))
        have hLd : Lies w (some ⟨ga, oa + m, none⟩) ((rest.drop m).map bv) := by
          rw [List.map_drop]
          exact Lies.drop (.inr ⟨ga, oa, rfl, hga, hca⟩) m
        have HLD := Lib.hid hLd
        have HBO2 := Lib.hid hBo2
        have HO2 := Lib.hid hO2
        have HA2 := Lib.hid hA2
        have HB2 := Lib.hid hB2
        have HDL := Lib.hid hdl
        subst ea
        clear hown2 hgrow2 hO1 hB2 hBo2 hO2 hA2 hdl hLd hca hgp HALB HCEL
        have hmc : m ≤ cp' := by omega
        by_cases hlast : m = cp'
        · subst hlast
          obtain rfl : n = m := by omega
          have hnil : rest.drop n = [] := List.eq_nil_of_length_eq_zero (by rw [HDL.out]; omega)
          have hA3 := HA2.out
          rw [hnil] at hA3
          have HA3 := Lib.hid hA3
          clear hnil hA3
          go_wp2_with fail
          go_roundw
          case rel => exact ⟨_, _, l ++ [(⟨(got rest).1, bd, va, vc⟩ : Sec)], [], by simp; exact ⟨rfl, rfl⟩, Nat.zero_le _, by simp; omega, Lib.hid (.inl rfl), HO2, HBO2, HA3, HB2⟩
          case measure => simp [lenOf]; omega
        · have hlt9 : m < cp' := by omega
          go_wp2_with fail
          go_roundw
          case rel => exact ⟨_, _, l ++ [(⟨(got rest).1, bd, va, vc⟩ : Sec)], rest.drop m, by rw [HDL.out], by rw [HDL.out]; omega, by rw [HDL.out]; simp; omega, HLD, HO2, HBO2, HA2, HB2⟩
          case measure => simp [lenOf]; omega
      · have hbad : allF (bs.length + 1) bs = ([], er) := by
          rw [hA.out, allF_bad (by have := HN.out; omega) HNE.out (by rw [← HER.out]; exact he), ← HER.out]
          unfold glue
          rw [if_neg he]
        have HBAD := Lib.hid hbad
        have hs1 := HB1.out.size
        have hde : (er == 0) = false := by simpa using he
        clear hbad
        go_wp2_with fail
        go_ret2
        refine ⟨⟨_, [], by rw [HBAD.out]; rfl, World.ownsRow_nil _ _ _ _, by rw [HBAD.out]; rfl, fun x hx => by simp at hx⟩, ?_⟩
        exact (hB.out.trans (HB1.out.mono hBs)).trans ((Below.refl w1.heap.size w1).alloc (Nat.le_refl _) _ |>.mono (by omega))
    · obtain rfl : n = 0 := by omega
      have hr : rest = [] := List.eq_nil_of_length_eq_zero hn.symm
      have hfin : allF (bs.length + 1) bs = (l.map Sec.kb, 0) := by
        rw [hA.out, hr, allF_nil]
        unfold glue
        simp
      have HFIN := Lib.hid hfin
      clear hfin hr hn
      go_wp2_with fail
      go_ret2
      exact ⟨⟨_, l, by rw [HFIN.out]; rfl, hO.out, by rw [HFIN.out], hBo.out⟩, hB.out⟩
end Go.Proofs.YtndkohocgfmamaaGreat.Frame

/- Layer 8: a disk that nothing was written to. -/
namespace Go.Proofs.YtndkohocgfmamaaGreat.Disk
open Go.RowKit Go.Deep Go.Shelf Mem Crc

def zs (n : Nat) : Array Value := Array.replicate n (.int .u8 0)
/-- A blank disk of n blocks at block d; its bytes lie in block g. -/
structure Blank (w : World) (d g n : Nat) (off : Bool) : Prop where
  disk : Blk w d 79 #[.slice (some ⟨g, 0, none⟩) n n, .slice none 0 0, .bool off, .int .i64 (-1)]
  row : Blk w g 163 (zs (n * 128))
theorem info128 : (Tryz.prog.info? 163).map (fun i => (i.zero, i.size, i.bytes)) = some (some (.agg (zs 128)), 128, 128) := by kernel_rfl
theorem made_zs (m : Nat) : madeCells (zs 128) m = zs m := by
  apply Array.ext
  · simp [madeCells, zs]
  · intro i h1 h2
    have h3 : i % 128 < 128 := Nat.mod_lt _ (by decide)
    simp only [madeCells, zs, Array.size_replicate, Array.getElem_map, Array.getElem_range, Array.getElem_replicate]
    rw [getElem!_pos _ _ (by simpa using h3), Array.getElem_replicate]
set_option maxHeartbeats 400000 in
set_option maxRecDepth 100000 in
theorem new_any (n : Nat) (w : World) (h : 1 ≤ n) (h2 : n ≤ 2000) :
    Calls Tryz.prog 20 #[.int .i64 (n : Int)] w fun e w' => ∃ d g, e = .returned (.tuple #[.pointer (some ⟨d, 0, none⟩), .int .i64 0]) ∧ Blank w' d g n false ∧ w.heap.size ≤ d ∧ w.heap.size ≤ g ∧ Below w.heap.size w w' := by
  have h1 : decide ((n : Int) < 1) = false := by simp; omega
  have h3 : decide (65536 < (n : Int)) = false := by simp; omega
  obtain ⟨i0, hi0, hz0, hz1, hz2⟩ := info_parts info128
  have hmk : (Instr.makeSlice 76 (.int .i64 (n : Int)) (.int .i64 (n : Int))).run Tryz.prog w = .ok (.slice (some ⟨w.heap.size, 0, none⟩) n n) (w.alloc (.cells (zs (n * 128)) 163)) := by
    have e := run_makeSlice w (P := Tryz.prog) 76 163 i0 (.agg (zs 128)) Tryz.underlying76 hi0 hz0 .i64 .i64 n n (by omega) (by omega) (by rw [hz1]; simp; omega) (by rw [hz2]; omega) (by omega)
    simp only [Value.cells, hz1, made_zs, Int.toNat_natCast] at e
    exact e
  go_enter Tryz.func20, Tryz.ntmps20
  go_wp2_with fail
  go_ret2
  exact ⟨_, w.heap.size, rfl, ⟨Blk.at_ (by simp), (Blk.new w _ _).alloc _⟩, by simp, Nat.le_refl _, ((Below.refl _ w).alloc (Nat.le_refl _) _).alloc (by simp) _⟩
theorem Blank.later {d g n : Nat} {off : Bool} {w w' : World} (h : Blank w d g n off) (hB : Below w.heap.size w w') : Blank w' d g n off := ⟨h.disk.below hB h.disk.lt, h.row.below hB h.row.lt⟩
theorem Blank.keep {d g n : Nat} {off : Bool} {w w' : World} (h : Blank w d g n off) (h1 : w'.heap[d]? = w.heap[d]?) (h2 : w'.heap[g]? = w.heap[g]?) : Blank w' d g n off := ⟨h1.trans h.disk, h2.trans h.row⟩

theorem count_any {d g n : Nat} {off : Bool} {w : World} (h : Blank w d g n off) :
    Calls Tryz.prog 38 #[.pointer (some ⟨d, 0, none⟩)] w fun e w' => e = .returned (.int .i64 (n : Int)) ∧ w' = w := by
  have c0 := h.disk.cell 0
  simp at c0
  clear h
  go_enter Tryz.func38, Tryz.ntmps38
  go_wp2_with fail
  go_ret
  exact ⟨rfl, rfl⟩
theorem on_any {d g n : Nat} {off : Bool} {w : World} (h : Blank w d g n off) :
    Calls Tryz.prog 94 #[.pointer (some ⟨d, 0, none⟩)] w fun e w' => e = .returned (.bool !off) ∧ w' = w := by
  have c2 := h.disk.cell 2
  simp at c2
  clear h
  go_enter Tryz.func94, Tryz.ntmps94
  cases off
  · go_wp2_with fail
    go_ret
    exact ⟨rfl, rfl⟩
  · go_wp2_with fail
    go_ret
    exact ⟨rfl, rfl⟩
theorem there_any {d g n : Nat} {off : Bool} (i : Nat) {w : World} (h : Blank w d g n off) (hi : i < n) :
    Calls Tryz.prog 119 #[.pointer (some ⟨d, 0, none⟩), .int .i64 (i : Int)] w fun e w' => e = .returned (.bool true) ∧ w' = w := by
  have hC := Lib.hid (count_any h)
  clear h
  have h0 : decide ((0 : Int) ≤ (i : Int)) = true := by simp
  have h1 : decide ((i : Int) < (n : Int)) = true := by simp; omega
  go_enter Tryz.func119, Tryz.ntmps119
  go_wp2_with fail
  refine hC.out.mono ?_
  rintro e w1 ⟨rfl, rfl⟩
  go_wp2_with fail
  go_ret
  exact ⟨rfl, rfl⟩
theorem may_on {d g n : Nat} (i : Nat) {w : World} (h : Blank w d g n false) (hi : i < n) :
    Calls Tryz.prog 92 #[.pointer (some ⟨d, 0, none⟩), .int .i64 (i : Int)] w fun e w' => e = .returned (.int .i64 0) ∧ w' = w := by
  have hC := Lib.hid (on_any h)
  have hT := Lib.hid (there_any i h hi)
  clear h
  go_enter Tryz.func92, Tryz.ntmps92
  go_wp2_with fail
  refine hC.out.mono ?_
  rintro e w1 ⟨rfl, rfl⟩
  go_wp2_with fail
  refine hT.out.mono ?_
  rintro e w1 ⟨rfl, rfl⟩
  go_wp2_with fail
  go_ret
  exact ⟨rfl, rfl⟩
theorem off_any {d g n : Nat} {off : Bool} {w : World} (h : Blank w d g n off) :
    Calls Tryz.prog 19 #[.pointer (some ⟨d, 0, none⟩)] w fun e w' => e = .returned (.tuple #[]) ∧ Blank w' d g n true ∧ Only [d] w w' := by
  have fz := h.disk.frozen 2
  have hne := h.disk.ne h.row (by decide)
  have hb : Blank (w.setCell ⟨d, 2, none⟩ (.bool true)) d g n true := ⟨h.disk.set 2 (.bool true), h.row.far (Ne.symm hne) _⟩
  have ho := (Only.refl [d] w).set (p := ⟨d, 2, none⟩) (.inl (by simp)) (.bool true)
  have HB := Lib.hid hb
  have c2 := h.disk.cell 2
  simp at c2
  clear h hb
  go_enter Tryz.func19, Tryz.ntmps19
  go_wp2_with fail
  go_end0
  exact ⟨rfl, HB.out, ho⟩
theorem infoB : (Tryz.prog.info? 163).map (·.size) = some 128 := by kernel_rfl
theorem zero128 : Tryz.zeroCells163 = zs 128 := by kernel_rfl
theorem row_range {w : World} {g n i : Nat} (h : Blk w g 163 (zs (n * 128))) (hi : i < n) : w.rangeAt g (i * 128) (List.replicate 128 (.int .u8 0)) := fun j v hv => by
  rw [h.cell]
  obtain ⟨hj, hv2⟩ := List.getElem?_eq_some_iff.1 hv
  rw [List.length_replicate] at hj
  rw [List.getElem_replicate] at hv2
  subst hv2
  unfold zs
  rw [Array.getElem?_replicate, if_pos (by omega)]
theorem new_there (w : World) (t : TypeId) (m : Nat) : (w.alloc (.cells (zs m) t)).there w.heap.size 0 m := fun j hj => by
  have h := Blk.new w t (zs m)
  refine ⟨?_, h.frozen _⟩
  rw [h.cell]
  unfold zs
  rw [Nat.zero_add, Array.getElem?_replicate, if_pos hj]
  rfl
theorem backward_nil (w : World) : Calls Tryz.prog 109 #[.slice none 0 0] w fun e w' => e = .returned (.func (.func 129) #[] #[.pointer (some ⟨w.heap.size, 0, none⟩)]) ∧ w' = w.alloc (.cells #[.slice none 0 0] 77) := by
  go_enter Tryz.func109, Tryz.ntmps109
  go_wp2_with fail
  go_ret
  exact ⟨rfl, rfl⟩
/-- Ranged over it gives nothing. -/
theorem backward_stops (m B : Nat) (w : World) (hB : B < w.heap.size) (hc : w.cell? ⟨B, 0, none⟩ = some (.slice none 0 0)) :
    SeqStopsK Fence.wide m Tryz.prog 129 #[.pointer (some ⟨B, 0, none⟩)] (fun _ : Empty => #[Value.int .i64 0, Value.int .i64 0]) (fun _ _ => True) (fun ys => ys = []) (fun _ => False) 0 w := fun l J Jx W hW _ _ _ h0 => by
  have hc' := (hW.cell (p := ⟨B, 0, none⟩) hB).trans hc
  refine callsIn_wide.2 ?_
  go_enter Tryz.func129, Tryz.ntmps129
  go_wp2_with fail
  go_loopw [3] (fun i wr => i = .int .i64 (-1) ∧ wr = W) (fun _ _ => 0)
  case atStart => exact ⟨rfl, rfl⟩
  case round =>
    obtain ⟨rfl, rfl⟩ := hrel
    go_wp2_with fail
    go_end0
    exact ⟨⟨_, rfl⟩, .inl ⟨[], rfl, h0⟩⟩
theorem len128 : Tryz.prog.arrayLen 163 = 128 := by kernel_rfl
theorem elem128 : Tryz.prog.elem 163 = 5 := by kernel_rfl
theorem und128 : Tryz.prog.underlying 163 = some (.array (Tryz.prog.arrayLen 163) (Tryz.prog.elem 163)) := by rw [len128, elem128]; exact Tryz.underlying163
theorem size8d (w : World) : (sizeOf 5).run Tryz.prog w = .ok 1 w := by kernel_rfl
theorem slice128 (g : Nat) (w : World) : (Instr.sliceAt 163 (.pointer (some ⟨g, 0, none⟩)) none none none).run Tryz.prog w = .ok (.slice (some ⟨g, 0, none⟩) 128 128) w := by
  rw [run_sliceAt_array_all w 163 ⟨g, 0, none⟩ und128, elem128, size8d, len128]
  simp [slicedAt, Addr.add, Result.andThen]
theorem Below.setCells_at {B g : Nat} (hg : B ≤ g) : ∀ (vs : List Value) (o : Nat) {a w : World}, Below B a w → Below B a (w.setCells g o vs)
  | [], _, _, _, h => h
  | v :: r, o, _, _, h => Below.setCells_at hg r (o + 1) (h.setCell (p := ⟨g, o, none⟩) hg v)
set_option maxHeartbeats 400000 in
set_option maxRecDepth 100000 in
theorem read_any {d g n : Nat} (i : Nat) {w : World} (h : Blank w d g n false) (hi : i < n) :
    Calls Tryz.prog 85 #[.pointer (some ⟨d, 0, none⟩), .int .i64 (i : Int)] w fun e w' => ∃ a, e = .returned (.tuple #[.slice a 128 128, .int .i64 0]) ∧ Lies w' a ((List.replicate 128 0).map bv) ∧ Below w.heap.size w w' := by
  have hal := (Below.refl w.heap.size w).alloc (Nat.le_refl _) (Obj.cells #[Value.int .i64 (i : Int)] 3)
  have h1 := h.later hal
  have hM := Lib.hid (may_on i h1 hi)
  have c0 := h1.disk.cell 0
  have c1 := h1.disk.cell 1
  have ci : (w.alloc (Obj.cells #[Value.int .i64 (i : Int)] 3)).cell? ⟨w.heap.size, 0, none⟩ = some (.int .i64 (i : Int)) := by rw [(Blk.new w 3 #[Value.int .i64 (i : Int)]).cell]; rfl
  simp at c0 c1
  obtain ⟨zl, hzl⟩ : ∃ zl : List Value, zl = List.replicate 128 (.int .u8 0) := ⟨_, rfl⟩
  have hrow := row_range h1.row hi
  rw [← hzl] at hrow
  have hzo : ∀ v ∈ zl, v.oneCell' = true := fun v hv => by rw [hzl, List.mem_replicate] at hv; rw [hv.2]; rfl
  have hzn : zl.length = 128 := by rw [hzl, List.length_replicate]
  have hu : Tryz.prog.underlying 163 = _ := Tryz.underlying163
  have hinf : (Tryz.prog.info? 163).map (·.size) = some zl.length := by rw [hzn]; exact infoB
  have hinf2 : (Tryz.prog.info? 163).map (·.size) = some zl.toArray.size := by simp only [List.size_toArray, hzn]; exact infoB
  obtain ⟨A, hA⟩ : ∃ A, A = w.alloc (Obj.cells #[Value.int .i64 (i : Int)] 3) := ⟨_, rfl⟩
  have hAs : A.heap.size = w.heap.size + 1 := by rw [hA]; simp
  rw [← hA] at h1 hM c0 c1 ci hrow hal
  have hth2 : (A.alloc (.cells Tryz.zeroCells163 163)).drew.there (w.heap.size + 1) 0 zl.toArray.size := by
    have e : zl.toArray.size = 128 := by simp [hzn]
    rw [e, zero128, ← hAs]
    exact new_there A 163 128
  have hS : ∀ W, Below A.heap.size A W → W.cell? ⟨d, 0, none⟩ = some (.slice (some ⟨g, 0, none⟩) n n) ∧ W.cell? ⟨w.heap.size, 0, none⟩ = some (.int .i64 (i : Int)) ∧ W.rangeAt g (i * 128) zl := fun W hW =>
    ⟨(hW.cell (p := ⟨d, 0, none⟩) h1.disk.lt).trans c0, (hW.cell (p := ⟨w.heap.size, 0, none⟩) (by show w.heap.size < _; omega)).trans ci, fun j v hv => (hW.cell (p := ⟨g, i * 128 + j, none⟩) h1.row.lt).trans (hrow j v hv)⟩
  have hS0 := hS A.drew ((Below.refl _ A).drew)
  have hB2 : Below A.heap.size A (A.alloc (.cells Tryz.zeroCells163 163)).drew := ((Below.refl _ A).alloc (Nat.le_refl _) _).drew
  have hS2 := hS _ hB2
  have hB3 := Below.setCells_at (g := w.heap.size + 1) (by omega) zl 0 hB2
  have hS3 := hS _ hB3
  have HB3 := Lib.hid hB3
  have HAA := Lib.hid hA
  have HZL := Lib.hid hzl
  have HZN := Lib.hid hzn
  have HA := Lib.hid hal
  have hin : (i : Int) < (n : Int) := by omega
  have HLT := Lib.hid (show d < w.heap.size + 1 from Nat.lt_succ_of_lt h.disk.lt)
  rw [hA] at hM hS0 hS2 hS3 c0 c1 hth2
  clear h h1 hal hzl hzn hrow ci hS hB2 hB3 hA
  refine (callsIn_wide (n := 5)).1 ?_
  refine callsIn_of_wp_marks Tryz.func85 rfl trivial ?_ rfl
  simp only [Tryz.ntmps85, List.size_toArray, List.length_cons, List.length_nil, Nat.reduceAdd, Nat.reduceSub, Array.replicate_succ, Array.replicate_zero, List.push_toArray, List.append_toArray, List.nil_append, List.cons_append]
  refine wpIn_wide.2 ?_
  go_wp2_with fail
  refine hM.out.mono ?_
  rintro e w1 ⟨rfl, rfl⟩
  go_wp2_with fail
  go_region_held3 (fun w' => w'.cell? ⟨d, 0, none⟩ = some (.slice (some ⟨g, 0, none⟩) n n) ∧ w'.cell? ⟨w.heap.size, 0, none⟩ = some (.int .i64 (i : Int)) ∧ w'.rangeAt g (i * 128) zl) (first | exact hS0 | exact hS2 | exact hS3) (skip)
  obtain ⟨W, hW⟩ : ∃ W, W = ((w.alloc (Obj.cells #[Value.int .i64 (i : Int)] 3)).alloc (Obj.cells Tryz.zeroCells163 163)).drew.setCells (w.heap.size + 1) 0 zl := ⟨_, rfl⟩
  have hBW : Below A.heap.size A W := by rw [hW, ← HAA.out]; exact HB3.out
  have d1 : W.cell? ⟨d, 1, none⟩ = some (.slice none 0 0) := (hBW.cell (p := ⟨d, 1, none⟩) (by rw [hAs]; exact HLT.out)).trans (by rw [HAA.out]; exact c1)
  have hBlk : Blk W (w.heap.size + 1) 163 zl.toArray := by
    have h0 : Blk ((w.alloc (Obj.cells #[Value.int .i64 (i : Int)] 3)).alloc (Obj.cells Tryz.zeroCells163 163)).drew (w.heap.size + 1) 163 (zs 128) := by rw [← zero128]; exact Blk.at_ (by simp)
    obtain ⟨cs', h1, h2⟩ := Blk.splice zl 0 _ _ h0 (by rw [HZN.out]; simp [zs])
    rw [hW]
    have e : cs' = zl.toArray := by
      apply Array.ext'
      rw [h2, Nat.zero_add, HZN.out]
      simp [zs]
    rw [← e]
    exact h1
  have hBw : Below w.heap.size w W := by
    have h1 : Below w.heap.size w A := by rw [HAA.out]; exact (Below.refl _ w).alloc (Nat.le_refl _) _
    exact h1.trans (hBW.mono (by omega))
  have hWs : w.heap.size + 1 < W.heap.size := hBlk.lt
  rw [← hW]
  have HBLK := Lib.hid hBlk
  have HBW := Lib.hid hBw
  clear hW hBW hBlk hBw c0 c1 hS0 hS2 hS3 hth2 HB3 HAA hM hu hinf hinf2
  go_wp2_with (go_at_call 109; refine (backward_nil _).mono ?_; rintro e w3 ⟨rfl, rfl⟩)
  refine (wpIn_wide (n := 4)).1 ?_
  refine wpIn_rangeFunc_ownG (α := Empty) (encs := fun _ => #[Value.int .i64 0, Value.int .i64 0]) (gf := 129) (lb := #[.pointer (some ⟨W.heap.size, 0, none⟩)]) rfl (by omega) rfl trivial (enters_of Tryz.func129 (by kernel_rfl) rfl)
    ((backward_stops _ W.heap.size (W.alloc (.cells #[.slice none 0 0] 77)) (by simp) (by rw [(Blk.new W 77 #[Value.slice none 0 0]).cell]; rfl))) (fun _ _ => trivial) (fun _ _ _ _ _ _ _ _ => trivial) (Below.refl _ _) (fun _ => rfl)
    (fun _ V => Below W.heap.size W V) (fun _ _ _ => False) (ownFrom_below (Nat.le_refl _) (by simp)) (fun _ _ _ _ _ hs _ _ => hs) ((Below.refl _ W).alloc (Nat.le_refl _) _) (fun _ => ⟨#[], []⟩) (fun _ x => nomatch x) (fun _ _ x => nomatch x) ?done (fun _ _ _ _ _ h _ _ => False.elim h)
  case done =>
    rintro D ys W1 hD rfl hB1 hK
    have hs1 := hB1.size
    dsimp only
    have HK := Lib.hid hK
    have HB1 := Lib.hid hB1
    have hrow := HBLK.out.below hB1 hWs
    have hslc := fun X : World => slice128 (w.heap.size + 1) X
    have HROW := Lib.hid hrow
    clear hK hB1 hrow
    go_wp2_with fail
    have hD' : w.heap.size + 1 < D := by simp at hD; omega
    have hBp : Below D W1 (W1.putObj D (.deferred none)) := (Below.refl D W1).grown (grownBy_putObj' W1 D _) (Nat.le_of_lt (Array.getElem?_eq_some_iff.1 HK.out).1) (fun k e => by cases e; exact Nat.le_refl _)
    have hrow2 := HROW.out.below hBp hD'
    refine ⟨by simp, .inl ⟨_, _, rfl, run_takeDeferred HK.out, ?_⟩⟩
    refine ⟨.tuple #[.slice (some ⟨w.heap.size + 1, 0, none⟩) 128 128, .int .i64 0], by simp [results, Tryz.results85, go_sem], _, rfl, ?_, (HBW.out.trans (HB1.out.mono (by omega))).trans (hBp.mono (by omega))⟩
    refine .inr ⟨_, _, rfl, hrow2.lt, fun j u hu => ?_⟩
    rw [hrow2.cell, Nat.zero_add, List.getElem?_toArray, HZL.out]
    rw [← hu]
    simp [bv]
end Go.Proofs.YtndkohocgfmamaaGreat.Disk

/- Layer 9: a slot of a blank disk. -/
namespace Go.Proofs.YtndkohocgfmamaaGreat.Man
open Go.RowKit Go.Deep Mem Crc Disk Go.Proofs.YtndkohocgfmamaaGreat.Frame

def zb (n : Nat) : List UInt8 := List.replicate n 0
theorem zb_length (n : Nat) : (zb n).length = n := List.length_replicate
theorem got_zero : got (zb 2048) = (0, [], 0, 5) := by
  have h1 : ¬ (zb 2048).length < 9 := by unfold zb; rw [List.length_replicate]; decide
  have h2 : (zb 2048).take 9 = zb 9 := by unfold zb; rw [List.take_replicate]; rfl
  have h3 : fitsE (zb 9) = 5 := by kernel_rfl
  unfold got
  rw [if_neg h1, h2, h3]
  rfl
theorem lies_read {w : World} {a : Option Addr} (h : Lies w a ((List.replicate 128 (0 : UInt8)).map bv)) : ∃ ad, a = some ad ∧ ∀ j u, ((zb 128).map bv)[j]? = some u → w.cell? (ad.add j) = some u := by
  rcases h with h | ⟨g, off, rfl, h1, h2⟩
  · rw [List.map_eq_nil_iff] at h
    cases h
  · exact ⟨_, rfl, lies_add (.inr ⟨g, off, rfl, h1, h2⟩)⟩
set_option maxHeartbeats 400000 in
set_option maxRecDepth 100000 in
theorem slot_any {d g N : Nat} (n : Nat) (hn : n < 2) (hN : 33 ≤ N) {w : World} (h : Blank w d g N false) :
    Calls Tryz.prog 54 #[.pointer (some ⟨d, 0, none⟩), .int .i64 (n : Int)] w fun e w' => ∃ v, e = .returned (.tuple #[v, .int .i64 0]) ∧ OwnB w' w.heap.size v (zb 2048) ∧ Below w.heap.size w w' := by
  obtain ⟨i0, hi0, hz0, hz1, hz2⟩ := info_parts infoB8
  have H := Lib.hid h
  clear h
  go_enter Tryz.func54, Tryz.ntmps54
  go_wp2_with fail
  go_loopw [10, 6] (fun i o wr => ∃ j : Nat, j ≤ 16 ∧ i = .int .i64 (j : Int) ∧ Hid (OwnB wr w.heap.size o (zb (j * 128))) ∧ Hid (Below w.heap.size w wr)) (fun i _ _ => 16 - (intOf i).toNat)
  case atStart => exact ⟨0, by omega, rfl, Lib.hid (World.ownsRow_nil _ _ _ _), Lib.hid (Below.refl _ _)⟩
  case round =>
    obtain ⟨j, hj, rfl, hO, hB⟩ := hrel
    by_cases hj16 : j < 16
    · have hd : decide ((j : Int) < 16) = true := by simp; omega
      have hR := Lib.hid (read_any (n * 16 + j) (H.out.later hB.out) (by omega))
      have hsz := hB.out.size
      have hcast : ((n * 16 + j : Nat) : Int) = (n : Int) * 16 + (j : Int) := by push_cast; rfl
      rw [hcast] at hR
      clear hcast
      go_wp2_with fail
      refine hR.out.mono ?_
      rintro e w1 ⟨a, rfl, hL, hB1⟩
      have hO1 := own_later hO.out hB1
      obtain ⟨ad, rfl, hL2⟩ := lies_read hL
      have hnil := fun X : World => Lib.run_eql_slice_nil (P := Tryz.prog) X 45 5 (some ad) 128 128 0 0 Tryz.underlying45
      have HL := Lib.hid hL2
      have HB1 := Lib.hid hB1
      have H1 := Lib.hid (oneCell_bytes (zb 128))
      clear hL hL2 hB1 hd
      go_wp2_with (first | (at_builtin; refine wpList_append_own _ rfl _ _ 45 rfl w.heap.size 5 i0 (.int .u8 0) 1 1 Tryz.underlying45 hi0 hz0 hz1 hz2 rfl (by decide) _ _ _ rfl hO1 ad 128 128 ((zb 128).map bv) rfl (by simp [zb]) HL.out H1.out ?c3 ?c4 ?c5 ?_))
      case c3 => rw [zb_length]; unfold maxLen; omega
      case c4 => rw [zb_length]; omega
      case c5 => have := HB1.out.size; omega
      intro v' w2 hown2 hgrow2 _
      have hB2 : Below w.heap.size w w2 := (hB.out.trans (HB1.out.mono hsz)).grown hgrow2 (by have := HB1.out.size; omega) (fun q hq => (hO1.lt q hq).1)
      have hO2 : OwnB w2 w.heap.size v' (zb ((j + 1) * 128)) := by
        have e : zb ((j + 1) * 128) = zb (j * 128) ++ zb 128 := by unfold zb; rw [List.replicate_append_replicate, Nat.succ_mul]
        rw [e]
        unfold OwnB
        rw [List.length_append, List.map_append, zb_length 128]
        exact hown2
      have HB2 := Lib.hid hB2
      have HO2 := Lib.hid hO2
      clear hown2 hgrow2 hB2 hO2 hO1
      go_wp2_with fail
      go_roundw
      case rel => exact ⟨j + 1, hj16, by simp, HO2, HB2⟩
      case measure => simp [intOf]; omega
    · obtain rfl : j = 16 := by omega
      have hd : decide ((16 : Int) < 16) = false := by decide
      go_wp2_with fail
      go_ret2
      exact ⟨_, rfl, hO.out, hB.out⟩
theorem isnt_zero (w : World) : Calls Tryz.prog 56 #[.int .u8 0] w fun e w' => e = .returned (.bool false) ∧ w' = w := by
  go_enter Tryz.func56, Tryz.ntmps56
  go_wp2_with fail
  go_ret
  exact ⟨rfl, rfl⟩
set_option maxHeartbeats 400000 in
theorem index_zero (a : Option Addr) (cp n : Nat) (w : World) (h : Lies w a ((zb n).map bv)) (hn : n ≤ 4000000) :
    Calls Tryz.prog 86 #[.slice a n cp, .func (.func 56) #[] #[]] w fun e w' => e = .returned (.int .i64 (-1)) ∧ w' = w := by
  have H := Lib.hid h
  clear h
  go_enter Tryz.func86, Tryz.ntmps86
  go_wp2_with fail
  go_loopw [8] (fun i wr => ∃ j : Nat, j ≤ n ∧ i = .int .i64 (j : Int) ∧ wr = w) (fun i _ => n - (intOf i).toNat)
  case atStart => exact ⟨0, by omega, rfl, rfl⟩
  case round =>
    obtain ⟨j, hj, rfl, rfl⟩ := hrel
    by_cases hjn : j < n
    · obtain ⟨g, off, rfl, _, hc⟩ := H.out.resolve_left (fun e => by
        rw [List.map_eq_nil_iff] at e
        have := congrArg List.length e
        rw [zb_length] at this
        simp at this
        omega)
      have c0 : wr.cell? ⟨g, off + j, none⟩ = some (.int .u8 0) := by
        have := hc j (bv 0) (by unfold zb; rw [List.map_replicate, List.getElem?_replicate, if_pos hjn])
        exact this
      clear hc
      go_wp2_with (first | (go_at_call 56; refine (isnt_zero _).mono ?_; rintro e w1 ⟨rfl, rfl⟩))
      go_roundw
      case rel => exact ⟨j + 1, hjn, by simp, trivial⟩
      case measure => simp [intOf]; omega
    · obtain rfl : j = n := by omega
      go_wp2_with fail
      go_ret
      exact ⟨rfl, rfl⟩
theorem contains_zero (a : Option Addr) (cp n : Nat) (w : World) (h : Lies w a ((zb n).map bv)) (hn : n ≤ 4000000) :
    Calls Tryz.prog 55 #[.slice a n cp, .func (.func 56) #[] #[]] w fun e w' => e = .returned (.bool false) ∧ w' = w := by
  have H := Lib.hid (index_zero a cp n w h hn)
  clear h
  go_enter Tryz.func55, Tryz.ntmps55
  go_wp2_with fail
  refine H.out.mono ?_
  rintro e w1 ⟨rfl, rfl⟩
  go_wp2_with fail
  go_ret
  exact ⟨rfl, rfl⟩
/-- Get on a blank slot. -/
theorem get_zero (a : Option Addr) (cp : Nat) (w : World) (h : Lies w a ((zb 2048).map bv)) (hc : 2048 ≤ cp) :
    Calls Tryz.prog 57 #[.slice a 2048 cp] w fun e w' => e = .returned (.tuple #[.agg #[.int .u64 0, .int .u32 0, .slice none 0 0], .int .i64 5]) ∧ Below w.heap.size w w' := by
  have hal := (Below.refl w.heap.size w).alloc (Nat.le_refl _) (Obj.cells #[Value.int .u64 0, Value.int .u32 0, Value.slice none 0 0] 82)
  have hg := get_any a cp (zb 2048) _ (h.later hal) (by rw [zb_length]; exact hc) (by rw [zb_length]; omega)
  have hb := Blk.new w 82 #[Value.int .u64 0, Value.int .u32 0, Value.slice none 0 0]
  rw [zb_length] at hg
  have H := Lib.hid hg
  have HA := Lib.hid hal
  have HB := Lib.hid hb
  clear h hg hal hb
  go_enter Tryz.func57, Tryz.ntmps57
  go_wp2_with fail
  refine H.out.mono ?_
  rintro e w1 ⟨⟨v, rfl, hO⟩, hB⟩
  obtain ⟨va, vc, ev, _, _, _, _⟩ := own_shape hO
  subst ev
  rw [got_zero]
  simp only [bv, UInt8.toNat_zero, List.length_nil]
  have hb0 := HB.out.below hB HB.out.lt
  have hb1 := hb0.alloc (.cells #[.int .u8 0, .slice va 0 vc] 137)
  have c0 := hb1.cell 0
  have c1 := hb1.cell 1
  have c2 := hb1.cell 2
  have f0 := hb1.frozen 0
  have f1 := hb1.frozen 1
  have f2 := hb1.frozen 2
  simp at c0 c1 c2
  have HB1 := Lib.hid hB
  have hs := hB.size
  simp at hs
  have HBB := Lib.hid hb1
  clear hO hb1 hB hb0
  go_wp2_with fail
  have hb3 := ((HBB.out.set 0 (.int .u64 0)).set 1 (.int .u32 0)).set 2 (.slice none 0 0)
  have q0 := hb3.cell 0
  have q1 := hb3.cell 1
  have q2 := hb3.cell 2
  simp at q0 q1 q2
  refine bodyPost_ret (v := .tuple #[.agg #[.int .u64 0, .int .u32 0, .slice none 0 0], .int .i64 5]) (by simp [results, Tryz.results57, go_sem, q0, q1, q2]) rfl ⟨rfl, ?_⟩
  have h9 : Below w.heap.size w (w1.alloc (.cells #[.int .u8 0, .slice va 0 vc] 137)) := ((HA.out.trans (HB1.out.mono (by simp)))).alloc (by omega) _
  exact ((h9.setCell (p := ⟨w.heap.size, 0, none⟩) (Nat.le_refl _) _).setCell (p := ⟨w.heap.size, 1, none⟩) (Nat.le_refl _) _).setCell (p := ⟨w.heap.size, 2, none⟩) (Nat.le_refl _) _
end Go.Proofs.YtndkohocgfmamaaGreat.Man

/- Layer 9: Read on a blank disk. -/
namespace Go.Proofs.YtndkohocgfmamaaGreat.Man
open Go.RowKit Go.Deep Mem Crc Disk

set_option maxHeartbeats 400000 in
set_option maxRecDepth 100000 in
theorem read_blank {d g N : Nat} (hN : 33 ≤ N) {w : World} (h : Blank w d g N false) :
    Calls Tryz.prog 35 #[.pointer (some ⟨d, 0, none⟩)] w fun e w' => e = .returned (.tuple #[.agg #[.int .u64 0, .int .u32 0, .slice none 0 0], .int .i64 0]) ∧ Below w.heap.size w w' := by
  have hal := (Below.refl w.heap.size w).alloc (Nat.le_refl _) (Obj.cells #[Value.int .u64 0, Value.int .u32 0, Value.slice none 0 0] 82)
  have hC := Lib.hid (count_any (h.later hal))
  have H := Lib.hid h
  have HA := Lib.hid hal
  clear h hal
  have hd0 : decide ((N : Int) ≤ 32) = false := by simp; omega
  go_enter Tryz.func35, Tryz.ntmps35
  go_wp2_with fail
  refine hC.out.mono ?_
  rintro e w1 ⟨rfl, rfl⟩
  go_wp2_with fail
  obtain ⟨W, hW⟩ : ∃ W, W = (w.alloc (Obj.cells #[Value.int .u64 0, Value.int .u32 0, Value.slice none 0 0] 82)).alloc (Obj.cells #[Value.int .u64 0, Value.int .u32 0, Value.slice none 0 0] 82) := ⟨_, rfl⟩
  have hb0 : Blk W w.heap.size 82 #[Value.int .u64 0, Value.int .u32 0, Value.slice none 0 0] := by rw [hW]; exact (Blk.new w _ _).alloc _
  have hb1 : Blk W (w.heap.size + 1) 82 #[Value.int .u64 0, Value.int .u32 0, Value.slice none 0 0] := by rw [hW]; exact Blk.at_ (by simp)
  have hBW : Below w.heap.size w W := by rw [hW]; exact HA.out.alloc (by simp) _
  rw [← hW]
  have HB0 := Lib.hid hb0
  have HB1 := Lib.hid hb1
  have HBW := Lib.hid hBW
  clear hb0 hb1 hBW hW hC HA hd0
  go_loopw [5, 6, 15] (fun f b i wr => ∃ j : Nat, j ≤ 2 ∧ f = .bool false ∧ b = .bool (decide (0 < j)) ∧ i = .int .i64 (j : Int) ∧ Hid (Blk wr w.heap.size 82 #[Value.int .u64 0, Value.int .u32 0, Value.slice none 0 0]) ∧ Hid (Blk wr (w.heap.size + 1) 82 #[Value.int .u64 0, Value.int .u32 0, Value.slice none 0 0]) ∧ Hid (Below w.heap.size w wr)) (fun _ _ i _ => 2 - (intOf i).toNat)
  case atStart => exact ⟨0, by omega, rfl, rfl, rfl, HB0, HB1, HBW⟩
  case round =>
    obtain ⟨j, hj, rfl, rfl, rfl, hb0, hb1, hB⟩ := hrel
    by_cases hj2 : j < 2
    · have hd : decide ((j : Int) < 2) = true := by simp; omega
      have hS := Lib.hid (slot_any j hj2 hN (H.out.later hB.out))
      obtain ⟨bl, hbl⟩ : ∃ bl, bl = decide (0 < j) := ⟨_, rfl⟩
      rw [← hbl]
      have HBL := Lib.hid hbl
      have hsz := hB.out.size
      clear hbl
      go_wp2_with fail
      refine hS.out.mono ?_
      rintro e w1 ⟨v, rfl, hO, hB1⟩
      obtain ⟨va, vc, ev, hvc, hL, _, _⟩ := own_shape hO
      subst ev
      rw [zb_length] at hvc ⊢
      have hCZ := Lib.hid (contains_zero va vc 2048 w1 hL (by omega))
      have hGZ := Lib.hid (get_zero va vc w1 hL hvc)
      have hb01 := hb0.out.below hB1 hb0.out.lt
      have hb11 := hb1.out.below hB1 hb1.out.lt
      have hBB := hB.out.trans (hB1.mono hsz)
      have HB01 := Lib.hid hb01
      have HB11 := Lib.hid hb11
      have HBB := Lib.hid hBB
      clear hO hL hB1 hd hb01 hb11 hBB
      cases bl
      all_goals
        go_wp2_with (first | (go_at_call 55; refine hCZ.out.mono ?_; rintro e w2 ⟨rfl, rfl⟩))
        refine hGZ.out.mono ?_
        rintro e w3 ⟨rfl, hB3⟩
        have HB3 := Lib.hid hB3
        clear hB3
        go_wp2_with fail
        have hz3 := HB3.out.size
        have hz1 := HBB.out.size
        exact ⟨⟨j + 1, hj2, rfl, by simp, by simp, Lib.hid ((HB01.out.below HB3.out HB01.out.lt).alloc _), Lib.hid ((HB11.out.below HB3.out HB11.out.lt).alloc _), Lib.hid ((HBB.out.trans (HB3.out.mono hz1)).alloc (by omega) _)⟩, by simp [intOf]; omega⟩
    · obtain rfl : j = 2 := by omega
      have hd : decide ((2 : Int) < 2) = false := by decide
      have ht : decide (0 < 2) = true := by decide
      have q0 := hb1.out.cell 0
      have q1 := hb1.out.cell 1
      have q2 := hb1.out.cell 2
      have p0 := hb0.out.cell 0
      have p1 := hb0.out.cell 1
      have p2 := hb0.out.cell 2
      have f0 := hb0.out.frozen 0
      have f1 := hb0.out.frozen 1
      have f2 := hb0.out.frozen 2
      simp at q0 q1 q2 p0 p1 p2
      go_wp2_with fail
      have hb3 := ((hb0.out.set 0 (.int .u64 0)).set 1 (.int .u32 0)).set 2 (.slice none 0 0)
      have r0 := hb3.cell 0
      have r1 := hb3.cell 1
      have r2 := hb3.cell 2
      simp at r0 r1 r2
      refine bodyPost_ret (v := .tuple #[.agg #[.int .u64 0, .int .u32 0, .slice none 0 0], .int .i64 0]) (by simp [results, Tryz.results35, go_sem, r0, r1, r2]) rfl ⟨rfl, ?_⟩
      exact ((hB.out.setCell (p := ⟨w.heap.size, 0, none⟩) (Nat.le_refl _) _).setCell (p := ⟨w.heap.size, 1, none⟩) (Nat.le_refl _) _).setCell (p := ⟨w.heap.size, 2, none⟩) (Nat.le_refl _) _
end Go.Proofs.YtndkohocgfmamaaGreat.Man

/- Maps whose elements are read as they are; what a call may have written, by a set of blocks. -/
namespace Go.Proofs.YtndkohocgfmamaaGreat.Mem
open Go.RowKit Go.Deep
open Go.Maps (Keyed)
open Go.MapKept Go.ChangeMaps

/-- A value read as it is. -/
def anyR (v : Value) : Option (DataW Value × List MemPlace) := some (.held v, [])
theorem anyR_inv {v u : Value} {ps : List MemPlace} (h : anyR v = some (.held u, ps)) : v = u := by
  unfold anyR at h
  injection h with h
  injection h with h _
  injection h
/-- The datum D holds just the keys and values of f. -/
def Desc (D : DataW Value) (f : Lit → Option Value) : Prop := ∀ kl, Maps.has D kl = (f kl).isSome ∧ ∀ v, f kl = some v → ∀ z, D.atKey kl z = .held v
/-- Block b is a map that holds just f. -/
def MapIs (w : World) (k : TypeId) (b : Nat) (f : Lit → Option Value) : Prop := ∃ D n, w.ownsMap Tryz.prog k anyR b n D ∧ Desc D f
theorem desc_empty : Desc (.map []) (fun _ => none) := fun _ => ⟨rfl, fun _ h => by cases h⟩
theorem MapIs.made (w : World) (k : TypeId) : MapIs (w.alloc (.map #[] 0)) k w.heap.size (fun _ => none) := ⟨_, 0, World.ownsMap_made w Tryz.prog k anyR, desc_empty⟩
theorem MapIs.lt {w : World} {k : TypeId} {b : Nat} {f : Lit → Option Value} (h : MapIs w k b f) : b < w.heap.size := by
  obtain ⟨D, n, h, _⟩ := h
  exact h.lt
theorem MapIs.keep {w w' : World} {k : TypeId} {b : Nat} {f : Lit → Option Value} (h : MapIs w k b f) (hb : w'.heap[b]? = w.heap[b]?) : MapIs w' k b f := by
  obtain ⟨D, n, ⟨es, clock, h1, h2⟩, hd⟩ := h
  exact ⟨D, n, ⟨es, clock, hb.trans h1, h2⟩, hd⟩
/-- One key anew. -/
noncomputable def setK (f : Lit → Option Value) (k : Lit) (v : Option Value) : Lit → Option Value := fun x => open Classical in if x = k then v else f x
theorem setK_same (f : Lit → Option Value) (k : Lit) (v : Option Value) : setK f k v k = v := by unfold setK; rw [if_pos rfl]
theorem setK_other {f : Lit → Option Value} {k x : Lit} (v : Option Value) (h : x ≠ k) : setK f k v x = f x := by unfold setK; rw [if_neg h]
theorem Desc.put {D : DataW Value} {f : Lit → Option Value} (h : Desc D f) (hD : Maps.IsMap D) {k : Lit} (hk : WideAt.IsKeyLit k) (v : Value) : Desc (D.put k (.held v)) (setK f k (some v)) := fun x => by
  by_cases hx : x = k
  · subst hx
    rw [setK_same]
    exact ⟨Maps.has_put_same hD hk _, fun u hu z => by cases hu; exact Maps.atKey_put_same hD hk _ _⟩
  · rw [setK_other _ hx]
    refine ⟨(Maps.has_put_other hx _).trans (h x).1, fun u hu z => (Maps.atKey_put_other hx _ _).trans ((h x).2 u hu z)⟩
theorem Desc.del {D : DataW Value} {f : Lit → Option Value} (h : Desc D f) (k : Lit) : Desc (D.del k) (setK f k none) := fun x => by
  by_cases hx : x = k
  · subst hx
    rw [setK_same]
    exact ⟨Maps.has_del_same, fun u hu z => by cases hu⟩
  · rw [setK_other _ hx]
    refine ⟨(Maps.has_del_other hx).trans (h x).1, fun u hu z => (Maps.atKey_del_other hx _).trans ((h x).2 u hu z)⟩
/-- Lookup without ok. -/
theorem MapIs.look {w : World} {k : TypeId} {b : Nat} {f : Lit → Option Value} {t e : TypeId} (h : MapIs w k b f) (K : Keyed Tryz.prog k) (ht : Tryz.prog.underlying t = some (.map k e)) {z : Value} (hz : ∀ w, (zeroValue e).run Tryz.prog w = .ok z w)
    {key : Value} {kl : Lit} (hkey : keyOf Tryz.prog k key = some kl) : (Instr.lookup t (.map (some b)) key false).run Tryz.prog w = .ok ((f kl).getD z) w := by
  obtain ⟨D, n, h, hd⟩ := h
  obtain ⟨v, ps, hrun, hv⟩ := h.lookup K ht (hz w) (zd := .held z) (zp := []) rfl hkey
  have e : v = (f kl).getD z := by
    cases hf : f kl with
    | none =>
      have h1 := (hd kl).1
      rw [hf] at h1
      rw [Maps.atKey_of_not_has h1] at hv
      exact anyR_inv hv
    | some u =>
      rw [(hd kl).2 u hf] at hv
      exact anyR_inv hv
  rw [hrun, e]
/-- .. with ok. -/
theorem MapIs.look_ok {w : World} {k : TypeId} {b : Nat} {f : Lit → Option Value} {t e : TypeId} (h : MapIs w k b f) (K : Keyed Tryz.prog k) (ht : Tryz.prog.underlying t = some (.map k e)) {z : Value} (hz : ∀ w, (zeroValue e).run Tryz.prog w = .ok z w)
    {key : Value} {kl : Lit} (hkey : keyOf Tryz.prog k key = some kl) : (Instr.lookup t (.map (some b)) key true).run Tryz.prog w = .ok (.tuple #[(f kl).getD z, .bool (f kl).isSome]) w := by
  obtain ⟨D, n, h, hd⟩ := h
  obtain ⟨v, ps, hrun, hv⟩ := h.look_ok K ht (hz w) (zd := .held z) (zp := []) rfl hkey
  rw [hrun, (hd kl).1]
  have e : v = (f kl).getD z := by
    cases hf : f kl with
    | none =>
      have h1 := (hd kl).1
      rw [hf] at h1
      rw [Maps.atKey_of_not_has h1] at hv
      exact anyR_inv hv
    | some u =>
      rw [(hd kl).2 u hf] at hv
      exact anyR_inv hv
  rw [e]
theorem nodup_len : ∀ (l L : List Lit), l.Pairwise (· ≠ ·) → (∀ x ∈ l, x ∈ L) → l.length ≤ L.length
  | [], _, _, _ => Nat.zero_le _
  | a :: r, L, hp, hs => by
    obtain ⟨h1, h2⟩ := List.pairwise_cons.1 hp
    obtain ⟨s, t, rfl⟩ := List.append_of_mem (hs a (by simp))
    have := nodup_len r (s ++ t) h2 (fun x hx => by
      have h3 := hs x (by simp [hx])
      have h4 := h1 x hx
      simp only [List.mem_append, List.mem_cons] at h3 ⊢
      rcases h3 with h3 | h3 | h3
      · exact .inl h3
      · exact absurd h3.symm h4
      · exact .inr h3)
    simp only [List.length_append, List.length_cons] at this ⊢
    omega
/-- How many keys there are, by a list that has them all. -/
theorem size_le_of {es : List (Lit × DataW Value)} (hp : es.Pairwise (fun p q => p.1 ≠ q.1)) {L : List Lit} (hL : ∀ p ∈ es, p.1 ∈ L) : es.length ≤ L.length := by
  have := nodup_len (es.map Prod.fst) L (List.pairwise_map.2 hp) (fun x hx => by
    obtain ⟨p, hp, rfl⟩ := List.mem_map.1 hx
    exact hL p hp)
  simpa using this
/-- A bound on the entries that the support tells. -/
theorem MapIs.bounded {w : World} {k : TypeId} {b : Nat} {f : Lit → Option Value} (h : MapIs w k b f) (K : Keyed Tryz.prog k) (L : List Lit) (hL : ∀ x, f x ≠ none → x ∈ L) : ∃ D, w.ownsMap Tryz.prog k anyR b L.length D ∧ Desc D f := by
  obtain ⟨D, n, h, hd⟩ := h
  obtain ⟨es, rfl, hp, hk⟩ := h.entries K
  have hle := size_le_of hp (L := L) (fun p hpm => hL _ (fun hn => by
    have h1 := (hd p.1).1
    rw [hn] at h1
    have h2 : Maps.has (.map es) p.1 = true := List.any_eq_true.2 ⟨p, hpm, WideAt.sameKey_self (hk p hpm)⟩
    rw [h2] at h1
    cases h1))
  obtain ⟨es', clock, hb, F, hs, hD⟩ := h
  refine ⟨.map es, ⟨es', clock, hb, F, ?_, hD⟩, hd⟩
  have e1 : es.length = es'.size := by
    injection hD with hD
    rw [hD, Go.length_sorted]
    simp
  omega
/-- A store into it. -/
theorem MapIs.update {w : World} {k : TypeId} {b : Nat} {f : Lit → Option Value} {t e : TypeId} (h : MapIs w k b f) (K : Keyed Tryz.prog k) (ht : Tryz.prog.underlying t = some (.map k e)) (L : List Lit) (hL : ∀ x, f x ≠ none → x ∈ L) (hn : L.length < maxLen)
    {key : Value} {kl : Lit} (hkey : keyOf Tryz.prog k key = some kl) (v : Value) : ∃ w', (Instr.mapUpdate t (.map (some b)) key v).run Tryz.prog w = .ok () w' ∧ MapIs w' k b (setK f kl (some v)) ∧ w.grownBy w' (some b) ∧ w'.heap.size = w.heap.size := by
  obtain ⟨D, h, hd⟩ := h.bounded K L hL
  obtain ⟨w', hrun, h1, h2⟩ := h.store K ht hn hkey (d := .held v) (ps := []) rfl
  refine ⟨w', hrun, ⟨_, _, h1, hd.put h.isMap (K.key hkey) v⟩, h2.grown, ?_⟩
  obtain ⟨es, clock, es', clock', _, rfl⟩ := h2
  simp [setBlock]
/-- A key taken out of it. -/
theorem MapIs.drop {w : World} {k : TypeId} {b : Nat} {f : Lit → Option Value} {t e : TypeId} (h : MapIs w k b f) (K : Keyed Tryz.prog k) (ht : Tryz.prog.underlying t = some (.map k e)) {key : Value} {kl : Lit} (hkey : keyOf Tryz.prog k key = some kl) (ty : TypeId) :
    ∃ w', (Builtin.delete_ #[t, k] ty #[.map (some b), key]).run Tryz.prog w = .ok (.tuple #[]) w' ∧ MapIs w' k b (setK f kl none) ∧ w.grownBy w' (some b) ∧ w'.heap.size = w.heap.size := by
  obtain ⟨D, n, h, hd⟩ := h
  obtain ⟨w', hrun, h1, h2⟩ := h.drop K ht hkey ty
  refine ⟨w', hrun, ⟨_, _, h1, hd.del kl⟩, h2.grown, ?_⟩
  obtain ⟨es, clock, es', clock', _, rfl⟩ := h2
  simp [setBlock]
end Go.Proofs.YtndkohocgfmamaaGreat.Mem

/- Layer 10: a store of which nothing was committed: its disk is blank, its files are its changes. -/
namespace Go.Proofs.YtndkohocgfmamaaGreat.Store
open Go.RowKit Go.Deep Mem Crc Disk Man

/-- What was changed of a file: not (none), gone (some none), its bytes. -/
abbrev Chg := List UInt8 → Option (Option (List UInt8))
/-- A change as the map holds it. -/
def chgV (w : World) (Q : Nat → Prop) : Option (List UInt8) → Value → Prop
  | none, v => v = .agg #[.slice none 0 0, .bool true]
  | some b, v => ∃ a cp, v = .agg #[.slice a b.length cp, .bool false] ∧ b.length ≤ cp ∧ Lies w a (b.map bv) ∧ ∀ g, blk a = some g → Q g
def isChg (w : World) (Q : Nat → Prop) (f : Lit → Option Value) (C : Chg) (nm : List UInt8) : Prop :=
  match C nm with
  | none => f (.string nm) = none
  | some c => ∃ v, f (.string nm) = some v ∧ chgV w Q c v
/-- A store at block s, over the disk d with its row g; its changes' map cm; all its blocks are in Q. -/
structure St (w : World) (Q : Nat → Prop) (s d g N cm : Nat) (off : Bool) (C : Chg) : Prop where
  store : Blk w s 93 #[.pointer (some ⟨d, 0, none⟩), .int .u64 0, .int .u32 0, .slice none 0 0, .map (some cm), .bool false]
  disk : Blank w d g N off
  map : ∃ f, MapIs w 9 cm f ∧ (∀ x, f x ≠ none → ∃ nm, x = .string nm) ∧ ∀ nm, isChg w (fun k => Q k ∧ k ≠ cm) f C nm
  qs : Q s
  qd : Q d
  qg : Q g
  qm : Q cm
  lt : ∀ k, Q k → k < w.heap.size
theorem chgV.keep {w w' : World} {Q Q' : Nat → Prop} {c : Option (List UInt8)} {v : Value} (h : chgV w Q c v) (hs : w.heap.size ≤ w'.heap.size) (hk : ∀ k, Q k → w'.heap[k]? = w.heap[k]?) (hQ : ∀ k, Q k → Q' k) : chgV w' Q' c v := by
  cases c with
  | none => exact h
  | some b =>
    obtain ⟨a, cp, e, h1, h2, h3⟩ := h
    exact ⟨a, cp, e, h1, h2.keep hs (fun g hg => hk g (h3 g hg)), fun g hg => hQ g (h3 g hg)⟩
theorem isChg.keep {w w' : World} {Q Q' : Nat → Prop} {f : Lit → Option Value} {C : Chg} {nm : List UInt8} (h : isChg w Q f C nm) (hs : w.heap.size ≤ w'.heap.size) (hk : ∀ k, Q k → w'.heap[k]? = w.heap[k]?) (hQ : ∀ k, Q k → Q' k) : isChg w' Q' f C nm := by
  unfold isChg at h ⊢
  cases hc : C nm with
  | none => rw [hc] at h; exact h
  | some c =>
    rw [hc] at h
    obtain ⟨v, h1, h2⟩ := h
    exact ⟨v, h1, h2.keep hs hk hQ⟩
theorem St.keep {w w' : World} {Q : Nat → Prop} {s d g N cm : Nat} {off : Bool} {C : Chg} (h : St w Q s d g N cm off C) (hs : w.heap.size ≤ w'.heap.size) (hk : ∀ k, Q k → w'.heap[k]? = w.heap[k]?) : St w' Q s d g N cm off C := by
  obtain ⟨f, h1, h2, h3⟩ := h.map
  exact ⟨(hk s h.qs).trans h.store, h.disk.keep (hk d h.qd) (hk g h.qg), ⟨f, h1.keep (hk cm h.qm), h2, fun nm => (h3 nm).keep hs (fun k hq => hk k hq.1) (fun _ h => h)⟩, h.qs, h.qd, h.qg, h.qm, fun k hq => Nat.lt_of_lt_of_le (h.lt k hq) hs⟩
theorem St.later {w w' : World} {Q : Nat → Prop} {s d g N cm : Nat} {off : Bool} {C : Chg} (h : St w Q s d g N cm off C) (hB : Below w.heap.size w w') : St w' Q s d g N cm off C := h.keep hB.size (fun k hq => hB.block k (h.lt k hq))
theorem St.only {w w' : World} {Q : Nat → Prop} {s d g N cm : Nat} {off : Bool} {C : Chg} {F : List Nat} (h : St w Q s d g N cm off C) (ho : Only F w w') (hF : ∀ k ∈ F, ¬ Q k) : St w' Q s d g N cm off C := h.keep ho.size (fun k hq => ho.block k (h.lt k hq) (fun hm => hF k hm hq))
/-- Nothing is changed. -/
def none' : Chg := fun _ => none
set_option maxHeartbeats 400000 in
set_option maxRecDepth 100000 in
theorem open_any {d g N : Nat} (hN : 33 ≤ N) {w : World} (h : Blank w d g N false) :
    Calls Tryz.prog 21 #[.pointer (some ⟨d, 0, none⟩)] w fun e w' => ∃ s cm, e = .returned (.tuple #[.pointer (some ⟨s, 0, none⟩), .int .i64 0]) ∧ St w' (fun k => k = s ∨ k = d ∨ k = g ∨ k = cm) s d g N cm false none' ∧ w.heap.size ≤ s ∧ w.heap.size ≤ cm ∧ Below w.heap.size w w' := by
  have hal := (Below.refl w.heap.size w).alloc (Nat.le_refl _) (Obj.cells #[Value.pointer (some ⟨d, 0, none⟩)] 24)
  have HM := Lib.hid (read_blank hN (h.later hal))
  have H := Lib.hid h
  have HA := Lib.hid hal
  have hbd := Blk.new w 24 #[Value.pointer (some ⟨d, 0, none⟩)]
  have HBD := Lib.hid hbd
  clear h hal hbd
  go_enter Tryz.func21, Tryz.ntmps21
  go_wp2_with fail
  refine HM.out.mono ?_
  rintro e w1 ⟨rfl, hB1⟩
  have c0 := (hB1.cell (p := ⟨w.heap.size, 0, none⟩) HBD.out.lt).trans (HBD.out.cell 0)
  simp at c0
  have HB1 := Lib.hid hB1
  have hs1 := hB1.size
  simp at hs1
  clear hB1
  go_wp2_with fail
  obtain ⟨W, hW⟩ : ∃ W, W = w1.alloc (.cells #[.int .u64 0, .int .u32 0, .slice none 0 0] 82) := ⟨_, rfl⟩
  have hb := Blk.new w1 82 #[.int .u64 0, .int .u32 0, .slice none 0 0]
  rw [← hW] at hb ⊢
  have m0 := hb.cell 0
  have m1 := hb.cell 1
  have m2 := hb.cell 2
  have d0 : W.cell? ⟨w.heap.size, 0, none⟩ = some (.pointer (some ⟨d, 0, none⟩)) := by rw [hW]; exact (((Below.refl w1.heap.size w1).alloc (Nat.le_refl _) _).cell (p := ⟨w.heap.size, 0, none⟩) (by show w.heap.size < _; omega)).trans c0
  simp at m0 m1 m2
  have hBW : Below w.heap.size w W := by rw [hW]; exact (HA.out.trans (HB1.out.mono (by simp))).alloc (by omega) _
  have hWs : w.heap.size < W.heap.size := by rw [hW]; simp; omega
  have HBW := Lib.hid hBW
  clear hb hW HB1 HA HM HBD hBW c0
  go_loopw [20] (fun i wr => i = .int .i64 0 ∧ wr = W) (fun _ _ => 0)
  case atStart => exact ⟨rfl, rfl⟩
  case round =>
    obtain ⟨rfl, rfl⟩ := hrel
    have hmk := run_makeMap (P := Tryz.prog) 91 wr
    go_wp2_with fail
    go_ret2
    have hsz := HBW.out.size
    have hB2 : Below wr.heap.size wr ((wr.alloc (.map #[] 0)).alloc (.cells #[.pointer (some ⟨d, 0, none⟩), .int .u64 0, .int .u32 0, .slice none 0 0, .map (some wr.heap.size), .bool false] 93)) := ((Below.refl _ wr).alloc (Nat.le_refl _) _).alloc (by simp) _
    have hD := (H.out.later HBW.out).later hB2
    have hmap : MapIs ((wr.alloc (.map #[] 0)).alloc (.cells #[.pointer (some ⟨d, 0, none⟩), .int .u64 0, .int .u32 0, .slice none 0 0, .map (some wr.heap.size), .bool false] 93)) 9 wr.heap.size (fun _ => none) := (MapIs.made wr _).keep (Below.heap_alloc _ _ _ (by simp))
    refine ⟨wr.heap.size + 1, wr.heap.size, rfl, ⟨Blk.at_ (by simp), hD, ⟨_, hmap, fun x h => absurd rfl h, fun nm => rfl⟩, .inl rfl, .inr (.inl rfl), .inr (.inr (.inl rfl)), .inr (.inr (.inr rfl)), fun k hk => ?_⟩, by omega, hsz, HBW.out.trans (hB2.mono hsz)⟩
    have h1 := hD.disk.lt
    have h2 := hD.row.lt
    rcases hk with rfl | rfl | rfl | rfl
    · simp
    · exact h1
    · exact h2
    · simp; omega
theorem down_any {w : World} {Q : Nat → Prop} {s d g N cm : Nat} {off : Bool} {C : Chg} (h : St w Q s d g N cm off C) :
    Calls Tryz.prog 72 #[.pointer (some ⟨s, 0, none⟩)] w fun e w' => e = .returned (.bool off) ∧ w' = w := by
  have c0 := h.store.cell 0
  have c5 := h.store.cell 5
  simp at c0 c5
  have HO := Lib.hid (on_any h.disk)
  clear h
  go_enter Tryz.func72, Tryz.ntmps72
  go_wp2_with fail
  refine HO.out.mono ?_
  rintro e w1 ⟨rfl, rfl⟩
  go_wp2_with fail
  go_ret
  exact ⟨by simp, rfl⟩
end Go.Proofs.YtndkohocgfmamaaGreat.Store

/- Layer 10: Write and Read of a store of which nothing was committed. -/
namespace Go.Proofs.YtndkohocgfmamaaGreat.Store
open Go.RowKit Go.Deep Mem Crc Disk Man Go.Maps

noncomputable def setC (C : Chg) (nm : List UInt8) (c : Option (Option (List UInt8))) : Chg := fun x => open Classical in if x = nm then c else C x
theorem setC_same (C : Chg) (nm : List UInt8) (c : Option (Option (List UInt8))) : setC C nm c nm = c := by unfold setC; rw [if_pos rfl]
theorem setC_other {C : Chg} {nm x : List UInt8} (c : Option (Option (List UInt8))) (h : x ≠ nm) : setC C nm c x = C x := by unfold setC; rw [if_neg h]
/-- A name as a value. -/
def nv (nm : List UInt8) : Value := .string ⟨nm.toArray⟩
theorem nv_key {nm : List UInt8} (h : nm.length ≤ 1000000) : keyOf Tryz.prog 9 (nv nm) = some (.string nm) := by
  have := Go.WideMaps.keyOf_string_mk (P := Tryz.prog) (k := 9) Tryz.underlying9 (s := ⟨nm.toArray⟩) (by show nm.toArray.size ≤ maxLen; unfold maxLen; simp; omega)
  simpa [nv] using this
theorem strKeyed : Go.Maps.Keyed Tryz.prog 9 := string_keyed Tryz.underlying9
/-- Behind a store into the changes' map. -/
theorem St.changed {w w1 : World} {Q : Nat → Prop} {s d g N cm : Nat} {off : Bool} {C : Chg} (h : St w Q s d g N cm off C) (hB : Below w.heap.size w w1) (L : List (List UInt8)) (hL : ∀ x, C x ≠ none → x ∈ L) (hn : L.length ≤ 1000000)
    (nm : List UInt8) (hnm : nm.length ≤ 1000000) (c : Option (List UInt8)) (v : Value) (hv : chgV w1 (fun k => w.heap.size ≤ k ∧ k < w1.heap.size) c v) :
    ∃ w2, (Instr.mapUpdate 91 (.map (some cm)) (nv nm) v).run Tryz.prog w1 = .ok () w2 ∧ St w2 (fun k => Q k ∨ (w.heap.size ≤ k ∧ k < w1.heap.size)) s d g N cm off (setC C nm (some c)) ∧ Only [cm] w w2 ∧ w2.heap.size = w1.heap.size := by
  have h1 := h.later hB
  obtain ⟨f, hm, hk, hf⟩ := h1.map
  obtain ⟨w2, hrun, hm2, hg, hs⟩ := hm.update strKeyed Tryz.underlying91 (L.map Lit.string) (fun x hx => by
    obtain ⟨y, rfl⟩ := hk x hx
    refine List.mem_map.2 ⟨y, hL y (fun hc => ?_), rfl⟩
    have := hf y
    unfold isChg at this
    rw [hc] at this
    exact hx this) (by rw [List.length_map]; unfold maxLen; omega) (nv_key hnm) v
  have ho : Only [cm] w1 w2 := Only.of_grown hg (fun g hg => by cases hg; exact .inl (by simp))
  have hdm : d ≠ cm := fun e => by
    have := hm.lt
    obtain ⟨D, n, ⟨es, cl, hb, _⟩, _⟩ := hm
    have hd := h1.disk.disk
    unfold Blk at hd
    rw [e, hb] at hd
    cases hd
  have hgm : g ≠ cm := fun e => by
    obtain ⟨D, n, ⟨es, cl, hb, _⟩, _⟩ := hm
    have hd := h1.disk.row
    unfold Blk at hd
    rw [e, hb] at hd
    cases hd
  have hsm : s ≠ cm := fun e => by
    obtain ⟨D, n, ⟨es, cl, hb, _⟩, _⟩ := hm
    have hd := h1.store
    unfold Blk at hd
    rw [e, hb] at hd
    cases hd
  have hcm := h.lt cm h.qm
  have hsz := hB.size
  have hkk : ∀ k, k < w1.heap.size → k ≠ cm → w2.heap[k]? = w1.heap[k]? := fun k hk hne => ho.block k hk (by simpa using hne)
  refine ⟨w2, hrun, ⟨(hkk s h1.store.lt hsm).trans h1.store, h1.disk.keep (hkk d h1.disk.disk.lt hdm) (hkk g h1.disk.row.lt hgm), ⟨_, hm2, fun x hx => ?_, fun x => ?_⟩, .inl h.qs, .inl h.qd, .inl h.qg, .inl h.qm, fun k hq => ?_⟩, (Only.of_below (bs := [cm]) hB).trans ho, hs⟩
  · by_cases e : x = .string nm
    · exact ⟨nm, e⟩
    · rw [setK_other _ e] at hx
      exact hk x hx
  · by_cases e : x = nm
    · subst e
      unfold isChg
      rw [setC_same, setK_same]
      exact ⟨v, rfl, hv.keep ho.size (fun k hq => hkk k hq.2 (by omega)) (fun k hq => ⟨.inr hq, by omega⟩)⟩
    · have h3 := hf x
      unfold isChg at h3 ⊢
      rw [setC_other _ e, setK_other _ (fun h => e (by injection h))]
      cases hc : C x with
      | none => rw [hc] at h3; exact h3
      | some c' =>
        rw [hc] at h3
        obtain ⟨u, hu, h4⟩ := h3
        exact ⟨u, hu, h4.keep ho.size (fun k hq => hkk k (h1.lt k hq.1) hq.2) (fun k hq => ⟨.inl hq.1, hq.2⟩)⟩
  · rw [hs]
    rcases hq with hq | hq
    · exact h1.lt k hq
    · exact hq.2
theorem len_name (nm : List UInt8) (w : World) : (Builtin.len_ #[9] 3 #[nv nm]).run Tryz.prog w = .ok (.int .i64 (nm.length : Int)) w := by
  simp [Builtin.len_, run_underlying Tryz.underlying9, nv, goInt, Result.andThen]
  rfl
set_option maxHeartbeats 400000 in
set_option maxRecDepth 100000 in
theorem write_any {w : World} {Q : Nat → Prop} {s d g N cm : Nat} {C : Chg} (h : St w Q s d g N cm false C) (L : List (List UInt8)) (hL : ∀ x, C x ≠ none → x ∈ L) (hn : L.length ≤ 1000000)
    (nm : List UInt8) (hn1 : 1 ≤ nm.length) (hn2 : nm.length ≤ 32) (a : Option Addr) (cp : Nat) (b : List UInt8) (hb : Lies w a (b.map bv)) (hb2 : b.length ≤ 1048576) :
    Calls Tryz.prog 48 #[.pointer (some ⟨s, 0, none⟩), nv nm, .slice a b.length cp] w fun e w' => e = .returned (.int .i64 0) ∧ ∃ Q', St w' Q' s d g N cm false (setC C nm (some (some b))) ∧ (∀ k, Q' k → Q k ∨ w.heap.size ≤ k) ∧ (∀ k, Q k → Q' k) ∧ Only [cm] w w' := by
  have HD := Lib.hid (down_any h)
  have HC := Lib.hid (clone_any a cp b w.drew hb (by omega))
  have H := Lib.hid h
  have c4 := h.store.cell 4
  have HLS := Lib.hid h.store.lt
  have HDR := Lib.hid ((Below.refl w.heap.size w).drew)
  simp at c4
  clear h hb
  have h0 : ((nm.length : Int) == 0) = false := by
    have : ¬ (nm.length : Int) = 0 := by omega
    simpa using this
  have h1 : decide (32 < (nm.length : Int)) = false := by
    have : ¬ 32 < (nm.length : Int) := by omega
    simpa using this
  have h2 : decide (1048576 < (b.length : Int)) = false := by
    have : ¬ 1048576 < (b.length : Int) := by omega
    simpa using this
  have hlen := len_name nm
  obtain ⟨x, hx⟩ : ∃ x, x = nv nm := ⟨_, rfl⟩
  obtain ⟨ln, hln⟩ : ∃ ln, ln = nm.length := ⟨_, rfl⟩
  rw [← hx, ← hln] at hlen
  rw [← hln] at h0 h1
  rw [← hx]
  have HX := Lib.hid hx
  clear hx hln
  go_enter Tryz.func48, Tryz.ntmps48
  go_wp2_with fail
  refine HD.out.mono ?_
  rintro e w1 ⟨rfl, rfl⟩
  go_wp2_with fail
  go_region_held3 (fun w' => w'.cell? ⟨s, 4, none⟩ = some (.map (some cm))) (first | exact c4 | exact hk2 | exact hk3) ((go_at_call 66; refine HC.out.mono ?_; rintro e w2 ⟨v, rfl, hO, hB2⟩; obtain ⟨va, vc, rfl, hvc, hvl, hvb, _⟩ := own_shape hO; obtain ⟨w3, hrun, hst3, ho3, hs3⟩ := H.out.changed (w1 := w2) (HDR.out.trans hB2) L hL hn nm (by omega) (some b) (.agg #[.slice va b.length vc, .bool false]) ⟨va, vc, rfl, hvc, hvl, hvb⟩; rw [← HX.out] at hrun; have hk2 := (hB2.cell (p := ⟨s, 4, none⟩) HLS.out).trans c4; have hk3 := hst3.store.cell 4; simp at hk3; dsimp only))
  go_wp2_with fail
  go_ret
  exact ⟨rfl, _, hst3, fun k hk => hk.imp id And.left, fun k hk => .inl hk, ho3⟩
end Go.Proofs.YtndkohocgfmamaaGreat.Store

/- Layer 10: Read of a store of which nothing was committed; what is refused on a disk that is off. -/
namespace Go.Proofs.YtndkohocgfmamaaGreat.Store
open Go.RowKit Go.Deep Mem Crc Disk Man Go.Maps

theorem zero_chg (w : World) : (zeroValue 127).run Tryz.prog w = .ok (.agg #[.slice none 0 0, .bool false]) w := by kernel_rfl
theorem St.look {w : World} {Q : Nat → Prop} {s d g N cm : Nat} {off : Bool} {C : Chg} (h : St w Q s d g N cm off C) (nm : List UInt8) (hn : nm.length ≤ 1000000) :
    (Instr.lookup 91 (.map (some cm)) (nv nm) true).run Tryz.prog w = .ok (.tuple #[.agg #[.slice none 0 0, .bool false], .bool false]) w ∧ C nm = none ∨
    (Instr.lookup 91 (.map (some cm)) (nv nm) true).run Tryz.prog w = .ok (.tuple #[.agg #[.slice none 0 0, .bool true], .bool true]) w ∧ C nm = some none ∨
    ∃ b a cp, (Instr.lookup 91 (.map (some cm)) (nv nm) true).run Tryz.prog w = .ok (.tuple #[.agg #[.slice a b.length cp, .bool false], .bool true]) w ∧ C nm = some (some b) ∧ b.length ≤ cp ∧ Lies w a (b.map bv) := by
  obtain ⟨f, hm, hk, hf⟩ := h.map
  have hl := hm.look_ok strKeyed Tryz.underlying91 zero_chg (nv_key hn)
  have hx := hf nm
  unfold isChg at hx
  cases hc : C nm with
  | none =>
    rw [hc] at hx
    rw [hx] at hl
    exact .inl ⟨hl, rfl⟩
  | some c =>
    rw [hc] at hx
    obtain ⟨v, h1, h2⟩ := hx
    rw [h1] at hl
    cases c with
    | none =>
      rw [show v = _ from h2] at hl
      exact .inr (.inl ⟨hl, rfl⟩)
    | some b =>
      obtain ⟨a, cp, rfl, h3, h4, _⟩ := h2
      exact .inr (.inr ⟨b, a, cp, hl, rfl, h3, h4⟩)
theorem search_none (x fv : Value) (w : World) : Calls Tryz.prog 125 #[.slice none 0 0, x, fv] w fun e w' => e = .returned (.tuple #[.int .i64 0, .bool false]) ∧ w' = w := by
  go_enter Tryz.func125, Tryz.ntmps125
  go_wp2_with fail
  go_loopw [9, 10] (fun i j wr => i = .int .i64 0 ∧ j = .int .i64 0 ∧ wr = w) (fun _ _ _ => 0)
  case atStart => exact ⟨rfl, rfl, rfl⟩
  case round =>
    obtain ⟨rfl, rfl, rfl⟩ := hrel
    go_wp2_with fail
    go_ret2
    exact ⟨rfl, rfl⟩
/-- Find on no files. -/
theorem find_none (x : Value) (w : World) : Calls Tryz.prog 103 #[.agg #[.int .u64 0, .int .u32 0, .slice none 0 0], x] w fun e w' => e = .returned (.tuple #[.int .i64 0, .bool false]) ∧ Below w.heap.size w w' := by
  go_enter Tryz.func103, Tryz.ntmps103
  go_wp2_with fail
  refine (search_none _ _ _).mono ?_
  rintro e w1 ⟨rfl, rfl⟩
  go_wp2_with fail
  go_ret2
  exact ⟨rfl, (Below.refl _ w).alloc (Nat.le_refl _) _⟩
set_option maxHeartbeats 400000 in
set_option maxRecDepth 100000 in
theorem read_off {w : World} {Q : Nat → Prop} {s d g N cm : Nat} {C : Chg} (h : St w Q s d g N cm true C) (x : Value) :
    Calls Tryz.prog 73 #[.pointer (some ⟨s, 0, none⟩), x] w fun e w' => e = .returned (.tuple #[.slice none 0 0, .int .i64 6]) ∧ Below w.heap.size w w' := by
  have HD := Lib.hid (down_any h)
  clear h
  go_enter Tryz.func73, Tryz.ntmps73
  go_wp2_with fail
  refine HD.out.mono ?_
  rintro e w1 ⟨rfl, rfl⟩
  go_wp2_with fail
  go_ret2
  exact ⟨rfl, Below.refl _ _⟩
set_option maxHeartbeats 400000 in
set_option maxRecDepth 100000 in
theorem write_off {w : World} {Q : Nat → Prop} {s d g N cm : Nat} {C : Chg} (h : St w Q s d g N cm true C) (x : Value) (a : Option Addr) (n cp : Nat) :
    Calls Tryz.prog 48 #[.pointer (some ⟨s, 0, none⟩), x, .slice a n cp] w fun e w' => e = .returned (.int .i64 6) ∧ w' = w := by
  have HD := Lib.hid (down_any h)
  clear h
  go_enter Tryz.func48, Tryz.ntmps48
  go_wp2_with fail
  refine HD.out.mono ?_
  rintro e w1 ⟨rfl, rfl⟩
  go_wp2_with fail
  go_ret
  exact ⟨rfl, rfl⟩
/-- What Read hands back, and the error. -/
def readOf (C : Chg) (nm : List UInt8) : List UInt8 × Int :=
  match C nm with
  | some (some b) => (b, 0)
  | _ => ([], 8)
set_option maxHeartbeats 400000 in
set_option maxRecDepth 100000 in
theorem read_any {w : World} {Q : Nat → Prop} {s d g N cm : Nat} {C : Chg} (h : St w Q s d g N cm false C) (nm : List UInt8) (hn : nm.length ≤ 1000000) (hb : ∀ b, C nm = some (some b) → b.length ≤ 4000000) :
    Calls Tryz.prog 73 #[.pointer (some ⟨s, 0, none⟩), nv nm] w fun e w' => ∃ v, e = .returned (.tuple #[v, .int .i64 (readOf C nm).2]) ∧ OwnB w' w.heap.size v (readOf C nm).1 ∧ Below w.heap.size w w' := by
  have HD := Lib.hid (down_any h)
  have hl := h.look nm hn
  have c1 := h.store.cell 1
  have c2 := h.store.cell 2
  have c3 := h.store.cell 3
  have c4 := h.store.cell 4
  have ha := h.store.alloc (.cells #[.slice none 0 0, .bool false] 127)
  have k1 := ha.cell 1
  have k2 := ha.cell 2
  have k3 := ha.cell 3
  simp at c1 c2 c3 c4 k1 k2 k3
  clear ha
  obtain ⟨x, hx⟩ : ∃ x, x = nv nm := ⟨_, rfl⟩
  rw [← hx] at hl ⊢
  clear h hx
  rcases hl with ⟨hl, hc⟩ | ⟨hl, hc⟩ | ⟨b, a, cp, hl, hc, hcp, hL⟩
  · have er : readOf C nm = ([], 8) := by unfold readOf; rw [hc]
    rw [er]
    clear hc hb
    go_enter Tryz.func73, Tryz.ntmps73
    go_wp2_with fail
    refine HD.out.mono ?_
    rintro e w1 ⟨rfl, rfl⟩
    go_wp2_with fail
    refine (find_none _ _).mono ?_
    rintro e w2 ⟨rfl, hB2⟩
    have hBB := ((Below.refl w1.heap.size w1).alloc (Nat.le_refl _) (.cells #[.slice none 0 0, .bool false] 127)).trans (hB2.mono (by simp))
    have HBB := Lib.hid hBB
    clear hB2 hBB
    go_wp2_with fail
    go_ret2
    exact ⟨_, rfl, World.ownsRow_nil _ _ _ _, HBB.out⟩
  · have er : readOf C nm = ([], 8) := by unfold readOf; rw [hc]
    rw [er]
    clear hc hb
    go_enter Tryz.func73, Tryz.ntmps73
    go_wp2_with fail
    refine HD.out.mono ?_
    rintro e w1 ⟨rfl, rfl⟩
    go_wp2_with fail
    go_ret2
    exact ⟨_, rfl, World.ownsRow_nil _ _ _ _, (Below.refl _ w1).alloc (Nat.le_refl _) _⟩
  · have er : readOf C nm = (b, 0) := by unfold readOf; rw [hc]
    rw [er]
    have hbl := hb b hc
    clear hc hb er
    go_enter Tryz.func73, Tryz.ntmps73
    go_wp2_with fail
    refine HD.out.mono ?_
    rintro e w1 ⟨rfl, rfl⟩
    have hal := (Below.refl w1.heap.size w1).alloc (Nat.le_refl _) (.cells #[.slice a b.length cp, .bool false] 127)
    have HC := Lib.hid (clone_any a cp b _ (hL.later hal) (by omega))
    have HA := Lib.hid hal
    clear hL hal
    go_wp2_with fail
    refine HC.out.mono ?_
    rintro e w2 ⟨v, rfl, hO, hB2⟩
    have HO := Lib.hid (own_mono hO (show w1.heap.size ≤ _ by simp))
    have HB2 := Lib.hid (HA.out.trans (hB2.mono (by simp)))
    clear hO hB2
    go_wp2_with fail
    go_ret2
    exact ⟨_, rfl, HO.out, HB2.out⟩
end Go.Proofs.YtndkohocgfmamaaGreat.Store

/- Layer 10: Names of a store of which nothing was committed. -/
namespace Go.Proofs.YtndkohocgfmamaaGreat.Store
open Go.RowKit Go.Deep Mem Crc Disk Man Go.Maps

def unit' : Value := .agg #[]
/-- Is there such a file? -/
def isFile (C : Chg) (nm : List UInt8) : Bool :=
  match C nm with
  | some (some _) => true
  | _ => false
/-- The names met so far: those that are no longer to come and not gone. -/
def Seen (C : Chg) (left : Lit → Bool) (fm : Lit → Option Value) : Prop := (∀ x, fm x ≠ none → ∃ nm, x = .string nm) ∧ ∀ nm, fm (.string nm) = if !left (.string nm) && isFile C nm then some unit' else none
theorem seen_step {C : Chg} {left : Lit → Bool} {fm : Lit → Option Value} (h : Seen C left fm) (nm : List UInt8) (u : Option Value) (hu : u = if isFile C nm then some unit' else none) : Seen C (fun z => left z && !z.sameKey (.string nm)) (setK fm (.string nm) u) := by
  refine ⟨fun x hx => ?_, fun x => ?_⟩
  · by_cases e : x = .string nm
    · exact ⟨nm, e⟩
    · rw [setK_other _ e] at hx
      exact h.1 x hx
  · by_cases e : x = nm
    · subst e
      rw [setK_same, hu]
      have : (Lit.string x).sameKey (.string x) = true := WideAt.sameKey_self trivial
      simp [this]
    · rw [setK_other _ (fun h => e (by injection h)), h.2 x]
      have : (Lit.string x).sameKey (.string nm) = false := Maps.sameKey_ne (fun h => e (by injection h))
      simp [this]
theorem setK_twice (f : Lit → Option Value) (k : Lit) (u v : Option Value) : setK (setK f k u) k v = setK f k v := by
  funext x
  by_cases e : x = k
  · subst e; rw [setK_same, setK_same]
  · rw [setK_other _ e, setK_other _ e, setK_other _ e]
theorem seen_start {w : World} {Q : Nat → Prop} {C : Chg} {D : DataW Value} {f : Lit → Option Value} (hd : Desc D f) (hf : ∀ nm, isChg w Q f C nm) : Seen C (Maps.has D) (fun _ => none) := ⟨fun x h => absurd rfl h, fun nm => by
  have := hf nm
  unfold isChg at this
  unfold isFile
  rw [(hd _).1]
  cases hc : C nm with
  | none => simp
  | some c =>
    rw [hc] at this
    obtain ⟨v, hv, _⟩ := this
    rw [hv]
    simp⟩
theorem support {L : List (List UInt8)} {C : Chg} {left : Lit → Bool} {fm : Lit → Option Value} (hL : ∀ x, C x ≠ none → x ∈ L) (h : Seen C left fm) : ∀ x, fm x ≠ none → x ∈ L.map Lit.string := fun x hx => by
  obtain ⟨nm, rfl⟩ := h.1 x hx
  refine List.mem_map.2 ⟨nm, hL nm (fun hc => hx ?_), rfl⟩
  rw [h.2 nm]
  unfold isFile
  rw [hc]
  simp
theorem strKeys_mem {D : DataW Value} {fm : Lit → Option Value} (hd : Desc D fm) (hs : ∀ x, fm x ≠ none → ∃ nm, x = .string nm) (hD : ∃ es, D = .map es ∧ es.Pairwise (fun p q => p.1 ≠ q.1) ∧ ∀ p ∈ es, WideAt.IsKeyLit p.1) (nm : List UInt8) : nm ∈ strKeys D ↔ fm (.string nm) ≠ none := by
  obtain ⟨es, rfl, _, hk⟩ := hD
  constructor
  · intro h
    obtain ⟨p, hp, rfl⟩ := List.mem_map.1 h
    have h1 : Maps.has (.map es) p.1 = true := List.any_eq_true.2 ⟨p, hp, WideAt.sameKey_self (hk p hp)⟩
    rw [(hd p.1).1] at h1
    have h2 : fm p.1 ≠ none := fun h => by rw [h] at h1; cases h1
    obtain ⟨m, hm⟩ := hs p.1 h2
    rw [hm] at h2 ⊢
    exact h2
  · intro h
    have h1 : Maps.has (.map es) (.string nm) = true := by
      rw [(hd _).1]
      exact Option.isSome_iff_ne_none.2 h
    obtain ⟨p, hp, hpk⟩ := List.any_eq_true.1 h1
    refine List.mem_map.2 ⟨p, hp, ?_⟩
    rw [WideAt.sameKey_eq hpk]
    rfl
theorem chg_shape {w : World} {Q : Nat → Prop} {C : Chg} {nm : List UInt8} {c : Option (List UInt8)} {v : Value} (hc : C nm = some c) (h : chgV w Q c v) : ∃ a n cp gn, v = .agg #[.slice a n cp, .bool gn] ∧ isFile C nm = !gn := by
  cases c with
  | none => exact ⟨none, 0, 0, true, h, by unfold isFile; rw [hc]; rfl⟩
  | some b =>
    obtain ⟨a, cp, e, _⟩ := h
    exact ⟨a, b.length, cp, false, e, by unfold isFile; rw [hc]; rfl⟩
theorem strKeys_length {D : DataW Value} (hD : ∃ es, D = .map es ∧ es.Pairwise (fun p q => p.1 ≠ q.1) ∧ ∀ p ∈ es, WideAt.IsKeyLit p.1) : (strKeys D).length = Maps.size D := by
  obtain ⟨es, rfl, _, _⟩ := hD
  simp [strKeys, Maps.size]
/-- What a step of the range meets. -/
theorem met {w : World} {Q : Nat → Prop} {C : Chg} {D : DataW Value} {f : Lit → Option Value} (hd : Desc D f) (hf : ∀ nm, isChg w Q f C nm) (hk : ∀ x, f x ≠ none → ∃ nm, x = .string nm) (hb : ∀ nm, C nm ≠ none → nm.length ≤ 1000000)
    {key v : Value} {kl : Lit} {y : DataW Value × List MemPlace} (hkey : keyOf Tryz.prog 9 key = some kl) (hv : anyR v = some y) (hat : ∀ zd, D.atKey kl zd = y.1) : ∃ nm c, kl = .string nm ∧ key = nv nm ∧ C nm = some c ∧ chgV w Q c v := by
  have h1 := Maps.has_true_of_atKey hat
  rw [(hd kl).1] at h1
  obtain ⟨u, hu⟩ := Option.isSome_iff_exists.1 h1
  obtain ⟨nm, rfl⟩ := hk kl (by rw [hu]; exact fun h => by cases h)
  have h2 := hf nm
  unfold isChg at h2
  cases hc : C nm with
  | none => rw [hc] at h2; rw [h2] at hu; cases hu
  | some c =>
    rw [hc] at h2
    obtain ⟨v2, h3, h4⟩ := h2
    have e1 : v = u := by
      have e := (hat (.held u)).symm.trans ((hd _).2 u hu (.held u))
      have e3 : y = (.held v, []) := (Option.some.inj hv).symm
      rw [e3] at e
      exact DataW.held.inj e
    have e2 : v2 = u := Option.some.inj (h3.symm.trans hu)
    refine ⟨nm, c, rfl, strKeyed.inj hkey (nv_key (hb nm (by rw [hc]; exact fun h => by cases h))), hc, ?_⟩
    rw [e1, ← e2]
    exact h4
set_option maxHeartbeats 400000 in
set_option maxRecDepth 100000 in
theorem names_any {w : World} {Q : Nat → Prop} {s d g N cm : Nat} {off : Bool} {C : Chg} (h : St w Q s d g N cm off C) (L : List (List UInt8)) (hL : ∀ x, C x ≠ none → x ∈ L) (hn : L.length ≤ 1000000) (hLn : ∀ x ∈ L, x.length ≤ 1000000) :
    Calls Tryz.prog 40 #[.pointer (some ⟨s, 0, none⟩)] w fun e w' => ∃ (v : Value) (ss : List (List UInt8)), e = .returned v ∧ w'.ownsRow w.heap.size 9 1 v ss.length (ss.map encStr) ∧ (∀ nm, nm ∈ ss ↔ isFile C nm = true) ∧ ss.length ≤ L.length ∧ Below w.heap.size w w' := by
  have c3 := h.store.cell 3
  have c4 := h.store.cell 4
  simp at c3 c4
  have H := Lib.hid h
  have hmk := run_makeMap (P := Tryz.prog) 124 w
  have ha := h.store.alloc (.map #[] 0)
  have k3 := ha.cell 3
  have k4 := ha.cell 4
  simp at k3 k4
  clear h ha
  go_enter Tryz.func40, Tryz.ntmps40
  go_wp2_with fail
  obtain ⟨W, hW⟩ : ∃ W, W = w.alloc (.map #[] 0) := ⟨_, rfl⟩
  have hM0 : MapIs W 9 w.heap.size (fun _ => none) := by rw [hW]; exact MapIs.made w _
  have hBW : Below w.heap.size w W := by rw [hW]; exact (Below.refl _ w).alloc (Nat.le_refl _) _
  rw [← hW] at k3 k4 ⊢
  have HM0 := Lib.hid hM0
  have HBW := Lib.hid hBW
  clear hM0 hBW hW hmk c3 c4
  go_loopw [17] (fun i wr => i = .int .i64 0 ∧ wr = W) (fun _ _ => 0)
  case atStart => exact ⟨rfl, rfl⟩
  case round =>
    obtain ⟨rfl, rfl⟩ := hrel
    obtain ⟨f, ⟨D, n, hown, hd⟩, hk, hf⟩ := (H.out.later HBW.out).map
    obtain ⟨W2, hrun, hrg, hgr, hsz⟩ := hown.range strKeyed Tryz.underlying91
    have hcm := H.out.lt cm H.out.qm
    have hW2 : Below wr.heap.size wr W2 := ⟨hgr.os, hgr.tape, hgr.output, hgr.size, fun k hk => hgr.block k hk (by simp)⟩
    have HR := Lib.hid hrg
    have HW2 := Lib.hid hW2
    have HF := Lib.hid hf
    have HD := Lib.hid hd
    have HK := Lib.hid hk
    have hn2 := HM0.out.lt
    have hM1 := HM0.out.keep (hW2.block w.heap.size hn2)
    have HM1 := Lib.hid hM1
    have hS : Seen C (Maps.has D) (fun _ => none) := seen_start hd hf
    have HS := Lib.hid hS
    have HBW2 := Lib.hid (HBW.out.trans (hW2.mono HBW.out.size))
    clear hrg hgr hW2 hf hd hk hM1 hS hown
    go_wp2_with fail
    obtain ⟨r, hr⟩ : ∃ r, r = wr.heap.size := ⟨_, rfl⟩
    rw [← hr] at HR ⊢
    have hrw : w.heap.size < r := by rw [hr]; exact HM0.out.lt
    have HRR := Lib.hid hr
    clear hr hrun
    go_loopw [] (fun wq => ∃ left cnt fm, Hid (wq.ranges Tryz.prog 9 anyR cm r n D left cnt) ∧ Hid (MapIs wq 9 w.heap.size fm) ∧ Hid (Seen C left fm) ∧ Hid (Below w.heap.size w wq)) (fun wq => wq.rangeLeft cm r)
    case atStart => exact ⟨_, _, _, HR, HM1, HS, HBW2⟩
    case round =>
      obtain ⟨left, cnt, fm, hR, hM, hS, hB⟩ := hrel
      have hsz := hB.out.size
      rcases hR.out.next strKeyed 0 with ⟨h0, hl, hrun⟩ | ⟨key, v, kl, y, w5, cnt', hkey, hlk, hv, hat, hrun, hR5, hlt, hg5, hs5, hen⟩
      · have HL := Lib.hid hl
        clear hl h0
        obtain ⟨D2, hown2, hd2⟩ := hM.out.bounded strKeyed (L.map Lit.string) (support hL hS.out)
        have hle := hown2.size_le
        rw [List.length_map] at hle
        have hKeys := callsIn_wide.1 (Tryz.maps_Keys_64 (some w.heap.size) wr)
        have hSort := callsIn_wide.1 (Tryz.slices_Sorted_keys_63_64 w.heap.size _ D2 anyR wr hown2 (by unfold maxLen; omega) (by omega))
        have HKY := Lib.hid hKeys
        have HST := Lib.hid hSort
        have HD2 := Lib.hid hd2
        have HO2 := Lib.hid hown2
        clear hown2 hd2 hKeys hSort
        go_wp2_with fail
        refine HKY.out.mono ?_
        rintro e w6 ⟨rfl, rfl⟩
        go_wp2_with fail
        refine HST.out.mono ?_
        rintro e w7 ⟨v, ss, rfl, hperm, hown7, _, hB7⟩
        have HO7 := Lib.hid hown7
        have HB7 := Lib.hid hB7
        have HP := Lib.hid hperm
        clear hown7 hB7 hperm
        go_wp2_with fail
        go_ret
        refine ⟨v, ss.mergeSort (fun x y => decide (x ≤ y)), rfl, ?_, fun nm => ?_, ?_, ?_⟩
        · rw [List.length_mergeSort]
          exact own_mono HO7.out (by simp; omega)
        · rw [List.mem_mergeSort, HP.out.mem_iff, strKeys_mem HD2.out hS.out.1 (HO2.out.entries strKeyed), hS.out.2 nm, HL.out]
          cases isFile C nm <;> simp
        · rw [List.length_mergeSort, HP.out.length_eq, strKeys_length (HO2.out.entries strKeyed)]
          exact hle
        · exact (hB.out.alloc hsz _).trans (HB7.out.mono (by simp; omega))
      · obtain ⟨nm, c, rfl, rfl, hc, hch⟩ := met HD.out HF.out HK.out (fun nm h => hLn nm (hL nm h)) hkey hv hat
        obtain ⟨a0, n0, cp0, gn, rfl, hgn⟩ := chg_shape hc hch
        have hlen : nm.length ≤ 1000000 := hLn nm (hL nm (by rw [hc]; exact fun h => by cases h))
        have hnr : w.heap.size ≠ r := by omega
        have hncm : w.heap.size ≠ cm := by have := H.out.lt cm H.out.qm; omega
        have hM5 := hM.out.keep (hg5.block w.heap.size hM.out.lt (fun e => hnr (by injection e)))
        obtain ⟨W3, hW3⟩ : ∃ W3, W3 = w5.alloc (.cells #[.slice a0 n0 cp0, .bool gn] 127) := ⟨_, rfl⟩
        have hM3 : MapIs W3 9 w.heap.size fm := by rw [hW3]; exact hM5.keep (Below.heap_alloc _ _ _ hM5.lt)
        have hR3 := hR5.alloc (.cells #[.slice a0 n0 cp0, .bool gn] 127)
        have hb3 := Blk.new w5 127 #[.slice a0 n0 cp0, .bool gn]
        have hB5 : Below w.heap.size w w5 := hB.out.grown hg5 (by omega) (fun q e => by cases e; omega)
        have hB3 : Below w.heap.size w W3 := by rw [hW3]; exact hB5.alloc (by omega) _
        rw [← hW3] at hR3 hb3
        have hs3 : W3.heap.size = w5.heap.size + 1 := by rw [hW3]; simp
        obtain ⟨W4, hU, hM4, hg4, hs4⟩ := hM3.update strKeyed Tryz.underlying124 (L.map Lit.string) (support hL hS.out) (by rw [List.length_map]; unfold maxLen; omega) hkey unit'
        have hB4 : Below w.heap.size w W4 := hB3.grown hg4 (by omega) (fun q e => by cases e; exact Nat.le_refl _)
        have hR4 := hR3.kept hg4 (fun e => hncm (by injection e with e; exact e.symm)) (fun e => hnr (by injection e with e; exact e.symm))
        have hb4 : Blk W4 w5.heap.size 127 #[.slice a0 n0 cp0, .bool gn] := (hg4.block w5.heap.size hb3.lt (fun e => by injection e with e; have := hM.out.lt; omega)).trans hb3
        obtain ⟨W6, hDl, hM6, hg6, hs6⟩ := hM4.drop strKeyed Tryz.underlying124 hkey 0
        have hB6 : Below w.heap.size w W6 := hB4.grown hg6 (by omega) (fun q e => by cases e; exact Nat.le_refl _)
        have hR6 := hR4.kept hg6 (fun e => hncm (by injection e with e; exact e.symm)) (fun e => hnr (by injection e with e; exact e.symm))
        rw [setK_twice] at hM6
        have b1 := hb4.cell 1
        simp at b1
        have hfile : isFile C nm = !gn := hgn
        have hS4 := seen_step hS.out nm (if isFile C nm then some unit' else none) rfl
        rw [hfile] at hS4
        obtain ⟨x, hx⟩ : ∃ x, x = nv nm := ⟨_, rfl⟩
        have hml : wr.rangeLeft cm r = cnt := hR.out.left_eq
        rw [← hx] at hrun hen hU hDl
        have HW3 := Lib.hid hW3
        have HR4 := Lib.hid hR4
        have HR6 := Lib.hid hR6
        have HM4 := Lib.hid hM4
        have HM6 := Lib.hid hM6
        have HS4 := Lib.hid hS4
        have HB4 := Lib.hid hB4
        have HB6 := Lib.hid hB6
        have HML := Lib.hid hml
        rw [hW3] at hU
        unfold unit' at hU
        clear hR4 hR6 hM4 hM6 hS4 hB4 hB6 hM5 hM3 hR3 hb3 hB3 hB5 hb4 hg4 hg5 hg6 hR5 hch hat hv hkey hx hS hM hR hml hW3 hs3 hs4 hs5 hs6 hlk hc hfile hgn
        cases gn
        · go_wp2_with fail
          exact ⟨⟨_, cnt', _, HR4, HM4, Lib.hid (by have := HS4.out; simpa using this), HB4⟩, by rw [HR4.out.left_eq, HML.out]; exact hlt⟩
        · go_wp2_with fail
          exact ⟨⟨_, cnt', _, HR6, HM6, Lib.hid (by have := HS4.out; simpa using this), HB6⟩, by rw [HR6.out.left_eq, HML.out]; exact hlt⟩
end Go.Proofs.YtndkohocgfmamaaGreat.Store

/- Layer 10: Remove. -/
namespace Go.Proofs.YtndkohocgfmamaaGreat.Store
open Go.RowKit Go.Deep Mem Crc Disk Man Go.Maps

/-- Contains, on a row of names. -/
theorem contains_name (v : Value) (B : Nat) (ss : List (List UInt8)) (nm : List UInt8) (w : World) (h : w.ownsRow B 9 1 v ss.length (ss.map encStr)) (hin : nm ∈ ss) (hm : ss.length ≤ 1000000) :
    Calls Tryz.prog 41 #[v, nv nm] w fun e w' => e = .returned (.bool true) ∧ w' = w := by
  obtain ⟨a, cap, rfl, hc, hL, _, _⟩ := own_shape h
  obtain ⟨g, off, rfl, _, hcs⟩ := hL.resolve_left (fun e => by
    rw [List.map_eq_nil_iff] at e
    subst e
    cases hin)
  have := Tryz.slices_Contains_string g off ss.length cap (ss.map fun l => (⟨l.toArray⟩ : ByteArray)) ⟨nm.toArray⟩ w (by simp) (by omega) (fun j hj => by
    rw [List.length_map] at hj
    have := hcs j (encStr ss[j]) (by simp [hj])
    rw [this]
    simp [hj])
  have hci : Lib.containsS ((ss.map fun l => (⟨l.toArray⟩ : ByteArray)).take ss.length) ⟨nm.toArray⟩ = true := by
    rw [Lib.containsS_iff, List.take_of_length_le (by simp)]
    exact List.mem_map.2 ⟨nm, hin, rfl⟩
  rw [hci] at this
  exact this
set_option maxHeartbeats 400000 in
set_option maxRecDepth 100000 in
theorem remove_any {w : World} {Q : Nat → Prop} {s d g N cm : Nat} {C : Chg} (h : St w Q s d g N cm false C) (L : List (List UInt8)) (hL : ∀ x, C x ≠ none → x ∈ L) (hn : L.length ≤ 1000000) (hLn : ∀ x ∈ L, x.length ≤ 1000000) (nm : List UInt8) (hf : isFile C nm = true) :
    Calls Tryz.prog 52 #[.pointer (some ⟨s, 0, none⟩), nv nm] w fun e w' => e = .returned (.int .i64 0) ∧ ∃ Q', St w' Q' s d g N cm false (setC C nm (some none)) ∧ (∀ k, Q' k → Q k ∨ w.heap.size ≤ k) ∧ (∀ k, Q k → Q' k) ∧ Only [cm] w w' := by
  have HD := Lib.hid (down_any h)
  have HN := Lib.hid (names_any h L hL hn hLn)
  have H := Lib.hid h
  have HLS := Lib.hid h.store.lt
  have hnm : nm.length ≤ 1000000 := hLn nm (hL nm (fun e => by unfold isFile at hf; rw [e] at hf; cases hf))
  clear h
  obtain ⟨x, hx⟩ : ∃ x, x = nv nm := ⟨_, rfl⟩
  rw [← hx]
  have HX := Lib.hid hx
  clear hx
  go_enter Tryz.func52, Tryz.ntmps52
  go_wp2_with fail
  refine HD.out.mono ?_
  rintro e w1 ⟨rfl, rfl⟩
  go_wp2_with fail
  refine HN.out.mono ?_
  rintro e w2 ⟨v, ss, rfl, hO, hmem, hle, hB2⟩
  have hC := Lib.hid (contains_name v _ ss nm w2 hO ((hmem nm).2 hf) (by omega))
  rw [← HX.out] at hC
  obtain ⟨w3, hrun, hst3, ho3, hs3⟩ := H.out.changed (w1 := w2) hB2 L hL hn nm hnm none (.agg #[.slice none 0 0, .bool true]) rfl
  rw [← HX.out] at hrun
  have c4 := (hB2.cell (p := ⟨s, 4, none⟩) HLS.out).trans (H.out.store.cell 4)
  simp at c4
  have HST3 := Lib.hid hst3
  have HO3 := Lib.hid ho3
  clear hO hmem hB2 hst3 ho3 hs3
  go_wp2_with fail
  refine hC.out.mono ?_
  rintro e w4 ⟨rfl, rfl⟩
  go_wp2_with fail
  go_ret
  exact ⟨rfl, _, HST3.out, fun k hk => hk.imp id And.left, fun k hk => .inl hk, HO3.out⟩
/-- On a disk that is off. -/
theorem remove_off {w : World} {Q : Nat → Prop} {s d g N cm : Nat} {C : Chg} (h : St w Q s d g N cm true C) (x : Value) :
    Calls Tryz.prog 52 #[.pointer (some ⟨s, 0, none⟩), x] w fun e w' => e = .returned (.int .i64 6) ∧ w' = w := by
  have HD := Lib.hid (down_any h)
  clear h
  go_enter Tryz.func52, Tryz.ntmps52
  go_wp2_with fail
  refine HD.out.mono ?_
  rintro e w1 ⟨rfl, rfl⟩
  go_wp2_with fail
  go_ret
  exact ⟨rfl, rfl⟩
end Go.Proofs.YtndkohocgfmamaaGreat.Store

/- Layer 5, plain: a section that was put is got; All of it is it alone. -/
namespace Go.Proofs.YtndkohocgfmamaaGreat.Frame
open Mem Crc

theorem num_head (k : UInt8) (n : Nat) (h : n ≤ 1048576) : num (head k n) = n := by
  unfold num head
  simp only [List.getD_cons_succ, List.getD_cons_zero, UInt8.toNat_ofNat']
  omega
theorem got_frame (k : UInt8) (b : List UInt8) (hb : b.length ≤ 1048576) : got (frameL k b) = (k, b, 13 + b.length, 0) := by
  have hl := frameL_length k b
  have hh : (marked (head k b.length)).length = 9 := by rw [mark_length]; rfl
  have e1 : (frameL k b).take 9 = marked (head k b.length) := by
    unfold frameL
    rw [List.take_append_of_le_length (by omega), List.take_of_length_le (by omega)]
  have e2 : (frameL k b).drop 9 = marked b := by
    unfold frameL
    rw [List.drop_append, List.drop_eq_nil_of_le (by omega), hh]
    simp
  have h1 := (fits_mark (head k b.length)).2
  have h2 := (fits_mark b).2
  have e3 : (marked b).take (b.length + 4) = marked b := List.take_of_length_le (by rw [mark_length]; omega)
  have e4 : bodyOf (marked (head k b.length)) = head k b.length := bodyOf_mark _
  unfold got
  rw [e1, e2, e4, num_head k b.length hb, e3, h1, h2, bodyOf_mark, hl]
  rw [if_neg (by omega), if_neg (by decide), if_neg (by omega), if_neg (by omega), if_neg (by decide)]
  rfl
theorem all_frame (k : UInt8) (b : List UInt8) (hb : b.length ≤ 1048576) : allF ((frameL k b).length + 1) (frameL k b) = ([(k, b)], 0) := by
  have hl := frameL_length k b
  have hne : frameL k b ≠ [] := fun e => by rw [e] at hl; simp at hl
  have hg := got_frame k b hb
  unfold allF
  rw [if_neg hne, hg]
  have hd : (frameL k b).drop (13 + b.length) = [] := List.drop_eq_nil_of_le (by omega)
  simp only [hd, allF_nil]
  rfl
end Go.Proofs.YtndkohocgfmamaaGreat.Frame

/- Layer 10, as the layers above see it: what a store answers, by names' bytes. -/
namespace Go.Proofs.YtndkohocgfmamaaGreat.Store
open Go.RowKit Go.Deep Mem Crc Disk Man Go.Maps

abbrev Files := List UInt8 → Option (List UInt8)
noncomputable def setF (F : Files) (nm : List UInt8) (b : Option (List UInt8)) : Files := fun x => open Classical in if x = nm then b else F x
theorem setF_same (F : Files) (nm : List UInt8) (b : Option (List UInt8)) : setF F nm b nm = b := by unfold setF; rw [if_pos rfl]
theorem setF_other {F : Files} {nm x : List UInt8} (b : Option (List UInt8)) (h : x ≠ nm) : setF F nm b x = F x := by unfold setF; rw [if_neg h]
/-- A store at block s: At w Q off F n says that it lies in w, in blocks of Q alone; that it is down; its files as they are now; at most n names were ever changed. -/
structure Sto (s : Nat) where
  At : World → (Nat → Prop) → Bool → Files → Nat → Prop
  lt : ∀ {w : World} {Q : Nat → Prop} {off : Bool} {F : Files} {n : Nat}, At w Q off F n → ∀ k, Q k → k < w.heap.size
  keep : ∀ {w w' : World} {Q : Nat → Prop} {off : Bool} {F : Files} {n : Nat}, At w Q off F n → w.heap.size ≤ w'.heap.size → (∀ k, Q k → w'.heap[k]? = w.heap[k]?) → At w' Q off F n
  short : ∀ {w : World} {Q : Nat → Prop} {off : Bool} {F : Files} {n : Nat}, At w Q off F n → ∀ nm b, F nm = some b → nm.length ≤ 32 ∧ b.length ≤ 1048576
  write : ∀ {w : World} {Q : Nat → Prop} {F : Files} {n : Nat}, At w Q false F n → n < 100000 → ∀ (nm : List UInt8), 1 ≤ nm.length → nm.length ≤ 32 → ∀ (a : Option Addr) (cp : Nat) (b : List UInt8), Lies w a (b.map bv) → b.length ≤ 1048576 →
    Calls Tryz.prog 48 #[.pointer (some ⟨s, 0, none⟩), nv nm, .slice a b.length cp] w fun e w' => e = .returned (.int .i64 0) ∧ ∃ Q', At w' Q' false (setF F nm (some b)) (n + 1) ∧ (∀ k, Q' k → Q k ∨ w.heap.size ≤ k) ∧ Upon Q w w'
  write_off : ∀ {w : World} {Q : Nat → Prop} {F : Files} {n : Nat}, At w Q true F n → ∀ (x : Value) (a : Option Addr) (m cp : Nat),
    Calls Tryz.prog 48 #[.pointer (some ⟨s, 0, none⟩), x, .slice a m cp] w fun e w' => e = .returned (.int .i64 6) ∧ Below w.heap.size w w'
  read_some : ∀ {w : World} {Q : Nat → Prop} {F : Files} {n : Nat}, At w Q false F n → ∀ (nm b : List UInt8), F nm = some b →
    Calls Tryz.prog 73 #[.pointer (some ⟨s, 0, none⟩), nv nm] w fun e w' => ∃ v, e = .returned (.tuple #[v, .int .i64 0]) ∧ OwnB w' w.heap.size v b ∧ Below w.heap.size w w'
  read_none : ∀ {w : World} {Q : Nat → Prop} {F : Files} {n : Nat}, At w Q false F n → ∀ (nm : List UInt8), nm.length ≤ 1000000 → F nm = none →
    Calls Tryz.prog 73 #[.pointer (some ⟨s, 0, none⟩), nv nm] w fun e w' => ∃ v, e = .returned (.tuple #[v, .int .i64 8]) ∧ OwnB w' w.heap.size v [] ∧ Below w.heap.size w w'
  read_off : ∀ {w : World} {Q : Nat → Prop} {F : Files} {n : Nat}, At w Q true F n → ∀ (x : Value),
    Calls Tryz.prog 73 #[.pointer (some ⟨s, 0, none⟩), x] w fun e w' => e = .returned (.tuple #[.slice none 0 0, .int .i64 6]) ∧ Below w.heap.size w w'
  remove : ∀ {w : World} {Q : Nat → Prop} {F : Files} {n : Nat}, At w Q false F n → n < 100000 → ∀ (nm : List UInt8), F nm ≠ none →
    Calls Tryz.prog 52 #[.pointer (some ⟨s, 0, none⟩), nv nm] w fun e w' => e = .returned (.int .i64 0) ∧ ∃ Q', At w' Q' false (setF F nm none) (n + 1) ∧ (∀ k, Q' k → Q k ∨ w.heap.size ≤ k) ∧ Upon Q w w'
  remove_off : ∀ {w : World} {Q : Nat → Prop} {F : Files} {n : Nat}, At w Q true F n → ∀ (x : Value),
    Calls Tryz.prog 52 #[.pointer (some ⟨s, 0, none⟩), x] w fun e w' => e = .returned (.int .i64 6) ∧ Below w.heap.size w w'
  names : ∀ {w : World} {Q : Nat → Prop} {off : Bool} {F : Files} {n : Nat}, At w Q off F n →
    Calls Tryz.prog 40 #[.pointer (some ⟨s, 0, none⟩)] w fun e w' => ∃ (v : Value) (ss : List (List UInt8)), e = .returned v ∧ w'.ownsRow w.heap.size 9 1 v ss.length (ss.map encStr) ∧ (∀ nm, nm ∈ ss ↔ F nm ≠ none) ∧ ss.length ≤ 200000 ∧ Below w.heap.size w w'
theorem Sto.later {s : Nat} (S : Sto s) {w w' : World} {Q : Nat → Prop} {off : Bool} {F : Files} {n : Nat} (h : S.At w Q off F n) (hB : Below w.heap.size w w') : S.At w' Q off F n := S.keep h hB.size (fun k hk => hB.block k (S.lt h k hk))
theorem Sto.upon {s : Nat} (S : Sto s) {w w' : World} {P Q : Nat → Prop} {off : Bool} {F : Files} {n : Nat} (h : S.At w Q off F n) (hB : Upon P w w') (hP : ∀ k, P k → ¬ Q k) : S.At w' Q off F n := S.keep h hB.size (fun k hk => hB.block k (S.lt h k hk) (fun hp => hP k hp hk))
/-- The files of a store of which nothing was committed. -/
def filesOf (C : Chg) : Files := fun nm => match C nm with
  | some c => c
  | none => none
theorem filesOf_file (C : Chg) (nm : List UInt8) : isFile C nm = true ↔ filesOf C nm ≠ none := by
  unfold isFile filesOf
  cases C nm with
  | none => simp
  | some c => cases c <;> simp
theorem filesOf_set (C : Chg) (nm : List UInt8) (c : Option (List UInt8)) : filesOf (setC C nm (some c)) = setF (filesOf C) nm c := by
  funext x
  by_cases e : x = nm
  · subst e
    rw [setF_same]
    unfold filesOf
    rw [setC_same]
  · rw [setF_other _ e]
    unfold filesOf
    rw [setC_other _ e]
/-- The store's state, where nothing was committed. -/
structure Bare (s d g N cm : Nat) (w : World) (Q : Nat → Prop) (off : Bool) (F : Files) (n : Nat) : Prop where
  at_ : ∃ (C : Chg) (L : List (List UInt8)), St w Q s d g N cm off C ∧ F = filesOf C ∧ (∀ x, C x ≠ none → x ∈ L) ∧ L.length ≤ n ∧ ∀ x ∈ L, x.length ≤ 32
  few : n ≤ 100000
  long : ∀ nm b, F nm = some b → b.length ≤ 1048576
theorem readOf_file {C : Chg} {nm b : List UInt8} (h : filesOf C nm = some b) : readOf C nm = (b, 0) := by
  unfold filesOf at h
  unfold readOf
  cases hc : C nm with
  | none => rw [hc] at h; cases h
  | some c =>
    rw [hc] at h
    dsimp only at h
    rw [h]
theorem readOf_none {C : Chg} {nm : List UInt8} (h : filesOf C nm = none) : readOf C nm = ([], 8) := by
  unfold filesOf at h
  unfold readOf
  cases hc : C nm with
  | none => rfl
  | some c =>
    rw [hc] at h
    dsimp only at h
    rw [h]
/-- A store of which nothing was committed, as one. -/
def bare (s d g N cm : Nat) : Sto s where
  At := Bare s d g N cm
  lt h k hk := by
    obtain ⟨C, L, hs, _⟩ := h.at_
    exact hs.lt k hk
  keep h hsz hk := by
    obtain ⟨C, L, hs, r⟩ := h.at_
    exact ⟨⟨C, L, hs.keep hsz hk, r⟩, h.few, h.long⟩
  short h nm b hb := by
    obtain ⟨C, L, hs, hF, hL, hn, hl⟩ := h.at_
    refine ⟨hl nm (hL nm (fun e => ?_)), h.long nm b hb⟩
    rw [hF] at hb
    unfold filesOf at hb
    rw [e] at hb
    cases hb
  write h hn nm h1 h2 a cp b hL hb := by
    obtain ⟨C, L, hs, hF, hLs, hLn, hLl⟩ := h.at_
    refine (write_any hs L hLs (by omega) nm h1 h2 a cp b hL hb).mono ?_
    rintro e w' ⟨rfl, Q', hst, hq1, hq2, ho⟩
    refine ⟨rfl, Q', ⟨⟨_, nm :: L, hst, ?_, ?_, ?_, ?_⟩, by omega, ?_⟩, hq1, Upon.of_only ho (fun g hg => .inl (by rw [List.mem_singleton.1 hg]; exact hs.qm))⟩
    · rw [filesOf_set, hF]
    · intro x hx
      by_cases e : x = nm
      · rw [e]; simp
      · rw [setC_other _ e] at hx
        exact List.mem_cons_of_mem _ (hLs x hx)
    · simp; omega
    · intro x hx
      rcases List.mem_cons.1 hx with rfl | hx
      · exact h2
      · exact hLl x hx
    · intro x b' hx
      by_cases e : x = nm
      · subst e
        rw [setF_same] at hx
        cases hx
        exact hb
      · rw [setF_other _ e] at hx
        exact h.long x b' hx
  write_off h x a m cp := by
    obtain ⟨C, L, hs, _⟩ := h.at_
    refine (Store.write_off hs x a m cp).mono ?_
    rintro e w' ⟨rfl, rfl⟩
    exact ⟨rfl, Below.refl _ _⟩
  read_some h nm b hb := by
    obtain ⟨C, L, hs, hF, hL, hn, hl⟩ := h.at_
    have hlen := h.long
    have hnm : nm.length ≤ 32 := hl nm (hL nm (fun e => by
      rw [hF] at hb
      unfold filesOf at hb
      rw [e] at hb
      cases hb))
    rw [hF] at hb hlen
    refine (read_any hs nm (by omega) (fun b' hb' => ?_)).mono ?_
    · have := hlen nm b' (by unfold filesOf; rw [hb'])
      omega
    · rw [readOf_file hb]
      rintro e w' ⟨v, rfl, h1, h2⟩
      exact ⟨v, rfl, h1, h2⟩
  read_none h nm hn hb := by
    obtain ⟨C, L, hs, hF, hL, hn', hl⟩ := h.at_
    have hlen := h.long
    rw [hF] at hb hlen
    refine (read_any hs nm hn (fun b' hb' => ?_)).mono ?_
    · have := hlen nm b' (by unfold filesOf; rw [hb'])
      omega
    · rw [readOf_none hb]
      rintro e w' ⟨v, rfl, h1, h2⟩
      exact ⟨v, rfl, h1, h2⟩
  read_off h x := by
    obtain ⟨C, L, hs, _⟩ := h.at_
    exact Store.read_off hs x
  remove h hn nm hf := by
    obtain ⟨C, L, hs, hF, hLs, hLn, hLl⟩ := h.at_
    rw [hF] at hf
    refine (remove_any hs L hLs (by omega) (fun x hx => by have := hLl x hx; omega) nm ((filesOf_file C nm).2 hf)).mono ?_
    rintro e w' ⟨rfl, Q', hst, hq1, hq2, ho⟩
    refine ⟨rfl, Q', ⟨⟨_, nm :: L, hst, ?_, ?_, ?_, ?_⟩, by omega, ?_⟩, hq1, Upon.of_only ho (fun g hg => .inl (by rw [List.mem_singleton.1 hg]; exact hs.qm))⟩
    · rw [filesOf_set, hF]
    · intro x hx
      by_cases e : x = nm
      · rw [e]; simp
      · rw [setC_other _ e] at hx
        exact List.mem_cons_of_mem _ (hLs x hx)
    · simp; omega
    · intro x hx
      rcases List.mem_cons.1 hx with rfl | hx
      · refine hLl x (hLs x (fun e => hf ?_))
        unfold filesOf
        rw [e]
      · exact hLl x hx
    · intro x b' hx
      by_cases e : x = nm
      · subst e
        rw [setF_same] at hx
        cases hx
      · rw [setF_other _ e] at hx
        exact h.long x b' hx
  remove_off h x := by
    obtain ⟨C, L, hs, _⟩ := h.at_
    refine (Store.remove_off hs x).mono ?_
    rintro e w' ⟨rfl, rfl⟩
    exact ⟨rfl, Below.refl _ _⟩
  names h := by
    obtain ⟨C, L, hs, hF, hLs, hLn, hLl⟩ := h.at_
    have hfew := h.few
    refine (names_any hs L hLs (by omega) (fun x hx => by have := hLl x hx; omega)).mono ?_
    rintro e w' ⟨v, ss, rfl, h1, h2, h3, h4⟩
    refine ⟨v, ss, rfl, h1, fun nm => ?_, by omega, h4⟩
    rw [h2, hF]
    exact filesOf_file C nm
end Go.Proofs.YtndkohocgfmamaaGreat.Store

/- A range over a function whose rounds are told of the element that came, in the world in which it comes; the iterator may write what is its own between two rounds ('Mine'). -/
namespace Go.Proofs.YtndkohocgfmamaaGreat.Sees
open Go.RowKit

/-- The kit's wpList_append_lies inside a fence. -/
theorem wpListIn_append_lies {F : Fence} {n : Nat} {P : Program} (w : World) {ops : Array Oper} {rest : List Oper} {o : Oper} {a : Act} {Q : Exit → Act → World → Prop}
    (hg : o.guard = none) (s x : Operand) (t : TypeId) (hop : o.op = Op.call { callee := Callee.builtin Builtin.append, args := #[s, x], argTypes := #[t, t] })
    (base : Nat) (e : TypeId) (i : TypeInfo) (z : Value) (size bytes : Nat) (ht : P.underlying t = some (.slice e)) (hi : P.info? e = some i) (hz : i.zero = some z)
    (hsize : i.size = size) (hby : i.bytes = bytes) (hzs : z.cells.size = size) (hsz : 0 < size)
    (v : Value) (k : Nat) (xs : List Value) (hs : a.eval s = v) (hown : w.ownsRow base e size v k xs)
    (ad : Addr) (m c : Nat) (news : List Value) (hx : a.eval x = .slice (some ad) m c) (hl : news.length = m * size) (hnews : ∀ j u, news[j]? = some u → w.cell? (ad.add j) = some u) (h1 : ∀ u ∈ news, u.oneCell' = true)
    (hm : 0 < m) (h63 : k + m ≤ maxLen) (hbytes : (k + m) * bytes ≤ 140737488355328) (hbase : base ≤ w.heap.size)
    (h : ∀ g cap w', w'.ownsRow base e size (.slice (some ⟨g, 0, none⟩) (k + m) cap) (k + m) (xs ++ news) → w.grownBy w' v.ownBlock → (v.ownBlock = some g ∨ g = w.heap.size) → g < w'.heap.size → wpListIn F n P ops Q rest (a.put o.dst (.slice (some ⟨g, 0, none⟩) (k + m) cap)) w') :
    wpListIn F n P ops Q (o :: rest) a w := by
  refine wpListIn_plain hg fun K hK' => ?_
  obtain ⟨g, cap, w', hr, h2, h3, h4, h5⟩ := run_append_lies (P := P) w t o.type base e i z size bytes ht hi hz hsize hby hzs hsz v k xs hown ad m c news hl hnews h1 hm h63 hbytes hbase w.heap.size rfl
  unfold Oper.wpIn
  refine ⟨?_, ?_⟩
  · simp [Oper.about, hop, resolve, Target.leads, Sem.run_pure]
  · rw [Oper.semAt_plain F _ _ (by rw [hop]; intro c hc'; cases hc')]
    simp [execOp, hop, resolve, invoke, builtin, hs, hx, hr, Result.andThen]
    exact hK' _ _ (h g cap w' h2 h3 h4 h5)

/-- The iterator's contract: V is told of an element, and of those ahead of it, when it comes; Kp is what a round that goes on keeps; Mine is what the iterator itself may do. -/
def SeqSees {α : Type} (F : Fence) (n : Nat) (P : Program) (g : Nat) (lb : Array Value) (encs : α → Array Value) (Mine Kp : World → World → Prop) (V : List α → α → World → Prop) (S Sp : List α → Prop) (N : Nat) (w : World) : Prop :=
  ∀ (l : Nat) (J Jx : List α → World → Prop) (W : World), Below w.heap.size w W → (∀ s X Y, J s X → Mine X Y → J s Y) → (∀ s X Y, Jx s X → Mine X Y → Jx s Y) →
    (∀ pre x W1, J pre W1 → pre.length < N → V pre x W1 → YieldAt F (n - 1) P l (encs x) W1 fun e W' => (e = .returned (.bool true) ∧ J (pre ++ [x]) W' ∧ Kp W1 W') ∨ (e = .returned (.bool false) ∧ Jx (pre ++ [x]) W')) →
    J [] W → CallsIn F n P g (#[.func (.yield l) #[] #[]] ++ lb) W fun e W' => (∃ v, e = .returned v) ∧ ((∃ xs, S xs ∧ J xs W') ∨ (∃ pre, Sp pre ∧ Jx pre W'))

/-- The loop's two blocks as they stand: its record r at l, the block of its rounds' deferred calls at D. -/
def Book (D l : Nat) (r : Loop) (W : World) : Prop := W.heap[l]? = some (.loop r) ∧ W.heap[D]? = some (.deferred (some []))
theorem Book.turn {D l : Nat} {r : Loop} {W : World} (h : Book D l r W) (hne : D ≠ l) (r' : Loop) : Book D l r' (W.putObj l (.loop r')) :=
  ⟨World.putObj_heap_same (Array.getElem?_eq_some_iff.1 h.1).1, (World.putObj_heap_other hne).trans h.2⟩
theorem Book.kept {B D l : Nat} {r : Loop} {W W' : World} (h : Book D l r W) (hk : KeepsFrom B W W') (h1 : B ≤ D) (h2 : B ≤ l) : Book D l r W' := ⟨hk.same l _ h2 h.1 rfl, hk.same D _ h1 h.2 rfl⟩

section
variable {F : Fence} {n : Nat} {P : Program}
theorem wpIn_range_sees {α : Type} {g : Operand} {ps : Array Tmp} {assign body : Code} {Q : Exit → Act → World → Prop} {a : Act} {w : World}
    (hro : F.round = none) (h1 : 1 ≤ n) {gf : Nat} {lb : Array Value} (hg : a.eval g = .func (.func gf) #[] lb) (hFg : F.fn gf) (eg : ∀ args w, (callFunc gf args).run P w = .ok (.enter gf args) w)
    {encs : α → Array Value} {Mine Kp : World → World → Prop} {V : List α → α → World → Prop} {S Sp : List α → Prop} {N : Nat} {w0 : World} (hseq : SeqSees F (n - 1) P gf lb encs Mine Kp V S Sp N w0)
    (hM : ∀ X Y, Mine X Y → KeepsFrom w.heap.size X Y)
    (hKt : ∀ {X Y Z : World}, Kp X Y → Kp Y Z → Kp X Z) (hKb : ∀ (W : World) (l : Nat) (o o' : Obj), w.heap.size ≤ l → W.heap[l]? = some o → o.isCells = false → o.isWalk = false → Kp W (W.putObj l o'))
    (hVb : ∀ (pre : List α) (x : α) (W : World) (l : Nat) (o o' : Obj), V pre x W → w.heap.size ≤ l → W.heap[l]? = some o → o.isCells = false → V pre x (W.putObj l o'))
    (hb0 : Below w0.heap.size w0 w) (hps : ∀ x, (encs x).size = ps.size)
    (I : List α → World → Prop) (Ix : Code → List α → World → Prop) (hI : OwnFrom w.heap.size I) (hIx : ∀ c, OwnFrom w.heap.size (Ix c)) (hIM : ∀ s X Y, I s X → Mine X Y → I s Y) (hIxM : ∀ c s X Y, Ix c s X → Mine X Y → Ix c s Y) (h0 : I [] w) (a₁ : α → Act)
    (hassign : ∀ (l : Nat) (x : α) (W : World) (K : Act → World → Prop), K (a₁ x) W →
      assign.wpIn (F.inRound l) (n - 1 - 1) P (Exit.then K (fun _ _ _ => False)) { tmps := (ps.zip (encs x)).foldl (fun t (p, v) => t.setIfInBounds p v) a.tmps, defers := [] } W)
    (hbody : ∀ (l : Nat) (pre : List α) (x : α) (W : World), I pre W → pre.length < N → V pre x W → body.wpIn (F.inRound l) (n - 1 - 1) P (ownPostG w.heap.size Kp I Ix (pre ++ [x]) W) (a₁ x) W)
    (hdone : ∀ (D : Nat) (xs : List α) (W : World), w.heap.size ≤ D → S xs → I xs W → W.heap[D]? = some (.deferred (some [])) → Q .normal { a with defers := { target := .collected D, args := #[] } :: a.defers } W)
    (hstop : ∀ (D : Nat) (c : Code) (pre : List α) (W : World), w.heap.size ≤ D → Sp pre → Ix c pre W → W.heap[D]? = some (.deferred (some [])) → c.wpIn F n P Q { a with defers := { target := .collected D, args := #[] } :: a.defers } W) :
    (Code.rangeFunc g ps assign body).wpIn F n P Q a w := by
  refine wpIn_rangeFunc (fun fn hfn => ?_)
  rw [hro]
  obtain ⟨B, hB⟩ : ∃ B, B = w.heap.size := ⟨_, rfl⟩
  -- the record, by its state and its pending jump
  obtain ⟨rec, hrec⟩ : ∃ rec : LoopState → Option Code → Loop, rec = fun st pe => { state := st, pending := pe, fn, tmps := a.tmps, params := ps, assign, body, defers := B } := ⟨_, rfl⟩
  obtain ⟨W1, hW1⟩ : ∃ W1, W1 = (w.alloc (.deferred (some []))).alloc (.loop (rec .ready none)) := ⟨_, rfl⟩
  have hne : B ≠ B + 1 := by omega
  have hbk1 : Book B (B + 1) (rec .ready none) W1 := by
    rw [hW1, hB]
    refine ⟨?_, ?_⟩
    · have := World.alloc_heap_new (w.alloc (.deferred (some []))) (.loop (rec .ready none))
      rwa [World.size_alloc] at this
    · exact (Below.heap_alloc _ _ _ (by simp)).trans (World.alloc_heap_new w _)
  have hI1 : I [] W1 := by rw [hW1]; exact hI.alloc _ (hI.alloc _ h0)
  have hb1 : Below w0.heap.size w0 W1 := by
    rw [hW1]
    exact hb0.trans ((((Below.refl _ w).alloc (Nat.le_refl _) _).alloc (by simp) _).mono hb0.size)
  have hent := run_enterLoop_outer (P := P) (w := w) fn a.tmps ps assign body
  rw [← hB] at hent
  have hW1' : (w.alloc (.deferred (some []))).alloc (.loop { state := .ready, pending := none, fn, tmps := a.tmps, params := ps, assign, body, defers := B }) = W1 := by rw [hW1, hrec]
  rw [hW1'] at hent
  rw [← hB] at hM hKb hVb hI hIx hbody hdone hstop
  refine ⟨B + 1, [{ target := .collected B, args := #[] }], W1, { target := .fn (.func gf) lb, args := #[.func (.yield (B + 1)) #[] #[]] }, W1, gf, #[.func (.yield (B + 1)) #[] #[]] ++ lb, W1, hent, ?_, ?_, ?_, fun _ => h1, ?_⟩
  · simp only [resolve, hg]
    simp [go_sem]
  · intro f' hf'
    simp [Target.leads] at hf'
    subst hf'
    exact hFg
  · simp [invoke, go_sem, eg]
  refine (hseq (B + 1) (fun pre W => I pre W ∧ Book B (B + 1) (rec .ready none) W) (fun pre W => ∃ c, Ix c pre W ∧ Book B (B + 1) (rec .done (some c)) W) W1 hb1
    (fun s X Y h hm => ⟨hIM s X Y h.1 hm, h.2.kept (hM X Y hm) (Nat.le_refl _) (by omega)⟩)
    (fun s X Y h hm => by obtain ⟨c, hc, hk⟩ := h; exact ⟨c, hIxM c s X Y hc hm, hk.kept (hM X Y hm) (Nat.le_refl _) (by omega)⟩)
    ?_ ⟨hI1, hbk1⟩).mono ?_
  · -- a round
    rintro pre x W ⟨hi, hk⟩ hlen hv
    have hlW := hk.1
    have hy := run_yield (P := P) (args := encs x) hlW (by rw [hrec]; exact hps x)
    rw [hrec] at hy
    refine ⟨fn, _, assign, body, hy, roundIn_of_wpIn hfn (hassign _ x W _ ⟨_, run_beginRound hlW (by rw [hrec]), ?_⟩)⟩
    have hk2 := hk.turn hne { rec .ready none with state := .busy }
    have hp2 : Kp W (W.putObj (B + 1) (.loop { rec .ready none with state := .busy })) := hKb _ _ _ _ (by omega) hlW rfl rfl
    refine wpIn_mono (hbody _ pre x _ (hI.putObj _ hi (by omega) hlW rfl) hlen (hVb pre x W _ _ _ hv (by omega) hlW rfl)) ?_
    -- how a round ends
    have hend : ∀ (jump : Option Code) (W3 : World), KeepsFrom B (W.putObj (B + 1) (.loop { rec .ready none with state := .busy })) W3 →
        ∃ W4, W4 = W3.putObj (B + 1) (.loop (rec (if jump.isNone then .ready else .done) jump)) ∧ (Instr.endRound (B + 1) jump).run P W3 = .ok (.bool jump.isNone) W4 ∧
          W3.heap[B + 1]? = some (.loop { rec .ready none with state := .busy }) ∧ Book B (B + 1) (rec (if jump.isNone then .ready else .done) jump) W4 := fun jump W3 hk3 => by
      have hk4 := hk2.kept hk3 (Nat.le_refl _) (by omega)
      have hr := run_endRound (P := P) jump hk4.1
      rw [hrec] at hr hk4 ⊢
      exact ⟨_, rfl, hr, hk4.1, hk4.turn hne _⟩
    intro e a3 W3 hp
    cases e with
    | normal =>
      obtain ⟨hk3, hkp3, hi3⟩ := hp
      obtain ⟨W4, rfl, hr, hl3, hk4⟩ := hend none W3 hk3
      exact ⟨_, _, hr, .inl ⟨rfl, ⟨hI.putObj _ hi3 (by omega) hl3 rfl, hk4⟩, hKt (hKt hp2 hkp3) (hKb _ _ _ _ (by omega) hl3 rfl rfl)⟩⟩
    | ret =>
      obtain ⟨W4, rfl, hr, hl3, hk4⟩ := hend (some .ret) W3 hp.1
      exact ⟨_, _, hr, .inr ⟨rfl, .ret, (hIx _).putObj _ hp.2 (by omega) hl3 rfl, hk4⟩⟩
    | exit id =>
      obtain ⟨W4, rfl, hr, hl3, hk4⟩ := hend (some (.exit id)) W3 hp.1
      exact ⟨_, _, hr, .inr ⟨rfl, .exit id, (hIx _).putObj _ hp.2 (by omega) hl3 rfl, hk4⟩⟩
    | goto t =>
      obtain ⟨W4, rfl, hr, hl3, hk4⟩ := hend (some (.goto t)) W3 hp.1
      exact ⟨_, _, hr, .inr ⟨rfl, .goto t, (hIx _).putObj _ hp.2 (by omega) hl3 rfl, hk4⟩⟩
    | panic ch => exact hp.elim
    | outgrown => exact hp.elim
  · -- the iterator has come back
    rintro e W2 ⟨⟨v, rfl⟩, hd⟩
    rcases hd with ⟨xs, hS, hi, hk⟩ | ⟨pre, hSp, c, hi, hk⟩
    · have hr := run_endLoop (P := P) hk.1 (by rw [hrec]; simp)
      rw [hrec] at hr
      exact ⟨none, _, hr, hdone B xs _ (Nat.le_refl _) hS (hI.putObj _ hi (by omega) hk.1 rfl) ((World.putObj_heap_other hne).trans hk.2)⟩
    · have hr := run_endLoop (P := P) hk.1 (by rw [hrec]; simp)
      rw [hrec] at hr
      exact ⟨some c, _, hr, hstop B c pre _ (Nat.le_refl _) hSp ((hIx c).putObj _ hi (by omega) hk.1 rfl) ((World.putObj_heap_other hne).trans hk.2)⟩
end
end Go.Proofs.YtndkohocgfmamaaGreat.Sees

/- Records in memory: slices of bytes, and rows of them, read only. -/
namespace Go.Proofs.YtndkohocgfmamaaGreat.Runs
open Go.RowKit Go.Deep Mem Crc Go.Proofs.YtndkohocgfmamaaGreat.Merge

/-- A record as a value. -/
def RecAt (w : World) (v : Value) (b : B) : Prop := ∃ a c, v = .slice a b.length c ∧ b.length ≤ c ∧ Lies w a (b.map bv)
theorem RecAt.later {w w' : World} {v : Value} {b : B} (h : RecAt w v b) (hB : Below w.heap.size w w') : RecAt w' v b := by
  obtain ⟨a, c, e, h1, h2⟩ := h
  exact ⟨a, c, e, h1, h2.later hB⟩
/-- Values of records. -/
structure RecsIn (w : World) (vs : List Value) (l : List B) : Prop where
  len : vs.length = l.length
  at_ : ∀ (i : Nat) (v : Value) (b : B), vs[i]? = some v → l[i]? = some b → RecAt w v b
theorem RecsIn.later {w w' : World} {vs : List Value} {l : List B} (h : RecsIn w vs l) (hB : Below w.heap.size w w') : RecsIn w' vs l := ⟨h.len, fun i v b h1 h2 => (h.at_ i v b h1 h2).later hB⟩
theorem recsIn_nil (w : World) : RecsIn w [] [] := ⟨rfl, fun i v b h1 => by simp at h1⟩
theorem RecsIn.snoc {w : World} {vs : List Value} {l : List B} (h : RecsIn w vs l) {v : Value} {b : B} (hv : RecAt w v b) : RecsIn w (vs ++ [v]) (l ++ [b]) := by
  refine ⟨by simp [h.len], fun i u c h1 h2 => ?_⟩
  by_cases hi : i < vs.length
  · rw [List.getElem?_append_left hi] at h1
    rw [List.getElem?_append_left (by rw [← h.len]; exact hi)] at h2
    exact h.at_ i u c h1 h2
  · have hl := h.len
    rw [List.getElem?_append_right (by omega)] at h1
    rw [List.getElem?_append_right (by omega), ← hl] at h2
    have h3 : i - vs.length = 0 := by
      have := (List.getElem?_eq_some_iff.1 h1).1
      simp at this
      omega
    rw [h3] at h1 h2
    simp at h1 h2
    rw [← h1, ← h2]
    exact hv
theorem RecsIn.drop {w : World} {vs : List Value} {l : List B} (h : RecsIn w vs l) (n : Nat) : RecsIn w (vs.drop n) (l.drop n) :=
  ⟨by simp [h.len], fun i v b h1 h2 => h.at_ (n + i) v b (by rwa [List.getElem?_drop] at h1) (by rwa [List.getElem?_drop] at h2)⟩
/-- A row of records as a value. -/
def RowAt (w : World) (v : Value) (l : List B) : Prop := ∃ a c vs, v = .slice a l.length c ∧ l.length ≤ c ∧ Lies w a vs ∧ RecsIn w vs l
theorem RowAt.later {w w' : World} {v : Value} {l : List B} (h : RowAt w v l) (hB : Below w.heap.size w w') : RowAt w' v l := by
  obtain ⟨a, c, vs, e, h1, h2, h3⟩ := h
  exact ⟨a, c, vs, e, h1, h2.later hB, h3.later hB⟩
/-- What bytes.Compare says. -/
def cmpB (a b : B) : Int := if a < b then -1 else if b < a then 1 else 0
theorem cmpB_lt (a b : B) : cmpB a b < 0 ↔ a < b := by
  unfold cmpB
  by_cases h : a < b
  · simp [h]
  · by_cases k : b < a <;> simp [h, k]
theorem cmpB_nil (b : B) : cmpB [] b = if b = [] then 0 else -1 := by
  cases b with
  | nil => rfl
  | cons x t => simp [cmpB]
theorem cmpB_nil_r (a : B) : cmpB a [] = if a = [] then 0 else 1 := by
  cases a with
  | nil => rfl
  | cons x t => simp [cmpB]
theorem cmpB_cons (x y : UInt8) (s t : B) : cmpB (x :: s) (y :: t) = if x < y then -1 else if y < x then 1 else cmpB s t := by
  unfold cmpB
  by_cases h : x < y
  · simp [List.cons_lt_cons_iff, h]
  · by_cases k : y < x
    · have hne : ¬ x = y := fun e => by subst e; exact UInt8.lt_irrefl _ k
      have hne2 : ¬ y = x := fun e => hne e.symm
      simp [List.cons_lt_cons_iff, h, k, hne, hne2]
    · have e : x = y := UInt8.le_antisymm (UInt8.not_lt.1 k) (UInt8.not_lt.1 h)
      subst e
      simp [UInt8.lt_irrefl]
end Go.Proofs.YtndkohocgfmamaaGreat.Runs

/- bytes.Compare, walked down to the model's entry. -/
namespace Go.Proofs.YtndkohocgfmamaaGreat.Runs
open Go.RowKit Go.Deep Mem Crc Go.Proofs.YtndkohocgfmamaaGreat.Merge

theorem run_loadB (w : World) (g : Nat) : ∀ (bs : List UInt8) (off : Nat) (acc : ByteArray), (∀ i u, bs[i]? = some u → w.cell? ⟨g, off + i, none⟩ = some (bv u)) →
    (Extern.Bytes.loadBytes ⟨g, off, none⟩ bs.length acc).run Tryz.prog w = .ok ⟨acc.data ++ bs.toArray⟩ w
  | [], _, acc, _ => by simp [Extern.Bytes.loadBytes]
  | x :: t, off, acc, h => by
    have h0 : w.cell? ⟨g, off, none⟩ = some (.int .u8 (x.toNat : Int)) := by simpa [bv] using h 0 x rfl
    have hadd : (⟨g, off, none⟩ : Addr).add 1 = ⟨g, off + 1, none⟩ := by unfold Addr.add; split <;> simp_all
    have ih := run_loadB w g t (off + 1) (acc.push ((x.toNat : Int).toNat.toUInt8)) (fun i u hu => by
      have := h (i + 1) u (by simpa using hu)
      rw [show off + 1 + i = off + (i + 1) by omega]
      exact this)
    simp only [List.length_cons, Extern.Bytes.loadBytes, Sem.run_bind, run_load, h0, Result.andThen_ok, hadd, ih]
    congr 1
    apply ByteArray.ext
    simp
theorem run_bytesOf (w : World) (a : Option Addr) (c : Nat) (bs : List UInt8) (h : Lies w a (bs.map bv)) : (Extern.Bytes.bytesOf (.slice a bs.length c)).run Tryz.prog w = .ok ⟨bs.toArray⟩ w := by
  cases a with
  | none =>
    have e : bs = [] := by simpa using lies_none h
    subst e
    rfl
  | some p =>
    rcases h with h | ⟨g, off, e, _, hc⟩
    · have e : bs = [] := by simpa using h
      subst e
      rfl
    · cases e
      have := run_loadB w g bs off .empty (fun i u hu => hc i (bv u) (bv_at hu))
      show (Extern.Bytes.loadBytes ⟨g, off, none⟩ bs.length .empty).run Tryz.prog w = _
      rw [this]
      congr 1
      apply ByteArray.ext
      show (#[] : Array UInt8) ++ bs.toArray = bs.toArray
      simp
theorem cmp_eq : ∀ a b : B, Lib.compareBytes a b = cmpB a b
  | [], [] => rfl
  | [], _ :: _ => by rw [cmpB_nil, if_neg (by simp)]; rfl
  | _ :: _, [] => by rw [cmpB_nil_r, if_neg (by simp)]; rfl
  | x :: s, y :: t => by
    rw [cmpB_cons]
    unfold Lib.compareBytes
    rw [cmp_eq s t]
set_option maxHeartbeats 400000 in
set_option maxRecDepth 100000 in
theorem compare_any (u v : Value) (a b : B) (w : World) (h1 : RecAt w u a) (h2 : RecAt w v b) :
    Calls Tryz.prog 71 #[u, v] w fun e w' => e = .returned (.int .i64 (cmpB a b)) ∧ w' = w := by
  obtain ⟨p, cp, rfl, _, hp⟩ := h1
  obtain ⟨q, cq, rfl, _, hq⟩ := h2
  have hrun : (Extern.BytealgCompare.compare #[.slice p a.length cp, .slice q b.length cq]).run Tryz.prog w = .ok (.int .i64 (cmpB a b)) w := by
    have e1 := run_bytesOf w p cp a hp
    have e2 := run_bytesOf w q cq b hq
    show Sem.run Tryz.prog (do pure (goInt (Extern.BytealgCompare.cmp (← Extern.Bytes.bytesOf (.slice p a.length cp)) (← Extern.Bytes.bytesOf (.slice q b.length cq))))) w = _
    simp only [Sem.run_bind, e1, Result.andThen_ok, e2, Sem.run_pure, Lib.cmp_eq]
    rw [← cmp_eq]
    simp [goInt]
  have HR := Lib.hid hrun
  clear hp hq hrun
  go_enter Tryz.func71, Tryz.ntmps71
  go_wp2_with fail
  rw [run_callFunc_extern Tryz.func102 (by kernel_rfl) (by kernel_rfl) (by kernel_rfl) (e := Extern.BytealgCompare.compare) (by kernel_rfl), HR.out]
  simp only [Result.andThen]
  rw [Oper.upon_value]
  go_wp2_with fail
  go_ret
  exact ⟨rfl, rfl⟩
end Go.Proofs.YtndkohocgfmamaaGreat.Runs

/- slices.Values, Collect and AppendSeq at rows of records. -/
namespace Go.Proofs.YtndkohocgfmamaaGreat.Runs
open Go.RowKit Go.Deep Go.Shelf Mem Crc Go.Proofs.YtndkohocgfmamaaGreat.Merge

attribute [local go_sem] Oper.semAt_some

/-- A slice of bytes, as a triple: where, how long, its capacity. -/
abbrev SL := Option Addr × Nat × Nat
def sl (x : SL) : Value := .slice x.1 x.2.1 x.2.2
set_option maxRecDepth 100000 in
set_option maxHeartbeats 2000000 in
theorem values1_in (F : Fence) (n : Nat) (h7 : F.fn 101) (hro : F.round = none) (hn : 1 ≤ n) (l Bs : Nat) {w0 : World} {a : Option Addr} {c : Nat} {vs : List SL} (hL : Lies w0 a (vs.map sl)) (hlc : vs.length ≤ c) (hmax : vs.length ≤ 1000000) (J Jx : List SL → World → Prop)
    (hY : ∀ pre x W, J pre W → pre.length < vs.length → YieldAt F (n - 1) Tryz.prog l #[sl x] W fun e W' =>
      (e = .returned (.bool true) ∧ J (pre ++ [x]) W' ∧ Below w0.heap.size W W') ∨ (e = .returned (.bool false) ∧ Jx (pre ++ [x]) W'))
    (W : World) (hB : Below w0.heap.size w0 W) (hcs : W.cell? ⟨Bs, 0, none⟩ = some (.slice a vs.length c)) (h0 : J [] W) :
    CallsIn F n Tryz.prog 101 #[.func (.yield l) #[] #[], .pointer (some ⟨Bs, 0, none⟩)] W fun e W' => (∃ v, e = .returned v) ∧
      ((∃ ys, ys = vs ∧ J ys W') ∨ (∃ pre, (∃ k, k ≤ vs.length ∧ pre = vs.take k) ∧ Jx pre W')) := by
  have HL := Lib.hid hL
  clear hL
  refine callsIn_of_wp Tryz.func101 rfl h7 ?_ hro
  simp only [Tryz.ntmps101, List.size_toArray, List.length_cons, List.length_nil, Nat.reduceAdd, Nat.reduceSub, Array.replicate_succ, Array.replicate_zero, List.push_toArray, List.append_toArray, List.nil_append, List.cons_append]
  gi_wp2
  gi_loopw [7] (fun i wr => ∃ k : Nat, k ≤ vs.length ∧ i = .int .i64 k ∧ J (vs.take k) wr ∧ Below w0.heap.size W wr)
    (fun i _ => vs.length - (intOf i).toNat)
  case atStart => exact ⟨0, Nat.zero_le _, rfl, by simpa using h0, Below.refl _ _⟩
  case round =>
    obtain ⟨k, hk, rfl, hJs, hnx⟩ := hrel
    by_cases hlt : k < vs.length
    · have hlr := HL.out.later (hB.trans hnx)
      obtain ⟨x, hx⟩ : ∃ x, vs[k]? = some x := ⟨vs[k], List.getElem?_eq_getElem hlt⟩
      have hmap : (vs.map sl)[k]? = some (sl x) := by simp [hx]
      obtain ⟨g, off, ea, _, hcell⟩ : ∃ g off, a = some ⟨g, off, none⟩ ∧ g < wr.heap.size ∧ ∀ i u, (vs.map sl)[i]? = some u → wr.cell? ⟨g, off + i, none⟩ = some u := by
        rcases hlr with e | h
        · rw [e] at hmap; cases hmap
        · exact h
      have hck := hcell k _ hmap
      have hw : RowKit.wrap64 ((k : Int) + 1) = (k : Int) + 1 := IntWalk.wrap64_in _ (by omega)
      have hyes : vs.take (k + 1) = vs.take k ++ [x] := by rw [List.take_add_one, hx]; rfl
      obtain ⟨fn, tmps, assign, body, hy, hR⟩ := hY _ x wr hJs (by simp; omega)
      have HYS := Lib.hid hyes
      have HX := Lib.hid hnx
      have HE := Lib.hid ea
      clear hyes hnx hcell hmap hx hlr
      subst a
      unfold sl at hck hy
      obtain ⟨xa, xn, xc⟩ := x
      dsimp only at hck hy
      gi_wp2
      refine hR.mono ?_
      rintro e W3 (⟨rfl, hJ3, hk3⟩ | ⟨rfl, hJx3⟩)
      · gi_wp2
        go_roundw
        case rel => exact ⟨k + 1, by omega, by simp [hw], by rw [HYS.out]; exact hJ3, HX.out.trans hk3⟩
        case measure => simp [intOf, hw]; omega
      · gi_wp2
        refine bodyPost_ret (results_none rfl _ _ _) rfl ?_
        exact ⟨⟨_, rfl⟩, .inr ⟨_, ⟨k + 1, by omega, HYS.out.symm⟩, hJx3⟩⟩
    · obtain rfl : k = vs.length := by omega
      rw [List.take_length] at hJs
      gi_wp2
      go_end0
      exact ⟨⟨_, rfl⟩, .inl ⟨_, rfl, hJs⟩⟩
set_option maxHeartbeats 1000000 in
theorem values_in (F : Fence) (n : Nat) (h5 : F.fn 70) (hro : F.round = none) (a : Option Addr) (len c : Nat) (w : World) :
    CallsIn F n Tryz.prog 70 #[.slice a len c] w fun e w' => e = .returned (.func (.func 101) #[] #[.pointer (some ⟨w.heap.size, 0, none⟩)]) ∧ w' = w.alloc (.cells #[.slice a len c] 73) := by
  refine callsIn_of_wp Tryz.func70 rfl h5 ?_ hro
  simp only [Tryz.ntmps70, List.size_toArray, List.length_cons, List.length_nil, Nat.reduceAdd, Nat.reduceSub, Array.replicate_succ, Array.replicate_zero, List.push_toArray, List.append_toArray, List.nil_append, List.cons_append]
  gi_wp2
  go_ret
  exact ⟨rfl, rfl⟩
/-- What Values hands back, ranged over. -/
theorem values_gives (F : Fence) (n : Nat) (h8 : F.fn 101) (hro : F.round = none) (hn : 1 ≤ n) (Bs : Nat) {w0 w : World} {a : Option Addr} {c : Nat} {vs : List SL} (hL : Lies w0 a (vs.map sl)) (hlc : vs.length ≤ c) (hmax : vs.length ≤ 1000000) (hB : Below w0.heap.size w0 w) (hBs : Bs < w.heap.size)
    (hc : w.cell? ⟨Bs, 0, none⟩ = some (.slice a vs.length c)) :
    SeqStopsK F n Tryz.prog 101 #[.pointer (some ⟨Bs, 0, none⟩)] (fun x : SL => #[sl x]) (Below w0.heap.size) (fun ys => ys = vs)
      (fun pre => ∃ k, k ≤ vs.length ∧ pre = vs.take k) vs.length w := fun l J Jx W hW _ _ hY h0 =>
  values1_in F n h8 hro hn l Bs hL hlc hmax J Jx (fun pre x W1 hj hl => hY pre x W1 hj hl) W (hB.trans (hW.mono hB.size)) ((hW.cell (p := ⟨Bs, 0, none⟩) hBs).trans hc) h0
end Go.Proofs.YtndkohocgfmamaaGreat.Runs

/- slices.AppendSeq, Collect at [][]byte. -/
namespace Go.Proofs.YtndkohocgfmamaaGreat.Runs
open Go.RowKit Go.Deep Go.Shelf Mem Crc Go.Proofs.YtndkohocgfmamaaGreat.Merge

attribute [local go_sem] Oper.semAt_some
theorem infoSl : (Tryz.prog.info? 45).map (fun i => (i.zero, i.size, i.bytes)) = some (some (.slice none 0 0), 1, 24) := by kernel_rfl
/-- A row of slices of one's own. -/
abbrev OwnL (w : World) (base : Nat) (v : Value) (xs : List SL) : Prop := w.ownsRow base 45 1 v xs.length (xs.map sl)
theorem belowK_from {n0 : Nat} {w : World} (hn : n0 ≤ w.heap.size) (W : World) (l : Nat) (o o' : Obj) (hl : w.heap.size ≤ l) (h : W.heap[l]? = some o) (_ : o.isCells = false) (_ : o.isWalk = false) : Below n0 W (W.putObj l o') := by
  have hlt := (Array.getElem?_eq_some_iff.1 h).1
  exact (Below.refl _ W).grown (grownBy_putObj' W l o') (by omega) (fun q e => by cases e; omega)
theorem boxed_put {W : World} {B D : Nat} {t : TypeId} {v : Value} {o : Obj} (o' : Obj) (h : Boxed W B t v) (hK : W.heap[D]? = some o) (hc : o.isCells = false) : Boxed (W.putObj D o') B t v :=
  h.kept (grownBy_putObj' W D o') (fun e => by
    have e : B = D := by simpa using e
    subst e
    rw [show W.heap[B]? = _ from h] at hK
    cases hK
    cases hc)
set_option maxHeartbeats 1000000 in
set_option maxRecDepth 100000 in
theorem appendSeq_any {n0 : Nat} (g : Nat) (lb : Array Value) (eg : ∀ args w, (callFunc g args).run Tryz.prog w = .ok (.enter g args) w) {S Sp : List SL → Prop} {N : Nat} (hN : N ≤ 1000000) (w : World) (hn0 : n0 ≤ w.heap.size)
    (hseq : SeqStopsK Fence.wide 4 Tryz.prog g lb (fun x : SL => #[sl x]) (Below n0) S Sp N w) :
    Calls Tryz.prog 105 #[.slice none 0 0, .func (.func g) #[] lb] w fun e w' => ∃ v xs, e = .returned v ∧ S xs ∧ xs.length ≤ N ∧ OwnL w' w.heap.size v xs ∧ Below w.heap.size w w' := by
  obtain ⟨i0, hi0, hz0, hz1, hz2⟩ := info_parts infoSl
  have HSEQ := Lib.hid hseq
  clear hseq
  refine (callsIn_wide (n := 5)).1 ?_
  refine callsIn_of_wp_marks Tryz.func105 rfl trivial ?_ rfl
  simp only [Tryz.ntmps105, List.size_toArray, List.length_cons, List.length_nil, Nat.reduceAdd, Nat.reduceSub, Array.replicate_succ, Array.replicate_zero, List.push_toArray, List.append_toArray, List.nil_append, List.cons_append]
  refine wpIn_wide.2 ?_
  go_wp2_with fail
  obtain ⟨W0, hW0⟩ : ∃ W0, W0 = w.alloc (Obj.cells #[Value.slice none 0 0] 73) := ⟨_, rfl⟩
  have hbx : Boxed W0 w.heap.size 73 (.slice none 0 0) := by rw [hW0]; exact Boxed.new _ _ _
  have hB0 : Below w.heap.size w W0 := by rw [hW0]; exact (Below.refl _ w).alloc (Nat.le_refl _) _
  have hsz : W0.heap.size = w.heap.size + 1 := by rw [hW0]; simp
  have hown0 : OwnL W0 w.heap.size (.slice none 0 0) [] := ⟨rfl, .inl ⟨rfl, rfl⟩⟩
  rw [← hW0]
  clear hW0
  refine (wpIn_wide (n := 5)).1 ?_
  refine wpIn_rangeFunc_ownG rfl (by omega) (gf := g) (lb := lb) rfl trivial eg HSEQ.out (fun h k => h.trans k) (belowK_from (by omega)) hB0 (fun _ => rfl)
    (fun pre W => ((∃ v, Boxed W w.heap.size 73 v ∧ W.ownsRow w.heap.size 45 1 v pre.length (pre.map sl) ∧ True) ∧ Below w.heap.size w W) ∧ pre.length ≤ N)
    (fun _ _ _ => False)
    (OwnFrom.and (OwnFrom.and (Own.from (holdsRow_own w.heap.size w.heap.size 73 45 1 (fun pre : List SL => pre.length) (fun pre => pre.map sl) (fun _ _ => True)) _) (ownFrom_below (Nat.le_refl _) (by omega))) (fun _ _ _ _ hs _ _ => hs))
    (fun _ _ _ _ _ hs _ _ => hs)
    ⟨⟨⟨_, hbx, hown0, trivial⟩, hB0⟩, Nat.zero_le _⟩
    (fun x => { tmps := #[.slice none 0 0, .func (.func g) #[] lb, .pointer (some ⟨w.heap.size, 0, none⟩), undef, .slice none 0 0, sl x, .func (.func g) #[] lb, sl x, undef, undef, undef, undef, undef], defers := [] }) ?assign ?body ?done ?stop
  case assign =>
    intro l x W K hK
    unfold sl at hK ⊢
    gi_wp2
    exact hK
  case body =>
    rintro l pre x W ⟨⟨⟨v, hv, hrow, _⟩, hB⟩, hlN⟩ hlt
    have c1 := hv.cell
    have hs := hB.size
    have HV := Lib.hid hv
    have HB := Lib.hid hB
    have HROW := Lib.hid hrow
    obtain ⟨va, vc, rfl, _, _, _, _⟩ := own_shape hrow
    clear hv hB hrow
    unfold sl
    gi_wp2_with (first
      | (gi_at_builtin
         refine wpListIn_append_own _ rfl _ _ 73 rfl w.heap.size 45 i0 (.slice none 0 0) 1 24 Tryz.underlying73 hi0 hz0 hz1 hz2 rfl (by decide) _ _ _ rfl (HROW.out.alloc _) ⟨W.heap.size, 0, none⟩ 1 1 [sl x] rfl rfl (one_at rfl) (by simp [sl, Value.oneCell']) (by unfold maxLen; omega) (by omega) (by rw [World.size_alloc]; omega) ?_
         intro v3 w3 hown3 hg3 hnil3
         have hap := HV.out.appended (by decide) HROW.out hs (Nat.le_refl _) hown3 hg3
         obtain ⟨q1, q2, q3, q4, q5⟩ := hap
         obtain ⟨ga, gc, rfl⟩ := ownsRow_succ hown3
         have g1 := q1.cell
         have g2 := q1.frozen
         have HQ2 := Lib.hid q2
         have HQ3 := Lib.hid q3
         have HQ4 := Lib.hid q4
         have HQ5 := Lib.hid q5
         clear q1 q2 q3 q4 q5 hown3 hg3 hnil3)
      | gi_round_op_a)
    refine ⟨HQ4.out.from _, ?_, ⟨⟨_, HQ2.out, ?_, trivial⟩, HB.out.trans HQ5.out⟩, by simp; omega⟩
    · exact HQ5.out.mono hn0
    · have h3 := HQ3.out
      have e : (pre ++ [x]).map sl = pre.map sl ++ [sl x] := by simp
      rw [← e] at h3
      rw [List.length_append]
      exact h3
  case done =>
    rintro D ys W hD hys ⟨⟨⟨v, hv, hrow, _⟩, hB⟩, hlN⟩ hK
    have c1 := hv.cell
    have g0 := (boxed_put (.deferred none) hv hK rfl).cell
    have HK := Lib.hid hK
    have HB := Lib.hid hB
    have HROW := Lib.hid hrow
    have hDW := (Array.getElem?_eq_some_iff.1 hK).1
    obtain ⟨va, vc, rfl, _, _, _, _⟩ := own_shape hrow
    clear hK hB hv hrow
    dsimp only
    go_wp2_with fail
    refine ⟨by simp, .inl ⟨_, _, rfl, run_takeDeferred HK.out, ?_⟩⟩
    refine ⟨.slice va ys.length vc, by simp [results, Tryz.f105, Tryz.results105, go_sem], _, ys, rfl, hys, hlN, ownsRow_putObj HROW.out _ HK.out rfl, ?_⟩
    exact HB.out.trans ((Below.refl _ W).grown (grownBy_putObj' W D _) (by have := HB.out.size; omega) (fun q e => by cases e; omega))
  case stop =>
    rintro D c pre W hD _ hI hK
    exact hI.elim
set_option maxHeartbeats 400000 in
theorem collect_any {n0 : Nat} (g : Nat) (lb : Array Value) (eg : ∀ args w, (callFunc g args).run Tryz.prog w = .ok (.enter g args) w) {S Sp : List SL → Prop} {N : Nat} (hN : N ≤ 1000000) (w : World) (hn0 : n0 ≤ w.heap.size)
    (hseq : SeqStopsK Fence.wide 4 Tryz.prog g lb (fun x : SL => #[sl x]) (Below n0) S Sp N w) :
    Calls Tryz.prog 75 #[.func (.func g) #[] lb] w fun e w' => ∃ v xs, e = .returned v ∧ S xs ∧ xs.length ≤ N ∧ OwnL w' w.heap.size v xs ∧ Below w.heap.size w w' := by
  have HA := Lib.hid (appendSeq_any g lb eg hN w hn0 hseq)
  clear hseq
  go_enter Tryz.func75, Tryz.ntmps75
  go_wp2_with (refine HA.out.mono ?_; rintro e w1 ⟨v, xs, rfl, h1, h2, h3, h4⟩; obtain ⟨va, vc, rfl, _, _, _, _⟩ := own_shape h3; have H3 := Lib.hid h3; have H4 := Lib.hid h4; clear h3 h4)
  go_ret
  exact ⟨_, xs, rfl, h1, h2, H3.out, H4.out⟩
/-- A row of slices of another's, copied. -/
theorem collect_values {a : Option Addr} {c : Nat} {vs : List SL} (w : World) (Bs : Nat) (hBs : Bs < w.heap.size) {w0 : World} (hL : Lies w0 a (vs.map sl)) (hlc : vs.length ≤ c) (hmax : vs.length ≤ 1000000) (hB : Below w0.heap.size w0 w) (hc : w.cell? ⟨Bs, 0, none⟩ = some (.slice a vs.length c)) :
    Calls Tryz.prog 75 #[.func (.func 101) #[] #[.pointer (some ⟨Bs, 0, none⟩)]] w fun e w' => ∃ v, e = .returned v ∧ OwnL w' w.heap.size v vs ∧ Below w.heap.size w w' := by
  refine (collect_any _ _ (enters_of Tryz.func101 (by kernel_rfl) rfl) hmax w hB.size (values_gives Fence.wide 4 trivial rfl (by omega) Bs hL hlc hmax hB hBs hc)).mono ?_
  rintro e w' ⟨v, xs, rfl, rfl, _, h1, h2⟩
  exact ⟨v, rfl, h1, h2⟩
end Go.Proofs.YtndkohocgfmamaaGreat.Runs

/- slices.Chunk of bytes whose number is a multiple of the width. -/
namespace Go.Proofs.YtndkohocgfmamaaGreat.Runs
open Go.RowKit Go.Deep Go.Shelf Mem Crc Go.Proofs.YtndkohocgfmamaaGreat.Merge

attribute [local go_sem] Oper.semAt_some

/-- The pieces of m * wd bytes. -/
def pieces (g off wd m : Nat) : List SL := (List.range m).map fun k => (some ⟨g, off + k * wd, none⟩, wd, wd)
theorem pieces_len (g off wd m : Nat) : (pieces g off wd m).length = m := by simp [pieces]
theorem pieces_succ (g off wd k : Nat) : pieces g off wd (k + 1) = pieces g off wd k ++ [(some ⟨g, off + k * wd, none⟩, wd, wd)] := by simp [pieces, List.range_succ]
set_option maxRecDepth 100000 in
set_option maxHeartbeats 400000 in
theorem chunk1_in (n : Nat) (hn : 1 ≤ n) (l Bs Bn : Nat) {w0 : World} {g off wd m c : Nat} (hwd : 0 < wd) (hlc : m * wd ≤ c) (hmax : m * wd ≤ 1000000) (hs0 : Bs < w0.heap.size) (hn0 : Bn < w0.heap.size) (J Jx : List SL → World → Prop)
    (hJ : ∀ s X q, J s X → J s (X.drewN q))
    (hY : ∀ pre x W, J pre W → pre.length < m → YieldAt Fence.wide (n - 1) Tryz.prog l #[sl x] W fun e W' =>
      (e = .returned (.bool true) ∧ J (pre ++ [x]) W' ∧ Below w0.heap.size W W') ∨ (e = .returned (.bool false) ∧ Jx (pre ++ [x]) W'))
    (W : World) (hB : Below w0.heap.size w0 W) (hcs : w0.cell? ⟨Bs, 0, none⟩ = some (.slice (some ⟨g, off, none⟩) (m * wd) c)) (hcn : w0.cell? ⟨Bn, 0, none⟩ = some (.int .i64 wd)) (h0 : J [] W) :
    CallsIn Fence.wide n Tryz.prog 91 #[.func (.yield l) #[] #[], .pointer (some ⟨Bs, 0, none⟩), .pointer (some ⟨Bn, 0, none⟩)] W fun e W' => (∃ v, e = .returned v) ∧
      ((∃ ys, ys = pieces g off wd m ∧ J ys W') ∨ (∃ pre, (∃ k, k ≤ m ∧ pre = pieces g off wd k) ∧ Jx pre W')) := by
  obtain ⟨M, hM⟩ : ∃ M, M = m * wd := ⟨_, rfl⟩
  rw [← hM] at hlc hcs hmax
  refine callsIn_of_wp Tryz.func91 rfl trivial ?_ rfl
  simp only [Tryz.ntmps91, List.size_toArray, List.length_cons, List.length_nil, Nat.reduceAdd, Nat.reduceSub, Array.replicate_succ, Array.replicate_zero, List.push_toArray, List.append_toArray, List.nil_append, List.cons_append]
  gi_wp2
  gi_loopw [4] (fun i wr => ∃ k p : Nat, k ≤ m ∧ p = k * wd ∧ i = .int .i64 p ∧ J (pieces g off wd k) wr ∧ Below w0.heap.size w0 wr)
    (fun i _ => M - (intOf i).toNat)
  case atStart => exact ⟨0, 0, Nat.zero_le _, by simp, rfl, h0, hB⟩
  case round =>
    obtain ⟨k, p, hk, hp, rfl, hJs, hnx⟩ := hrel
    have hcs1 := (hnx.cell (p := ⟨Bs, 0, none⟩) hs0).trans hcs
    have hcn1 := (hnx.cell (p := ⟨Bn, 0, none⟩) hn0).trans hcn
    by_cases hlt : k < m
    · have hpw : p + wd ≤ M := by rw [hp, hM, ← Nat.succ_mul]; exact Nat.mul_le_mul_right _ hlt
      have hp2 : p + wd = (k + 1) * wd := by rw [hp, Nat.succ_mul]
      have hyes := pieces_succ g off wd k
      rw [← hp] at hyes
      have HYS := Lib.hid hyes
      have HP := Lib.hid hp
      have HP2 := Lib.hid hp2
      have HM := Lib.hid hM
      clear hyes hp hp2 hM
      have hw : IntKind.i64.wrap ((p : Int) + wd) = (p : Int) + wd := (IntWalk.i64_left _).trans (IntWalk.wrap64_in _ (by omega))
      have hl2 : p < M := Nat.lt_of_lt_of_le (Nat.lt_add_of_pos_right hwd) hpw
      have hl1 : decide ((p : Int) < (M : Int)) = true := decide_eq_true (Int.ofNat_lt.2 hl2)
      have hmin : min (wd : Int) ((M - p : Nat) : Int) = wd := Int.min_eq_left (Int.ofNat_le.2 (Nat.le_sub_of_add_le' hpw))
      have HX := Lib.hid hnx
      have HJ := Lib.hid hJs
      clear hnx hJs
      gi_wp2
      gi_quiet (fail)
      have hdr : wr.grownBy (wr.drewN nq) none := ⟨rfl, rfl, rfl, Nat.le_refl _, fun _ _ _ => rfl⟩
      have hXd := HX.out.grown hdr (by have := HX.out.size; omega) (fun q e => by cases e)
      have hcs2 := (hXd.cell (p := ⟨Bs, 0, none⟩) hs0).trans hcs
      have hcn2 := (hXd.cell (p := ⟨Bn, 0, none⟩) hn0).trans hcn
      have hJd := hJ _ _ nq HJ.out
      obtain ⟨fn, tmps, assign, body, hy, hR⟩ := hY _ (some ⟨g, off + p, none⟩, wd, wd) (wr.drewN nq) hJd (by rw [pieces_len]; exact hlt)
      have HXD := Lib.hid hXd
      unfold sl at hy
      dsimp only at hy
      clear hJd hXd
      gi_wp2
      refine hR.mono ?_
      rintro e W3 (⟨rfl, hJ3, hk3⟩ | ⟨rfl, hJx3⟩)
      · have hcs3 := ((HXD.out.trans hk3).cell (p := ⟨Bs, 0, none⟩) hs0).trans hcs
        have hcn3 := ((HXD.out.trans hk3).cell (p := ⟨Bn, 0, none⟩) hn0).trans hcn
        gi_wp2
        go_roundw
        case rel => exact ⟨k + 1, p + wd, by omega, HP2.out, by simp [hw], by rw [HYS.out]; exact hJ3, HXD.out.trans hk3⟩
        case measure => simp [intOf, hw]; omega
      · gi_wp2
        refine bodyPost_ret (results_none rfl _ _ _) rfl ?_
        exact ⟨⟨_, rfl⟩, .inr ⟨_, ⟨k + 1, by omega, HYS.out.symm⟩, hJx3⟩⟩
    · obtain rfl : k = m := Nat.le_antisymm hk (Nat.not_lt.1 hlt)
      obtain rfl : p = M := hp.trans hM.symm
      have hl1 : decide ((p : Int) < (p : Int)) = false := by simp
      gi_wp2
      go_end0
      exact ⟨⟨_, rfl⟩, .inl ⟨_, rfl, hJs⟩⟩
set_option maxHeartbeats 400000 in
theorem chunk_any (a : Option Addr) (len c wd : Nat) (hwd : 0 < wd) (w : World) :
    Calls Tryz.prog 60 #[.slice a len c, .int .i64 wd] w fun e w' => e = .returned (.func (.func 91) #[] #[.pointer (some ⟨w.heap.size, 0, none⟩), .pointer (some ⟨w.heap.size + 1, 0, none⟩)]) ∧ w' = (w.alloc (.cells #[.slice a len c] 45)).alloc (.cells #[.int .i64 wd] 3) := by
  have h1 : decide ((wd : Int) < 1) = false := decide_eq_false (by omega)
  go_enter Tryz.func60, Tryz.ntmps60
  go_wp2_with fail
  go_ret
  exact ⟨rfl, rfl⟩
/-- The pieces of bytes, collected. -/
theorem collect_pieces {g off wd m c : Nat} (hwd : 0 < wd) (hlc : m * wd ≤ c) (hmax : m * wd ≤ 1000000) (w : World) (Bs Bn : Nat) (hBs : Bs < w.heap.size) (hBn : Bn < w.heap.size) (hcs : w.cell? ⟨Bs, 0, none⟩ = some (.slice (some ⟨g, off, none⟩) (m * wd) c)) (hcn : w.cell? ⟨Bn, 0, none⟩ = some (.int .i64 wd)) :
    Calls Tryz.prog 75 #[.func (.func 91) #[] #[.pointer (some ⟨Bs, 0, none⟩), .pointer (some ⟨Bn, 0, none⟩)]] w fun e w' => ∃ v, e = .returned v ∧ OwnL w' w.heap.size v (pieces g off wd m) ∧ Below w.heap.size w w' := by
  have hm : m ≤ 1000000 := Nat.le_trans (Nat.le_mul_of_pos_right m hwd) hmax
  have hseq : SeqStopsK Fence.wide 4 Tryz.prog 91 #[.pointer (some ⟨Bs, 0, none⟩), .pointer (some ⟨Bn, 0, none⟩)] (fun x : SL => #[sl x]) (Below w.heap.size) (fun ys => ys = pieces g off wd m)
      (fun pre => ∃ k, k ≤ m ∧ pre = pieces g off wd k) m w := fun l J Jx W hW hJ hJx hY h0 => by
    exact chunk1_in 4 (by omega) l Bs Bn (w0 := w) hwd hlc hmax hBs hBn J Jx (fun s X q hs => hJ s X _ none hs ⟨rfl, rfl, rfl, Nat.le_refl _, fun _ _ _ => rfl⟩ (fun r e => by cases e)) (fun pre x W1 hj hl => hY pre x W1 hj hl) W hW hcs hcn h0
  refine (collect_any _ _ (enters_of Tryz.func91 (by kernel_rfl) rfl) hm w (Nat.le_refl _) hseq).mono ?_
  rintro e w' ⟨v, xs, rfl, rfl, _, h1, h2⟩
  exact ⟨v, rfl, h1, h2⟩
end Go.Proofs.YtndkohocgfmamaaGreat.Runs

/- slices.SortFunc of records by bytes.Compare. -/
namespace Go.Proofs.YtndkohocgfmamaaGreat.Runs
open Go.RowKit Go.Deep Go.Shelf Go.Lib Go.Sort Mem Crc Go.Proofs.YtndkohocgfmamaaGreat.Merge

attribute [local go_sem] Oper.semAt_some

/-- A record that lies outside of a block. -/
abbrev RecOut (w : World) (bk : Nat) : Type := { p : SL × B // RecAt w (sl p.1) p.2 ∧ ∀ g, Mem.blk p.1.1 = some g → g ≠ bk }
instance (w : World) (bk : Nat) : Inhabited (RecOut w bk) := ⟨⟨((none, 0, 0), []), ⟨none, 0, rfl, Nat.le_refl _, .inl rfl⟩, fun g h => by simp [Mem.blk] at h⟩⟩
def encR {w : World} {bk : Nat} (x : RecOut w bk) : Value := sl x.1.1
def cfR {w : World} {bk : Nat} (x y : RecOut w bk) : Int := cmpB x.1.2 y.1.2
theorem ltR {w : World} {bk : Nat} (x y : RecOut w bk) : ltOf cfR x y = decide (x.1.2 < y.1.2) := by
  unfold ltOf cfR
  rw [decide_eq_decide]
  exact cmpB_lt _ _
theorem swoR (w : World) (bk : Nat) : SWO (ltOf (cfR (w := w) (bk := bk))) where
  irrefl x := by rw [ltR]; simp [List.lt_irrefl]
  trans x y z h1 h2 := by
    rw [ltR, decide_eq_true_iff] at *
    exact List.lt_trans h1 h2
  ntrans x y z h1 h2 := by
    rw [ltR, decide_eq_false_iff_not, List.not_lt] at *
    exact List.le_trans h2 h1
theorem heap_sortWorld {α : Type} [Inhabited α] (enc : α → Value) (w : World) (bk off m : Nat) (dk : Array α) (os : Array Obj) {g : Nat} (hg : g < w.heap.size) (hne : g ≠ bk) : (sortWorld enc w bk off m dk os).heap[g]? = w.heap[g]? := by
  unfold sortWorld
  rw [heap_grow_old _ _ (by simpa [size_putRow] using hg)]
  show (w.heap.modify bk _)[g]? = _
  rw [Array.getElem?_modify, if_neg (fun e => hne e.symm)]
theorem size_sortWorld {α : Type} [Inhabited α] (enc : α → Value) (w : World) (bk off m : Nat) (dk : Array α) (os : Array Obj) : w.heap.size ≤ (sortWorld enc w bk off m dk os).heap.size := by
  unfold sortWorld
  rw [Go.Sort.size_grow, size_putRow]
  exact Nat.le_add_right _ _
theorem RecAt.sorted {α : Type} [Inhabited α] {enc : α → Value} {w : World} {bk off m : Nat} {dk : Array α} {os : Array Obj} {x : SL} {b : B} (h : RecAt w (sl x) b) (hne : ∀ g, Mem.blk x.1 = some g → g ≠ bk) : RecAt (sortWorld enc w bk off m dk os) (sl x) b := by
  obtain ⟨a, c, e, h1, h2⟩ := h
  refine ⟨a, c, e, h1, ?_⟩
  have ea : x.1 = a := by unfold sl at e; injection e
  rcases h2 with h | ⟨g, o, eg, hlt, hc⟩
  · exact .inl h
  · refine .inr ⟨g, o, eg, Nat.lt_of_lt_of_le hlt (size_sortWorld _ _ _ _ _ _ _), fun i u hu => ?_⟩
    have hg : g ≠ bk := hne g (by rw [ea, eg]; rfl)
    rw [World.cell?_of_block (heap_sortWorld enc w bk off m dk os hlt hg)]
    exact hc i u hu
theorem cmpLays (w : World) (bk off n : Nat) : CmpLays1 Tryz.prog 71 #[] (encR (w := w) (bk := bk)) cfR bk off n w := fun m os dk _ x y => by
  refine (compare_any _ _ x.1.2 y.1.2 _ (RecAt.sorted x.2.1 x.2.2) (RecAt.sorted y.2.1 y.2.2)).mono ?_
  rintro e w' ⟨rfl, rfl⟩
  exact ⟨rfl, 0, #[], by rw [Go.Sort.grow_empty]; rfl⟩
end Go.Proofs.YtndkohocgfmamaaGreat.Runs

/- slices.SortFunc of records of one's own row: a permutation of them, rising. -/
namespace Go.Proofs.YtndkohocgfmamaaGreat.Runs
open Go.RowKit Go.Deep Go.Shelf Go.Lib Go.Sort Mem Crc Go.Proofs.YtndkohocgfmamaaGreat.Merge

theorem recs_sub (w : World) (bk : Nat) : ∀ (vs : List SL) (l : List B), vs.length = l.length → (∀ (i : Nat) (x : SL) (b : B), vs[i]? = some x → l[i]? = some b → RecAt w (sl x) b) → (∀ x ∈ vs, ∀ g, Mem.blk x.1 = some g → g ≠ bk) →
    ∃ ds : List (RecOut w bk), ds.map (·.1.1) = vs ∧ ds.map (·.1.2) = l
  | [], [], _, _, _ => ⟨[], rfl, rfl⟩
  | x :: vs, b :: l, hl, h, ho => by
    obtain ⟨ds, h1, h2⟩ := recs_sub w bk vs l (by simpa using hl) (fun i y c hy hc => h (i + 1) y c (by simpa using hy) (by simpa using hc)) (fun y hy => ho y (List.mem_cons_of_mem _ hy))
    exact ⟨⟨(x, b), h 0 x b rfl rfl, ho x (by simp)⟩ :: ds, by simp [h1], by simp [h2]⟩
  | [], _ :: _, hl, _, _ => by simp at hl
  | _ :: _, [], hl, _, _ => by simp at hl
theorem perm_all {α : Type} [Inhabited α] {d d' : Array α} (h : PermIn 0 d.size d d') : d'.toList.Perm d.toList := by
  have h3 := h.2.2
  have hs := h.1
  have e1 : (d'.extract 0 d.size) = d' := by rw [← hs]; exact Array.extract_size
  have e2 : (d.extract 0 d.size) = d := Array.extract_size
  rwa [e1, e2] at h3
theorem heap_sorted {α : Type} [Inhabited α] (enc : α → Value) (w : World) (bk off m : Nat) (dk : Array α) (os : Array Obj) {cur : Array Value} {e : TypeId} {fr : Nat × Nat} (h : w.heap[bk]? = some (.cells cur e fr)) : (sortWorld enc w bk off m dk os).heap[bk]? = some (.cells (putCells enc off dk cur) e fr) := by
  have hg := (Array.getElem?_eq_some_iff.1 h).1
  unfold sortWorld
  rw [heap_grow_old _ _ (by simpa [size_putRow] using hg)]
  show (w.heap.modify bk _)[bk]? = _
  rw [Array.getElem?_modify, if_pos rfl, h]
  rfl
theorem take_putCells {α : Type} [Inhabited α] (enc : α → Value) (d : Array α) (cur : Array Value) (h : d.size ≤ cur.size) : (putCells enc 0 d cur).toList.take d.size = d.toList.map enc := by
  apply List.ext_getElem
  · simp [putCells]; omega
  · intro i h1 h2
    have hi : i < d.size := by simpa using h2
    simp [putCells, hi, getElem!_pos]
set_option maxHeartbeats 1000000 in
theorem sort_any {w : World} {base : Nat} {v : Value} {vs : List SL} {l : List B} (hO : OwnL w base v vs) (hR : RecsIn w (vs.map sl) l) (hout : ∀ x ∈ vs, ∀ g, Mem.blk x.1 = some g → some g ≠ v.ownBlock) (hn : vs.length ≤ 1000000) :
    Calls Tryz.prog 100 #[v, .func (.func 71) #[] #[]] w fun e w' => e = .returned (.tuple #[]) ∧ ∃ vs' l', vs'.length = vs.length ∧ OwnL w' base v vs' ∧ RecsIn w' (vs'.map sl) l' ∧ l'.Perm l ∧ Rises l' ∧ (∀ x ∈ vs', x ∈ vs) ∧
      (∀ B, B ≤ w.heap.size → (∀ g, v.ownBlock = some g → B ≤ g) → Below B w w') ∧ ∀ k, k < w.heap.size → some k ≠ v.ownBlock → w'.heap[k]? = w.heap[k]? := by
  have eg : ∀ args w, (callFunc 71 args).run Tryz.prog w = .ok (.enter 71 args) w := enters_of Tryz.func71 (by kernel_rfl) rfl
  have hlen : vs.length = l.length := by simpa using hR.len
  rcases hO.2 with ⟨rfl, h0⟩ | ⟨g, cap, cur, rfl, hb, hgb, hc1, hc2, hc3, hc4⟩
  · have hcon := AnyF.slices_SortFunc_none (P := Tryz.prog) (ρ := Tryz.sortRec_ren) { Tryz.sortRec with } none 0 (.func (.func 71) #[] #[]) w
    change Calls Tryz.prog 100 _ _ _ at hcon
    refine hcon.mono ?_
    rintro e w' ⟨rfl, rfl⟩
    refine ⟨rfl, vs, l, rfl, hO, hR, List.Perm.refl _, ?_, fun _ h => h, fun B _ _ => Below.refl _ _, fun _ _ _ => rfl⟩
    have : l = [] := List.length_eq_zero_iff.1 (by omega)
    rw [this]
    exact List.Pairwise.nil
  · have hg := (Array.getElem?_eq_some_iff.1 hgb).1
    obtain ⟨ds, hd1, hd2⟩ := recs_sub w g vs l hlen (fun i x b hx hb => hR.at_ i (sl x) b (by simp [hx]) hb) (fun x hx q hq e => hout x hx q hq (by rw [e]; rfl))
    have hds : ds.length = vs.length := by rw [← hd1]; simp
    have hH : Holds encR w g 0 ds.toArray := fun j hj => by
      have hj' : j < ds.length := by simpa using hj
      have hc : cur.toList[j]? = some (encR ds[j]) := by
        have h1 : (cur.toList.take (vs.length * 1))[j]? = some (encR ds[j]) := by
          rw [hc4, ← hd1]
          simp [List.getElem?_eq_getElem hj', encR]
        rw [List.getElem?_take] at h1
        split at h1
        · exact h1
        · cases h1
      refine ⟨?_, ?_⟩
      · simp [World.cell?, hgb, getElem!_pos, hj', ← hc]
      · simp [World.frozen?, hgb]
    have hcon := Any.slices_SortFunc (P := Tryz.prog) (ρ := Tryz.sortRec_ren) Tryz.sortRec (encR (w := w) (bk := g)) (fun _ => rfl) cfR (swoR w g) 71 #[] g 0 cap ds.toArray w eg (cmpLays w g 0 _) hH hg (by simp; omega)
    change Calls Tryz.prog 100 _ _ _ at hcon
    have esz : ds.toArray.size = vs.length := by simp [hds]
    rw [esz] at hcon
    refine hcon.mono ?_
    rintro e w' ⟨rfl, d', n, os, hp, hs, rfl⟩
    have hpa := perm_all (by rw [esz]; exact hp)
    have hsz : d'.size = vs.length := by rw [hp.1, esz]
    refine ⟨rfl, d'.toList.map (·.1.1), d'.toList.map (·.1.2), by simp [hsz], ?_, ?_, ?_, ?_, ?_, fun B hB1 hB2 => ⟨rfl, rfl, rfl, size_sortWorld _ _ _ _ _ _ _, fun k hk => heap_sortWorld _ _ _ _ _ _ _ (Nat.lt_of_lt_of_le hk hB1) (by have := hB2 g rfl; omega)⟩, fun k hk hne => heap_sortWorld _ _ _ _ _ _ _ hk (fun e => hne (by rw [e]; rfl))⟩
    · refine ⟨by simp, .inr ⟨g, cap, _, by simp [hsz], hb, heap_sorted _ _ _ _ _ _ _ hgb, by simp [hsz]; exact hc1, hc2, by simpa [putCells] using hc3, ?_⟩⟩
      have h1 := take_putCells (encR (w := w) (bk := g)) d' cur (by omega)
      simp only [List.length_map, Array.length_toList, Nat.mul_one]
      rw [h1, List.map_map]
      rfl
    · refine ⟨by simp, fun i u b hu hb' => ?_⟩
      simp only [List.getElem?_map, Option.map_eq_some_iff] at hu hb'
      obtain ⟨q, ⟨x, hx, rfl⟩, rfl⟩ := hu
      obtain ⟨y, hy, rfl⟩ := hb'
      rw [hx] at hy
      cases hy
      exact RecAt.sorted x.2.1 x.2.2
    · have := hpa.map (fun x : RecOut w g => x.1.2)
      simpa [hd2] using this
    · refine List.pairwise_iff_getElem.2 fun i j hi hj hij => ?_
      have hj' : j < d'.size := by simpa using hj
      have h1 := hs i j (Nat.zero_le _) hij (by omega)
      rw [ltR, decide_eq_false_iff_not, List.not_lt, getElem!_pos d' j hj', getElem!_pos d' i (by omega)] at h1
      simpa using h1
    · intro x hx
      obtain ⟨y, hy, rfl⟩ := List.mem_map.1 hx
      rw [← hd1]
      exact List.mem_map.2 ⟨y, by simpa using hpa.mem_iff.1 hy, rfl⟩
end Go.Proofs.YtndkohocgfmamaaGreat.Runs

/- slices.SortedFunc of a row's records. -/
namespace Go.Proofs.YtndkohocgfmamaaGreat.Runs
open Go.RowKit Go.Deep Go.Shelf Mem Crc Go.Proofs.YtndkohocgfmamaaGreat.Merge

attribute [local go_sem] Oper.semAt_some

theorem rec_block {w : World} {x : SL} {b : B} (h : RecAt w (sl x) b) (hb : b ≠ []) : ∀ g, Mem.blk x.1 = some g → g < w.heap.size := fun g hg => by
  obtain ⟨a, c, e, h1, h2⟩ := h
  have ea : x.1 = a := by unfold sl at e; injection e
  rcases h2 with h | ⟨q, o, eq, hlt, hc⟩
  · exact absurd (by simpa using h) hb
  · rw [ea, eq] at hg
    have : q = g := by simpa [Mem.blk] using hg
    omega
set_option maxHeartbeats 400000 in
theorem sortedFunc_any {a : Option Addr} {c : Nat} {vs : List SL} {l : List B} (w : World) (Bs : Nat) (hBs : Bs < w.heap.size) {w0 : World} (hL : Lies w0 a (vs.map sl)) (hlc : vs.length ≤ c) (hmax : vs.length ≤ 1000000) (hB : Below w0.heap.size w0 w) (hc : w.cell? ⟨Bs, 0, none⟩ = some (.slice a vs.length c))
    (hR : RecsIn w (vs.map sl) l) (hne : ∀ b ∈ l, b ≠ []) :
    Calls Tryz.prog 69 #[.func (.func 101) #[] #[.pointer (some ⟨Bs, 0, none⟩)], .func (.func 71) #[] #[]] w fun e w' => ∃ v vs' l', e = .returned v ∧ vs'.length = vs.length ∧ OwnL w' w.heap.size v vs' ∧ RecsIn w' (vs'.map sl) l' ∧ l'.Perm l ∧ Rises l' ∧ (∀ x ∈ vs', x ∈ vs) ∧ Below w.heap.size w w' := by
  have hC := Lib.hid (collect_values w Bs hBs hL hlc hmax hB hc)
  have HR := Lib.hid hR
  clear hc hL hB hR
  go_enter Tryz.func69, Tryz.ntmps69
  go_wp2_with (first
    | (go_at_call 75
       refine hC.out.mono ?_
       rintro e w1 ⟨v, rfl, hO, hB1⟩
       have hR1 := HR.out.later hB1
       have HS := Lib.hid (sort_any hO hR1 (fun x hx g hg e => by
         obtain ⟨i, hi⟩ := List.getElem?_of_mem hx
         have hl := HR.out.len
         have hil : i < l.length := by
           have := (List.getElem?_eq_some_iff.1 hi).1
           simp at hl
           omega
         have h1 := rec_block (HR.out.at_ i (sl x) l[i] (by simp [hi]) (List.getElem?_eq_getElem hil)) (hne _ (List.getElem_mem hil)) g hg
         have h2 := (hO.lt g e.symm).1
         omega) hmax)
       have HB1 := Lib.hid hB1
       have HO := Lib.hid (fun g e => (hO.lt g e).1)
       obtain ⟨va, vc, rfl, _, _, _, _⟩ := own_shape hO
       clear hO hR1 hB1)
    | (go_at_call 100
       refine HS.out.mono ?_
       rintro e w2 ⟨rfl, vs', l', h1, h2, h3, h4, h5, h7, h6, _⟩
       have H2 := Lib.hid h2
       have H3 := Lib.hid h3
       have H7 := Lib.hid h7
       have H6 := Lib.hid (HB1.out.trans (h6 w.heap.size HB1.out.size HO.out))
       clear h2 h3 h6 h7))
  go_ret
  exact ⟨_, vs', l', rfl, h1, H2.out, H3.out, h4, h5, H7.out, H6.out⟩
end Go.Proofs.YtndkohocgfmamaaGreat.Runs

/- A run's bytes: bytes.Join, section. -/
namespace Go.Proofs.YtndkohocgfmamaaGreat.Runs
open Go.RowKit Go.Deep Go.Shelf Go.Lib Mem Crc Go.Proofs.YtndkohocgfmamaaGreat.Merge

attribute [local go_sem] Oper.semAt_some

theorem join_flat : ∀ l : List B, Lib.join l [] = l.flatten
  | [] => rfl
  | x :: r => by
    rw [Lib.join_cons]
    simp [Lib.joinTail]
theorem lens_flat (l : List B) : Lib.lens l = l.flatten.length := by simp [Lib.lens, List.length_flatten]
theorem fresh_lies {base : Nat} {w : World} {v : Value} {l : B} (h : Lib.FreshBytes base w v l) : ∃ a c, v = .slice a l.length c ∧ Lies w a (l.map bv) := by
  obtain ⟨g, cap, zs, rfl, _, hlc, _, hz, hr, hb, hc, _⟩ := h
  refine ⟨_, _, rfl, ?_⟩
  by_cases h0 : l = []
  · exact .inl (by simp [h0])
  · have hpos : 0 < l.length := List.length_pos_iff.2 h0
    have c0 := hc 0 (by omega)
    refine .inr ⟨g, 0, rfl, ?_, fun i u hu => ?_⟩
    · obtain ⟨o, ho, _⟩ := cells_of_cell c0
      exact (Array.getElem?_eq_some_iff.1 ho).1
    · have hi : i < l.length := by simpa using (List.getElem?_eq_some_iff.1 hu).1
      have hzi : i < zs.length := by omega
      rw [Nat.zero_add, hc i (by omega)]
      have hu' : bv l[i] = u := by simpa [List.getElem?_eq_getElem hi] using hu
      have hli : l[i] = zs[i].toNat.toUInt8 := by
        have h1 : (Lib.bytesOf (zs.take l.length))[i]? = l[i]? := by rw [hb]
        rw [List.getElem?_eq_getElem hi] at h1
        simp [Lib.bytesOf, List.getElem?_take, hi, List.getElem?_eq_getElem hzi] at h1
        rw [← h1]
      have h2 := hr zs[i] (List.getElem_mem hzi)
      rw [← hu', hli, List.getD_eq_getElem?_getD, List.getElem?_eq_getElem hzi]
      unfold bv
      simp
      omega
theorem join_any {a : Option Addr} {c : Nat} {vs : List SL} {l : List B} (w : World) (hL : Lies w a (vs.map sl)) (hlc : vs.length ≤ c) (hR : RecsIn w (vs.map sl) l) (hne : ∀ b ∈ l, b ≠ []) (hmax : l.flatten.length ≤ 1048576) (hml : l.length ≤ 1048576) :
    Calls Tryz.prog 68 #[.slice a vs.length c, .slice none 0 0] w fun e w' => ∃ ad cp, e = .returned (.slice ad l.flatten.length cp) ∧ Lies w' ad (l.flatten.map bv) ∧ Below w.heap.size w w' := by
  have hlen : vs.length = l.length := by simpa using hR.len
  have hparts : ∀ (i : Nat) (v : Value) (b : B), (vs.map sl)[i]? = some v → l[i]? = some b → ∃ ad cp, v = .slice (some ad) b.length cp ∧ ∀ (j : Nat) x, b[j]? = some x → w.cell? (ad.add j) = some (.int .u8 (x.toNat : Int)) := fun i v b hv hb => by
    obtain ⟨p, cp, e, _, hl⟩ := hR.at_ i v b hv hb
    have hbne := hne b (List.mem_of_getElem? hb)
    rcases hl with h | ⟨g, o, rfl, hg, hc⟩
    · exact absurd (by simpa using h) hbne
    · refine ⟨_, cp, e, fun j x hx => ?_⟩
      exact lies_add (w := w) (a := ⟨g, o, none⟩) (.inr ⟨g, o, rfl, hg, hc⟩) j _ (by simp [hx, bv])
  match l, hlen, hL with
  | [], hlen, _ =>
    rw [show vs.length = 0 from hlen]
    refine (Tryz.bytes_Join_none a c _ w).mono ?_
    rintro e w' ⟨rfl, rfl⟩
    exact ⟨_, _, rfl, .inl rfl, (Below.refl _ w).alloc (Nat.le_refl _) _⟩
  | [b], hlen, hL =>
    have hv0 : 0 < vs.length := by rw [hlen]; exact Nat.one_pos
    rcases hL with h | ⟨g, o, rfl, hg, hc⟩
    · have : vs = [] := by simpa using h
      rw [this] at hv0
      cases hv0
    · obtain ⟨ad, cp, e, hp⟩ := hparts 0 (sl vs[0]) b (by simp [List.getElem?_eq_getElem hv0]) rfl
      have h0 := hc 0 (sl vs[0]) (by simp [List.getElem?_eq_getElem hv0])
      rw [e] at h0
      rw [show vs.length = 1 from hlen]
      refine (Tryz.bytes_Join_one g o c ad cp b _ w h0 hp (List.length_pos_iff.2 (hne b (by simp))) (by simp at hmax; omega)).mono ?_
      rintro e w' ⟨v', rfl, hf, hB⟩
      obtain ⟨q, k, rfl, hl⟩ := fresh_lies hf
      exact ⟨q, k, by simp, by simpa using hl, hB⟩
  | x :: y :: r, hlen, hL =>
    have hv0 : 2 ≤ vs.length := by rw [hlen]; simp
    rcases hL with h | ⟨g, o, rfl, hg, hc⟩
    · have : vs = [] := by simpa using h
      rw [this] at hv0
      cases hv0
    · have hPA : Lib.PartsAt w ⟨g, o, none⟩ (vs.map sl) (x :: y :: r) := ⟨by simpa using hlen, fun i v hv => lies_add (w := w) (a := ⟨g, o, none⟩) (.inr ⟨g, o, rfl, hg, hc⟩) i v hv, fun i v b hv hb => by
        obtain ⟨ad, cp, e, hp⟩ := hparts i v b hv hb
        exact ⟨some ad, cp, e, (fun h => by cases h), (fun q hq => by cases hq; exact hp)⟩⟩
      refine (Tryz.bytes_Join_many g o vs.length c (vs.map sl) (x :: y :: r) (.slice none 0 0) [] w hlen.symm hv0 hPA hlc ⟨none, 0, rfl, fun _ => rfl, fun q hq => by cases hq⟩ (by omega) (by rw [lens_flat]; simp only [List.length_nil, Nat.zero_mul]; omega)).mono ?_
      rintro e w' ⟨v', rfl, hf, hB⟩
      rw [join_flat] at hf
      obtain ⟨q, k, rfl, hl⟩ := fresh_lies hf
      exact ⟨q, k, rfl, hl, hB⟩
end Go.Proofs.YtndkohocgfmamaaGreat.Runs

/- A run's bytes: section. -/
namespace Go.Proofs.YtndkohocgfmamaaGreat.Runs
open Go.RowKit Go.Deep Go.Shelf Go.Lib Mem Crc Go.Proofs.YtndkohocgfmamaaGreat.Merge

attribute [local go_sem] Oper.semAt_some
theorem k82 : (((82 : UInt8).toNat : Nat) : Int) = 82 := by decide
set_option maxHeartbeats 400000 in
set_option maxRecDepth 100000 in
/-- A run of records, as bytes. -/
theorem section_any {a : Option Addr} {c : Nat} {vs : List SL} {l : List B} (w : World) (hL : Lies w a (vs.map sl)) (hlc : vs.length ≤ c) (hR : RecsIn w (vs.map sl) l) (hne : ∀ b ∈ l, b ≠ []) (hmax : l.flatten.length ≤ 1048576) (hml : l.length ≤ 1048576) :
    Calls Tryz.prog 46 #[.slice a vs.length c] w fun e w' => ∃ v, e = .returned (.tuple #[v, .int .i64 0]) ∧ OwnB w' w.heap.size v (Frame.frameL 82 l.flatten) ∧ Below w.heap.size w w' := by
  have hj := join_any w hL hlc hR hne hmax hml
  obtain ⟨X, hX⟩ : ∃ X, X = l.flatten := ⟨_, rfl⟩
  rw [← hX] at hj hmax ⊢
  have HJ := Lib.hid hj
  clear hL hR hj hX
  go_enter Tryz.func46, Tryz.ntmps46
  go_wp2_with fail
  refine HJ.out.mono ?_
  rintro e w1 ⟨ad, cp, rfl, h1, h2⟩
  have hp := Frame.put_nil 82 ad cp X w1 h1 hmax
  rw [k82] at hp
  have HP := Lib.hid hp
  have H2 := Lib.hid h2
  clear h1 h2 hp
  go_wp2_with fail
  refine HP.out.mono ?_
  rintro e w2 ⟨v, rfl, h3, h4⟩
  have H3 := Lib.hid (own_mono h3 H2.out.size)
  have H4 := Lib.hid (H2.out.trans (h4.mono H2.out.size))
  obtain ⟨va, vc, rfl, _, _, _, _⟩ := own_shape h3
  clear h3 h4
  go_wp2_with fail
  go_ret2
  exact ⟨_, rfl, H3.out, H4.out⟩
end Go.Proofs.YtndkohocgfmamaaGreat.Runs

/- slices.IsSortedFunc of records that rise. -/
namespace Go.Proofs.YtndkohocgfmamaaGreat.Runs
open Go.RowKit Go.Deep Go.Shelf Go.Lib Go.Sort Mem Crc Go.Proofs.YtndkohocgfmamaaGreat.Merge

theorem below_same {α : Type} [Inhabited α] (enc : α → Value) (w : World) (bk off m : Nat) (dk : Array α) (os : Array Obj) (h : Holds enc w bk off dk) : Below w.heap.size w (sortWorld enc w bk off m dk os) := by
  have e : putRow enc (Sort.ahead w m) bk off dk = Sort.ahead w m := putRow_self enc _ bk off dk h
  unfold sortWorld
  rw [e]
  exact ⟨rfl, rfl, rfl, by rw [Go.Sort.size_grow]; exact Nat.le_add_right _ _, fun k hk => heap_grow_old _ _ hk⟩
theorem holds_of {w : World} {base g cap : Nat} {vs : List SL} (hO : OwnL w base (.slice (some ⟨g, 0, none⟩) vs.length cap) vs) (ds : List (RecOut w g)) (hd1 : ds.map (·.1.1) = vs) : Holds encR w g 0 ds.toArray := fun j hj => by
  have hj' : j < ds.length := by simpa using hj
  have hds : ds.length = vs.length := by rw [← hd1]; simp
  rcases hO.2 with ⟨h, _⟩ | ⟨g', cap', cur, e, hb, hgb, hc1, hc2, hc3, hc4⟩
  · cases h
  · cases e
    have hc : cur.toList[j]? = some (encR ds[j]) := by
      have h1 : (cur.toList.take (vs.length * 1))[j]? = some (encR ds[j]) := by
        rw [hc4, ← hd1]
        simp [List.getElem?_eq_getElem hj', encR]
      rw [List.getElem?_take] at h1
      split at h1
      · exact h1
      · cases h1
    refine ⟨?_, ?_⟩
    · simp [World.cell?, hgb, getElem!_pos, hj', ← hc]
    · simp [World.frozen?, hgb]
set_option maxHeartbeats 1000000 in
theorem isSorted_any {w : World} {base : Nat} {v : Value} {vs : List SL} {l : List B} (hO : OwnL w base v vs) (hR : RecsIn w (vs.map sl) l) (hout : ∀ x ∈ vs, ∀ g, Mem.blk x.1 = some g → some g ≠ v.ownBlock) (hn : vs.length ≤ 1000000) (h0 : 0 < vs.length) (hs : Rises l) :
    Calls Tryz.prog 76 #[v, .func (.func 71) #[] #[]] w fun e w' => e = .returned (.bool true) ∧ Below w.heap.size w w' := by
  have eg : ∀ args w, (callFunc 71 args).run Tryz.prog w = .ok (.enter 71 args) w := enters_of Tryz.func71 (by kernel_rfl) rfl
  have hlen : vs.length = l.length := by simpa using hR.len
  rcases hO.2 with ⟨rfl, h⟩ | ⟨g, cap, cur, rfl, hb, hgb, hc1, hc2, hc3, hc4⟩
  · omega
  · have hg := (Array.getElem?_eq_some_iff.1 hgb).1
    obtain ⟨ds, hd1, hd2⟩ := recs_sub w g vs l hlen (fun i x b hx hb => hR.at_ i (sl x) b (by simp [hx]) hb) (fun x hx q hq e => hout x hx q hq (by rw [e]; rfl))
    have hds : ds.length = vs.length := by rw [← hd1]; simp
    have hH := holds_of hO ds hd1
    have hcon := Any.slices_IsSortedFunc (P := Tryz.prog) (ρ := Tryz.isSortedRec_ren) Tryz.isSortedRec (encR (w := w) (bk := g)) (fun _ => rfl) cfR 71 #[] g 0 cap ds.toArray w eg (cmpLays w g 0 _) hH hg (by simp; omega)
    change Calls Tryz.prog 76 _ _ _ at hcon
    have esz : ds.toArray.size = vs.length := by simp [hds]
    rw [esz] at hcon
    refine hcon.mono ?_
    rintro e w' ⟨rfl, m, os, rfl⟩
    refine ⟨?_, below_same _ _ _ _ _ _ _ hH⟩
    congr 2
    rw [Lib.downOK_iff]
    intro i hi
    have hi1 : i + 1 < ds.length := by omega
    have h1 := List.pairwise_iff_getElem.1 hs i (i + 1) (by omega) (by omega) (Nat.lt_succ_self i)
    rw [ltR, decide_eq_false_iff_not, List.not_lt, getElem!_pos ds.toArray (i + 1) (by simpa using hi1), getElem!_pos ds.toArray i (by simp; omega)]
    subst hd2
    simpa using h1
end Go.Proofs.YtndkohocgfmamaaGreat.Runs

/- slices.Clone at rows of rows. -/
namespace Go.Proofs.YtndkohocgfmamaaGreat.Runs
open Go.RowKit Go.Deep Go.Shelf Mem Crc Go.Proofs.YtndkohocgfmamaaGreat.Merge

attribute [local go_sem] Oper.semAt_some
theorem infoRow : (Tryz.prog.info? 73).map (fun i => (i.zero, i.size, i.bytes)) = some (some (.slice none 0 0), 1, 24) := by kernel_rfl
/-- Rows of one's own. -/
abbrev OwnR (w : World) (base : Nat) (v : Value) (xs : List SL) : Prop := w.ownsRow base 73 1 v xs.length (xs.map sl)
set_option maxHeartbeats 1000000 in
theorem cloneRows_any (ad : Addr) (cp : Nat) (vs : List SL) (w : World) (h : Lies w (some ad) (vs.map sl)) (hm : vs.length ≤ 1000000) :
    Calls Tryz.prog 79 #[.slice (some ad) vs.length cp] w fun e w' => ∃ v, e = .returned v ∧ OwnR w' w.heap.size v vs ∧ Below w.heap.size w w' := by
  obtain ⟨i0, hi0, hz0, hz1, hz2⟩ := info_parts infoRow
  have hne := fun w => Lib.run_eql_slice_nil (P := Tryz.prog) w 106 73 (some ad) vs.length cp 0 0 Tryz.underlying106
  have hal := (Below.refl w.heap.size w).alloc (Nat.le_refl _) (.cells #[] 73)
  have hown := own_empty w 73 1
  have HC := Lib.hid (lies_add (h.later hal))
  have H1 := Lib.hid (show ∀ u ∈ vs.map sl, u.oneCell' = true from fun u hu => by
    obtain ⟨x, _, rfl⟩ := List.mem_map.1 hu
    rfl)
  have HA := Lib.hid hal
  clear h hal
  go_enter Tryz.func79, Tryz.ntmps79
  go_wp2_with (first | (at_builtin; refine wpList_append_own _ rfl _ _ 106 rfl w.heap.size 73 i0 (.slice none 0 0) 1 24 Tryz.underlying106 hi0 hz0 hz1 hz2 rfl (by decide) _ _ _ rfl hown ad vs.length cp (vs.map sl) rfl ?c1 HC.out H1.out ?c3 ?c4 ?c5 ?_))
  case c1 => simp
  case c3 => unfold maxLen; omega
  case c4 => omega
  case c5 => simp
  intro v' w1 hown1 hgrow1 hv
  have hB1 : Below w.heap.size w w1 := HA.out.grown hgrow1 (by simp) (fun q hq => (hown.lt q hq).1)
  have HO := Lib.hid (show OwnR w1 w.heap.size v' vs by simpa using hown1)
  clear hown1 hgrow1 hv
  go_wp2_with fail
  go_ret
  exact ⟨v', rfl, HO.out, hB1⟩
end Go.Proofs.YtndkohocgfmamaaGreat.Runs

/- heads.Less. -/
namespace Go.Proofs.YtndkohocgfmamaaGreat.Runs
open Go.RowKit Go.Deep Go.Shelf Mem Crc Go.Proofs.YtndkohocgfmamaaGreat.Merge

attribute [local go_sem] Oper.semAt_some
theorem RecAt.drewN {w : World} {v : Value} {b : B} (h : RecAt w v b) (n : Nat) : RecAt (w.drewN n) v b := h
theorem cmp_neg (a b : B) : decide (cmpB a b < 0) = decide (a < b) := by
  rw [decide_eq_decide]
  exact cmpB_lt _ _
set_option maxHeartbeats 1000000 in
theorem less_any (w : World) (g off n c i k : Nat) (hi : i < n) (hk : k < n) (hn : n ≤ 1000000) (p q : Addr) (np cp nq cq : Nat) (hp0 : 0 < np) (hq0 : 0 < nq) (x y : SL) (a b : B)
    (h1 : w.cell? ⟨g, off + i, none⟩ = some (.slice (some p) np cp)) (h2 : w.cell? ⟨g, off + k, none⟩ = some (.slice (some q) nq cq)) (h3 : w.cell? p = some (sl x)) (h4 : w.cell? q = some (sl y)) (h5 : RecAt w (sl x) a) (h6 : RecAt w (sl y) b) :
    Calls Tryz.prog 185 #[.slice (some ⟨g, off, none⟩) n c, .int .i64 i, .int .i64 k] w fun e w' => e = .returned (.bool (decide (a < b))) ∧ ∃ m, w' = w.drewN m := by
  obtain ⟨xa, xn, xc⟩ := x
  obtain ⟨ya, yn, yc⟩ := y
  have HC := Lib.hid (fun m => compare_any _ _ a b (w.drewN m) (h5.drewN m) (h6.drewN m))
  have HE := Lib.hid (cmp_neg a b)
  unfold sl at h3 h4 HC
  dsimp only at h3 h4 HC
  have e3 : p.add 0 = p := by unfold Addr.add; split <;> simp_all
  have e4 : q.add 0 = q := by unfold Addr.add; split <;> simp_all
  clear h5 h6
  go_enter Tryz.func185, Tryz.ntmps185
  go_wp2_with fail
  go_quiet ((go_at_call 71; refine Calls.quiet_of_same (HC.out _)))
  go_wp2_with fail
  go_ret
  exact ⟨by rw [HE.out]; rfl, _, rfl⟩
end Go.Proofs.YtndkohocgfmamaaGreat.Runs

/- heads.Swap, Len. -/
namespace Go.Proofs.YtndkohocgfmamaaGreat.Runs
open Go.RowKit Go.Deep Go.Shelf Mem Crc Go.Proofs.YtndkohocgfmamaaGreat.Merge

attribute [local go_sem] Oper.semAt_some
set_option maxHeartbeats 400000 in
theorem len_any (w : World) (a : Option Addr) (n c : Nat) : Calls Tryz.prog 82 #[.slice a n c] w fun e w' => e = .returned (.int .i64 n) ∧ w' = w := by
  go_enter Tryz.func82, Tryz.ntmps82
  go_wp2
  go_ret
  exact ⟨rfl, rfl⟩
set_option maxHeartbeats 1000000 in
theorem swap_any (w : World) (g off n c i k : Nat) (hi : i < n) (hk : k < n) (hn : n ≤ 1000000) (x y : SL) (hne : i ≠ k)
    (h1 : w.cell? ⟨g, off + i, none⟩ = some (sl x)) (h2 : w.cell? ⟨g, off + k, none⟩ = some (sl y)) (f1 : w.frozen? ⟨g, off + i, none⟩ = false) (f2 : w.frozen? ⟨g, off + k, none⟩ = false) :
    Calls Tryz.prog 186 #[.slice (some ⟨g, off, none⟩) n c, .int .i64 i, .int .i64 k] w fun e w' => e = .returned (.tuple #[]) ∧ w' = ((w.setCell ⟨g, off + i, none⟩ (sl y)).setCell ⟨g, off + k, none⟩ (sl x)).drew := by
  obtain ⟨xa, xn, xc⟩ := x
  obtain ⟨ya, yn, yc⟩ := y
  unfold sl at h1 h2 ⊢
  dsimp only at h1 h2 ⊢
  go_enter Tryz.func186, Tryz.ntmps186
  go_wp2
  go_region
  go_wp2
  go_end0
  exact ⟨rfl, rfl⟩
set_option maxHeartbeats 1000000 in
theorem swap_self (w : World) (g off n c i : Nat) (hi : i < n) (hn : n ≤ 1000000) (x : SL)
    (h1 : w.cell? ⟨g, off + i, none⟩ = some (sl x)) (f1 : w.frozen? ⟨g, off + i, none⟩ = false) :
    Calls Tryz.prog 186 #[.slice (some ⟨g, off, none⟩) n c, .int .i64 i, .int .i64 i] w fun e w' => e = .returned (.tuple #[]) ∧ w' = ((w.setCell ⟨g, off + i, none⟩ (sl x)).setCell ⟨g, off + i, none⟩ (sl x)).drew := by
  obtain ⟨xa, xn, xc⟩ := x
  unfold sl at h1 ⊢
  dsimp only at h1 ⊢
  go_enter Tryz.func186, Tryz.ntmps186
  go_wp2
  go_region
  go_wp2
  go_end0
  exact ⟨rfl, rfl⟩
end Go.Proofs.YtndkohocgfmamaaGreat.Runs

/- heads.Pop. -/
namespace Go.Proofs.YtndkohocgfmamaaGreat.Runs
open Go.RowKit Go.Deep Go.Shelf Mem Crc Go.Proofs.YtndkohocgfmamaaGreat.Merge

attribute [local go_sem] Oper.semAt_some
set_option maxHeartbeats 1000000 in
theorem pop_any (w : World) (hb g off n c : Nat) (hn : n + 1 ≤ 1000000) (hc : n + 1 ≤ c) (x : SL) (h0 : w.cell? ⟨hb, 0, none⟩ = some (.slice (some ⟨g, off, none⟩) (n + 1) c)) (f0 : w.frozen? ⟨hb, 0, none⟩ = false) (h1 : w.cell? ⟨g, off + n, none⟩ = some (sl x)) :
    Calls Tryz.prog 187 #[.pointer (some ⟨hb, 0, none⟩)] w fun e w' => e = .returned (.iface 73 (sl x)) ∧ ∃ m, w' = (w.drewN m).setCell ⟨hb, 0, none⟩ (.slice (some ⟨g, off, none⟩) n c) := by
  obtain ⟨xa, xn, xc⟩ := x
  unfold sl at h1 ⊢
  dsimp only at h1 ⊢
  have hs : RowKit.wrap64 ((n : Int) + 1 - 1) = n := IntWalk.wrap64_in _ (by omega) |>.trans (by omega)
  go_enter Tryz.func187, Tryz.ntmps187
  go_wp2
  go_quiet (fail)
  go_wp2
  go_region
  go_wp2
  go_ret
  exact ⟨rfl, _, rfl⟩
end Go.Proofs.YtndkohocgfmamaaGreat.Runs
