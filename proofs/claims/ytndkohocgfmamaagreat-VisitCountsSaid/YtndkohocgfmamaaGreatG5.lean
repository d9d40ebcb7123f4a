/- VisitMap, Ctr, Lends, CtrOps, Add, AddFull, MergeV, All, VisitLive, VisitAwake, VisitPrintsL, in one text. -/
import Derived.Test.YtndkohocgfmamaaGreatG4
import Derived.DeepKeys4
import Derived.Maps.RangeWalk
import Derived.Defers
import Derived.Deep.RegionHeld3
import Derived.Outline
import Derived.StillTailTactics
import Derived.BigQuiet
import Derived.Deep.QuietTactic
import Derived.Sort.QuietIn
/- Layer 27: the counter's map: its keys, how many there are, all of them cleared. -/
namespace Go.Proofs.YtndkohocgfmamaaGreat.Visit
open Go.RowKit Go.Deep Mem
open Go.Maps (Keyed)
open Go.MapKept Go.ChangeMaps

set_option maxRecDepth 100000 in
theorem laidOut : laidOutB Tryz.prog = true := by kernel_rfl
set_option maxRecDepth 100000 in
theorem pair_row : (63 : TypeId) < Tryz.prog.types.size := of_decide_eq_true (by kernel_rfl)
set_option maxRecDepth 100000 in
theorem pair_wide : (match Tryz.prog.underlying 63 with | some (.array _ _) | some (.struct _) => true | _ => false) = true := by rw [Tryz.underlying63]
set_option maxRecDepth 100000 in
theorem pairKeyed : Keyed Tryz.prog 63 := Keyed.of_law (deep_law_laid laidOut (m := 2) (by omega) pair_row (by kernel_rfl) pair_wide)
/-- A pair's value. -/
def pairV (k : Nat) : Value := .agg #[.int .u32 ((k / 4294967296 : Nat) : Int), .int .u32 ((k % 4294967296 : Nat) : Int)]
/-- What a pair's key is. -/
def keyL (k : Nat) : Lit := .string (beN 8 k)
theorem bytesBE_four (n : Nat) (h : n < 4294967296) : bytesBE 4 n = beN 4 n := by
  unfold bytesBE
  simp only [bytesLE, List.reverse_cons, List.reverse_nil, List.nil_append, List.cons_append, List.append_nil, beN]
  have e : ∀ a b : Nat, a % 256 = b % 256 → UInt8.ofNat a = UInt8.ofNat b := fun a b => byte_eq
  congr 1
  · apply e; omega
  congr 1
  · apply e; omega
  congr 1
  · apply e; omega
  congr 1
  apply e; omega
theorem cells_pair : Tryz.prog.cellsOf 63 = 2 := by kernel_rfl
theorem cells_u32 : Tryz.prog.cellsOf 34 = 1 := by kernel_rfl
theorem pair_type : Tryz.prog.keyType 63 = true := by kernel_rfl
theorem pair_formed (x y : Value) : (Value.agg #[x, y]).formed Tryz.prog 63 = true := by simp [Value.formed, Tryz.underlying63, cells_pair]
theorem u32_lits (d : Nat) (a : Nat) (w1 : (Lit.int .u32 (a : Int)).wf = true) : Tryz.prog.keyLits (d + 1) 34 [.int .u32 (a : Int)] = some [.int .u32 (a : Int)] := by
  unfold Program.keyLits
  rw [Tryz.underlying34]
  simp [w1]
theorem pair_lits (d : Nat) (a b : Nat) (w1 : (Lit.int .u32 (a : Int)).wf = true) (w2 : (Lit.int .u32 (b : Int)).wf = true) : Tryz.prog.keyLits (d + 2) 63 [.int .u32 (a : Int), .int .u32 (b : Int)] = some [.int .u32 (a : Int), .int .u32 (b : Int)] := by
  unfold Program.keyLits
  rw [Tryz.underlying63]
  simp [cells_pair, cells_u32, u32_lits, w1, w2]
theorem pos_of {n : Nat} (k : Nat) (h : k < n) : ∃ d, n = d + 1 := ⟨n - 1, by omega⟩
set_option maxRecDepth 100000 in
theorem pair_key (k : Nat) (hk : k ≤ top64) : keyOf Tryz.prog 63 (pairV k) = some (keyL k) := by
  have h1 : k / 4294967296 < 4294967296 := by unfold top64 at hk; omega
  have h2 : k % 4294967296 < 4294967296 := Nat.mod_lt _ (by decide)
  obtain ⟨a, ha⟩ : ∃ a, a = k / 4294967296 := ⟨_, rfl⟩
  obtain ⟨b, hb⟩ : ∃ b, b = k % 4294967296 := ⟨_, rfl⟩
  have hab : beN 8 k = beN 4 a ++ beN 4 b := by
    rw [beN_two a b (by omega), ha, hb]
    congr 1
    omega
  unfold pairV keyL
  rw [hab, ← ha, ← hb]
  rw [← ha] at h1
  rw [← hb] at h2
  have w1 : (Lit.int .u32 (a : Int)).wf = true := WalkArith.wf_u32 (by omega)
  have w2 : (Lit.int .u32 (b : Int)).wf = true := WalkArith.wf_u32 (by omega)
  obtain ⟨d, hd⟩ : ∃ d, Tryz.prog.types.size = d + 1 := pos_of _ pair_row
  unfold keyOf
  rw [Tryz.underlying63]
  dsimp only
  rw [pair_type, pair_formed, hd]
  simp only [Bool.and_self, if_true]
  show Option.map (fun ls => Lit.string (keyBytes ls)) (Tryz.prog.keyLits (d + 2) 63 [.int .u32 (a : Int), .int .u32 (b : Int)]) = _
  rw [pair_lits d a b w1 w2]
  have e1 : ((a : Int) % 4294967296).toNat = a := by omega
  have e2 : ((b : Int) % 4294967296).toNat = b := by omega
  simp [keyBytes, Lit.keyBytes, IntKind.bits, e1, e2, bytesBE_four a h1, bytesBE_four b h2]
/-- The map holds just the counts of H. -/
structure HeldIs (f : Lit → Option Value) (H : List KC) : Prop where
  at_ : ∀ k, k ≤ top64 → f (keyL k) = if tot H k = 0 then none else some (.int .u64 ((tot H k : Nat) : Int))
  keys : ∀ x, f x ≠ none → ∃ k, k ≤ top64 ∧ x = keyL k
theorem keyL_inj {a b : Nat} (ha : a ≤ top64) (hb : b ≤ top64) (h : keyL a = keyL b) : a = b := by
  unfold keyL at h
  injection h with h
  exact beN_inj (p64 ha) (p64 hb) h
theorem heldIs_nil : HeldIs (fun _ => none) [] := ⟨fun k _ => by simp [tot_nil], fun x h => absurd rfl h⟩
theorem HeldIs.put {f : Lit → Option Value} {H : List KC} (h : HeldIs f H) {p : KC} (hp : okP p) : HeldIs (setK f (keyL p.1) (some (.int .u64 ((sat (tot H p.1 + p.2) : Nat) : Int)))) (putH H p) := by
  refine ⟨fun k hk => ?_, fun x hx => ?_⟩
  · rw [tot_putH]
    by_cases e : k = p.1
    · subst e
      rw [setK_same, if_pos rfl, if_neg]
      have := hp.2.1
      unfold sat
      split
      · omega
      · decide
    · rw [setK_other _ (fun h => e (keyL_inj hk hp.1 h)), if_neg e]
      exact h.at_ k hk
  · by_cases e : x = keyL p.1
    · exact ⟨p.1, hp.1, e⟩
    · rw [setK_other _ e] at hx
      exact h.keys x hx
/-- The map at b holds just the counts of H. -/
def HeldAt (w : World) (b : Nat) (H : List KC) : Prop := ∃ f, MapIs w 63 b f ∧ HeldIs f H
theorem HeldAt.keep {w w' : World} {b : Nat} {H : List KC} (h : HeldAt w b H) (hb : w'.heap[b]? = w.heap[b]?) : HeldAt w' b H := by
  obtain ⟨f, h1, h2⟩ := h
  exact ⟨f, h1.keep hb, h2⟩
theorem HeldAt.lt {w : World} {b : Nat} {H : List KC} (h : HeldAt w b H) : b < w.heap.size := by
  obtain ⟨f, h1, _⟩ := h
  exact h1.lt
theorem HeldAt.made (w : World) : HeldAt (w.alloc (.map #[] 0)) w.heap.size [] := ⟨_, MapIs.made w _, heldIs_nil⟩
theorem zero64 (w : World) : (zeroValue 35).run Tryz.prog w = .ok (.int .u64 0) w := by kernel_rfl
theorem getD_held (n : Nat) : (if n = 0 then none else some (Value.int .u64 ((n : Nat) : Int))).getD (.int .u64 0) = .int .u64 (n : Int) := by
  split
  · rename_i h; rw [h]; rfl
  · rfl
/-- A pair's count, and whether it is there. -/
theorem HeldAt.look_ok {w : World} {b : Nat} {H : List KC} (h : HeldAt w b H) (k : Nat) (hk : k ≤ top64) : (Instr.lookup 59 (.map (some b)) (pairV k) true).run Tryz.prog w = .ok (.tuple #[.int .u64 ((tot H k : Nat) : Int), .bool (decide (tot H k ≠ 0))]) w := by
  obtain ⟨f, h1, h2⟩ := h
  rw [h1.look_ok pairKeyed Tryz.underlying59 zero64 (pair_key k hk), h2.at_ k hk, getD_held]
  by_cases e : tot H k = 0 <;> simp [e]
theorem HeldAt.look {w : World} {b : Nat} {H : List KC} (h : HeldAt w b H) (k : Nat) (hk : k ≤ top64) : (Instr.lookup 59 (.map (some b)) (pairV k) false).run Tryz.prog w = .ok (.int .u64 ((tot H k : Nat) : Int)) w := by
  obtain ⟨f, h1, h2⟩ := h
  rw [h1.look pairKeyed Tryz.underlying59 zero64 (pair_key k hk), h2.at_ k hk, getD_held]
theorem HeldIs.support {f : Lit → Option Value} {H : List KC} (h : HeldIs f H) : ∀ x, f x ≠ none → x ∈ H.map (fun p => keyL p.1) := fun x hx => by
  obtain ⟨k, hk, rfl⟩ := h.keys x hx
  rw [h.at_ k hk] at hx
  have h0 : tot H k ≠ 0 := fun e => hx (by rw [if_pos e])
  by_cases hm : ∃ p ∈ H, p.1 = k
  · obtain ⟨p, hp, rfl⟩ := hm
    exact List.mem_map.2 ⟨p, hp, rfl⟩
  · exact absurd (tot_none (fun p hp e => hm ⟨p, hp, e⟩)) h0
/-- How many there are. -/
theorem HeldAt.len {w : World} {b : Nat} {H : List KC} (h : HeldAt w b H) (hH : Held H) (ty : TypeId) : (Builtin.len_ #[59] ty #[.map (some b)]).run Tryz.prog w = .ok (.int .i64 (H.length : Int)) w := by
  obtain ⟨f, ⟨D, n, h1, hd⟩, h2⟩ := h
  rw [h1.len Tryz.underlying59 ty]
  obtain ⟨es, rfl, hp, hk⟩ := h1.entries pairKeyed
  have e1 : (es.map Prod.fst).Nodup := List.pairwise_map.2 hp
  have e2 : (H.map (fun p => keyL p.1)).Nodup := List.pairwise_map.2 (hH.one.imp_of_mem (fun {a b} ha hb hne e => hne (keyL_inj (hH.ok a ha).1 (hH.ok b hb).1 e)))
  have hiff : ∀ x, x ∈ es.map Prod.fst ↔ x ∈ H.map (fun p => keyL p.1) := fun x => by
    constructor
    · intro hx
      obtain ⟨p, hpm, rfl⟩ := List.mem_map.1 hx
      refine h2.support _ (fun hn => ?_)
      have h3 := (hd p.1).1
      rw [hn] at h3
      have h4 : Maps.has (.map es) p.1 = true := List.any_eq_true.2 ⟨p, hpm, WideAt.sameKey_self (hk p hpm)⟩
      rw [h4] at h3
      cases h3
    · intro hx
      obtain ⟨p, hpm, rfl⟩ := List.mem_map.1 hx
      have h3 := (hd (keyL p.1)).1
      rw [h2.at_ p.1 (hH.ok p hpm).1, hH.tot hpm, if_neg (by have := (hH.ok p hpm).2.1; omega)] at h3
      obtain ⟨q, hq, hqk⟩ := List.any_eq_true.1 h3
      exact List.mem_map.2 ⟨q, hq, WideAt.sameKey_eq hqk⟩
  have hperm : (es.map Prod.fst).length = (H.map (fun p => keyL p.1)).length := by
    have a1 := nodup_len (es.map Prod.fst) _ e1 (fun x hx => (hiff x).1 hx)
    have a2 := nodup_len (H.map (fun p : KC => keyL p.1)) _ e2 (fun x hx => (hiff x).2 hx)
    omega
  rw [List.length_map, List.length_map] at hperm
  simp [Maps.size, hperm]
/-- One count anew. -/
theorem HeldAt.update {w : World} {b : Nat} {H : List KC} (h : HeldAt w b H) (hH : Held H) (hn : H.length < 1000000) (p : KC) (hp : okP p) : ∃ w', (Instr.mapUpdate 59 (.map (some b)) (pairV p.1) (.int .u64 ((sat (tot H p.1 + p.2) : Nat) : Int))).run Tryz.prog w = .ok () w' ∧ HeldAt w' b (putH H p) ∧ w.grownBy w' (some b) ∧ w'.heap.size = w.heap.size := by
  obtain ⟨f, h1, h2⟩ := h
  obtain ⟨w', hr, h3, h4, h5⟩ := h1.update pairKeyed Tryz.underlying59 _ h2.support (by rw [List.length_map]; unfold maxLen; omega) (pair_key p.1 hp.1) (.int .u64 ((sat (tot H p.1 + p.2) : Nat) : Int))
  exact ⟨w', hr, ⟨_, h3, h2.put hp⟩, h4, h5⟩
/-- All of them cleared. -/
theorem HeldAt.clear {w : World} {b : Nat} {H : List KC} (h : HeldAt w b H) (ty : TypeId) : ∃ w', (Builtin.clear_ #[59] ty #[.map (some b)]).run Tryz.prog w = .ok (.tuple #[]) w' ∧ HeldAt w' b [] ∧ w.grownBy w' (some b) ∧ w'.heap.size = w.heap.size := by
  obtain ⟨f, ⟨D, n, ⟨es, clock, hb, hF, _⟩, hd⟩, h2⟩ := h
  refine ⟨setBlock w b (.map #[] clock), by simp [Builtin.clear_, run_underlying Tryz.underlying59, MapKept.run_getObj_map hb, MapKept.run_setObj_map _ hb, Result.andThen, setBlock], ?_, ?_, ?_⟩
  · refine ⟨fun _ => none, ⟨.map [], 0, ⟨#[], clock, heap_setBlock_same hb _, ⟨by simp, stamped_empty clock, by simp⟩, Nat.le_refl _, rfl⟩, desc_empty⟩, heldIs_nil⟩
  · exact ⟨rfl, rfl, rfl, by simp [setBlock], fun i _ hi => heap_setBlock_other hb _ (fun e => hi (by rw [e]))⟩
  · simp [setBlock]
end Go.Proofs.YtndkohocgfmamaaGreat.Visit

/- Layer 27: a counter's representation; a range over its map. -/
namespace Go.Proofs.YtndkohocgfmamaaGreat.Visit
open Go.RowKit Go.Deep Mem Crc
open Go.Maps (Keyed)
open Go.Proofs.YtndkohocgfmamaaGreat.Runs (LiveIn fiV Mid in_putr)
open Go.Proofs.YtndkohocgfmamaaGreat.Store (Sto)

/-- A counter at c, its sorter at x, its map at hb; the sorter's blocks are of D. -/
structure Ctr {s : Nat} (S : Sto s) (rm : Nat) (D : Nat → Prop) (w : World) (c x hb : Nat) (off : Bool) (ls : List (List KC)) (H : List KC) (n : Nat) : Prop where
  blk : Blk w c 61 #[.int .i64 (rm : Int), .map (some hb), .pointer (some ⟨x, 0, none⟩)]
  srt : LiveIn S (fiV s rm) D w x off (ls.map (fun l => l.map recB)) [] n
  map : HeldAt w hb H
  held : Held H
  room : H.length ≤ rm
  cD : ¬ D c
  hD : ¬ D hb
  hc : hb ≠ c
  rmle : 1 ≤ rm ∧ rm ≤ 4096
  lt : ∀ g, D g → g < w.heap.size
theorem Ctr.keep {s : Nat} {S : Sto s} {rm : Nat} {D P : Nat → Prop} {w w' : World} {c x hb : Nat} {off : Bool} {ls : List (List KC)} {H : List KC} {n : Nat} (h : Ctr S rm D w c x hb off ls H n) (hu : Upon P w w') (hP : ∀ g, D g ∨ g = c ∨ g = hb → ¬ P g) : Ctr S rm D w' c x hb off ls H n :=
  ⟨h.blk.upon hu (hP c (.inr (.inl rfl))), h.srt.keep hu (fun g hg => hP g (.inl hg)), h.map.keep (hu.block hb h.map.lt (hP hb (.inr (.inr rfl)))), h.held, h.room, h.cD, h.hD, h.hc, h.rmle, fun g hg => Nat.lt_of_lt_of_le (h.lt g hg) hu.size⟩
theorem Ctr.later {s : Nat} {S : Sto s} {rm : Nat} {D : Nat → Prop} {w w' : World} {c x hb : Nat} {off : Bool} {ls : List (List KC)} {H : List KC} {n : Nat} (h : Ctr S rm D w c x hb off ls H n) (hB : Below w.heap.size w w') : Ctr S rm D w' c x hb off ls H n := h.keep (P := fun _ => False) (Upon.of_below hB) (fun _ _ h => h)
/-- The map's range stays while other blocks are written. -/
theorem ranges_keep {k : TypeId} {R : Value → Option (DataW Value × List MemPlace)} {w w' : World} {b r n : Nat} {D : DataW Value} {left : Lit → Bool} {cnt : Nat} (h : w.ranges Tryz.prog k R b r n D left cnt) (hb : w'.heap[b]? = w.heap[b]?) (hr : w'.heap[r]? = w.heap[r]?) : w'.ranges Tryz.prog k R b r n D left cnt := by
  obtain ⟨es, clock, since, seen, c0, h1, h2, h3, h4, h5, h6⟩ := h
  exact ⟨es, clock, since, seen, c0, hb.trans h1, h2, h3, h4, hr.trans h5, h6⟩
/-- What has been met of H: what is no longer to come. -/
structure Met (H : List KC) (left : Lit → Bool) (pre : List KC) : Prop where
  one : pre.Nodup
  mem : ∀ p, p ∈ pre ↔ p ∈ H ∧ left (keyL p.1) = false
theorem met_start {H : List KC} (hH : Held H) {f : Lit → Option Value} {D : DataW Value} (hd : Desc D f) (hf : HeldIs f H) : Met H (Maps.has D) [] := by
  refine ⟨List.nodup_nil, fun p => ?_⟩
  constructor
  · intro h; cases h
  · rintro ⟨hp, hl⟩
    rw [(hd _).1, hf.at_ p.1 (hH.ok p hp).1, hH.tot hp, if_neg (by have := (hH.ok p hp).2.1; omega)] at hl
    cases hl
theorem met_step {H : List KC} (hH : Held H) {left : Lit → Bool} {pre : List KC} (h : Met H left pre) {p : KC} (hp : p ∈ H) (hl : left (keyL p.1) = true) : Met H (fun z => left z && !z.sameKey (keyL p.1)) (pre ++ [p]) := by
  have hnp : p ∉ pre := fun hm => by
    have := ((h.mem p).1 hm).2
    rw [hl] at this
    cases this
  refine ⟨List.nodup_append.2 ⟨h.one, by simp, fun a ha b hb e => ?_⟩, fun q => ?_⟩
  · have eb : b = p := by simpa using hb
    rw [e, eb] at ha
    exact hnp ha
  · rw [List.mem_append, List.mem_singleton, h.mem q]
    constructor
    · rintro (⟨h1, h2⟩ | h1)
      · exact ⟨h1, by rw [h2]; rfl⟩
      · rw [h1]
        have : (keyL p.1).sameKey (keyL p.1) = true := WideAt.sameKey_self trivial
        exact ⟨hp, by rw [this]; simp⟩
    · rintro ⟨h1, h2⟩
      by_cases e : q = p
      · exact .inr e
      · have hk : q.1 ≠ p.1 := fun ek => e (by
          have a1 := hH.tot h1
          have a2 := hH.tot hp
          rw [ek] at a1
          exact Prod.ext ek (a1.symm.trans a2))
        have hs : (keyL q.1).sameKey (keyL p.1) = false := Maps.sameKey_ne (fun e => hk (keyL_inj (hH.ok q h1).1 (hH.ok p hp).1 e))
        rw [hs] at h2
        simp at h2
        exact .inl ⟨h1, h2⟩
theorem met_end {H : List KC} (hH : Held H) {left : Lit → Bool} {pre : List KC} (h : Met H left pre) (hl : ∀ z, left z = false) : pre.Perm H := nodup_perm h.one hH.nodup (fun p => by rw [h.mem p, hl]; simp)
theorem nodup_lenA {α : Type} : ∀ (l L : List α), l.Nodup → (∀ x ∈ l, x ∈ L) → l.length ≤ L.length
  | [], _, _, _ => Nat.zero_le _
  | a :: r, L, hp, hs => by
    obtain ⟨h1, h2⟩ := List.nodup_cons.1 hp
    obtain ⟨s, t, rfl⟩ := List.append_of_mem (hs a (by simp))
    have := nodup_lenA r (s ++ t) h2 (fun x hx => by
      have h3 := hs x (by simp [hx])
      simp only [List.mem_append, List.mem_cons] at h3 ⊢
      rcases h3 with h3 | h3 | h3
      · exact .inl h3
      · rw [h3] at hx; exact absurd hx h1
      · exact .inr h3)
    simp only [List.length_append, List.length_cons] at this ⊢
    omega
theorem Met.length {H : List KC} (hH : Held H) {left : Lit → Bool} {pre : List KC} (h : Met H left pre) {p : KC} (hp : p ∈ H) (hl : left (keyL p.1) = true) : pre.length < H.length := by
  have h2 := met_step hH h hp hl
  have : (pre ++ [p]).length ≤ H.length := by
    exact nodup_lenA _ _ h2.one (fun q hq => ((h2.mem q).1 hq).1)
  simp at this
  omega
/-- What a step of the range meets. -/
theorem met_next {H : List KC} (hH : Held H) {f : Lit → Option Value} {D : DataW Value} (hd : Desc D f) (hf : HeldIs f H) {key v : Value} {kl : Lit} {y : DataW Value × List MemPlace} (hkey : keyOf Tryz.prog 63 key = some kl) (hv : anyR v = some y) (hat : ∀ zd, D.atKey kl zd = y.1) : ∃ p, p ∈ H ∧ kl = keyL p.1 ∧ key = pairV p.1 ∧ v = .int .u64 (p.2 : Int) := by
  have h1 := Maps.has_true_of_atKey hat
  rw [(hd kl).1] at h1
  obtain ⟨u, hu⟩ := Option.isSome_iff_exists.1 h1
  obtain ⟨k, hk, rfl⟩ := hf.keys kl (by rw [hu]; exact fun h => by cases h)
  rw [hf.at_ k hk] at hu
  by_cases h0 : tot H k = 0
  · rw [if_pos h0] at hu; cases hu
  · rw [if_neg h0] at hu
    refine ⟨(k, tot H k), hH.mem h0, rfl, pairKeyed.inj hkey (pair_key k hk), ?_⟩
    have e := (hat (.held u)).symm.trans ((hd _).2 u (by rw [hf.at_ k hk, if_neg h0]; exact hu) (.held u))
    have e3 : y = (.held v, []) := (Option.some.inj hv).symm
    rw [e3] at e
    have e1 := DataW.held.inj e
    rw [e1]
    exact (Option.some.inj hu).symm
/-- Forget, as a deferred call. -/
theorem forget_d (x : Nat) (u : FrameMode) (w : World) (v : Value) (hc : w.cell? ⟨x, 6, none⟩ = some v) (hz : w.frozen? ⟨x, 6, none⟩ = false) :
    CallsD Tryz.prog 44 #[.pointer (some ⟨x, 0, none⟩)] u w fun e u' w' => u' = u ∧ (e = .returned (.tuple #[]) ∧ w' = w.setCell ⟨x, 6, none⟩ (.slice none 0 0)) := by
  go_enter_d Tryz.func44, Tryz.ntmps44
  go_wp2
  go_end0
  exact ⟨rfl, rfl⟩
end Go.Proofs.YtndkohocgfmamaaGreat.Visit

/- Layer 27: lends: the memory's counts go to the sorter while something is done. -/
namespace Go.Proofs.YtndkohocgfmamaaGreat.Visit
open Go.RowKit Go.Deep Mem Crc
open Go.Maps (Keyed)
open Go.Proofs.YtndkohocgfmamaaGreat.Runs (LiveIn fiV Mid in_putr)
open Go.Proofs.YtndkohocgfmamaaGreat.Store (Sto)

attribute [local go_sem] Oper.semAt_some
/-- While the counts are lent: the sorter has those that were met. -/
structure Lent {s : Nat} (S : Sto s) (rm : Nat) (D : Nat → Prop) (w W : World) (r x : Nat) (off : Bool) (ls : List (List KC)) (pre : List KC) (n : Nat) (D1 : Nat → Prop) : Prop where
  live : LiveIn S (fiV s rm) D1 W x off (ls.map (fun l => l.map recB)) (pre.map recB) n
  dom : ∀ g, D1 g → D g ∨ r < g
  lt : ∀ g, D1 g → g < W.heap.size
  upon : Upon D w W
set_option maxHeartbeats 4000000 in
set_option maxRecDepth 100000 in
theorem lends_any {s : Nat} {S : Sto s} {rm : Nat} {D : Nat → Prop} {w : World} {c x hb : Nat} {off : Bool} {ls : List (List KC)} {H : List KC} {n : Nat} (h : Ctr S rm D w c x hb off ls H n) (hDw : ∀ g, D g → g < w.heap.size)
    (fk : Nat) (fst cap : Array Value) (hen : ∀ args w, (callFunc fk args).run Tryz.prog w = .ok (.enter fk args) w) (Fin : Int → World → Prop)
    (hdo : ∀ (pre : List KC) (D1 : Nat → Prop) (W : World), pre.Perm H → Lent S rm D w W w.heap.size x off ls pre n D1 → Calls Tryz.prog fk (fst ++ cap) W fun e W' => ∃ rr v, e = .returned (.int .i64 rr) ∧ W'.cell? ⟨x, 6, none⟩ = some v ∧ W'.frozen? ⟨x, 6, none⟩ = false ∧ Fin rr (W'.setCell ⟨x, 6, none⟩ (.slice none 0 0))) :
    Calls Tryz.prog 24 #[.pointer (some ⟨c, 0, none⟩), .func (.func fk) fst cap] w fun e w' => ∃ rr, e = .returned (.int .i64 rr) ∧ Fin rr w' := by
  have c1 := h.blk.cell 1
  have c2 := h.blk.cell 2
  simp at c1 c2
  obtain ⟨f, ⟨Dm, nm, hown, hd⟩, hf⟩ := h.map
  obtain ⟨W2, hrun, hrg, hgr, hsz⟩ := hown.range pairKeyed Tryz.underlying59
  have hW2 : Below w.heap.size w W2 := ⟨hgr.os, hgr.tape, hgr.output, hgr.size, fun k hk => hgr.block k hk (by simp)⟩
  have HDO := Lib.hid hdo
  have HH := Lib.hid h
  have HR := Lib.hid hrg
  have HW2 := Lib.hid hW2
  have HD := Lib.hid hd
  have HF := Lib.hid hf
  have HDW := Lib.hid hDw
  clear h hdo hrg hgr hW2 hd hf hown hDw
  go_enter_defers Tryz.func24, Tryz.ntmps24
  go_wp2_with fail
  obtain ⟨r, hr⟩ : ∃ r, r = w.heap.size := ⟨_, rfl⟩
  have hL0 : Lent S rm D w W2 r x off ls [] n D := ⟨by have := HH.out.srt.later HW2.out; simpa using this, fun g hg => .inl hg, fun g hg => Nat.lt_of_lt_of_le (HDW.out g hg) HW2.out.size, Upon.of_below HW2.out⟩
  have HL0 := Lib.hid hL0
  have HM0 := Lib.hid (met_start HH.out.held HD.out HF.out)
  rw [← hr] at HR HDO ⊢
  have HRW := Lib.hid hr
  clear hrun hL0 hr c1 c2
  go_loopw [] (fun wq => ∃ left cnt pre D1, Hid (wq.ranges Tryz.prog 63 anyR hb r nm Dm left cnt) ∧ Hid (Met H left pre) ∧ Hid (Lent S rm D w wq r x off ls pre n D1)) (fun wq => wq.rangeLeft hb r)
  case atStart => exact ⟨_, _, _, _, HR, HM0, HL0⟩
  case round =>
    obtain ⟨left, cnt, pre, D1, hR, hM, hL⟩ := hrel
    rcases hR.out.next pairKeyed 0 with ⟨h0, hl, hrun⟩ | ⟨key, v, kl, y, w5, cnt', hkey, hlk, hv, hat, hrun, hR5, hlt, hg5, hs5, hent⟩
    · have HDO2 := Lib.hid (HDO.out pre D1 wr (met_end HH.out.held hM.out hl) hL.out)
      clear h0 hl
      go_wp2_with fail
      refine HDO2.out.mono ?_
      rintro e w6 ⟨rr, vx, rfl, hcx, hfx, hfin⟩
      have HFIN := Lib.hid hfin
      have HCX := Lib.hid hcx
      have HFX := Lib.hid hfx
      clear hfin hcx hfx
      go_wp2_with fail
      refine leaves_cons (f := 44) (args := #[.pointer (some ⟨x, 0, none⟩)]) (by simp) (by simp [go_sem]) ?_
      refine (forget_d x .returning w6 vx HCX.out HFX.out).mono ?_
      rintro e u' w'' ⟨rfl, rfl, rfl⟩
      exact ⟨_, results_tmp rfl _ _ _, rr, rfl, HFIN.out⟩
    · obtain ⟨p, hp, rfl, rfl, rfl⟩ := met_next HH.out.held HD.out HF.out hkey hv hat
      have hok := HH.out.held.ok p hp
      have hrw : r < wr.heap.size := hR.out.lt
      have hL5 : Lent S rm D w w5 r x off ls pre n D1 := ⟨hL.out.live.keep (P := fun g => g = r) (Upon.of_grown hg5 (fun g hg => .inl (by injection hg with hg; exact hg.symm))) (fun g hg e => by
          rcases hL.out.dom g hg with h | h
          · have := HDW.out g h
            have := HRW.out
            omega
          · omega), hL.out.dom, fun g hg => Nat.lt_of_lt_of_le (hL.out.lt g hg) hg5.size, hL.out.upon.trans (Upon.of_grown (P := fun g => g = r) hg5 (fun g hg => .inl (by injection hg with hg; exact hg.symm))) (fun g hg => .inr (by rw [hg, HRW.out]; exact Nat.le_refl _))⟩
      obtain ⟨sn, hsn⟩ : ∃ sn, sn = p.1 / 4294967296 := ⟨_, rfl⟩
      obtain ⟨vn, hvn⟩ : ∃ vn, vn = p.1 % 4294967296 := ⟨_, rfl⟩
      have hs32 : sn < 4294967296 := by rw [hsn]; have := hok.1; unfold top64 at this; omega
      have hv32 : vn < 4294967296 := by rw [hvn]; exact Nat.mod_lt _ (by decide)
      have hkk : p.1 = sn * 4294967296 + vn := by omega
      obtain ⟨cn, hcn⟩ : ∃ cn, cn = p.2 := ⟨_, rfl⟩
      have hc64 : cn < 18446744073709551616 := by rw [hcn]; have := hok.2.2; unfold top64 at this; omega
      unfold pairV at hrun hent
      rw [← hsn, ← hvn, ← hcn] at hrun hent
      have hrec : ∀ w, Calls Tryz.prog 32 #[.agg #[.int .u32 (sn : Int), .int .u32 (vn : Int)], .int .u64 (cn : Int)] w fun e w' => ∃ a cp, e = .returned (.slice a 16 cp) ∧ Lies w' a ((recB p).map bv) ∧ Below w.heap.size w w' := fun w => (record_any sn vn cn p.1 hkk hs32 hv32 hc64 w).mono (by
        rintro e w' ⟨val, rfl, hO, hB⟩
        have hpe : (p.1, cn) = p := by rw [hcn]
        rw [hpe] at hO
        obtain ⟨a, cp, rfl, _, hL, _, _⟩ := own_shape hO
        rw [recB_length]
        exact ⟨a, cp, rfl, hL, hB⟩)
      have HREC := Lib.hid hrec
      have HR5 := Lib.hid hR5
      have HL5 := Lib.hid hL5
      have hml := hM.out.length HH.out.held hp hlk
      have hrm : (pre.map recB).length < rm := by rw [List.length_map]; have := HH.out.room; omega
      have HM5 := Lib.hid (met_step HH.out.held hM.out hp hlk)
      obtain ⟨pb, hpb⟩ : ∃ pb, pb = w5.heap.size := ⟨_, rfl⟩
      obtain ⟨V0, hV0⟩ : ∃ V0, V0 = w5.alloc (.cells #[.int .u32 (sn : Int), .int .u32 (vn : Int)] 63) := ⟨_, rfl⟩
      have hB0 : Below w5.heap.size w5 V0 := by rw [hV0]; exact (Below.refl _ w5).alloc (Nat.le_refl _) _
      have hbp : Blk V0 pb 63 #[.int .u32 (sn : Int), .int .u32 (vn : Int)] := by rw [hV0, hpb]; exact Blk.new w5 _ _
      have hbc : Blk V0 c 61 #[.int .i64 (rm : Int), .map (some hb), .pointer (some ⟨x, 0, none⟩)] := ((HH.out.blk.upon hL5.upon HH.out.cD).below hB0 (by
        have := HH.out.blk.lt
        have := hL5.upon.size
        omega))
      have HB0 := Lib.hid hB0
      have HBP := Lib.hid hbp
      have HBC := Lib.hid hbc
      have hz5 : pb < V0.heap.size := hbp.lt
      have hPUT : ∀ (W : World), Below V0.heap.size V0 W → ∀ (a : Option Addr) (cp : Nat), Lies W a ((recB p).map bv) → Calls Tryz.prog 45 #[.pointer (some ⟨x, 0, none⟩), .slice a 16 cp] W fun e w' => e = .returned (.int .i64 0) ∧ LiveIn S (fiV s rm) (Mid D1 W w') w' x off (ls.map (fun l => l.map recB)) ((pre ++ [p]).map recB) n ∧ Upon D1 W w' := fun W hBW a cp hLa => by
        have := in_putr ((hL5.live.later hB0).later hBW) hrm (b := recB p) (by rw [recB_length]; rfl) a cp hLa
        rw [recB_length] at this
        rw [List.map_append]
        exact this
      have HPUT := Lib.hid hPUT
      have HPB := Lib.hid hpb
      have HRW2 := Lib.hid hrw
      have HMLL := Lib.hid hR.out.left_eq
      have HLT := Lib.hid hlt
      have hk0 : V0.drew.cell? ⟨c, 2, none⟩ = some (.pointer (some ⟨x, 0, none⟩)) ∧ V0.drew.cell? ⟨pb, 0, none⟩ = some (.int .u32 (sn : Int)) ∧ V0.drew.cell? ⟨pb, 1, none⟩ = some (.int .u32 (vn : Int)) := ⟨hbc.cell 2, hbp.cell 0, hbp.cell 1⟩
      have hnc : ¬ D1 c := fun hg => by
        rcases hL5.dom c hg with h | h
        · exact HH.out.cD h
        · have := HH.out.blk.lt
          have := HRW.out
          omega
      have hnh : ¬ D1 hb := fun hg => by
        rcases hL5.dom hb hg with h | h
        · exact HH.out.hD h
        · have := HH.out.map.lt
          have := HRW.out
          omega
      have hnr : ¬ D1 r := fun hg => by
        rcases hL5.dom r hg with h | h
        · have := HDW.out r h
          have := HRW.out
          omega
        · omega
      have hnp : ¬ D1 pb := fun hg => by
        have := hL5.lt pb hg
        omega
      have hcl : c < V0.heap.size := hbc.lt
      have hhb5 : hb < w5.heap.size := by
        have := HH.out.map.lt
        have := hL5.upon.size
        omega
      have hr5l : r < w5.heap.size := by have := hg5.size; omega
      have HNC := Lib.hid (And.intro hnc (And.intro hnh (And.intro hnr hnp)))
      have HSZ := Lib.hid (And.intro hcl (And.intro hz5 (And.intro hhb5 hr5l)))
      clear hnc hnh hnr hnp hcl hhb5 hr5l hz5
      have HL5 := Lib.hid hL5
      clear hkey hv hat hok hL5 hkk hsn hvn hcn hrec hR5 hml hrm hB0 hbp hbc hPUT hrw hR hL hM hp hlk hlt hg5 hs5
      go_wp2_with fail
      rw [← hV0, ← hpb]
      clear hV0 hpb
      go_region_held3 (fun w' => w'.cell? ⟨c, 2, none⟩ = some (.pointer (some ⟨x, 0, none⟩)) ∧ w'.cell? ⟨pb, 0, none⟩ = some (.int .u32 (sn : Int)) ∧ w'.cell? ⟨pb, 1, none⟩ = some (.int .u32 (vn : Int))) (first | exact hk0 | exact hk6 | exact hk7) ((first | (go_at_call 32; refine (HREC.out _).mono ?_; rintro e w6 ⟨a6, cp6, rfl, hL6, hB6⟩; have hk6 := And.intro ((hB6.cell (p := ⟨c, 2, none⟩) HSZ.out.1).trans hk0.1) (And.intro ((hB6.cell (p := ⟨pb, 0, none⟩) HSZ.out.2.1).trans hk0.2.1) ((hB6.cell (p := ⟨pb, 1, none⟩) HSZ.out.2.1).trans hk0.2.2)); have HL6 := Lib.hid hL6; have HB6 := Lib.hid (((Below.refl V0.heap.size V0).drew).trans hB6); clear hL6 hB6; dsimp only) | (go_at_call 45; refine (HPUT.out w6 HB6.out a6 cp6 HL6.out).mono ?_; rintro e w7 ⟨rfl, hlv7, hu7⟩; have hk7 := And.intro ((World.cell?_of_block (a := ⟨c, 2, none⟩) (hu7.block c (Nat.lt_of_lt_of_le HSZ.out.1 HB6.out.size) HNC.out.1)).trans hk6.1) (And.intro ((World.cell?_of_block (a := ⟨pb, 0, none⟩) (hu7.block pb (Nat.lt_of_lt_of_le HSZ.out.2.1 HB6.out.size) HNC.out.2.2.2)).trans hk6.2.1) ((World.cell?_of_block (a := ⟨pb, 1, none⟩) (hu7.block pb (Nat.lt_of_lt_of_le HSZ.out.2.1 HB6.out.size) HNC.out.2.2.2)).trans hk6.2.2)); have HLV7 := Lib.hid hlv7; have HU7 := Lib.hid hu7; clear hlv7 hu7; dsimp only)))
      have hB06 : Below w5.heap.size w5 w6 := HB0.out.trans (HB6.out.mono HB0.out.size)
      have HR7 := Lib.hid (ranges_keep HR5.out ((HU7.out.block hb (Nat.lt_of_lt_of_le HSZ.out.2.2.1 hB06.size) HNC.out.2.1).trans (hB06.block hb HSZ.out.2.2.1)) ((HU7.out.block r (Nat.lt_of_lt_of_le HSZ.out.2.2.2 hB06.size) HNC.out.2.2.1).trans (hB06.block r HSZ.out.2.2.2)))
      have HL7 : Hid (Lent S rm D w w7 r x off ls (pre ++ [p]) n (Mid D1 w6 w7)) := Lib.hid ⟨HLV7.out, fun g hg => by
        rcases hg with hg | hg
        · exact HL5.out.dom g hg
        · right
          have := hB06.size
          have := HSZ.out.2.2.2
          omega, fun g hg => by
        rcases hg with hg | hg
        · have := HL5.out.lt g hg
          have := hB06.size
          have := HU7.out.size
          omega
        · exact hg.2, (HL5.out.upon.trans (Upon.of_below (P := D) hB06) (fun g hg => .inl hg)).trans HU7.out (fun g hg => (HL5.out.dom g hg).imp id (fun hh => by have := HRW.out; omega))⟩
      clear hk0 hk6 hk7 hB06
      go_wp2_with fail
      exact ⟨⟨_, cnt', pre ++ [p], _, HR7, HM5, HL7⟩, by rw [HR7.out.left_eq, HMLL.out]; exact HLT.out⟩
end Go.Proofs.YtndkohocgfmamaaGreat.Visit

/- Layer 27: a counter: New, Held, Flush; a nil one. -/
namespace Go.Proofs.YtndkohocgfmamaaGreat.Visit
open Go.RowKit Go.Deep Mem Crc
open Go.Proofs.YtndkohocgfmamaaGreat.Runs (LiveIn fiV Mid in_new new_bad in_flush in_flush0 in_flush_off)
open Go.Proofs.YtndkohocgfmamaaGreat.Store (Sto bare St none')

attribute [local go_sem] Oper.semAt_some
theorem held_nil' (w : World) : Calls Tryz.prog 10 #[.pointer none] w fun e w' => e = .returned (.int .i64 0) ∧ w = w' := by
  go_enter Tryz.func10, Tryz.ntmps10
  go_wp2_with fail
  go_ret
  exact ⟨rfl, rfl⟩
theorem runs_nil' (w : World) : Calls Tryz.prog 18 #[.pointer none] w fun e w' => e = .returned (.int .i64 0) ∧ w = w' := by
  go_enter Tryz.func18, Tryz.ntmps18
  go_wp2_with fail
  go_ret
  exact ⟨rfl, rfl⟩
theorem flush_nil' (w : World) : Calls Tryz.prog 11 #[.pointer none] w fun e w' => e = .returned (.int .i64 1) ∧ w = w' := by
  go_enter Tryz.func11, Tryz.ntmps11
  go_wp2_with fail
  go_ret
  exact ⟨rfl, rfl⟩
theorem clear_nil' (w : World) : Calls Tryz.prog 16 #[.pointer none] w fun e w' => e = .returned (.int .i64 1) ∧ w = w' := by
  go_enter Tryz.func16, Tryz.ntmps16
  go_wp2_with fail
  go_ret
  exact ⟨rfl, rfl⟩
theorem all_nil' (w : World) : Calls Tryz.prog 12 #[.pointer none] w fun e w' => e = .returned (.tuple #[.slice none 0 0, .int .i64 1]) ∧ Below w.heap.size w w' := by
  go_enter Tryz.func12, Tryz.ntmps12
  go_wp2_with fail
  go_ret2
  exact ⟨rfl, (Below.refl _ w).alloc (Nat.le_refl _) _⟩
theorem compact_nil' (w : World) : Calls Tryz.prog 17 #[.pointer none] w fun e w' => e = .returned (.int .i64 1) ∧ Below w.heap.size w w' := by
  have HA := Lib.hid (all_nil' w)
  go_enter Tryz.func17, Tryz.ntmps17
  go_wp2_with fail
  refine HA.out.mono ?_
  rintro e w1 ⟨rfl, hB⟩
  go_wp2_with fail
  go_ret
  exact ⟨rfl, hB⟩
theorem add_nil' (w : World) (s v n : Value) : Calls Tryz.prog 9 #[.pointer none, .int .u32 1, .int .u32 2, .int .u64 3] w fun e w' => e = .returned (.int .i64 1) ∧ Below w.heap.size w w' := by
  go_enter Tryz.func9, Tryz.ntmps9
  go_wp2_with fail
  go_ret
  exact ⟨rfl, by first | exact ((((Below.refl _ w).alloc (Nat.le_refl _) _).setCell (Nat.le_refl _) _).setCell (Nat.le_refl _) _) | exact (Below.refl _ w).alloc (Nat.le_refl _) _⟩
theorem held_any {s : Nat} {S : Sto s} {rm : Nat} {D : Nat → Prop} {w : World} {c x hb : Nat} {off : Bool} {ls : List (List KC)} {H : List KC} {n : Nat} (h : Ctr S rm D w c x hb off ls H n) :
    Calls Tryz.prog 10 #[.pointer (some ⟨c, 0, none⟩)] w fun e w' => e = .returned (.int .i64 (H.length : Int)) ∧ w = w' := by
  have c1 := h.blk.cell 1
  simp at c1
  have hl := fun ty => h.map.len h.held ty
  obtain ⟨N, hN⟩ : ∃ N, N = H.length := ⟨_, rfl⟩
  rw [← hN] at hl ⊢
  clear h hN
  go_enter Tryz.func10, Tryz.ntmps10
  go_wp2_with fail
  go_ret
  exact ⟨rfl, rfl⟩
set_option maxHeartbeats 1000000 in
/-- A new counter. -/
theorem new_any' {d s g cm : Nat} {w : World} {Q : Nat → Prop} (h : St w Q s d g 400 cm false none') (B0 : Nat) (hQ : ∀ k, Q k → B0 ≤ k) (hB0 : B0 ≤ w.heap.size) (rm : Nat) (h3 : 1 ≤ rm) (h4 : rm ≤ 4096) :
    Calls Tryz.prog 7 #[.pointer (some ⟨s, 0, none⟩), .string ⟨#[118]⟩, .int .i64 (rm : Int)] w fun e w' => ∃ c x hb D, e = .returned (.tuple #[.pointer (some ⟨c, 0, none⟩), .int .i64 0]) ∧ Ctr (bare s d g 400 cm) rm D w' c x hb false [] [] 0 ∧ (∀ k, D k ∨ k = c ∨ k = hb → B0 ≤ k) ∧ Below w.heap.size w w' := by
  have HN := Lib.hid (in_new h B0 hQ hB0 rm h3 h4)
  clear h hQ
  go_enter Tryz.func7, Tryz.ntmps7
  go_wp2_with fail
  refine HN.out.mono ?_
  rintro e w1 ⟨x, rfl, hlv, hB⟩
  have hmk := run_makeMap (P := Tryz.prog) 59 w1
  have HLV := Lib.hid hlv
  have HB := Lib.hid hB
  clear hlv hB HN
  go_wp2_with fail
  go_ret2
  obtain ⟨W, hW⟩ : ∃ W, W = (w1.alloc (.map #[] 0)).alloc (.cells #[.int .i64 (rm : Int), .map (some w1.heap.size), .pointer (some ⟨x, 0, none⟩)] 61) := ⟨_, rfl⟩
  have hB1 : Below w1.heap.size w1 (w1.alloc (.map #[] 0)) := (Below.refl _ w1).alloc (Nat.le_refl _) _
  have hBW : Below w1.heap.size w1 W := by rw [hW]; exact hB1.alloc (by simp) _
  have hs := HB.out.size
  have hbk : Blk W (w1.heap.size + 1) 61 #[.int .i64 (rm : Int), .map (some w1.heap.size), .pointer (some ⟨x, 0, none⟩)] := by
    have := Blk.new (w1.alloc (.map #[] 0)) 61 #[.int .i64 (rm : Int), .map (some w1.heap.size), .pointer (some ⟨x, 0, none⟩)]
    rw [World.size_alloc] at this
    rw [hW]
    exact this
  have hmp : HeldAt W w1.heap.size [] := by
    rw [hW]
    exact (HeldAt.made w1).keep (Below.heap_alloc _ _ _ (by simp))
  refine ⟨w1.heap.size + 1, x, w1.heap.size, fun k => B0 ≤ k ∧ k < w1.heap.size, by simp, ?_, ?_, ?_⟩
  · rw [← hW]
    exact ⟨hbk, HLV.out.later hBW, hmp, held_nil, Nat.zero_le _, fun h => by omega, fun h => by omega, by omega, ⟨h3, h4⟩, fun k hk => by have := hBW.size; omega⟩
  · intro k hk
    rcases hk with hk | hk | hk
    · exact hk.1
    · omega
    · omega
  · rw [← hW]
    exact HB.out.trans (hBW.mono hs)
theorem new_no (s : Value) (w : World) (rm : Int) (h : rm < 1 ∨ 4096 < rm) :
    Calls Tryz.prog 7 #[s, .string ⟨#[118]⟩, .int .i64 rm] w fun e w' => e = .returned (.tuple #[.pointer none, .int .i64 1]) ∧ Below w.heap.size w w' := by
  have HN := Lib.hid (new_bad s w rm h)
  clear h
  go_enter Tryz.func7, Tryz.ntmps7
  go_wp2_with fail
  refine HN.out.mono ?_
  rintro e w1 ⟨rfl, hB⟩
  go_wp2_with fail
  go_ret2
  exact ⟨rfl, hB⟩
/-- A counter behind a flush. -/
structure Flushed {s : Nat} (S : Sto s) (rm : Nat) (D : Nat → Prop) (w w' : World) (c x hb : Nat) (ls : List (List KC)) (H : List KC) (n : Nat) (D' : Nat → Prop) (ls' : List (List KC)) : Prop where
  ctr : Ctr S rm D' w' c x hb false ls' [] (n + 1)
  perm : ls'.flatten.Perm (H ++ ls.flatten)
  few : ls'.length ≤ ls.length + 1
  dom : ∀ g, D' g → D g ∨ w.heap.size ≤ g
  upon : Upon (fun g => D g ∨ g = hb) w w'
/-- What lends leaves behind. -/
structure Back {s : Nat} (S : Sto s) (rm : Nat) (D : Nat → Prop) (w W : World) (c x hb : Nat) (off : Bool) (ls ls' : List (List KC)) (H : List KC) (n : Nat) (D' : Nat → Prop) : Prop where
  ctr : Ctr S rm D' W c x hb off ls' H n
  dom : ∀ g, D' g → D g ∨ w.heap.size ≤ g
  upon : Upon D w W
/-- The counter behind what was done, and Forget. -/
theorem Lent.back {s : Nat} {S : Sto s} {rm : Nat} {D : Nat → Prop} {w : World} {c x hb : Nat} {off : Bool} {ls : List (List KC)} {H : List KC} {n : Nat} (h : Ctr S rm D w c x hb off ls H n) {W W' : World} {pre : List KC} {D1 : Nat → Prop} (hL : Lent S rm D w W w.heap.size x off ls pre n D1)
    {D2 : Nat → Prop} {ls' : List (List KC)} {held : List Go.Proofs.YtndkohocgfmamaaGreat.Merge.B} {n' : Nat} (hu : Upon D1 W W') (hlv : LiveIn S (fiV s rm) D2 W' x off (ls'.map (fun l => l.map recB)) held n') (hD2 : ∀ g, D2 g → D1 g ∨ W.heap.size ≤ g) (hlt2 : ∀ g, D2 g → g < W'.heap.size) : ∃ v, W'.cell? ⟨x, 6, none⟩ = some v ∧ W'.frozen? ⟨x, 6, none⟩ = false ∧ Back S rm D w (W'.setCell ⟨x, 6, none⟩ (.slice none 0 0)) c x hb off ls ls' H n' D2 := by
  obtain ⟨h1, h2, h3, h4⟩ := hlv.forget
  obtain ⟨v, hv⟩ := Option.ne_none_iff_exists'.1 h1
  have hz := hL.upon.size
  have hdom : ∀ g, D2 g → D g ∨ w.heap.size ≤ g := fun g hg => by
    rcases hD2 g hg with h | h
    · rcases hL.dom g h with h | h
      · exact .inl h
      · right; omega
    · right; omega
  have hD1 : ∀ g, D1 g → D g ∨ w.heap.size ≤ g := fun g hg => (hL.dom g hg).imp id (fun h => by omega)
  have hup : Upon D w W' := hL.upon.trans hu hD1
  have hup2 : Upon D w (W'.setCell ⟨x, 6, none⟩ (.slice none 0 0)) := hup.set (p := ⟨x, 6, none⟩) (hdom x h3) _
  have hcd : ¬ D2 c := fun hg => (hdom c hg).elim h.cD (fun hh => by have := h.blk.lt; omega)
  have hhd : ¬ D2 hb := fun hg => (hdom hb hg).elim h.hD (fun hh => by have := h.map.lt; omega)
  refine ⟨v, hv, h2, ⟨h.blk.upon hup2 h.cD, h4, h.map.keep (hup2.block hb h.map.lt h.hD), h.held, h.room, hcd, hhd, h.hc, h.rmle, fun g hg => by have := hlt2 g hg; simpa [World.setCell] using this⟩, hdom, hup2⟩
theorem enters_flush (args : Array Value) (w : World) : (callFunc 25 args).run Tryz.prog w = .ok (.enter 25 args) w := enters_of Tryz.func25 (by kernel_rfl) rfl args w
set_option maxRecDepth 100000 in
/-- lends to Flush. -/
theorem lends_flush {s : Nat} {S : Sto s} {rm : Nat} {D : Nat → Prop} {w : World} {c x hb : Nat} {ls : List (List KC)} {H : List KC} {n : Nat} (h : Ctr S rm D w c x hb false ls H n) (hn : n < 9000) (hl : ls.length < 9000) :
    Calls Tryz.prog 24 #[.pointer (some ⟨c, 0, none⟩), .func (.func 25) #[.pointer (some ⟨x, 0, none⟩)] #[]] w fun e w' => e = .returned (.int .i64 0) ∧ ∃ D' ls', Back S rm D w w' c x hb false ls ls' H (n + 1) D' ∧ ls'.flatten.Perm (H ++ ls.flatten) ∧ ls'.length ≤ ls.length + 1 := by
  refine (lends_any h h.lt 25 #[.pointer (some ⟨x, 0, none⟩)] #[] enters_flush (fun rr W => rr = 0 ∧ ∃ D' ls', Back S rm D w W c x hb false ls ls' H (n + 1) D' ∧ ls'.flatten.Perm (H ++ ls.flatten) ∧ ls'.length ≤ ls.length + 1) (fun pre D1 W hp hL => ?_)).mono ?_
  · show Calls Tryz.prog 25 #[.pointer (some ⟨x, 0, none⟩)] W _
    by_cases h0 : pre = []
    · subst h0
      refine (in_flush0 (by have := hL.live; simpa using this)).mono ?_
      rintro e W' ⟨rfl, rfl⟩
      obtain ⟨v, hv1, hv2, hb1⟩ := hL.back h (Upon.refl _ _) (hL.live.more (Nat.le_succ n)) (fun g hg => .inl hg) hL.lt
      have : H = [] := hp.symm.eq_nil
      subst this
      exact ⟨0, v, rfl, hv1, hv2, rfl, D1, ls, hb1, by simp, Nat.le_succ _⟩
    · refine (in_flush hL.live (by simpa using h0) (by omega) (by rw [List.length_map]; omega)).mono ?_
      rintro e W' ⟨rfl, hlv, hu⟩
      have hlv' : LiveIn S (fiV s rm) (Mid D1 W W') W' x false ((ls ++ [pre]).map (fun l => l.map recB)) [] (n + 1) := by
        rw [List.map_append]
        exact hlv
      obtain ⟨v, hv1, hv2, hb1⟩ := hL.back h hu hlv' (fun g hg => hg.imp id (fun h => h.1)) (fun g hg => by
        rcases hg with hg | hg
        · have := hL.lt g hg
          have := hu.size
          omega
        · exact hg.2)
      refine ⟨0, v, rfl, hv1, hv2, rfl, _, ls ++ [pre], hb1, ?_, by simp⟩
      rw [List.flatten_append]
      simp only [List.flatten_cons, List.flatten_nil, List.append_nil]
      exact (List.perm_append_comm).trans (List.Perm.append_right _ hp)
  · rintro e w' ⟨rr, rfl, rfl, h2⟩
    exact ⟨rfl, h2⟩
set_option maxRecDepth 100000 in
/-- Flush. -/
theorem flush_any {s : Nat} {S : Sto s} {rm : Nat} {D : Nat → Prop} {w : World} {c x hb : Nat} {ls : List (List KC)} {H : List KC} {n : Nat} (h : Ctr S rm D w c x hb false ls H n) (hn : n < 9000) (hl : ls.length < 9000) :
    Calls Tryz.prog 11 #[.pointer (some ⟨c, 0, none⟩)] w fun e w' => e = .returned (.int .i64 0) ∧ ∃ D' ls', Flushed S rm D w w' c x hb ls H n D' ls' := by
  have c2 := h.blk.cell 2
  simp at c2
  have HL := Lib.hid (lends_flush h hn hl)
  have HH := Lib.hid h
  have hmf : ∀ (fn : Fn) (first cap : Array Value) (w : World), (Instr.makeFunc fn first cap).run Tryz.prog w = .ok (.func fn first cap) w := fun _ _ _ _ => rfl
  clear h hn hl
  go_enter Tryz.func11, Tryz.ntmps11
  go_wp2_with fail
  refine HL.out.mono ?_
  rintro e w1 ⟨rfl, D', ls', hbk, hp, hf⟩
  have c1 := hbk.ctr.blk.cell 1
  simp at c1
  obtain ⟨w2, hrun, hm2, hg2, hs2⟩ := hbk.ctr.map.clear 0
  have HE : Hid (Flushed S rm D w w2 c x hb ls H n D' ls') := Lib.hid (by
    have hu2 : Upon (fun g => g = hb) w1 w2 := Upon.of_grown hg2 (fun g hg => .inl (by injection hg with hg; exact hg.symm))
    have hct := hbk.ctr
    exact ⟨⟨hct.blk.upon hu2 (fun e => hct.hc e.symm), hct.srt.keep hu2 (fun g hg e => hct.hD (e ▸ hg)), hm2, held_nil, Nat.zero_le _, hct.cD, hct.hD, hct.hc, hct.rmle, fun g hg => by have := hct.lt g hg; omega⟩, hp, hf, hbk.dom, (hbk.upon.mono (fun g hg => .inl hg)).trans hu2 (fun g hg => .inl (.inr hg))⟩)
  clear hbk hp hf hm2 hg2 hs2 c2 HL
  go_wp2_with fail
  go_ret
  exact ⟨rfl, D', ls', HE.out⟩
end Go.Proofs.YtndkohocgfmamaaGreat.Visit

/- Layer 27: Add. -/
namespace Go.Proofs.YtndkohocgfmamaaGreat.Visit
open Go.RowKit Go.Deep Mem Crc
open Go.Proofs.YtndkohocgfmamaaGreat.Runs (LiveIn fiV Mid)
open Go.Proofs.YtndkohocgfmamaaGreat.Store (Sto)

attribute [local go_sem] Oper.semAt_some
theorem pair_letters {k sn vn : Nat} (hs : sn = k / 4294967296) (hv : vn = k % 4294967296) : pairV k = .agg #[.int .u32 (sn : Int), .int .u32 (vn : Int)] := by rw [hs, hv]; rfl
/-- Behind the store of a count. -/
theorem Ctr.put {s : Nat} {S : Sto s} {rm : Nat} {D : Nat → Prop} {w w2 : World} {c x hb : Nat} {off : Bool} {ls : List (List KC)} {H : List KC} {n : Nat} (h : Ctr S rm D w c x hb off ls H n) {p : KC} (hp : okP p) (hroom : tot H p.1 ≠ 0 ∨ H.length < rm) (hm : HeldAt w2 hb (putH H p)) (hg : w.grownBy w2 (some hb)) : Ctr S rm D w2 c x hb off ls (putH H p) n ∧ Upon (fun g => g = hb) w w2 := by
  have hu2 : Upon (fun g => g = hb) w w2 := Upon.of_grown hg (fun g hg => .inl (by injection hg with hg; exact hg.symm))
  refine ⟨⟨h.blk.upon hu2 (fun e => h.hc e.symm), h.srt.keep hu2 (fun g hg e => h.hD (e ▸ hg)), hm, h.held.put hp, ?_, h.cD, h.hD, h.hc, h.rmle, fun g hg => Nat.lt_of_lt_of_le (h.lt g hg) hu2.size⟩, hu2⟩
  have := putH_length h.held p
  have := h.room
  rcases hroom with h0 | h0
  · rw [if_neg h0] at *
    omega
  · split at * <;> omega
theorem HeldAt.drewLook {w : World} {b : Nat} {H : List KC} (h : HeldAt w b H) (k : Nat) (hk : k ≤ top64) : (Instr.lookup 59 (.map (some b)) (pairV k) true).run Tryz.prog w.drew = .ok (.tuple #[.int .u64 ((tot H k : Nat) : Int), .bool (decide (tot H k ≠ 0))]) w.drew := HeldAt.look_ok (w := w.drew) h k hk
theorem HeldAt.drewLook2 {w : World} {b : Nat} {H : List KC} (h : HeldAt w b H) (k : Nat) (hk : k ≤ top64) : (Instr.lookup 59 (.map (some b)) (pairV k) false).run Tryz.prog w.drew = .ok (.int .u64 ((tot H k : Nat) : Int)) w.drew := HeldAt.look (w := w.drew) h k hk
/-- Add of nothing. -/
theorem add_zero (c : Nat) (sn vn : Nat) (w : World) : Calls Tryz.prog 9 #[.pointer (some ⟨c, 0, none⟩), .int .u32 (sn : Int), .int .u32 (vn : Int), .int .u64 0] w fun e w' => e = .returned (.int .i64 0) ∧ Below w.heap.size w w' := by
  go_enter Tryz.func9, Tryz.ntmps9
  go_wp2_with fail
  go_ret
  exact ⟨rfl, by first | exact ((((Below.refl _ w).alloc (Nat.le_refl _) _).setCell (Nat.le_refl _) _).setCell (Nat.le_refl _) _) | exact (Below.refl _ w).alloc (Nat.le_refl _) _⟩
set_option maxHeartbeats 2000000 in
set_option maxRecDepth 100000 in
/-- Add of a pair that is there. -/
theorem add_there {s : Nat} {S : Sto s} {rm : Nat} {D : Nat → Prop} {w : World} {c x hb : Nat} {off : Bool} {ls : List (List KC)} {H : List KC} {n : Nat} (h : Ctr S rm D w c x hb off ls H n) (p : KC) (hp : okP p) (sn vn : Nat) (hsn : sn = p.1 / 4294967296) (hvn : vn = p.1 % 4294967296) (hth : tot H p.1 ≠ 0) :
    Calls Tryz.prog 9 #[.pointer (some ⟨c, 0, none⟩), .int .u32 (sn : Int), .int .u32 (vn : Int), .int .u64 (p.2 : Int)] w fun e w' => e = .returned (.int .i64 0) ∧ Ctr S rm D w' c x hb off ls (putH H p) n ∧ Upon (fun g => g = hb) w w' := by
  obtain ⟨cn, hcn⟩ : ∃ cn, cn = p.2 := ⟨_, rfl⟩
  have hcn0 : ((cn : Int) == 0) = false := by have := hp.2.1; simp; omega
  have hcn64 : cn ≤ top64 := by rw [hcn]; exact hp.2.2
  obtain ⟨t, ht⟩ : ∃ t, t = tot H p.1 := ⟨_, rfl⟩
  have ht64 : t ≤ top64 := by rw [ht]; exact h.held.tot_le _
  obtain ⟨V, hV⟩ : ∃ V, V = w.alloc (.cells #[.int .u32 (sn : Int), .int .u32 (vn : Int)] 63) := ⟨_, rfl⟩
  have hBV : Below w.heap.size w V := by rw [hV]; exact (Below.refl _ w).alloc (Nat.le_refl _) _
  obtain ⟨pb, hpb⟩ : ∃ pb, pb = w.heap.size := ⟨_, rfl⟩
  have hbp : Blk V pb 63 #[.int .u32 (sn : Int), .int .u32 (vn : Int)] := by rw [hV, hpb]; exact Blk.new w _ _
  have hV1 := h.later hBV
  have hlk := hV1.map.drewLook p.1 hp.1
  have HPL := Lib.hid (pair_letters hsn hvn)
  have HTT := Lib.hid ht
  have HOK := Lib.hid hp
  rw [pair_letters hsn hvn, ← ht] at hlk
  have hth2 : decide (t ≠ 0) = true := by rw [ht]; simpa using hth
  rw [hth2] at hlk
  have HSUM := Lib.hid (fun w => (sum_any t cn ht64 hcn64 w).mono (R' := fun e w' => e = .returned (.int .u64 ((sat (t + cn) : Nat) : Int)) ∧ w' = w) (fun _ _ h => ⟨h.1, h.2.symm⟩))
  have HUP : Hid (∀ W : World, Below V.heap.size V W → ∃ w2, (Instr.mapUpdate 59 (.map (some hb)) (.agg #[.int .u32 (sn : Int), .int .u32 (vn : Int)]) (.int .u64 ((sat (t + cn) : Nat) : Int))).run Tryz.prog W = .ok () w2 ∧ Ctr S rm D w2 c x hb off ls (putH H p) n ∧ Upon (fun g => g = hb) w w2) := Lib.hid (fun W hW => by
    have hW1 := hV1.later hW
    obtain ⟨w2, h1, h2, h3, h4⟩ := hW1.map.update hW1.held (by have := hW1.room; have := hW1.rmle.2; omega) p hp
    rw [pair_letters hsn hvn, ← ht, ← hcn] at h1
    have h5 := hW1.put hp (.inl hth) h2 h3
    exact ⟨w2, h1, h5.1, (Upon.of_below (hBV.trans (hW.mono hBV.size))).trans h5.2 (fun g hg => .inl hg)⟩)
  have HV1 := Lib.hid hV1
  have HBP := Lib.hid hbp
  have HVE := Lib.hid hV
  have HPB := Lib.hid hpb
  rw [← hcn]
  clear hsn hvn hcn ht hth hth2 hV hpb hp h hV1 hbp hBV hcn64 ht64
  go_enter Tryz.func9, Tryz.ntmps9
  go_wp2_with fail
  rw [← HVE.out, ← HPB.out]
  have k1 := HV1.out.blk.cell 1
  have q0 := HBP.out.cell 0
  have q1 := HBP.out.cell 1
  simp at k1 q0 q1
  go_still (by kernel_rfl)
  change Exit.then _ _ _ _ V.drew
  obtain ⟨V1, hV1e⟩ : ∃ V1, V1 = V.drew := ⟨_, rfl⟩
  have hBV1 : Below V.heap.size V V1 := by rw [hV1e]; exact (Below.refl _ V).drew
  rw [← hV1e]
  have HC1 := Lib.hid (HV1.out.later hBV1)
  have HP1 := Lib.hid (HBP.out.below hBV1 HBP.out.lt)
  have HB1 := Lib.hid hBV1
  clear hV1e hBV1 hlk k1 q0 q1
  go_wp2_with fail
  go_quiet (fail)
  obtain ⟨V2, hV2e⟩ : ∃ V2, V2 = V1.drewN nq := ⟨_, rfl⟩
  have hBV2 : Below V1.heap.size V1 V2 := by rw [hV2e]; exact ⟨rfl, rfl, rfl, Nat.le_refl _, fun _ _ => rfl⟩
  rw [← hV2e]
  have hC2 := HC1.out.later hBV2
  have hP2 := HP1.out.below hBV2 HP1.out.lt
  have HC2 := Lib.hid hC2
  have HB2 := Lib.hid (HB1.out.trans (hBV2.mono HB1.out.size))
  have hlk3 := hC2.map.drewLook2 p.1 HOK.out.1
  rw [HPL.out, ← HTT.out] at hlk3
  have k1 := hC2.blk.cell 1
  have q0 := hP2.cell 0
  have q1 := hP2.cell 1
  simp at k1 q0 q1
  clear hV2e hBV2 hC2 hP2 HC1 HP1 HB1
  go_wp2_with fail
  refine wp_region_still_tail 13 (by kernel_rfl) (by kernel_rfl) ?_
  simp only [List.take_succ_cons, List.take_zero, List.drop_succ_cons, List.drop_zero]
  repeat still_step
  still_call (HSUM.out _)
  repeat still_step
  refine wpStill_nil ?_
  change wpList _ _ _ _ _ V2.drew
  obtain ⟨w3, hup, hct, hu⟩ := HUP.out V2.drew (HB2.out.trans ((Below.refl _ V2).drew.mono HB2.out.size))
  have HE := Lib.hid (And.intro hct hu)
  clear hct hu hlk3 k1 q0 q1
  go_wp2_with fail
  go_ret
  exact ⟨rfl, HE.out⟩
set_option maxHeartbeats 2000000 in
set_option maxRecDepth 100000 in
/-- Add of a pair that is new, where there is room. -/
theorem add_new {s : Nat} {S : Sto s} {rm : Nat} {D : Nat → Prop} {w : World} {c x hb : Nat} {off : Bool} {ls : List (List KC)} {H : List KC} {n : Nat} (h : Ctr S rm D w c x hb off ls H n) (p : KC) (hp : okP p) (sn vn : Nat) (hsn : sn = p.1 / 4294967296) (hvn : vn = p.1 % 4294967296) (hth : tot H p.1 = 0) (hroom : H.length < rm) :
    Calls Tryz.prog 9 #[.pointer (some ⟨c, 0, none⟩), .int .u32 (sn : Int), .int .u32 (vn : Int), .int .u64 (p.2 : Int)] w fun e w' => e = .returned (.int .i64 0) ∧ Ctr S rm D w' c x hb off ls (putH H p) n ∧ Upon (fun g => g = hb) w w' := by
  obtain ⟨cn, hcn⟩ : ∃ cn, cn = p.2 := ⟨_, rfl⟩
  have hcn0 : ((cn : Int) == 0) = false := by have := hp.2.1; simp; omega
  have hcn64 : cn ≤ top64 := by rw [hcn]; exact hp.2.2
  obtain ⟨t, ht⟩ : ∃ t, t = tot H p.1 := ⟨_, rfl⟩
  have ht64 : t ≤ top64 := by rw [ht]; exact h.held.tot_le _
  obtain ⟨V, hV⟩ : ∃ V, V = w.alloc (.cells #[.int .u32 (sn : Int), .int .u32 (vn : Int)] 63) := ⟨_, rfl⟩
  have hBV : Below w.heap.size w V := by rw [hV]; exact (Below.refl _ w).alloc (Nat.le_refl _) _
  obtain ⟨pb, hpb⟩ : ∃ pb, pb = w.heap.size := ⟨_, rfl⟩
  have hbp : Blk V pb 63 #[.int .u32 (sn : Int), .int .u32 (vn : Int)] := by rw [hV, hpb]; exact Blk.new w _ _
  have hV1 := h.later hBV
  have hlk := hV1.map.drewLook p.1 hp.1
  have HPL := Lib.hid (pair_letters hsn hvn)
  have HTT := Lib.hid ht
  have HOK := Lib.hid hp
  rw [pair_letters hsn hvn, ← ht] at hlk
  have hth2 : decide (t ≠ 0) = false := by rw [ht]; simpa using hth
  rw [hth2] at hlk
  have hroom2 : ((H.length : Int) == (rm : Int)) = false := by simp; omega
  obtain ⟨N, hN⟩ : ∃ N, N = H.length := ⟨_, rfl⟩
  have HNE := Lib.hid hN
  have HSUM := Lib.hid (fun w => (sum_any t cn ht64 hcn64 w).mono (R' := fun e w' => e = .returned (.int .u64 ((sat (t + cn) : Nat) : Int)) ∧ w' = w) (fun _ _ h => ⟨h.1, h.2.symm⟩))
  have HUP : Hid (∀ W : World, Below V.heap.size V W → ∃ w2, (Instr.mapUpdate 59 (.map (some hb)) (.agg #[.int .u32 (sn : Int), .int .u32 (vn : Int)]) (.int .u64 ((sat (t + cn) : Nat) : Int))).run Tryz.prog W = .ok () w2 ∧ Ctr S rm D w2 c x hb off ls (putH H p) n ∧ Upon (fun g => g = hb) w w2) := Lib.hid (fun W hW => by
    have hW1 := hV1.later hW
    obtain ⟨w2, h1, h2, h3, h4⟩ := hW1.map.update hW1.held (by have := hW1.room; have := hW1.rmle.2; omega) p hp
    rw [pair_letters hsn hvn, ← ht, ← hcn] at h1
    have h5 := hW1.put hp (.inr hroom) h2 h3
    exact ⟨w2, h1, h5.1, (Upon.of_below (hBV.trans (hW.mono hBV.size))).trans h5.2 (fun g hg => .inl hg)⟩)
  have HV1 := Lib.hid hV1
  have HBP := Lib.hid hbp
  have HVE := Lib.hid hV
  have HPB := Lib.hid hpb
  rw [← hN] at hroom2
  rw [← hcn]
  clear hN hroom hsn hvn hcn ht hth hth2 hV hpb hp h hV1 hbp hBV hcn64 ht64
  go_enter Tryz.func9, Tryz.ntmps9
  go_wp2_with fail
  rw [← HVE.out, ← HPB.out]
  have k1 := HV1.out.blk.cell 1
  have q0 := HBP.out.cell 0
  have q1 := HBP.out.cell 1
  simp at k1 q0 q1
  go_still (by kernel_rfl)
  change Exit.then _ _ _ _ V.drew
  obtain ⟨V1, hV1e⟩ : ∃ V1, V1 = V.drew := ⟨_, rfl⟩
  have hBV1 : Below V.heap.size V V1 := by rw [hV1e]; exact (Below.refl _ V).drew
  rw [← hV1e]
  have HC1 := Lib.hid (HV1.out.later hBV1)
  have HP1 := Lib.hid (HBP.out.below hBV1 HBP.out.lt)
  have HB1 := Lib.hid hBV1
  have hlen : ∀ (m : Nat) (ty : TypeId), (Builtin.len_ #[59] ty #[.map (some hb)]).run Tryz.prog (V1.drewN m) = .ok (.int .i64 (N : Int)) (V1.drewN m) := fun m ty => by rw [HNE.out]; exact HeldAt.len (w := V1.drewN m) HC1.out.map HC1.out.held ty
  have j0 := HC1.out.blk.cell 0
  have j1 := HC1.out.blk.cell 1
  simp at j0 j1
  clear hV1e hBV1 hlk k1 q0 q1
  go_wp2_with fail
  go_quiet (fail)
  obtain ⟨V2, hV2e⟩ : ∃ V2, V2 = V1.drewN nq := ⟨_, rfl⟩
  have hBV2 : Below V1.heap.size V1 V2 := by rw [hV2e]; exact ⟨rfl, rfl, rfl, Nat.le_refl _, fun _ _ => rfl⟩
  rw [← hV2e]
  have hC2 := HC1.out.later hBV2
  have hP2 := HP1.out.below hBV2 HP1.out.lt
  have HC2 := Lib.hid hC2
  have HB2 := Lib.hid (HB1.out.trans (hBV2.mono HB1.out.size))
  have hlk3 := hC2.map.drewLook2 p.1 HOK.out.1
  rw [HPL.out, ← HTT.out] at hlk3
  have k1 := hC2.blk.cell 1
  have q0 := hP2.cell 0
  have q1 := hP2.cell 1
  simp at k1 q0 q1
  clear hV2e hBV2 hC2 hP2 HC1 HP1 HB1 hlen j0 j1
  go_wp2_with fail
  refine wp_region_still_tail 13 (by kernel_rfl) (by kernel_rfl) ?_
  simp only [List.take_succ_cons, List.take_zero, List.drop_succ_cons, List.drop_zero]
  repeat still_step
  still_call (HSUM.out _)
  repeat still_step
  refine wpStill_nil ?_
  change wpList _ _ _ _ _ V2.drew
  obtain ⟨w3, hup, hct, hu⟩ := HUP.out V2.drew (HB2.out.trans ((Below.refl _ V2).drew.mono HB2.out.size))
  have HE := Lib.hid (And.intro hct hu)
  clear hct hu hlk3 k1 q0 q1
  go_wp2_with fail
  go_ret
  exact ⟨rfl, HE.out⟩
end Go.Proofs.YtndkohocgfmamaaGreat.Visit

/- Layer 27: Add where the memory is full; Flush on a store that is down. -/
namespace Go.Proofs.YtndkohocgfmamaaGreat.Visit
open Go.RowKit Go.Deep Mem Crc
open Go.Proofs.YtndkohocgfmamaaGreat.Runs (LiveIn fiV Mid in_flush_off)
open Go.Proofs.YtndkohocgfmamaaGreat.Store (Sto)

attribute [local go_sem] Oper.semAt_some
set_option maxRecDepth 100000 in
/-- lends to Flush, on a store that is down. -/
theorem lends_down {s : Nat} {S : Sto s} {rm : Nat} {D : Nat → Prop} {w : World} {c x hb : Nat} {ls : List (List KC)} {H : List KC} {n : Nat} (h : Ctr S rm D w c x hb true ls H n) (h0 : H ≠ []) (hl : ls.length < 9000) :
    Calls Tryz.prog 24 #[.pointer (some ⟨c, 0, none⟩), .func (.func 25) #[.pointer (some ⟨x, 0, none⟩)] #[]] w fun e w' => e = .returned (.int .i64 6) ∧ ∃ D', Back S rm D w w' c x hb true ls ls H n D' := by
  refine (lends_any h h.lt 25 #[.pointer (some ⟨x, 0, none⟩)] #[] enters_flush (fun rr W => rr = 6 ∧ ∃ D', Back S rm D w W c x hb true ls ls H n D') (fun pre D1 W hp hL => ?_)).mono ?_
  · show Calls Tryz.prog 25 #[.pointer (some ⟨x, 0, none⟩)] W _
    have hp0 : pre ≠ [] := fun e => h0 (by subst e; exact hp.symm.eq_nil)
    refine (in_flush_off hL.live (by simpa using hp0) (by rw [List.length_map]; omega)).mono ?_
    rintro e W' ⟨rfl, hlv, hB⟩
    obtain ⟨v, hv1, hv2, hb1⟩ := hL.back h (Upon.of_below hB) hlv (fun g hg => .inl hg) (fun g hg => Nat.lt_of_lt_of_le (hL.lt g hg) hB.size)
    exact ⟨6, v, rfl, hv1, hv2, rfl, D1, hb1⟩
  · rintro e w' ⟨rr, rfl, rfl, h2⟩
    exact ⟨rfl, h2⟩
set_option maxRecDepth 100000 in
/-- Flush, on a store that is down. -/
theorem flush_down {s : Nat} {S : Sto s} {rm : Nat} {D : Nat → Prop} {w : World} {c x hb : Nat} {ls : List (List KC)} {H : List KC} {n : Nat} (h : Ctr S rm D w c x hb true ls H n) (h0 : H ≠ []) (hl : ls.length < 9000) :
    Calls Tryz.prog 11 #[.pointer (some ⟨c, 0, none⟩)] w fun e w' => e = .returned (.int .i64 6) ∧ ∃ D', Back S rm D w w' c x hb true ls ls H n D' := by
  have c2 := h.blk.cell 2
  simp at c2
  have HL := Lib.hid (lends_down h h0 hl)
  have hmf : ∀ (fn : Fn) (first cap : Array Value) (w : World), (Instr.makeFunc fn first cap).run Tryz.prog w = .ok (.func fn first cap) w := fun _ _ _ _ => rfl
  clear h h0 hl
  go_enter Tryz.func11, Tryz.ntmps11
  go_wp2_with fail
  refine HL.out.mono ?_
  rintro e w1 ⟨rfl, D', hbk⟩
  have HE := Lib.hid hbk
  clear hbk HL
  go_wp2_with fail
  go_ret
  exact ⟨rfl, D', HE.out⟩
set_option maxHeartbeats 2000000 in
set_option maxRecDepth 100000 in
/-- Add of a pair that is new, where there is no room. -/
theorem add_full {s : Nat} {S : Sto s} {rm : Nat} {D : Nat → Prop} {w : World} {c x hb : Nat} {ls : List (List KC)} {H : List KC} {n : Nat} (h : Ctr S rm D w c x hb false ls H n) (p : KC) (hp : okP p) (sn vn : Nat) (hsn : sn = p.1 / 4294967296) (hvn : vn = p.1 % 4294967296) (hth : tot H p.1 = 0) (hroom : H.length = rm) (hn9 : n < 9000) (hl9 : ls.length < 9000) :
    Calls Tryz.prog 9 #[.pointer (some ⟨c, 0, none⟩), .int .u32 (sn : Int), .int .u32 (vn : Int), .int .u64 (p.2 : Int)] w fun e w' => e = .returned (.int .i64 0) ∧ ∃ D' ls', Ctr S rm D' w' c x hb false ls' (putH [] p) (n + 1) ∧ ls'.flatten.Perm (H ++ ls.flatten) ∧ ls'.length ≤ ls.length + 1 ∧ (∀ g, D' g → D g ∨ w.heap.size ≤ g) ∧ Upon (fun g => D g ∨ g = hb) w w' := by
  obtain ⟨cn, hcn⟩ : ∃ cn, cn = p.2 := ⟨_, rfl⟩
  have hcn0 : ((cn : Int) == 0) = false := by have := hp.2.1; simp; omega
  have hcn64 : cn ≤ top64 := by rw [hcn]; exact hp.2.2
  obtain ⟨t, ht⟩ : ∃ t, t = tot H p.1 := ⟨_, rfl⟩
  have ht64 : t ≤ top64 := by rw [ht]; exact h.held.tot_le _
  obtain ⟨V, hV⟩ : ∃ V, V = w.alloc (.cells #[.int .u32 (sn : Int), .int .u32 (vn : Int)] 63) := ⟨_, rfl⟩
  have hBV : Below w.heap.size w V := by rw [hV]; exact (Below.refl _ w).alloc (Nat.le_refl _) _
  obtain ⟨pb, hpb⟩ : ∃ pb, pb = w.heap.size := ⟨_, rfl⟩
  have hbp : Blk V pb 63 #[.int .u32 (sn : Int), .int .u32 (vn : Int)] := by rw [hV, hpb]; exact Blk.new w _ _
  have hV1 := h.later hBV
  have hlk := hV1.map.drewLook p.1 hp.1
  have HPL := Lib.hid (pair_letters hsn hvn)
  have HTT := Lib.hid ht
  have HOK := Lib.hid hp
  rw [pair_letters hsn hvn, ← ht] at hlk
  have hth2 : decide (t ≠ 0) = false := by rw [ht]; simpa using hth
  rw [hth2] at hlk
  have hroom2 : ((H.length : Int) == (rm : Int)) = true := by simp; omega
  obtain ⟨N, hN⟩ : ∃ N, N = H.length := ⟨_, rfl⟩
  have HNE := Lib.hid hN
  have ht0 : t = 0 := by rw [ht]; exact hth
  subst ht0
  have HSUM := Lib.hid (fun w => (sum_any 0 cn (Nat.zero_le _) hcn64 w).mono (R' := fun e w' => e = .returned (.int .u64 ((sat cn : Nat) : Int)) ∧ w' = w) (fun _ _ h => ⟨by have := h.1; rwa [Nat.zero_add] at this, h.2.symm⟩))
  have HPS := Lib.hid (pair_letters hsn hvn)
  have HCN := Lib.hid hcn
  have HBVE := Lib.hid hBV
  have HV1 := Lib.hid hV1
  have HBP := Lib.hid hbp
  have HVE := Lib.hid hV
  have HPB := Lib.hid hpb
  rw [← hN] at hroom2
  rw [← hcn]
  have HN9 := Lib.hid (And.intro hn9 hl9)
  have HPD := Lib.hid (show ∀ g, D g → g < pb from fun g hg => by have := h.lt g hg; omega)
  have HPH := Lib.hid (show hb < pb from by have := h.map.lt; omega)
  clear hN hroom hsn hvn hcn ht hth hth2 hV hpb hp h hV1 hbp hBV hcn64 ht64 hn9 hl9
  go_enter Tryz.func9, Tryz.ntmps9
  go_wp2_with fail
  rw [← HVE.out, ← HPB.out]
  have k1 := HV1.out.blk.cell 1
  have q0 := HBP.out.cell 0
  have q1 := HBP.out.cell 1
  simp at k1 q0 q1
  go_still (by kernel_rfl)
  change Exit.then _ _ _ _ V.drew
  obtain ⟨V1, hV1e⟩ : ∃ V1, V1 = V.drew := ⟨_, rfl⟩
  have hBV1 : Below V.heap.size V V1 := by rw [hV1e]; exact (Below.refl _ V).drew
  rw [← hV1e]
  have HC1 := Lib.hid (HV1.out.later hBV1)
  have HP1 := Lib.hid (HBP.out.below hBV1 HBP.out.lt)
  have HB1 := Lib.hid hBV1
  have hlen : ∀ (m : Nat) (ty : TypeId), (Builtin.len_ #[59] ty #[.map (some hb)]).run Tryz.prog (V1.drewN m) = .ok (.int .i64 (N : Int)) (V1.drewN m) := fun m ty => by rw [HNE.out]; exact HeldAt.len (w := V1.drewN m) HC1.out.map HC1.out.held ty
  have j0 := HC1.out.blk.cell 0
  have j1 := HC1.out.blk.cell 1
  simp at j0 j1
  clear hV1e hBV1 hlk k1 q0 q1
  go_wp2_with fail
  go_quiet (fail)
  obtain ⟨V2, hV2e⟩ : ∃ V2, V2 = V1.drewN nq := ⟨_, rfl⟩
  have hBV2 : Below V1.heap.size V1 V2 := by rw [hV2e]; exact ⟨rfl, rfl, rfl, Nat.le_refl _, fun _ _ => rfl⟩
  rw [← hV2e]
  have hC2 := HC1.out.later hBV2
  have hP2 := HP1.out.below hBV2 HP1.out.lt
  have HC2 := Lib.hid hC2
  have HB2 := Lib.hid (HB1.out.trans (hBV2.mono HB1.out.size))
  have HFL := Lib.hid (flush_any hC2 HN9.out.1 HN9.out.2)
  have HP2 := Lib.hid hP2
  clear hV2e hBV2 hC2 hP2 HC1 HP1 HB1 hlen j0 j1
  go_wp2_with fail
  refine HFL.out.mono ?_
  rintro e w1 ⟨rfl, D', ls', hfl⟩
  have hz2 := HB2.out.size
  have hpb1 : Blk w1 pb 63 #[.int .u32 (sn : Int), .int .u32 (vn : Int)] := HP2.out.upon hfl.upon (fun hg => by
    rcases hg with hg | hg
    · have := HPD.out pb hg; omega
    · have := HPH.out; omega)
  have hlk3 := hfl.ctr.map.drewLook2 p.1 HOK.out.1
  rw [HPL.out, tot_nil] at hlk3
  have k1 := hfl.ctr.blk.cell 1
  have q0 := hpb1.cell 0
  have q1 := hpb1.cell 1
  simp at k1 q0 q1 hlk3
  obtain ⟨w3, hup, hm3, hg3, _⟩ := (hfl.ctr.later ((Below.refl _ w1).drew)).map.update held_nil (by simp) p HOK.out
  have hct := (hfl.ctr.later ((Below.refl _ w1).drew)).put HOK.out (.inr (by have := hfl.ctr.rmle.1; simp; omega)) hm3 hg3
  rw [HPS.out, tot_nil, ← HCN.out, Nat.zero_add] at hup
  have HE : Hid (∃ D' ls', Ctr S rm D' w3 c x hb false ls' (putH [] p) (n + 1) ∧ ls'.flatten.Perm (H ++ ls.flatten) ∧ ls'.length ≤ ls.length + 1 ∧ (∀ g, D' g → D g ∨ w.heap.size ≤ g) ∧ Upon (fun g => D g ∨ g = hb) w w3) := Lib.hid ⟨D', ls', hct.1, hfl.perm, hfl.few, fun g hg => (hfl.dom g hg).imp id (fun hh => by have := HBVE.out.size; omega), ((Upon.of_below (HBVE.out.trans (HB2.out.mono HBVE.out.size))).trans hfl.upon (fun g hg => .inl hg)).trans ((Upon.of_below (P := fun g => g = hb) ((Below.refl _ w1).drew)).trans hct.2 (fun g hg => .inl hg)) (fun g hg => .inl (.inr hg))⟩
  clear hfl hpb1 hm3 hg3 hct hz2 HFL
  go_wp2_with fail
  refine wp_region_still_tail 13 (by kernel_rfl) (by kernel_rfl) ?_
  simp only [List.take_succ_cons, List.take_zero, List.drop_succ_cons, List.drop_zero]
  repeat still_step
  still_call (HSUM.out _)
  repeat still_step
  refine wpStill_nil ?_
  change wpList _ _ _ _ _ w1.drew
  clear hlk3 k1 q0 q1
  go_wp2_with fail
  go_ret
  exact ⟨rfl, HE.out⟩
set_option maxHeartbeats 2000000 in
set_option maxRecDepth 100000 in
/-- .. on a store that is down. -/
theorem add_down {s : Nat} {S : Sto s} {rm : Nat} {D : Nat → Prop} {w : World} {c x hb : Nat} {ls : List (List KC)} {H : List KC} {n : Nat} (h : Ctr S rm D w c x hb true ls H n) (p : KC) (hp : okP p) (sn vn : Nat) (hsn : sn = p.1 / 4294967296) (hvn : vn = p.1 % 4294967296) (hth : tot H p.1 = 0) (hroom : H.length = rm) (hn9 : n < 9000) (hl9 : ls.length < 9000) :
    Calls Tryz.prog 9 #[.pointer (some ⟨c, 0, none⟩), .int .u32 (sn : Int), .int .u32 (vn : Int), .int .u64 (p.2 : Int)] w fun e w' => e = .returned (.int .i64 6) ∧ ∃ D', Back S rm D w w' c x hb true ls ls H n D' := by
  obtain ⟨cn, hcn⟩ : ∃ cn, cn = p.2 := ⟨_, rfl⟩
  have hcn0 : ((cn : Int) == 0) = false := by have := hp.2.1; simp; omega
  have hcn64 : cn ≤ top64 := by rw [hcn]; exact hp.2.2
  obtain ⟨t, ht⟩ : ∃ t, t = tot H p.1 := ⟨_, rfl⟩
  have ht64 : t ≤ top64 := by rw [ht]; exact h.held.tot_le _
  obtain ⟨V, hV⟩ : ∃ V, V = w.alloc (.cells #[.int .u32 (sn : Int), .int .u32 (vn : Int)] 63) := ⟨_, rfl⟩
  have hBV : Below w.heap.size w V := by rw [hV]; exact (Below.refl _ w).alloc (Nat.le_refl _) _
  obtain ⟨pb, hpb⟩ : ∃ pb, pb = w.heap.size := ⟨_, rfl⟩
  have hbp : Blk V pb 63 #[.int .u32 (sn : Int), .int .u32 (vn : Int)] := by rw [hV, hpb]; exact Blk.new w _ _
  have hV1 := h.later hBV
  have hlk := hV1.map.drewLook p.1 hp.1
  have HPL := Lib.hid (pair_letters hsn hvn)
  have HTT := Lib.hid ht
  have HOK := Lib.hid hp
  rw [pair_letters hsn hvn, ← ht] at hlk
  have hth2 : decide (t ≠ 0) = false := by rw [ht]; simpa using hth
  rw [hth2] at hlk
  have hroom2 : ((H.length : Int) == (rm : Int)) = true := by simp; omega
  obtain ⟨N, hN⟩ : ∃ N, N = H.length := ⟨_, rfl⟩
  have HNE := Lib.hid hN
  have ht0 : t = 0 := by rw [ht]; exact hth
  subst ht0
  have HSUM := Lib.hid (fun w => (sum_any 0 cn (Nat.zero_le _) hcn64 w).mono (R' := fun e w' => e = .returned (.int .u64 ((sat cn : Nat) : Int)) ∧ w' = w) (fun _ _ h => ⟨by have := h.1; rwa [Nat.zero_add] at this, h.2.symm⟩))
  have HPS := Lib.hid (pair_letters hsn hvn)
  have HCN := Lib.hid hcn
  have HBVE := Lib.hid hBV
  have HV1 := Lib.hid hV1
  have HBP := Lib.hid hbp
  have HVE := Lib.hid hV
  have HPB := Lib.hid hpb
  rw [← hN] at hroom2
  rw [← hcn]
  have HNE0 := Lib.hid (show H ≠ [] from fun e => by have := h.rmle.1; rw [e] at hroom; simp at hroom; omega)
  have HN9 := Lib.hid (And.intro hn9 hl9)
  have HPD := Lib.hid (show ∀ g, D g → g < pb from fun g hg => by have := h.lt g hg; omega)
  have HPH := Lib.hid (show hb < pb from by have := h.map.lt; omega)
  clear hN hroom hsn hvn hcn ht hth hth2 hV hpb hp h hV1 hbp hBV hcn64 ht64 hn9 hl9
  go_enter Tryz.func9, Tryz.ntmps9
  go_wp2_with fail
  rw [← HVE.out, ← HPB.out]
  have k1 := HV1.out.blk.cell 1
  have q0 := HBP.out.cell 0
  have q1 := HBP.out.cell 1
  simp at k1 q0 q1
  go_still (by kernel_rfl)
  change Exit.then _ _ _ _ V.drew
  obtain ⟨V1, hV1e⟩ : ∃ V1, V1 = V.drew := ⟨_, rfl⟩
  have hBV1 : Below V.heap.size V V1 := by rw [hV1e]; exact (Below.refl _ V).drew
  rw [← hV1e]
  have HC1 := Lib.hid (HV1.out.later hBV1)
  have HP1 := Lib.hid (HBP.out.below hBV1 HBP.out.lt)
  have HB1 := Lib.hid hBV1
  have hlen : ∀ (m : Nat) (ty : TypeId), (Builtin.len_ #[59] ty #[.map (some hb)]).run Tryz.prog (V1.drewN m) = .ok (.int .i64 (N : Int)) (V1.drewN m) := fun m ty => by rw [HNE.out]; exact HeldAt.len (w := V1.drewN m) HC1.out.map HC1.out.held ty
  have j0 := HC1.out.blk.cell 0
  have j1 := HC1.out.blk.cell 1
  simp at j0 j1
  clear hV1e hBV1 hlk k1 q0 q1
  go_wp2_with fail
  go_quiet (fail)
  obtain ⟨V2, hV2e⟩ : ∃ V2, V2 = V1.drewN nq := ⟨_, rfl⟩
  have hBV2 : Below V1.heap.size V1 V2 := by rw [hV2e]; exact ⟨rfl, rfl, rfl, Nat.le_refl _, fun _ _ => rfl⟩
  rw [← hV2e]
  have hC2 := HC1.out.later hBV2
  have hP2 := HP1.out.below hBV2 HP1.out.lt
  have HC2 := Lib.hid hC2
  have HB2 := Lib.hid (HB1.out.trans (hBV2.mono HB1.out.size))
  have HFL := Lib.hid (flush_down hC2 HNE0.out HN9.out.2)
  clear hV2e hBV2 hC2 hP2 HC1 HP1 HB1 hlen j0 j1
  go_wp2_with fail
  refine HFL.out.mono ?_
  rintro e w1 ⟨rfl, D', hbk⟩
  have HE : Hid (∃ D', Back S rm D w w1 c x hb true ls ls H n D') := Lib.hid ⟨D', hbk.ctr, fun g hg => (hbk.dom g hg).imp id (fun hh => by have := HBVE.out.size; have := HB2.out.size; omega), (Upon.of_below (HBVE.out.trans (HB2.out.mono HBVE.out.size))).trans hbk.upon (fun g hg => .inl hg)⟩
  clear hbk HFL
  go_wp2_with fail
  go_ret
  exact ⟨rfl, HE.out⟩
end Go.Proofs.YtndkohocgfmamaaGreat.Visit

/- Layer 27: merge: records that rise, put together. -/
namespace Go.Proofs.YtndkohocgfmamaaGreat.Visit
open Go.RowKit Go.Deep Mem Crc Go.Proofs.YtndkohocgfmamaaGreat.Sees Go.Proofs.YtndkohocgfmamaaGreat.Merge Go.Proofs.YtndkohocgfmamaaGreat.Round
open Go.Proofs.YtndkohocgfmamaaGreat.Runs (SL sl KeepT mineT Told told Tells Merging merge_sees seq_not_nil own_block not_typed own_not_typed keepsFrom_cells)

attribute [local go_sem] Oper.semAt_some
theorem infoVis : (Tryz.prog.info? 37).map (fun i => (i.zero, i.size, i.bytes)) = some (some (.agg #[.int .u32 0, .int .u32 0, .int .u64 0]), 3, 16) := by kernel_rfl
theorem mstep_length (o : List KC) (p : KC) : (mstep o p).length ≤ o.length + 1 := by
  rcases List.eq_nil_or_concat o with rfl | ⟨o', q, rfl⟩
  · rw [mstep_nil]; simp
  · rw [List.concat_eq_append, mstep_snoc]
    split <;> simp
theorem merged_length (l : List KC) : (merged l).length ≤ l.length := by
  have h : ∀ (l o : List KC), (l.foldl mstep o).length ≤ o.length + l.length := by
    intro l
    induction l with
    | nil => intro o; simp
    | cons a t ih =>
      intro o
      have h1 := ih (mstep o a)
      have h2 := mstep_length o a
      rw [List.foldl_cons, List.length_cons]
      omega
  have := h l []
  unfold merged
  simpa using this
theorem mstep_le {o : List KC} {p : KC} (ho : ∀ q ∈ o, q.2 ≤ top64) (hp : p.2 ≤ top64) : ∀ q ∈ mstep o p, q.2 ≤ top64 := by
  rcases List.eq_nil_or_concat o with rfl | ⟨o', q, rfl⟩
  · rw [mstep_nil]
    intro q hq
    rw [List.mem_singleton.1 hq]; exact hp
  · rw [List.concat_eq_append] at ho ⊢
    rw [mstep_snoc]
    intro r hr
    split at hr
    · rcases List.mem_append.1 hr with hr | hr
      · exact ho r (by simp [hr])
      · rw [List.mem_singleton.1 hr]; exact sat_le _
    · rcases List.mem_append.1 hr with hr | hr
      · exact ho r hr
      · rw [List.mem_singleton.1 hr]; exact hp
theorem merged_le {l : List KC} (h : ∀ p ∈ l, p.2 ≤ top64) : ∀ q ∈ merged l, q.2 ≤ top64 := by
  have go : ∀ (l o : List KC), (∀ p ∈ l, p.2 ≤ top64) → (∀ q ∈ o, q.2 ≤ top64) → ∀ q ∈ l.foldl mstep o, q.2 ≤ top64 := by
    intro l
    induction l with
    | nil => intro o _ ho; exact ho
    | cons a t ih =>
      intro o hl ho
      exact ih (mstep o a) (fun p hp => hl p (by simp [hp])) (mstep_le ho (hl a (by simp)))
  exact go l [] h (fun q hq => by cases hq)
theorem flat_set (o : List KC) (q : KC) (n : Nat) : ((o ++ [q]).flatMap visC).set (o.length * 3 + 2) (.int .u64 (n : Int)) = (o ++ [(q.1, n)]).flatMap visC := by
  have hl : (o.flatMap visC).length = o.length * 3 := Args.flat_len visC 3 o (fun x _ => rfl)
  rw [List.flatMap_append, List.flatMap_append, List.set_append_right _ _ (by rw [hl]; omega), hl, show o.length * 3 + 2 - o.length * 3 = 2 by omega]
  simp [visC]
theorem keeps_set {B0 : Nat} {X Y : World} {g n cap : Nat} {base : Nat} {e : TypeId} {size : Nat} {xs : List Value} (hB : Below X.heap.size X Y) (ho : X.ownsRow base e size (.slice (some ⟨g, 0, none⟩) n cap) n xs) (i : Nat) (u : Value) : KeepsFrom B0 X ((Y.setCell ⟨g, i, none⟩ u).drew) := by
  refine ⟨by have := hB.size; simpa [World.setCell, World.drew] using this, fun k o _ hk hc => ?_⟩
  have hkl := (Array.getElem?_eq_some_iff.1 hk).1
  by_cases e1 : k = g
  · subst e1
    rcases ho.2 with ⟨h, _⟩ | ⟨g', cap', cur, h, _, hgb, _⟩
    · simp at h
    · have e2 : g' = k := by
        injection h with h
        injection h with h
        injection h with h
        exact h.symm
      subst e2
      rw [hgb] at hk
      cases hk
      cases hc
  · exact ((Below.heap_setCell Y ⟨g, i, none⟩ u k e1).trans (hB.block k hkl)).trans hk
/-- The pairs of the records met. -/
def Mg (K : List KC) (pre : List Go.Proofs.YtndkohocgfmamaaGreat.Runs.Told) : List KC := merged (K.take pre.length)
/-- The count of a record's bytes, by letters. -/
theorem count_let (a : Option Addr) (cp : Nat) (p : KC) (hp : okP p) (sn vn cn : Nat) (h1 : sn = p.1 / 4294967296) (h2 : vn = p.1 % 4294967296) (h3 : cn = p.2) (w : World) (hL : Lies w a ((recB p).map bv)) :
    Calls Tryz.prog 51 #[.slice a 16 cp] w fun e w' => e = .returned (.agg #[.int .u32 (sn : Int), .int .u32 (vn : Int), .int .u64 (cn : Int)]) ∧ Below w.heap.size w w' := by
  have := count_any a cp p.1 p.2 (by have := hp.1; unfold top64 at this; omega) (by have := hp.2.2; unfold top64 at this; omega) w hL
  rw [h1, h2, h3]
  exact this
set_option maxHeartbeats 4000000 in
set_option maxRecDepth 100000 in
theorem mergeV_any {w : World} {U : Nat → Prop} {Bs : Nat} {rs : List (SL × List B)} {ad : Addr} {c : Nat} (hM : Merging w U Bs rs ad c) (hUlt : ∀ k, U k → k < w.heap.size) (hrl : rs.length ≤ 1000000) (K : List KC) (hok : ∀ p ∈ K, okP p) (hall : ((rs.map Prod.snd).flatten).Perm (K.map recB)) (hsort : Rises (K.map recB)) (hmax : K.length ≤ 1000000) :
    Calls Tryz.prog 28 #[.func (.func 77) #[] #[.pointer (some ⟨Bs, 0, none⟩)]] w fun e w' => ∃ v, e = .returned v ∧ w'.ownsRow w.heap.size 37 3 v (merged K).length ((merged K).flatMap visC) ∧ Below w.heap.size w w' := by
  obtain ⟨i0, hi0, hzA, hzB, hzC⟩ := info_parts infoVis
  obtain ⟨W1, hW1⟩ : ∃ W1, W1 = w.alloc (.cells #[.slice none 0 0] 22) := ⟨_, rfl⟩
  have hB1 : Below w.heap.size w W1 := by rw [hW1]; exact (Below.refl _ w).alloc (Nat.le_refl _) _
  obtain ⟨tb, htb⟩ : ∃ tb, tb = w.heap.size := ⟨_, rfl⟩
  have hbx : Boxed W1 tb 22 (.slice none 0 0) := by rw [hW1, htb]; exact Boxed.new w _ _
  have hs1 : W1.heap.size = w.heap.size + 1 := by rw [hW1]; simp
  have hM1 : Merging W1 U Bs rs ad c := hM.upon (P := fun _ => False) (Upon.of_below hB1) (fun _ _ h => h)
  have hUlt1 : ∀ k, U k → k < W1.heap.size := fun k hk => by have := hUlt k hk; omega
  have HSEQ := Lib.hid (merge_sees 4 (by omega) Bs (w0 := ⟨W1, U, hUlt1⟩) (s := K.map recB) hM1.row hM1.cap hM1.pos hrl hM1.rows hall hsort (List.Perm.refl _) (fun b hb => by
    obtain ⟨p, _, rfl⟩ := List.mem_map.1 hb
    rw [recB_length]; omega) hM1.box.lt (by have := hM1.box.cell 0; simpa using this))
  have HOK := Lib.hid hok
  have HMAX := Lib.hid hmax
  have HB1 := Lib.hid hB1
  have HBX := Lib.hid hbx
  have HW1 := Lib.hid hW1
  have HTB := Lib.hid htb
  have HS1 := Lib.hid hs1
  have HULT := Lib.hid hUlt
  have hrow0 := Lib.hid (World.ownsRow_nil W1 w.heap.size 37 3)
  clear hM hM1 hUlt hrl hok hall hsort hmax hW1 hB1 hbx hs1 htb
  refine (callsIn_wide (n := 5)).1 ?_
  refine callsIn_of_wp_marks Tryz.func28 rfl trivial ?_ rfl
  simp only [Tryz.ntmps28, List.size_toArray, List.length_cons, List.length_nil, Nat.reduceAdd, Nat.reduceSub, Array.replicate_succ, Array.replicate_zero, List.push_toArray, List.append_toArray, List.nil_append, List.cons_append]
  gi_wp2_with fail
  refine (wpIn_wide (n := 5)).2 (wp_scope_straight ((wpIn_wide (n := 5)).1 ?_))
  gi_wp2_with fail
  rw [← HW1.out, ← HTB.out]
  refine wpIn_label ?_
  gi_wp2_with fail
  refine wpIn_range_sees rfl (by omega) (gf := 77) (lb := #[.pointer (some ⟨Bs, 0, none⟩)]) rfl trivial (enters_of Tryz.func77 (by kernel_rfl) rfl) HSEQ.out ?mine (fun h k => h.trans k) (fun W l o o' hl ho hc _ => KeepT.putObj W l o o' (fun hu => by have := hUlt1 l hu; omega) ho hc) ?vput (Below.refl _ _) (fun _ => rfl)
    (fun pre W => ((∃ v, Boxed W tb 22 v ∧ W.ownsRow w.heap.size 37 3 v (Mg K pre).length ((Mg K pre).flatMap visC) ∧ ∀ g, v.ownBlock = some g → w.heap.size ≤ g) ∧ Below w.heap.size w W) ∧ pre.length ≤ K.length)
    (fun _ _ _ => False)
    (OwnFrom.and (OwnFrom.and (Own.from (holdsRow_own w.heap.size tb 22 37 3 (fun pre : List Go.Proofs.YtndkohocgfmamaaGreat.Runs.Told => (Mg K pre).length) (fun pre => (Mg K pre).flatMap visC) (fun _ v => ∀ g, v.ownBlock = some g → w.heap.size ≤ g)) _) (ownFrom_below (Nat.le_refl _) (by have := HB1.out.size; omega))) (fun _ _ _ _ hs _ _ => hs))
    (fun _ _ _ _ _ hs _ _ => hs) ?imine (fun _ _ _ _ h _ => h)
    ⟨⟨⟨_, HBX.out, hrow0.out, fun g hg => by cases hg⟩, HB1.out⟩, Nat.zero_le _⟩
    (fun y => { tmps := #[.func (.func 77) #[] #[.pointer (some ⟨Bs, 0, none⟩)], undef, .slice none 0 0, .pointer (some ⟨tb, 0, none⟩), sl y.1, undef, undef, .func (.func 77) #[] #[.pointer (some ⟨Bs, 0, none⟩)], sl y.1, undef, undef, undef, undef, undef, undef, undef, undef, undef, undef, undef, undef, undef, undef, undef, undef, undef, undef, undef, undef, undef, undef, undef, undef, undef, undef, undef, undef, undef, undef, undef, undef, undef, undef, undef, undef, undef, undef, undef, undef, undef, undef, undef, undef, undef, undef], defers := [] }) ?assign ?body ?done ?stop
  case mine =>
    intro X Y hf
    refine ⟨hf.size, fun k o hB ho hc => (hf.block k (Array.getElem?_eq_some_iff.1 ho).1 (.inr (fun ⟨cs, t, fr, h1, h2⟩ => ?_))).trans ho⟩
    rw [ho] at h1
    cases h1
    cases hc
  case vput =>
    rintro pre y W l o o' ⟨h1, h2⟩ hl ho hc
    exact ⟨h1, ownsRow_putObj h2 o' ho hc⟩
  case imine =>
    rintro pre X Y ⟨⟨⟨v, hv, hrow, hvb⟩, hB⟩, hlN⟩ hf
    refine ⟨⟨⟨v, hf.keep (t := 22) hv (.inr (by decide)), hf.row hrow (by decide), hvb⟩, hB.trans ⟨hf.os, hf.tape, hf.output, hf.size, fun k hk => hf.block k (Nat.lt_of_lt_of_le hk hB.size) (.inl (by have := HS1.out; show k < W1.heap.size; omega))⟩⟩, hlN⟩
  case assign =>
    intro l y W K hK
    unfold told
    unfold sl at hK ⊢
    gi_wp2
    exact hK
  case body =>
    rintro l pre ⟨⟨xa, xn, xc⟩, b⟩ W ⟨⟨⟨v, hv, hrow, hvb⟩, hB⟩, hlN⟩ hlt ⟨hpre, hO⟩
    obtain ⟨p, hp⟩ : ∃ p, K[pre.length]? = some p := by
      rw [List.length_map] at hlt
      exact ⟨K[pre.length], List.getElem?_eq_getElem hlt⟩
    have hb : b = recB p := by
      obtain ⟨tl, htl⟩ := hpre
      have h1 : (K.map recB)[pre.length]? = some b := by
        rw [← htl]
        simp
      rw [List.getElem?_map, hp] at h1
      exact (Option.some.inj h1).symm
    subst hb
    have hpK := List.mem_of_getElem? hp
    have hokp := HOK.out p hpK
    have hbne : recB p ≠ [] := fun e => by have := recB_length p; rw [e] at this; cases this
    obtain ⟨gb, cb, csb, ey, hgb, hLb, _, _⟩ := own_block hO hbne
    dsimp only at ey
    injection ey with ey1 ey2
    injection ey2 with ey2 ey3
    subst ey1 ey3
    rw [recB_length] at ey2
    subst ey2
    have hMg : ∀ y : Go.Proofs.YtndkohocgfmamaaGreat.Runs.Told, Mg K (pre ++ [y]) = mstep (Mg K pre) p := fun y => by
      unfold Mg
      rw [List.length_append, List.length_cons, List.length_nil, List.take_add_one, hp]
      exact merged_snoc _ _
    have hmle : (Mg K pre).length ≤ K.length := by
      unfold Mg
      exact Nat.le_trans (merged_length _) (by rw [List.length_take]; omega)
    have hlen1 : pre.length + 1 ≤ K.length := (List.getElem?_eq_some_iff.1 hp).1
    obtain ⟨sn, hsn⟩ : ∃ sn, sn = p.1 / 4294967296 := ⟨_, rfl⟩
    obtain ⟨vn, hvn⟩ : ∃ vn, vn = p.1 % 4294967296 := ⟨_, rfl⟩
    obtain ⟨cn, hcn⟩ : ∃ cn, cn = p.2 := ⟨_, rfl⟩
    have HCNT := Lib.hid (count_let (some ⟨gb, 0, none⟩) xc p hokp sn vn cn hsn hvn hcn W hLb)
    obtain ⟨M, hM⟩ : ∃ M, M = Mg K pre := ⟨_, rfl⟩
    rw [← hM] at hrow hmle
    obtain ⟨m, hm⟩ : ∃ m, m = M.length := ⟨_, rfl⟩
    have hrow2 := hrow
    rw [← hm] at hrow2 hmle
    obtain ⟨va, vc, rfl, hmc, hLv, hvl, hvo⟩ := own_shape hrow2
    have hs := hB.size
    have HV := Lib.hid hv
    have HB := Lib.hid hB
    have HROW := Lib.hid hrow2
    have HVB := Lib.hid hvb
    have HMG := Lib.hid hMg
    have HM := Lib.hid hM
    have HMM := Lib.hid hm
    have HOKP := Lib.hid hokp
    have HSN := Lib.hid hsn
    have HVN := Lib.hid hvn
    have HCN := Lib.hid hcn
    have HLN1 := Lib.hid hlen1
    have HLV := Lib.hid hLv
    have hmm : m ≤ 1000000 := Nat.le_trans hmle HMAX.out
    clear hv hB hrow hrow2 hvb hMg hM hm hokp hsn hvn hcn hlen1 hLv hp hpK hO hpre hlt hlN hLb hgb hmle hmc hvl hvo
    unfold sl
    gi_wp2_with fail
    refine ⟨trivial, (CallsIn.inRound l (callsIn_wide.2 HCNT.out)).mono ?_⟩
    rintro e w1 ⟨rfl, hB1⟩
    have hv1 : Boxed w1 tb 22 (.slice va m vc) := (hB1.block tb HV.out.lt).trans HV.out
    have hcs : (w1.alloc (.cells #[.int .u32 (sn : Int), .int .u32 (vn : Int), .int .u64 (cn : Int)] 37)).cell? ⟨tb, 0, none⟩ = some (.slice va m vc) := (hv1.alloc _).cell
    have HB1 := Lib.hid hB1
    clear hB1 hv1 HCNT
    gi_wp2_with fail
    obtain ⟨V, hVe⟩ : ∃ V, V = w1.alloc (.cells #[.int .u32 (sn : Int), .int .u32 (vn : Int), .int .u64 (cn : Int)] 37) := ⟨_, rfl⟩
    obtain ⟨vb, hvb⟩ : ∃ vb, vb = w1.heap.size := ⟨_, rfl⟩
    have hBV : Below W.heap.size W V := by rw [hVe]; exact HB1.out.alloc HB1.out.size _
    have hbv : Blk V vb 37 #[.int .u32 (sn : Int), .int .u32 (vn : Int), .int .u64 (cn : Int)] := by rw [hVe, hvb]; exact Blk.new w1 _ _
    rw [← hVe, ← hvb]
    have hvbl : W.heap.size ≤ vb := by rw [hvb]; exact HB1.out.size
    have hx : Boxed V tb 22 (.slice va m vc) := (hBV.block tb HV.out.lt).trans HV.out
    have c0 := hx.cell
    have k0 := hbv.cell 0
    have k1 := hbv.cell 1
    have k2 := hbv.cell 2
    simp at k0 k1 k2
    have HBV := Lib.hid hBV
    have HBL := Lib.hid hbv
    have HVBL := Lib.hid hvbl
    have HX := Lib.hid hx
    clear hVe hvb hBV hbv hvbl hx hcs HB1
    by_cases hq : ∃ (o : List KC) (q : KC), M = o ++ [q] ∧ q.1 = p.1
    · obtain ⟨o, q, hMo, hqp⟩ := hq
      obtain ⟨k, hk⟩ : ∃ k, m = k + 1 := ⟨o.length, by rw [HMM.out, hMo]; simp⟩
      subst hk
      have hko : o.length = k := by have := HMM.out; rw [hMo] at this; simp at this; omega
      obtain ⟨g, off, hva, q0, q1, q2, hgl⟩ := vis_flat HLV.out (show M[k]? = some q by rw [hMo, ← hko]; simp)
      have hoff : off = 0 := by
        obtain ⟨g', cap', _, e1, _⟩ := HROW.out.2.resolve_left (fun e => by have := e.2; omega)
        injection e1 with e1
        rw [hva] at e1
        injection e1 with e1
        injection e1
      subst hoff
      subst hva
      obtain ⟨qn, hqn⟩ : ∃ qn, qn = q.2 := ⟨_, rfl⟩
      rw [hqp] at q0 q1
      rw [← HSN.out] at q0
      rw [← HVN.out] at q1
      rw [← hqn] at q2
      rw [Nat.zero_add] at q0 q1 q2
      have r0 : V.cell? ⟨g, k * 3, none⟩ = some (.int .u32 (sn : Int)) := (HBV.out.cell (p := ⟨g, k * 3, none⟩) hgl).trans q0
      have r1 : V.cell? ⟨g, k * 3 + 1, none⟩ = some (.int .u32 (vn : Int)) := (HBV.out.cell (p := ⟨g, k * 3 + 1, none⟩) hgl).trans q1
      have r2 : V.cell? ⟨g, k * 3 + 2, none⟩ = some (.int .u64 (qn : Int)) := (HBV.out.cell (p := ⟨g, k * 3 + 2, none⟩) hgl).trans q2
      have HQ := Lib.hid (And.intro hMo (And.intro hqp (And.intro hqn hko)))
      have hw1 : IntKind.i64.wrap (((k + 1 : Nat) : Int) - 1) = (k : Int) := by rw [show ((k + 1 : Nat) : Int) - 1 = k by omega]; exact IntWalk.i64_in _ (by omega)
      have hd0 : decide ((0 : Int) < ((k + 1 : Nat) : Int)) = true := by simp
      have hkl : (k : Int) < ((k + 1 : Nat) : Int) := by omega
      have hk0 : (0 : Int) ≤ (k : Int) := by omega
      clear hMo hqp hqn hko q0 q1 q2
      refine region_round_quiet (by kernel_rfl) (by kernel_rfl) (by kernel_rfl) ?_
      repeat (any_goals (first | go_big_quiet_step (fail) | quiet_step (fail)))
      all_goals (refine wpQuiet_nil ?_; intro _ hw'; obtain ⟨nq, hw''⟩ := hw'; subst hw'')
      obtain ⟨V2, hV2⟩ : ∃ V2, V2 = V.drewN nq := ⟨_, rfl⟩
      have hB2 : Below V.heap.size V V2 := by rw [hV2]; exact ⟨rfl, rfl, rfl, Nat.le_refl _, fun _ _ => rfl⟩
      rw [← hV2]
      have hgV : g < V.heap.size := Nat.lt_of_lt_of_le hgl HBV.out.size
      have b2 := HBL.out.below hB2 HBL.out.lt
      have x2 : Boxed V2 tb 22 (.slice (some ⟨g, 0, none⟩) (k + 1) vc) := (hB2.block tb HX.out.lt).trans HX.out
      have s2 : V2.cell? ⟨g, k * 3 + 2, none⟩ = some (.int .u64 (qn : Int)) := (hB2.cell (p := ⟨g, k * 3 + 2, none⟩) hgV).trans r2
      have c0 := x2.cell
      have k2 := b2.cell 2
      simp at k2
      have hrowV2 : V2.ownsRow w.heap.size 37 3 (.slice (some ⟨g, 0, none⟩) (k + 1) vc) (k + 1) (M.flatMap visC) := own_later (own_later HROW.out HBV.out) hB2
      have fz := hrowV2.frozenAt (k * 3 + 2)
      have hqk : qn ≤ top64 := by
        rw [HQ.out.2.2.1]
        refine merged_le (l := K.take pre.length) (fun p hp => (HOK.out p (List.mem_of_mem_take hp)).2.2) q ?_
        have := HM.out
        unfold Mg at this
        rw [← this, HQ.out.1]
        simp
      have hck : cn ≤ top64 := by rw [HCN.out]; exact HOKP.out.2.2
      have HSUM := Lib.hid (fun w => (sum_any qn cn hqk hck w).mono (R' := fun e w' => e = .returned (.int .u64 ((sat (qn + cn) : Nat) : Int)) ∧ w' = w) (fun _ _ h => ⟨h.1, h.2.symm⟩))
      have HROW2 := Lib.hid hrowV2
      have HB2 := Lib.hid hB2
      have HX2 := Lib.hid x2
      clear hV2 hB2 b2 x2 hrowV2 r0 r1 r2 k0 k1 hqk hck hd0
      gi_wp2_with fail
      have hwk : IntKind.i64.wrap (k : Int) = (k : Int) := IntWalk.i64_in _ (by omega)
      have hkl2 : (k : Int) < (k : Int) + 1 := by omega
      refine region_round_still_tail 14 (by kernel_rfl) (by kernel_rfl) (by kernel_rfl) ?_
      simp only [List.take_succ_cons, List.take_zero, List.drop_succ_cons, List.drop_zero]
      repeat still_step
      still_call (HSUM.out _)
      repeat still_step
      refine wpStill_nil ?_
      change wpList _ _ _ _ _ V2.drew
      go_wp2_with fail
      obtain ⟨V3, hV3⟩ : ∃ V3, V3 = (V2.setCell ⟨g, k * 3 + 2, none⟩ (.int .u64 ((sat (qn + cn) : Nat) : Int))).drew := ⟨_, rfl⟩
      have hst := (HROW2.out.stored (k * 3 + 2) (.int .u64 ((sat (qn + cn) : Nat) : Int))).1
      have hgw := (HROW.out.lt g rfl).1
      have hBW2 : Below W.heap.size W V2 := HBV.out.trans (HB2.out.mono HBV.out.size)
      have hup : Upon (fun x => x = g) W V3 := by
        rw [hV3]
        exact ((Upon.of_below (P := fun x => x = g) hBW2).set (p := ⟨g, k * 3 + 2, none⟩) (.inl rfl) _).drew
      have hne : tb ≠ g := fun e => HX2.out.not_row (by decide) HROW2.out (by rw [e]; rfl)
      have hx3 : Boxed V3 tb 22 (.slice (some ⟨g, 0, none⟩) (k + 1) vc) := by
        rw [hV3]
        exact (Below.heap_setCell V2 ⟨g, k * 3 + 2, none⟩ _ tb hne).trans HX2.out
      have hrow3 : V3.ownsRow w.heap.size 37 3 (.slice (some ⟨g, 0, none⟩) (k + 1) vc) (mstep M p).length ((mstep M p).flatMap visC) := by
        rw [HQ.out.1, mstep_snoc, if_pos HQ.out.2.1]
        have e1 : (o ++ [(q.1, sat (q.2 + p.2))]).length = k + 1 := by rw [List.length_append, HQ.out.2.2.2]; rfl
        rw [e1, ← flat_set o q, HQ.out.2.2.2, ← HQ.out.1, ← HQ.out.2.2.1, ← HCN.out, hV3]
        exact hst
      have hkp : KeepsFrom W1.heap.size W V3 := by
        rw [hV3]
        exact keeps_set hBW2 HROW.out _ _
      have hEND : Hid (KeepsFrom W1.heap.size W V3 ∧ KeepT U mineT W V3 ∧ (((∃ v, Boxed V3 tb 22 v ∧ V3.ownsRow w.heap.size 37 3 v (Mg K (pre ++ [(((some (⟨gb, 0, none⟩ : Addr), 16, xc), recB p) : Go.Proofs.YtndkohocgfmamaaGreat.Runs.Told)])).length ((Mg K (pre ++ [(((some (⟨gb, 0, none⟩ : Addr), 16, xc), recB p) : Go.Proofs.YtndkohocgfmamaaGreat.Runs.Told)])).flatMap visC) ∧ ∀ g, v.ownBlock = some g → w.heap.size ≤ g) ∧ Below w.heap.size w V3) ∧ (pre ++ [(((some (⟨gb, 0, none⟩ : Addr), 16, xc), recB p) : Go.Proofs.YtndkohocgfmamaaGreat.Runs.Told)]).length ≤ K.length)) := Lib.hid ⟨hkp, KeepT.of_upon hup (fun x hx _ => by
        subst hx
        exact ⟨fun hu => by have := HULT.out _ hu; omega, own_not_typed HROW.out (by decide) x rfl⟩), ⟨⟨_, hx3, by rw [HMG.out, ← HM.out]; exact hrow3, fun g' hg' => (hrow3.lt g' hg').1⟩, HB.out.trans (hup.below hs (fun x hx => by rw [hx]; exact hgw))⟩, by rw [List.length_append]; exact HLN1.out⟩
      rw [← hV3]
      clear hst hgw hBW2 hup hne hx3 hrow3 hkp hV3 c0 k2 s2 fz
      refine calm_of ?_
      gi_wp2_with fail
      exact hEND.out
    · have hms : mstep M p = M ++ [p] := by
        rcases List.eq_nil_or_concat M with e | ⟨o, q, e⟩
        · rw [e, mstep_nil]; rfl
        · rw [List.concat_eq_append] at e
          rw [e, mstep_snoc, if_neg (fun h => hq ⟨o, q, e, h⟩)]
      have HMS := Lib.hid hms
      have hread : (decide ((0 : Int) < (m : Int)) = false ∧ m = 0) ∨ (decide ((0 : Int) < (m : Int)) = true ∧ ∃ (k qs qv : Nat) (g : Nat), m = k + 1 ∧ va = some ⟨g, 0, none⟩ ∧ V.cell? ⟨g, k * 3, none⟩ = some (.int .u32 (qs : Int)) ∧ V.cell? ⟨g, k * 3 + 1, none⟩ = some (.int .u32 (qv : Int)) ∧ (qs ≠ sn ∨ (qs = sn ∧ qv ≠ vn))) := by
        rcases Nat.eq_zero_or_pos m with h0 | h0
        · exact .inl ⟨by rw [h0]; simp, h0⟩
        · right
          refine ⟨by simpa using h0, ?_⟩
          obtain ⟨o, q, hMo⟩ : ∃ o q, M = o ++ [q] := by
            rcases List.eq_nil_or_concat M with e | ⟨o, q, e⟩
            · have := HMM.out
              rw [e] at this
              simp at this
              omega
            · exact ⟨o, q, by rw [e, List.concat_eq_append]⟩
          have hk : m = o.length + 1 := by rw [HMM.out, hMo]; simp
          obtain ⟨g, off, hva, q0, q1, q2, hgl⟩ := vis_flat HLV.out (show M[o.length]? = some q by rw [hMo]; simp)
          have hoff : off = 0 := by
            obtain ⟨g', cap', _, e1, _⟩ := HROW.out.2.resolve_left (fun e => by have := e.2; omega)
            injection e1 with e1
            rw [hva] at e1
            injection e1 with e1
            injection e1
          subst hoff
          rw [Nat.zero_add] at q0 q1
          refine ⟨o.length, q.1 / 4294967296, q.1 % 4294967296, g, hk, hva, (HBV.out.cell (p := ⟨g, o.length * 3, none⟩) hgl).trans q0, (HBV.out.cell (p := ⟨g, o.length * 3 + 1, none⟩) hgl).trans q1, ?_⟩
          have hqp : q.1 ≠ p.1 := fun e => hq ⟨o, q, hMo, e⟩
          have h1 := HSN.out
          have h2 := HVN.out
          by_cases e : q.1 / 4294967296 = sn
          · right
            refine ⟨e, fun e2 => hqp ?_⟩
            omega
          · exact .inl e
      clear hq hms
      have HAPP : Hid (∀ V2 : World, Below V.heap.size V V2 → ∀ (w3 : World) (g3 c3 : Nat), w3.ownsRow w.heap.size 37 3 (.slice (some ⟨g3, 0, none⟩) (m + 1) c3) (m + 1) (M.flatMap visC ++ [.int .u32 (sn : Int), .int .u32 (vn : Int), .int .u64 (cn : Int)]) → (V2.alloc (.cells #[.int .u32 (sn : Int), .int .u32 (vn : Int), .int .u64 (cn : Int)] 37)).grownBy w3 (Value.slice va m vc).ownBlock →
          Boxed w3 tb 22 (.slice va m vc) ∧ KeepsFrom W1.heap.size W (w3.setCell ⟨tb, 0, none⟩ (.slice (some ⟨g3, 0, none⟩) (m + 1) c3)) ∧ KeepT U mineT W (w3.setCell ⟨tb, 0, none⟩ (.slice (some ⟨g3, 0, none⟩) (m + 1) c3)) ∧ (((∃ v, Boxed (w3.setCell ⟨tb, 0, none⟩ (.slice (some ⟨g3, 0, none⟩) (m + 1) c3)) tb 22 v ∧ (w3.setCell ⟨tb, 0, none⟩ (.slice (some ⟨g3, 0, none⟩) (m + 1) c3)).ownsRow w.heap.size 37 3 v (Mg K (pre ++ [(((some (⟨gb, 0, none⟩ : Addr), 16, xc), recB p) : Go.Proofs.YtndkohocgfmamaaGreat.Runs.Told)])).length ((Mg K (pre ++ [(((some (⟨gb, 0, none⟩ : Addr), 16, xc), recB p) : Go.Proofs.YtndkohocgfmamaaGreat.Runs.Told)])).flatMap visC) ∧ ∀ g, v.ownBlock = some g → w.heap.size ≤ g) ∧ Below w.heap.size w (w3.setCell ⟨tb, 0, none⟩ (.slice (some ⟨g3, 0, none⟩) (m + 1) c3))) ∧ (pre ++ [(((some (⟨gb, 0, none⟩ : Addr), 16, xc), recB p) : Go.Proofs.YtndkohocgfmamaaGreat.Runs.Told)]).length ≤ K.length)) := Lib.hid (fun V2 hB2 w3 g3 c3 hown3 hg3 => by
        have hBW2 : Below W.heap.size W V2 := HBV.out.trans (hB2.mono HBV.out.size)
        have hrow2 : V2.ownsRow w.heap.size 37 3 (.slice va m vc) m (M.flatMap visC) := own_later (own_later HROW.out HBV.out) hB2
        have hx2 : Boxed V2 tb 22 (.slice va m vc) := (hB2.block tb HX.out.lt).trans HX.out
        have htb : w.heap.size ≤ tb := by rw [HTB.out]; exact Nat.le_refl _
        obtain ⟨a1, a2, a3, a4, a5⟩ := hx2.appended (by decide) hrow2 (by have := hBW2.size; omega) htb hown3 hg3
        have hup : Upon (fun x => x = tb ∨ (Value.slice va m vc).ownBlock = some x) W (w3.setCell ⟨tb, 0, none⟩ (.slice (some ⟨g3, 0, none⟩) (m + 1) c3)) := by
          have h1 : Upon (fun x => x = tb ∨ (Value.slice va m vc).ownBlock = some x) W V2 := Upon.of_below hBW2
          have h2 := h1.trans (Upon.of_below (P := fun x => x = tb ∨ (Value.slice va m vc).ownBlock = some x) ((Below.refl _ V2).alloc (Nat.le_refl _) (.cells #[.int .u32 (sn : Int), .int .u32 (vn : Int), .int .u64 (cn : Int)] 37))) (fun x hx => .inl hx)
          have h3 := h2.trans (Upon.of_grown (P := fun x => x = tb ∨ (Value.slice va m vc).ownBlock = some x) hg3 (fun x hx => .inl (.inr hx))) (fun x hx => .inl hx)
          exact h3.set (p := ⟨tb, 0, none⟩) (.inl (.inl rfl)) _
        have hkf : KeepsFrom W1.heap.size W V2 := ⟨hBW2.size, fun k o _ hk _ => (hBW2.block k (Array.getElem?_eq_some_iff.1 hk).1).trans hk⟩
        refine ⟨a1, hkf.trans (a4.from _), KeepT.of_upon hup (fun x hx _ => ?_), ⟨⟨_, a2, ?_, fun g hg => ?_⟩, HB.out.trans (hup.below hs (fun x hx => ?_))⟩, by rw [List.length_append]; exact HLN1.out⟩
        · rcases hx with rfl | hx
          · exact ⟨fun hu => by have := HULT.out _ hu; omega, not_typed (t := 22) HV.out (by decide)⟩
          · exact ⟨fun hu => by have := HULT.out _ hu; have := (HROW.out.lt x hx).1; omega, own_not_typed HROW.out (by decide) x hx⟩
        · rw [HMG.out, ← HM.out, HMS.out, List.length_append, List.flatMap_append, ← HMM.out]
          have e1 : [p].flatMap visC = [.int .u32 (sn : Int), .int .u32 (vn : Int), .int .u64 (cn : Int)] := by rw [HSN.out, HVN.out, HCN.out]; rfl
          rw [e1]
          exact a3
        · exact (hown3.lt g hg).1
        · rcases hx with rfl | hx
          · exact htb
          · exact (HROW.out.lt x hx).1)
      rcases hread with ⟨t0, h0⟩ | ⟨t0, k, qs, qv, g, hmk, rfl, r0, r1, hdif | ⟨hqs, hdif⟩⟩
      · have tn : decide (0 < m) = false := by rw [h0]; rfl
        clear h0
        refine region_round_quiet (by kernel_rfl) (by kernel_rfl) (by kernel_rfl) ?_
        repeat (any_goals (first | go_big_quiet_step (fail) | quiet_step (fail)))
        refine wpQuiet_nil ?_
        intro _ hw'
        obtain ⟨nq, hw''⟩ := hw'
        subst hw''
        obtain ⟨V2, hV2⟩ : ∃ V2, V2 = V.drewN nq := ⟨_, rfl⟩
        have hB2 : Below V.heap.size V V2 := by rw [hV2]; exact ⟨rfl, rfl, rfl, Nat.le_refl _, fun _ _ => rfl⟩
        rw [← hV2]
        have b2 := HBL.out.below hB2 HBL.out.lt
        have x2 : Boxed V2 tb 22 (.slice va m vc) := (hB2.block tb HX.out.lt).trans HX.out
        have c0 := x2.cell
        have k0 := b2.cell 0
        have k1 := b2.cell 1
        have k2 := b2.cell 2
        simp at k0 k1 k2
        have hrowV2 : V2.ownsRow w.heap.size 37 3 (.slice va m vc) m (M.flatMap visC) := own_later (own_later HROW.out HBV.out) hB2
        have hz2 : w.heap.size ≤ V2.heap.size := Nat.le_trans (Nat.le_trans hs HBV.out.size) hB2.size
        have cA : (V2.alloc (.cells #[.int .u32 (sn : Int), .int .u32 (vn : Int), .int .u64 (cn : Int)] 37)).cell? ⟨tb, 0, none⟩ = some (.slice va m vc) := (x2.alloc _).cell
        have HROW2 := Lib.hid hrowV2
        have HB2 := Lib.hid hB2
        have HNEW := Lib.hid (lies_add (new_lies V2 37 #[.int .u32 (sn : Int), .int .u32 (vn : Int), .int .u64 (cn : Int)]))
        clear hV2 hB2 b2 x2 hrowV2 t0 tn 
        gi_wp2_with (first
          | (gi_at_builtin
             refine wpListIn_append_lies _ rfl _ _ 22 rfl w.heap.size 37 i0 (.agg #[.int .u32 0, .int .u32 0, .int .u64 0]) 3 16 Tryz.underlying22 hi0 hzA hzB hzC rfl (by decide) _ _ _ rfl (HROW2.out.alloc _) ⟨V2.heap.size, 0, none⟩ 1 1 [.int .u32 (sn : Int), .int .u32 (vn : Int), .int .u64 (cn : Int)] rfl rfl HNEW.out (by simp [Value.oneCell']) (by decide) (by unfold maxLen; omega) (by omega) (by rw [World.size_alloc]; omega) ?_
             intro g3 c3 w3 hown3 hg3 hat3 hlt3
             have hap := HAPP.out V2 HB2.out w3 g3 c3 hown3 hg3
             have g1 := hap.1.cell
             have g2 := hap.1.frozen
             have HE := Lib.hid hap.2
             clear hap hown3 hg3 hat3 hlt3)
          | gi_round_op_a)
        exact HE.out
      · have hne : ((qs : Int) == (sn : Int)) = false := by simpa using fun e : (qs : Int) = sn => hdif (by omega)
        have hwm : IntKind.i64.wrap ((m : Int) - 1) = (k : Int) := by rw [show (m : Int) - 1 = k by omega]; exact IntWalk.i64_in _ (by omega)
        have hkl : (k : Int) < (m : Int) := by omega
        have hk0 : (0 : Int) ≤ (k : Int) := by omega
        have tn : decide (0 < m) = true := by rw [hmk]; simp
        clear hmk hdif
        refine region_round_quiet (by kernel_rfl) (by kernel_rfl) (by kernel_rfl) ?_
        repeat (any_goals (first | go_big_quiet_step (fail) | quiet_step (fail)))
        refine wpQuiet_nil ?_
        intro _ hw'
        obtain ⟨nq, hw''⟩ := hw'
        subst hw''
        obtain ⟨V2, hV2⟩ : ∃ V2, V2 = V.drewN nq := ⟨_, rfl⟩
        have hB2 : Below V.heap.size V V2 := by rw [hV2]; exact ⟨rfl, rfl, rfl, Nat.le_refl _, fun _ _ => rfl⟩
        rw [← hV2]
        have b2 := HBL.out.below hB2 HBL.out.lt
        have x2 : Boxed V2 tb 22 (.slice (some ⟨g, 0, none⟩) m vc) := (hB2.block tb HX.out.lt).trans HX.out
        have c0 := x2.cell
        have k0 := b2.cell 0
        have k1 := b2.cell 1
        have k2 := b2.cell 2
        simp at k0 k1 k2
        have hrowV2 : V2.ownsRow w.heap.size 37 3 (.slice (some ⟨g, 0, none⟩) m vc) m (M.flatMap visC) := own_later (own_later HROW.out HBV.out) hB2
        have hz2 : w.heap.size ≤ V2.heap.size := Nat.le_trans (Nat.le_trans hs HBV.out.size) hB2.size
        have cA : (V2.alloc (.cells #[.int .u32 (sn : Int), .int .u32 (vn : Int), .int .u64 (cn : Int)] 37)).cell? ⟨tb, 0, none⟩ = some (.slice (some ⟨g, 0, none⟩) m vc) := (x2.alloc _).cell
        have HROW2 := Lib.hid hrowV2
        have HB2 := Lib.hid hB2
        have HNEW := Lib.hid (lies_add (new_lies V2 37 #[.int .u32 (sn : Int), .int .u32 (vn : Int), .int .u64 (cn : Int)]))
        clear hV2 hB2 b2 x2 hrowV2 t0 tn hne hwm hkl hk0 r0 r1
        gi_wp2_with (first
          | (gi_at_builtin
             refine wpListIn_append_lies _ rfl _ _ 22 rfl w.heap.size 37 i0 (.agg #[.int .u32 0, .int .u32 0, .int .u64 0]) 3 16 Tryz.underlying22 hi0 hzA hzB hzC rfl (by decide) _ _ _ rfl (HROW2.out.alloc _) ⟨V2.heap.size, 0, none⟩ 1 1 [.int .u32 (sn : Int), .int .u32 (vn : Int), .int .u64 (cn : Int)] rfl rfl HNEW.out (by simp [Value.oneCell']) (by decide) (by unfold maxLen; omega) (by omega) (by rw [World.size_alloc]; omega) ?_
             intro g3 c3 w3 hown3 hg3 hat3 hlt3
             have hap := HAPP.out V2 HB2.out w3 g3 c3 hown3 hg3
             have g1 := hap.1.cell
             have g2 := hap.1.frozen
             have HE := Lib.hid hap.2
             clear hap hown3 hg3 hat3 hlt3)
          | gi_round_op_a)
        exact HE.out
      · rw [hqs] at r0
        have hne : ((qv : Int) == (vn : Int)) = false := by simpa using fun e : (qv : Int) = vn => hdif (by omega)
        have hwm : IntKind.i64.wrap ((m : Int) - 1) = (k : Int) := by rw [show (m : Int) - 1 = k by omega]; exact IntWalk.i64_in _ (by omega)
        have hkl : (k : Int) < (m : Int) := by omega
        have hk0 : (0 : Int) ≤ (k : Int) := by omega
        have tn : decide (0 < m) = true := by rw [hmk]; simp
        clear hmk hdif hqs
        refine region_round_quiet (by kernel_rfl) (by kernel_rfl) (by kernel_rfl) ?_
        repeat (any_goals (first | go_big_quiet_step (fail) | quiet_step (fail)))
        refine wpQuiet_nil ?_
        intro _ hw'
        obtain ⟨nq, hw''⟩ := hw'
        subst hw''
        obtain ⟨V2, hV2⟩ : ∃ V2, V2 = V.drewN nq := ⟨_, rfl⟩
        have hB2 : Below V.heap.size V V2 := by rw [hV2]; exact ⟨rfl, rfl, rfl, Nat.le_refl _, fun _ _ => rfl⟩
        rw [← hV2]
        have b2 := HBL.out.below hB2 HBL.out.lt
        have x2 : Boxed V2 tb 22 (.slice (some ⟨g, 0, none⟩) m vc) := (hB2.block tb HX.out.lt).trans HX.out
        have c0 := x2.cell
        have k0 := b2.cell 0
        have k1 := b2.cell 1
        have k2 := b2.cell 2
        simp at k0 k1 k2
        have hrowV2 : V2.ownsRow w.heap.size 37 3 (.slice (some ⟨g, 0, none⟩) m vc) m (M.flatMap visC) := own_later (own_later HROW.out HBV.out) hB2
        have hz2 : w.heap.size ≤ V2.heap.size := Nat.le_trans (Nat.le_trans hs HBV.out.size) hB2.size
        have cA : (V2.alloc (.cells #[.int .u32 (sn : Int), .int .u32 (vn : Int), .int .u64 (cn : Int)] 37)).cell? ⟨tb, 0, none⟩ = some (.slice (some ⟨g, 0, none⟩) m vc) := (x2.alloc _).cell
        have HROW2 := Lib.hid hrowV2
        have HB2 := Lib.hid hB2
        have HNEW := Lib.hid (lies_add (new_lies V2 37 #[.int .u32 (sn : Int), .int .u32 (vn : Int), .int .u64 (cn : Int)]))
        clear hV2 hB2 b2 x2 hrowV2 t0 tn hne hwm hkl hk0 r0 r1
        gi_wp2_with (first
          | (gi_at_builtin
             refine wpListIn_append_lies _ rfl _ _ 22 rfl w.heap.size 37 i0 (.agg #[.int .u32 0, .int .u32 0, .int .u64 0]) 3 16 Tryz.underlying22 hi0 hzA hzB hzC rfl (by decide) _ _ _ rfl (HROW2.out.alloc _) ⟨V2.heap.size, 0, none⟩ 1 1 [.int .u32 (sn : Int), .int .u32 (vn : Int), .int .u64 (cn : Int)] rfl rfl HNEW.out (by simp [Value.oneCell']) (by decide) (by unfold maxLen; omega) (by omega) (by rw [World.size_alloc]; omega) ?_
             intro g3 c3 w3 hown3 hg3 hat3 hlt3
             have hap := HAPP.out V2 HB2.out w3 g3 c3 hown3 hg3
             have g1 := hap.1.cell
             have g2 := hap.1.frozen
             have HE := Lib.hid hap.2
             clear hap hown3 hg3 hat3 hlt3)
          | gi_round_op_a)
        exact HE.out
  case done =>
    rintro Dk ys W hD hys ⟨⟨⟨v, hv, hrow, _⟩, hB⟩, hlN⟩ hK
    have hlen : ys.length = K.length := by
      have := congrArg List.length hys
      rw [List.length_map, List.length_map] at this
      exact this
    have hmg : Mg K ys = merged K := by unfold Mg; rw [hlen, List.take_length]
    rw [hmg] at hrow
    have c1 := hv.cell
    have g0 := (Go.Proofs.YtndkohocgfmamaaGreat.Runs.boxed_put (.deferred none) hv hK rfl).cell
    have HK := Lib.hid hK
    have HB := Lib.hid hB
    have HROW := Lib.hid hrow
    have hDW := (Array.getElem?_eq_some_iff.1 hK).1
    obtain ⟨va, vc, rfl, _, _, _, _⟩ := own_shape hrow
    clear hK hB hv hrow hlen hys hmg
    dsimp only
    gi_wp2
    go_wp2_with fail
    rw [Exit.noGoto_ret]
    refine ⟨by simp, .inl ⟨_, _, rfl, run_takeDeferred HK.out, ?_⟩⟩
    refine ⟨.slice va (merged K).length vc, by simp [results, Tryz.f28, Tryz.results28, go_sem], _, rfl, ?_, ?_⟩
    · exact ownsRow_putObj HROW.out _ HK.out rfl
    · exact HB.out.trans ((Below.refl _ W).grown (grownBy_putObj' W Dk _) (by have := HB.out.size; omega) (fun q e => by cases e; have := HS1.out; omega))
  case stop =>
    rintro Dk c pre W hD _ hI hK
    exact hI.elim
end Go.Proofs.YtndkohocgfmamaaGreat.Visit

/- Layer 27: All. -/
namespace Go.Proofs.YtndkohocgfmamaaGreat.Visit
open Go.RowKit Go.Deep Mem Crc Go.Proofs.YtndkohocgfmamaaGreat.Merge
open Go.Proofs.YtndkohocgfmamaaGreat.Runs (LiveIn fiV Mid in_rows SL sortB_perm sortB_rises)
open Go.Proofs.YtndkohocgfmamaaGreat.Store (Sto)

attribute [local go_sem] Oper.semAt_some
/-- What All leaves behind: the counter, and the visits in the variable at b2. -/
structure Told2 {s : Nat} (S : Sto s) (rm : Nat) (D : Nat → Prop) (w W : World) (c x hb b2 : Nat) (off : Bool) (ls : List (List KC)) (H : List KC) (n : Nat) (D' : Nat → Prop) (K : List KC) (v : Value) : Prop where
  ctr : Ctr S rm D' W c x hb off ls H n
  dom : ∀ g, D' g → D g ∨ w.heap.size ≤ g
  upon : Upon (fun g => D g ∨ g = b2) w W
  perm : K.Perm (H ++ ls.flatten)
  rises : K.Pairwise (fun p q => p.1 ≤ q.1)
  box : Boxed W b2 22 v
  row : W.ownsRow w.heap.size 37 3 v (merged K).length ((merged K).flatMap visC)
theorem enters_all1 (args : Array Value) (w : World) : (callFunc 26 args).run Tryz.prog w = .ok (.enter 26 args) w := enters_of Tryz.func26 (by kernel_rfl) rfl args w
set_option maxHeartbeats 2000000 in
set_option maxRecDepth 100000 in
/-- The closure of All. -/
theorem all1_any {s : Nat} {S : Sto s} {rm : Nat} {D : Nat → Prop} {w : World} {c x hb b1 b2 : Nat} {off : Bool} {ls : List (List KC)} {H : List KC} {n : Nat} (h : Ctr S rm D w c x hb off ls H n) (hb1 : Boxed w b1 28 (.pointer (some ⟨c, 0, none⟩))) (hb2 : Boxed w b2 22 (.slice none 0 0)) (h1D : ¬ D b1) (h2D : ¬ D b2)
    (hok : ∀ l ∈ ls, ∀ p ∈ l, okP p) (hl : ls.length ≤ 1000) (hoff : off = false ∨ ls = []) (hmax : (H ++ ls.flatten).length ≤ 1000000) {W : World} {pre : List KC} {D1 : Nat → Prop} (hp : pre.Perm H) (hL : Lent S rm D w W w.heap.size x off ls pre n D1) :
    Calls Tryz.prog 26 #[.pointer (some ⟨b1, 0, none⟩), .pointer (some ⟨b2, 0, none⟩)] W fun e W' => ∃ rr v, e = .returned (.int .i64 rr) ∧ W'.cell? ⟨x, 6, none⟩ = some v ∧ W'.frozen? ⟨x, 6, none⟩ = false ∧ rr = 0 ∧ ∃ D' K u, Told2 S rm D w (W'.setCell ⟨x, 6, none⟩ (.slice none 0 0)) c x hb b2 off ls H n D' K u := by
  have hR := in_rows hL.live (by rw [List.length_map]; exact hl) (hoff.imp id (fun e => by rw [e]; rfl))
  have hbc := h.blk.upon hL.upon h.cD
  have hx1 : Boxed W b1 28 (.pointer (some ⟨c, 0, none⟩)) := (hL.upon.block b1 hb1.lt h1D).trans hb1
  have hx2 : Boxed W b2 22 (.slice none 0 0) := (hL.upon.block b2 hb2.lt h2D).trans hb2
  have k1 := hx1.cell
  have k2 := hbc.cell 2
  simp at k2
  -- the pairs, rising
  have hokR : ∀ p ∈ pre ++ ls.flatten, okP p := fun p hpm => by
    rcases List.mem_append.1 hpm with hpm | hpm
    · exact h.held.ok p (hp.mem_iff.1 hpm)
    · obtain ⟨l, hl, hpm⟩ := List.mem_flatten.1 hpm
      exact hok l hl p hpm
  obtain ⟨K, hK1, hK2, hK3⟩ := sorted_pairs hokR
  have hKp : K.Perm (H ++ ls.flatten) := hK2.trans (List.Perm.append_right _ hp)
  have HROWS := Lib.hid hR
  have HH := Lib.hid h
  have HLE := Lib.hid hL
  have HX2 := Lib.hid hx2
  have HK := Lib.hid (And.intro hK1 (And.intro hK2 (And.intro hK3 hKp)))
  have HOKR := Lib.hid hokR
  have HMX := Lib.hid (show K.length ≤ 1000000 from by rw [hKp.length_eq]; exact hmax)
  have HB := Lib.hid (And.intro hb1.lt (And.intro hb2.lt (And.intro h1D h2D)))
  clear h hb1 hb2 h1D h2D hok hoff hmax hp hL hR hbc hx1 hx2 hokR hK1 hK2 hK3 hKp
  go_enter Tryz.func26, Tryz.ntmps26
  go_wp2_with fail
  refine HROWS.out.mono ?_
  rintro e w1 ⟨Bs, rs, ad, cc, rfl, hM, hrl, hperm, hBw1⟩
  have hflat : ((ls.map (fun l => l.map recB)).flatten) = (ls.flatten).map recB := by rw [List.map_flatten]
  have hall : ((rs.map Prod.snd).flatten).Perm (K.map recB) := by
    refine hperm.trans ?_
    rw [hflat, ← List.map_append]
    exact ((HK.out.2.1).map recB).symm
  have hrise : Rises (K.map recB) := by rw [← HK.out.1]; exact sortB_rises _
  have hDlt := HLE.out.lt
  have HMG := Lib.hid (mergeV_any hM (fun g hg => by
    rcases hg with hg | hg
    · have := hDlt g hg
      have := hBw1.size
      omega
    · exact hg.2) (by rw [hrl, List.length_map]; omega) K (fun p hpm => HOKR.out p (HK.out.2.1.mem_iff.1 hpm)) hall hrise HMX.out)
  have HB1 := Lib.hid hBw1
  clear hM hrl hperm hBw1 hflat hall hrise hDlt k1 k2 HROWS
  go_wp2_with fail
  refine HMG.out.mono ?_
  rintro e w2 ⟨v, rfl, hrow, hBw2⟩
  have hBB : Below W.heap.size W w2 := HB1.out.trans (hBw2.mono HB1.out.size)
  have hx2 : Boxed w2 b2 22 (.slice none 0 0) := (hBB.block b2 HX2.out.lt).trans HX2.out
  have k3 := hx2.cell
  have f3 := hx2.frozen
  have HROW := Lib.hid hrow
  have HBB := Lib.hid hBB
  have HX22 := Lib.hid hx2
  obtain ⟨va, vc, rfl, _, _, _, _⟩ := own_shape hrow
  clear hrow hBw2 hBB hx2 HMG
  go_wp2_with fail
  go_ret
  obtain ⟨W3, hW3⟩ : ∃ W3, W3 = w2.setCell ⟨b2, 0, none⟩ (.slice va (merged K).length vc) := ⟨_, rfl⟩
  rw [← hW3]
  have hD1 : ∀ g, D1 g → D g ∨ w.heap.size ≤ g := fun g hg => (HLE.out.dom g hg).imp id (fun hh => by omega)
  have h2D1 : ¬ D1 b2 := fun hg => (hD1 b2 hg).elim HB.out.2.2.2 (fun hh => by have := HB.out.2.1; omega)
  have huW : Upon (fun g => g = b2) W W3 := by
    rw [hW3]
    exact (Upon.of_below (P := fun g => g = b2) HBB.out).set (p := ⟨b2, 0, none⟩) (.inl rfl) _
  have hlv := HLE.out.live.keep huW (fun g hg e => h2D1 (e ▸ hg))
  obtain ⟨h1, h2, h3, h4⟩ := hlv.forget
  obtain ⟨vx, hvx⟩ := Option.ne_none_iff_exists'.1 h1
  have hzz := HLE.out.upon.size
  have hz3 : W.heap.size ≤ W3.heap.size := huW.size
  have hup : Upon (fun g => D g ∨ g = b2) w (W3.setCell ⟨x, 6, none⟩ (.slice none 0 0)) := by
    have e1 : Upon (fun g => D g ∨ g = b2) w W := HLE.out.upon.mono (fun g hg => .inl hg)
    exact (e1.trans huW (fun g hg => .inl (.inr hg))).set (p := ⟨x, 6, none⟩) ((hD1 x h3).imp (fun h => .inl h) id) _
  have hxb : b2 ≠ x := fun e => h2D1 (e ▸ h3)
  have hxr : (Value.slice va (merged K).length vc).ownBlock ≠ some x := fun e => by
    have h5 := (HROW.out.lt x e).1
    have h6 := HLE.out.lt x h3
    have := HB1.out.size
    omega
  have hbr : (Value.slice va (merged K).length vc).ownBlock ≠ some b2 := fun e => HX22.out.not_row (by decide) HROW.out (by rw [e])
  have hcb : b2 ≠ c := fun e => by
    have hc := HH.out.blk.upon HLE.out.upon HH.out.cD
    have hx := HX2.out
    unfold Blk at hc
    unfold Boxed at hx
    rw [e, hc] at hx
    injection hx with hx
    injection hx with _ hx
    cases hx
  have hhb : b2 ≠ hb := fun e => by
    obtain ⟨f, ⟨Dm, nm, ⟨es, cl, hbm, _⟩, _⟩, _⟩ := HH.out.map.keep (HLE.out.upon.block hb HH.out.map.lt HH.out.hD)
    have hx := HX2.out
    unfold Boxed at hx
    rw [e, hbm] at hx
    cases hx
  refine ⟨0, vx, by simp, hvx, h2, rfl, D1, K, .slice va (merged K).length vc, ⟨⟨?_, h4, ?_, HH.out.held, HH.out.room, ?_, ?_, HH.out.hc, HH.out.rmle, ?_⟩, hD1, hup, HK.out.2.2.2, HK.out.2.2.1, ?_, ?_⟩⟩
  · exact HH.out.blk.upon hup (fun hg => hg.elim HH.out.cD (fun e => hcb e.symm))
  · exact HH.out.map.keep (hup.block hb HH.out.map.lt (fun hg => hg.elim HH.out.hD (fun e => hhb e.symm)))
  · exact fun hg => (hD1 c hg).elim HH.out.cD (fun hh => by have := HH.out.blk.lt; omega)
  · exact fun hg => (hD1 hb hg).elim HH.out.hD (fun hh => by have := HH.out.map.lt; omega)
  · intro g hg
    have := HLE.out.lt g hg
    have : g < W3.heap.size := by omega
    simpa [World.setCell] using this
  · have hx3 : Boxed W3 b2 22 (.slice va (merged K).length vc) := by rw [hW3]; exact HX22.out.set _
    exact (Below.heap_setCell W3 ⟨x, 6, none⟩ _ b2 hxb).trans hx3
  · have hr3 : W3.ownsRow w1.heap.size 37 3 (.slice va (merged K).length vc) (merged K).length ((merged K).flatMap visC) := by rw [hW3]; exact own_far HROW.out hbr _
    exact own_mono (own_far hr3 (p := ⟨x, 6, none⟩) hxr _) (by have := HB1.out.size; omega)
/-- What All answers, and the counter behind it. -/
structure AllAt {s : Nat} (S : Sto s) (rm : Nat) (D : Nat → Prop) (w W : World) (c x hb : Nat) (off : Bool) (ls : List (List KC)) (H : List KC) (n : Nat) (D' : Nat → Prop) (K : List KC) (v : Value) : Prop where
  ctr : Ctr S rm D' W c x hb off ls H n
  dom : ∀ g, D' g → D g ∨ w.heap.size ≤ g
  upon : Upon D w W
  perm : K.Perm (H ++ ls.flatten)
  rises : K.Pairwise (fun p q => p.1 ≤ q.1)
  row : W.ownsRow w.heap.size 37 3 v (merged K).length ((merged K).flatMap visC)
set_option maxHeartbeats 2000000 in
set_option maxRecDepth 100000 in
theorem all_any {s : Nat} {S : Sto s} {rm : Nat} {D : Nat → Prop} {w : World} {c x hb : Nat} {off : Bool} {ls : List (List KC)} {H : List KC} {n : Nat} (h : Ctr S rm D w c x hb off ls H n) (hok : ∀ l ∈ ls, ∀ p ∈ l, okP p) (hl : ls.length ≤ 1000) (hoff : off = false ∨ ls = []) (hmax : (H ++ ls.flatten).length ≤ 1000000) :
    Calls Tryz.prog 12 #[.pointer (some ⟨c, 0, none⟩)] w fun e w' => ∃ D' K v, e = .returned (.tuple #[v, .int .i64 0]) ∧ AllAt S rm D w w' c x hb off ls H n D' K v := by
  obtain ⟨W0, hW0⟩ : ∃ W0, W0 = (w.alloc (.cells #[.pointer (some ⟨c, 0, none⟩)] 28)).alloc (.cells #[.slice none 0 0] 22) := ⟨_, rfl⟩
  have hB0 : Below w.heap.size w W0 := by rw [hW0]; exact ((Below.refl _ w).alloc (Nat.le_refl _) _).alloc (by simp) _
  have hx1 : Boxed W0 w.heap.size 28 (.pointer (some ⟨c, 0, none⟩)) := by rw [hW0]; exact (Boxed.new w _ _).alloc _
  have hx2 : Boxed W0 (w.heap.size + 1) 22 (.slice none 0 0) := by
    have := Boxed.new (w.alloc (.cells #[.pointer (some ⟨c, 0, none⟩)] 28)) 22 (.slice none 0 0)
    rw [World.size_alloc] at this
    rw [hW0]
    exact this
  have h0 := h.later hB0
  have HLN := Lib.hid (lends_any h0 h0.lt 26 #[] #[.pointer (some ⟨w.heap.size, 0, none⟩), .pointer (some ⟨w.heap.size + 1, 0, none⟩)] enters_all1 (fun rr W => rr = 0 ∧ ∃ D' K u, Told2 S rm D W0 W c x hb (w.heap.size + 1) off ls H n D' K u) (fun pre D1 W hp hL => all1_any h0 hx1 hx2 (fun hg => by have := h.lt _ hg; omega) (fun hg => by have := h.lt _ hg; omega) hok hl hoff hmax hp hL))
  have HB0 := Lib.hid hB0
  have HW0 := Lib.hid hW0
  have hmf : ∀ (fn : Fn) (first cap : Array Value) (w : World), (Instr.makeFunc fn first cap).run Tryz.prog w = .ok (.func fn first cap) w := fun _ _ _ _ => rfl
  clear h hok hl hoff hmax hB0 hx1 hx2 h0 hW0
  go_enter Tryz.func12, Tryz.ntmps12
  go_wp2_with fail
  rw [← HW0.out]
  refine HLN.out.mono ?_
  rintro e w1 ⟨rr, rfl, rfl, D', K, u, ht⟩
  have k2 := ht.box.cell
  have hz0 := HB0.out.size
  have HE : Hid (AllAt S rm D w w1 c x hb off ls H n D' K u) := Lib.hid ⟨ht.ctr, fun g hg => (ht.dom g hg).imp id (fun hh => by omega), (Upon.of_below (P := D) HB0.out).trans ht.upon (fun g hg => hg.imp id (fun e => by omega)), ht.perm, ht.rises, own_mono ht.row hz0⟩
  obtain ⟨va, vc, rfl, _, _, _, _⟩ := own_shape ht.row
  clear ht hz0 HLN
  go_wp2_with fail
  go_ret2
  exact ⟨D', K, _, rfl, HE.out⟩
end Go.Proofs.YtndkohocgfmamaaGreat.Visit

/- palmerlaw27: a counter as the laws use it; begin; awake. -/
namespace Go.Proofs.YtndkohocgfmamaaGreat.Visit
open Go.RowKit Go.Deep Mem Crc Go.Proofs.YtndkohocgfmamaaGreat.Merge
open Go.Proofs.YtndkohocgfmamaaGreat.Runs (noF bare_new bare_off)
open Go.Proofs.YtndkohocgfmamaaGreat.Store (Sto bare St none')
open Go.Proofs.YtndkohocgfmamaaGreat.Disk (Blank)

attribute [local go_sem] Oper.semAt_some
set_option maxHeartbeats 400000 in
theorem begin_any (w : World) :
    Calls Tryz.prog 6 #[] w fun e w' => ∃ d s g cm Q, e = .returned (.tuple #[.pointer (some ⟨d, 0, none⟩), .pointer (some ⟨s, 0, none⟩), .bool true]) ∧ St w' Q s d g 400 cm false none' ∧ (∀ k, Q k → w.heap.size ≤ k) ∧ Below w.heap.size w w' := by
  have HN : Hid (Calls Tryz.prog 20 #[.int .i64 400] w fun e w' => ∃ d g, e = .returned (.tuple #[.pointer (some ⟨d, 0, none⟩), .int .i64 0]) ∧ Blank w' d g 400 false ∧ w.heap.size ≤ d ∧ w.heap.size ≤ g ∧ Below w.heap.size w w') := Lib.hid (Go.Proofs.YtndkohocgfmamaaGreat.Disk.new_any 400 w (by decide) (by decide))
  go_enter Tryz.func6, Tryz.ntmps6
  go_wp2_with fail
  refine HN.out.mono ?_
  rintro e w1 ⟨d, g, rfl, hD, hd, hg, hB1⟩
  have HO := Lib.hid (Go.Proofs.YtndkohocgfmamaaGreat.Store.open_any (N := 400) (by decide) hD)
  have HB1 := Lib.hid hB1
  clear hD hB1
  go_wp2_with fail
  refine HO.out.mono ?_
  rintro e w2 ⟨s, cm, rfl, hst, hs, hcm, hB2⟩
  have HST := Lib.hid hst
  have HB2 := Lib.hid hB2
  clear hst hB2
  go_wp2_with fail
  have := HB1.out.size
  refine bodyPost_ret (v := .tuple #[.pointer (some ⟨d, 0, none⟩), .pointer (some ⟨s, 0, none⟩), .bool true]) (by simp [results, Tryz.results6, go_sem]) rfl ⟨d, s, g, cm, _, rfl, HST.out, fun k hk => ?_, HB1.out.trans (HB2.out.mono this)⟩
  rcases hk with rfl | rfl | rfl | rfl <;> omega
/-- A counter to which V was added; all its blocks lie from B0 on. -/
def Cn {s : Nat} (S : Sto s) (rm B0 : Nat) (w : World) (c : Nat) (V : List KC) (n : Nat) : Prop := ∃ D x hb ls H m, Ctr S rm D w c x hb false ls H m ∧ Sums V (H ++ ls.flatten) ∧ (∀ g, D g ∨ g = c ∨ g = hb → B0 ≤ g) ∧ m ≤ n ∧ ls.length ≤ n ∧ (H ++ ls.flatten).length ≤ n
theorem Cn.later {s : Nat} {S : Sto s} {rm B0 : Nat} {w w' : World} {c : Nat} {V : List KC} {n : Nat} (h : Cn S rm B0 w c V n) (hB : Below w.heap.size w w') : Cn S rm B0 w' c V n := by
  obtain ⟨D, x, hb, ls, H, m, h1, h2⟩ := h
  exact ⟨D, x, hb, ls, H, m, h1.later hB, h2⟩
theorem Cn.rm {s : Nat} {S : Sto s} {rm B0 : Nat} {w : World} {c : Nat} {V : List KC} {n : Nat} (h : Cn S rm B0 w c V n) : c < w.heap.size := by
  obtain ⟨D, x, hb, ls, H, m, h1, _⟩ := h
  exact h1.blk.lt
theorem cn_new {d s g cm : Nat} {w : World} {Q : Nat → Prop} (h : St w Q s d g 400 cm false none') (B0 : Nat) (hQ : ∀ k, Q k → B0 ≤ k) (hB0 : B0 ≤ w.heap.size) (rm : Nat) (h3 : 1 ≤ rm) (h4 : rm ≤ 4096) :
    Calls Tryz.prog 7 #[.pointer (some ⟨s, 0, none⟩), .string ⟨#[118]⟩, .int .i64 (rm : Int)] w fun e w' => ∃ c, e = .returned (.tuple #[.pointer (some ⟨c, 0, none⟩), .int .i64 0]) ∧ Cn (bare s d g 400 cm) rm B0 w' c [] 0 ∧ Below w.heap.size w w' := by
  refine (new_any' h B0 hQ hB0 rm h3 h4).mono ?_
  rintro e w' ⟨c, x, hb, D, rfl, hc, hD, hB⟩
  exact ⟨c, rfl, ⟨D, x, hb, [], [], 0, hc, sums_nil, hD, Nat.le_refl _, Nat.le_refl _, Nat.le_refl _⟩, hB⟩
theorem cn_held {s : Nat} {S : Sto s} {rm B0 : Nat} {w : World} {c : Nat} {V : List KC} {n : Nat} (h : Cn S rm B0 w c V n) :
    Calls Tryz.prog 10 #[.pointer (some ⟨c, 0, none⟩)] w fun e w' => (∃ N : Nat, N ≤ rm ∧ e = .returned (.int .i64 (N : Int))) ∧ w = w' := by
  obtain ⟨D, x, hb, ls, H, m, h1, _⟩ := h
  refine (held_any h1).mono ?_
  rintro e w' ⟨rfl, rfl⟩
  exact ⟨⟨_, h1.room, rfl⟩, rfl⟩
theorem cn_flush {s : Nat} {S : Sto s} {rm B0 : Nat} {w : World} {c : Nat} {V : List KC} {n : Nat} (h : Cn S rm B0 w c V n) (hB0 : B0 ≤ w.heap.size) (hn : n < 900) :
    Calls Tryz.prog 11 #[.pointer (some ⟨c, 0, none⟩)] w fun e w' => e = .returned (.int .i64 0) ∧ Cn S rm B0 w' c V (n + 1) ∧ Below B0 w w' := by
  obtain ⟨D, x, hb, ls, H, m, h1, h2, h3, h4, h5, h6⟩ := h
  refine (flush_any h1 (by omega) (by omega)).mono ?_
  rintro e w' ⟨rfl, D', ls', hf⟩
  refine ⟨rfl, ⟨D', x, hb, ls', [], m + 1, hf.ctr, h2.perm (by simpa using hf.perm), fun g hg => ?_, by omega, by have := hf.few; omega, ?_⟩, hf.upon.below hB0 (fun g hg => h3 g (hg.imp id (fun h => .inr h)))⟩
  · rcases hg with hg | hg
    · rcases hf.dom g hg with h | h
      · exact h3 g (.inl h)
      · omega
    · exact h3 g (.inr hg)
  · have := hf.perm.length_eq
    rw [List.nil_append]
    omega
/-- Add. -/
theorem cn_add {s : Nat} {S : Sto s} {rm B0 : Nat} {w : World} {c : Nat} {V : List KC} {n : Nat} (h : Cn S rm B0 w c V n) (hB0 : B0 ≤ w.heap.size) (hn : n < 900) (p : KC) (h1 : p.1 ≤ top64) (h2 : p.2 ≤ top64) (sn vn : Nat) (hsn : sn = p.1 / 4294967296) (hvn : vn = p.1 % 4294967296) :
    Calls Tryz.prog 9 #[.pointer (some ⟨c, 0, none⟩), .int .u32 (sn : Int), .int .u32 (vn : Int), .int .u64 (p.2 : Int)] w fun e w' => e = .returned (.int .i64 0) ∧ Cn S rm B0 w' c (V ++ [p]) (n + 1) ∧ Below B0 w w' := by
  by_cases h0 : p.2 = 0
  · have hc := h
    rw [h0]
    refine (add_zero c sn vn w).mono ?_
    rintro e w' ⟨rfl, hB⟩
    obtain ⟨D, x, hb, ls, H, m, g1, g2, g3, g4, g5, g6⟩ := hc.later hB
    have e1 : p = (p.1, 0) := Prod.ext rfl h0
    exact ⟨rfl, ⟨D, x, hb, ls, H, m, g1, by rw [e1]; exact g2.none p.1, g3, by omega, by omega, by omega⟩, hB.mono hB0⟩
  · obtain ⟨D, x, hb, ls, H, m, g1, g2, g3, g4, g5, g6⟩ := h
    have hp : okP p := ⟨h1, by omega, h2⟩
    rw [List.length_append] at g6
    by_cases hth : tot H p.1 = 0
    · have hpl : (putH H p).length = H.length + 1 := by rw [putH_length g1.held, if_pos hth]
      by_cases hroom : H.length < rm
      · refine (add_new g1 p hp sn vn hsn hvn hth hroom).mono ?_
        rintro e w' ⟨rfl, hc, hu⟩
        exact ⟨rfl, ⟨D, x, hb, ls, putH H p, m, hc, g2.put g1.held hp, g3, by omega, by omega, by rw [List.length_append, hpl]; omega⟩, hu.below hB0 (fun g hg => g3 g (.inr (.inr hg)))⟩
      · have hr : H.length = rm := by have := g1.room; omega
        refine (add_full g1 p hp sn vn hsn hvn hth hr (by omega) (by omega)).mono ?_
        rintro e w' ⟨rfl, D', ls', hc, hperm, hfew, hdom, hu⟩
        have hs := (g2.perm (R' := [] ++ ls'.flatten) (by simpa using hperm)).put held_nil hp
        have hl := hperm.length_eq
        rw [List.length_append] at hl
        refine ⟨rfl, ⟨D', x, hb, ls', putH [] p, m + 1, hc, hs, fun g hg => ?_, by omega, by omega, ?_⟩, hu.below hB0 (fun g hg => g3 g (hg.imp id (fun h => .inr h)))⟩
        · rcases hg with hg | hg
          · rcases hdom g hg with h | h
            · exact g3 g (.inl h)
            · omega
          · exact g3 g (.inr hg)
        · rw [List.length_append, putH_length held_nil, tot_nil, if_pos rfl, List.length_nil]
          omega
    · have hpl : (putH H p).length = H.length := by rw [putH_length g1.held, if_neg hth]; rfl
      refine (add_there g1 p hp sn vn hsn hvn hth).mono ?_
      rintro e w' ⟨rfl, hc, hu⟩
      exact ⟨rfl, ⟨D, x, hb, ls, putH H p, m, hc, g2.put g1.held hp, g3, by omega, by omega, by rw [List.length_append, hpl]; omega⟩, hu.below hB0 (fun g hg => g3 g (.inr (.inr hg)))⟩
/-- All. -/
theorem cn_all {s : Nat} {S : Sto s} {rm B0 : Nat} {w : World} {c : Nat} {V : List KC} {n : Nat} (h : Cn S rm B0 w c V n) (hB0 : B0 ≤ w.heap.size) (hn : n < 900) :
    Calls Tryz.prog 12 #[.pointer (some ⟨c, 0, none⟩)] w fun e w' => ∃ out v, e = .returned (.tuple #[v, .int .i64 0]) ∧ Answers V out ∧ out.length ≤ 900 ∧ w'.ownsRow w.heap.size 37 3 v out.length (out.flatMap visC) ∧ Cn S rm B0 w' c V n ∧ Below B0 w w' := by
  obtain ⟨D, x, hb, ls, H, m, h1, h2, h3, h4, h5, h6⟩ := h
  refine (all_any h1 (fun l hl p hp => h2.ok p (List.mem_append_right _ (List.mem_flatten.2 ⟨l, hl, hp⟩))) (by omega) (.inl rfl) (by omega)).mono ?_
  rintro e w' ⟨D', K, v, rfl, ha⟩
  have hK := ha.perm.length_eq
  have hm := merged_length K
  refine ⟨merged K, v, rfl, answers_of h2 ha.perm ha.rises, by omega, ha.row, ⟨D', x, hb, ls, H, m, ha.ctr, h2, fun g hg => ?_, h4, h5, h6⟩, ha.upon.below hB0 (fun g hg => h3 g (.inl hg))⟩
  rcases hg with hg | hg
  · rcases ha.dom g hg with h | h
    · exact h3 g (.inl h)
    · omega
  · exact h3 g (.inr hg)
end Go.Proofs.YtndkohocgfmamaaGreat.Visit

/- palmerlaw27: awake. -/
namespace Go.Proofs.YtndkohocgfmamaaGreat.Visit
open Go.RowKit Go.Deep Mem Crc Go.Proofs.YtndkohocgfmamaaGreat.Merge
open Go.Proofs.YtndkohocgfmamaaGreat.Store (Sto bare St none')

attribute [local go_sem] Oper.semAt_some
/-- Visits of one pair alone. -/
theorem answers_one {V out : List KC} {k : Nat} (h : Answers V out) (hk : ∀ j, 0 < tot V j ↔ j = k) : out = [(k, sat (tot V k))] := by
  have hall : ∀ p ∈ out, p = (k, sat (tot V k)) := fun p hp => by
    have e : p.1 = k := (hk p.1).1 ((h.some_ p.1).1 ⟨p, hp, rfl⟩)
    exact Prod.ext e (by rw [h.sum p hp, e])
  obtain ⟨q, hq, _⟩ := (h.some_ k).2 ((hk k).2 rfl)
  rcases out with _ | ⟨a, t⟩
  · cases hq
  · rcases t with _ | ⟨b, t⟩
    · rw [hall a (by simp)]
    · have h1 := hall a (by simp)
      have h2 := hall b (by simp)
      have := (List.pairwise_cons.1 h.rises).1 b (by simp)
      rw [h1, h2] at this
      exact absurd this (Nat.lt_irrefl _)
set_option maxHeartbeats 2000000 in
set_option maxRecDepth 100000 in
theorem awake_any (w : World) : Calls Tryz.prog 8 #[] w fun e w' => e = .returned (.bool true) ∧ Below w.heap.size w w' := by
  have HB := Lib.hid (begin_any w)
  go_enter Tryz.func8, Tryz.ntmps8
  go_wp2_with fail
  refine HB.out.mono ?_
  rintro e w1 ⟨d, s, g, cm, Q, rfl, hst, hQ, hB1⟩
  have HNEW := Lib.hid (cn_new hst w.heap.size hQ hB1.size 5 (by omega) (by omega))
  have HB1 := Lib.hid hB1
  clear hst hQ hB1 HB
  go_wp2_with fail
  refine HNEW.out.mono ?_
  rintro e w2 ⟨c, rfl, hc2, hB2⟩
  have hz2 : w.heap.size ≤ w2.heap.size := Nat.le_trans HB1.out.size hB2.size
  have HA1 := Lib.hid (cn_add hc2 hz2 (by omega) (5, 1) (by decide) (by decide) 0 5 rfl rfl)
  have HBB2 := Lib.hid (HB1.out.trans (hB2.mono HB1.out.size))
  clear hc2 hB2 hz2 HNEW
  go_wp2_with fail
  refine HA1.out.mono ?_
  rintro e w3 ⟨rfl, hc3, hB3⟩
  have HBB3 := Lib.hid (HBB2.out.trans hB3)
  have HA2 := Lib.hid (cn_add hc3 HBB3.out.size (by omega) (5, 2) (by decide) (by decide) 0 5 rfl rfl)
  clear hc3 hB3 HA1
  go_wp2_with fail
  refine HA2.out.mono ?_
  rintro e w4 ⟨rfl, hc4, hB4⟩
  have HBB4 := Lib.hid (HBB3.out.trans hB4)
  have HALL := Lib.hid (cn_all hc4 HBB4.out.size (by omega))
  clear hc4 hB4 HA2
  go_wp2_with fail
  refine HALL.out.mono ?_
  rintro e w5 ⟨out, v, rfl, ha, _, hrow, _, hB5⟩
  have ho : out = [(5, 3)] := answers_one (k := 5) ha (fun j => by
    show 0 < tot [(5, 1), (5, 2)] j ↔ j = 5
    rw [tot_cons, tot_cons, tot_nil]
    by_cases e : j = 5
    · subst e; simp
    · have : ¬ 5 = j := fun h => e h.symm
      simp [e, this])
  subst ho
  have HBB5 := Lib.hid (HBB4.out.trans hB5)
  obtain ⟨va, vc, rfl, _, hLv, _, _⟩ := own_shape hrow
  obtain ⟨g5, off, rfl, q0, q1, q2, _⟩ := vis_flat hLv (show ([(5, 3)] : List KC)[0]? = some (5, 3) from rfl)
  simp at q0 q1 q2
  clear ha hrow hLv hB5 HALL
  go_wp2_with fail
  go_ret
  exact ⟨rfl, HBB5.out⟩
end Go.Proofs.YtndkohocgfmamaaGreat.Visit

/- palmerlaw27: VisitPrints. -/
namespace Go.Proofs.YtndkohocgfmamaaGreat.Visit
open Go.RowKit Go.Deep Mem Crc Go.Proofs.YtndkohocgfmamaaGreat.Merge
open Go.Proofs.YtndkohocgfmamaaGreat.Text (strV)

attribute [local go_sem] Oper.semAt_some
theorem conv_any {va : Option Addr} {vc : Nat} {b : List UInt8} {w : World} (hL : Lies w va (b.map bv)) : (convert 45 9 (.slice va b.length vc)).run Tryz.prog w = .ok (strV b) w := by
  cases va with
  | none =>
    have hb : b = [] := by simpa using lies_none hL
    subst hb
    clear hL
    show (convert 45 9 (.slice none 0 vc)).run Tryz.prog w = .ok (.string ⟨#[]⟩) w
    kernel_rfl
  | some ad => exact run_convert_bytes_back w 45 9 5 _ vc _ Tryz.underlying45 Tryz.underlying5 Tryz.underlying9 (fun j hj => lies_add hL j _ (by simp [hj, bv]))
set_option maxRecDepth 100000 in
/-- The visits that came in. -/
theorem visits_open {H : Type} {enc : TypeId × Value → H} {base : Nat} {v : Value} {d : DataW H} {p : List MemPlace} {W : World} (q : Value.okWide Tryz.prog W .any base 22 v) (h : DataW.Trod enc Tryz.prog W 0 (fun _ => true) true 22 v d p) :
    ∃ (a : Option Addr) (cap : Nat) (l : List KC), v = .slice a l.length cap ∧ l.length ≤ cap ∧ cap ≤ maxLen ∧ (∀ x ∈ l, x.1 ≤ top64 ∧ x.2 ≤ top64) ∧ Lies W a (l.flatMap visC) := by
  have hcu : Tryz.prog.cellsOf 34 = 1 := by kernel_rfl
  have hc64 : Tryz.prog.cellsOf 35 = 1 := by kernel_rfl
  have hfield : ∀ (n : Nat) (c : Value) (o : Option (DataW H × List MemPlace)), DataW.trod enc Tryz.prog W 0 (fun _ => true) true n 34 [c] = o → o ≠ none → ∃ k : Nat, c = .int .u32 (k : Int) ∧ k < 4294967296 := fun n c o g ho => by
    cases o with
    | none => exact absurd rfl ho
    | some y =>
      obtain ⟨k, hk, _, hw⟩ := DataW.trod_int Tryz.underlying34 g
      have hb := Go.bounds_u32 hw
      exact ⟨k.toNat, by rw [show c = .int .u32 k by simpa using hk, Int.toNat_of_nonneg hb.1], by omega⟩
  have hfield64 : ∀ (n : Nat) (c : Value) (o : Option (DataW H × List MemPlace)), DataW.trod enc Tryz.prog W 0 (fun _ => true) true n 35 [c] = o → o ≠ none → ∃ k : Nat, c = .int .u64 (k : Int) ∧ k ≤ top64 := fun n c o g ho => by
    cases o with
    | none => exact absurd rfl ho
    | some y =>
      obtain ⟨k, hk, _, hw⟩ := DataW.trod_int Tryz.underlying35 g
      have hb := Go.bounds_u64 hw
      exact ⟨k.toNat, by rw [show c = .int .u64 k by simpa using hk, Int.toNat_of_nonneg hb.1], by unfold top64; omega⟩
  obtain ⟨a, len, cap, l, rfl, h1, h2, rfl, h3, h4⟩ := Args.slice_open (α := KC) visC (fun x => x.1 ≤ top64 ∧ x.2 ≤ top64) Tryz.underlying22 (show Tryz.prog.cellsOf 37 = 3 by kernel_rfl) (by decide) (fun fuel cs y hl hy => by
    obtain ⟨ys, n', _, _, _, hyl, hfld⟩ := DataW.trod_struct Tryz.underlying37 hy
    match cs, hl with
    | [c0, c1, c2], _ =>
      have g0 := hfld 0 _ rfl
      have g1 := hfld 1 _ rfl
      have g2 := hfld 2 _ rfl
      simp [hcu, hc64] at g0 g1 g2
      have hyl : ys.length = 3 := hyl
      obtain ⟨k0, rfl, b0⟩ := hfield _ _ _ g0 (by simp [hyl])
      obtain ⟨k1, rfl, b1⟩ := hfield _ _ _ g1 (by simp [hyl])
      obtain ⟨k2, rfl, b2⟩ := hfield64 _ _ _ g2 (by simp [hyl])
      have e1 : (k0 * 4294967296 + k1) / 4294967296 = k0 := by omega
      have e2 : (k0 * 4294967296 + k1) % 4294967296 = k1 := by omega
      refine ⟨(k0 * 4294967296 + k1, k2), ?_, by unfold top64; omega, b2⟩
      unfold visC
      rw [e1, e2]) q h
  exact ⟨a, cap, l, rfl, h1, h2, h3, h4⟩
set_option maxRecDepth 100000 in
/-- Numbers of 32 bits that came in. -/
theorem u32s_open {H : Type} {enc : TypeId × Value → H} {base : Nat} {v : Value} {d : DataW H} {p : List MemPlace} {W : World} (q : Value.okWide Tryz.prog W .any base 44 v) (h : DataW.Trod enc Tryz.prog W 0 (fun _ => true) true 44 v d p) :
    ∃ (a : Option Addr) (cap : Nat) (l : List Nat), v = .slice a l.length cap ∧ l.length ≤ cap ∧ cap ≤ maxLen ∧ (∀ x ∈ l, x < 4294967296) ∧ Lies W a (l.map u32V) := by
  obtain ⟨a, len, cap, l, rfl, h1, h2, rfl, h3, h4⟩ := Args.slice_open (α := Nat) (fun n => [u32V n]) (fun x => x < 4294967296) Tryz.underlying44 (show Tryz.prog.cellsOf 34 = 1 by kernel_rfl) (by decide) (fun fuel cs y hl hy => by
    obtain ⟨k, hk, _, hw⟩ := DataW.trod_int Tryz.underlying34 hy
    have hb := Go.bounds_u32 hw
    exact ⟨k.toNat, by rw [hk]; unfold u32V; rw [Int.toNat_of_nonneg hb.1], by omega⟩) q h
  refine ⟨a, cap, l, rfl, h1, h2, h3, ?_⟩
  have e : l.map u32V = l.flatMap (fun n => [u32V n]) := by
    clear h1 h2 h3 h4 h q
    induction l with
    | nil => rfl
    | cons x t ih => rw [List.map_cons, List.flatMap_cons, ih]; rfl
  rw [e]
  exact h4
set_option maxHeartbeats 2000000 in
set_option maxRecDepth 100000 in
theorem prints_long (a sa : Option Addr) (cp sc n m : Nat) (w : World) (h : 100 < n ∨ 100 < m) : Calls Tryz.prog 4 #[.slice a n cp, .slice sa m sc] w fun e w' => e = .returned (.bool true) ∧ Below w.heap.size w w' := by
  have HA := Lib.hid (awake_any w)
  by_cases h1 : 100 < n
  · have t1 : decide ((100 : Int) < (n : Int)) = true := by simp; omega
    have t2 : decide (100 < n) = true := by simp; omega
    clear h h1
    go_enter Tryz.func4, Tryz.ntmps4
    go_wp2_with fail
    refine HA.out.mono ?_
    rintro e w1 ⟨rfl, hB⟩
    go_wp2_with fail
    go_ret
    exact ⟨rfl, hB⟩
  · have t1 : decide ((100 : Int) < (n : Int)) = false := by simp; omega
    have t2 : decide (100 < n) = false := by simp; omega
    have t3 : decide ((100 : Int) < (m : Int)) = true := by simp; omega
    have t4 : decide (100 < m) = true := by simp; omega
    clear h h1
    go_enter Tryz.func4, Tryz.ntmps4
    go_wp2_with fail
    refine HA.out.mono ?_
    rintro e w1 ⟨rfl, hB⟩
    go_wp2_with fail
    go_ret
    exact ⟨rfl, hB⟩
set_option maxHeartbeats 2000000 in
set_option maxRecDepth 100000 in
theorem prints_in (a sa : Option Addr) (cp sc : Nat) (l : List KC) (src : List Nat) (w : World) (hL : Lies w a (l.flatMap visC)) (hS : Lies w sa (src.map u32V)) (hok : ∀ p ∈ l, p.1 ≤ top64 ∧ p.2 ≤ top64) (hsrc : ∀ n ∈ src, n < 4294967296) (hn : l.length ≤ 100) (hm : src.length ≤ 100) :
    Calls Tryz.prog 4 #[.slice a l.length cp, .slice sa src.length sc] w fun e w' => e = .returned (.bool true) ∧ Below w.heap.size w w' := by
  have HPR := Lib.hid (print_any a sa cp sc l src w hL hS hok hsrc hn hm)
  have HRF := Lib.hid (fun (w1 : World) (hB : Below w.heap.size w w1) => refPrint_any a sa cp sc l src w1 (hL.later hB) (hS.later hB) hok hsrc hn hm)
  obtain ⟨n, hln⟩ : ∃ n, n = l.length := ⟨_, rfl⟩
  obtain ⟨m, hlm⟩ : ∃ m, m = src.length := ⟨_, rfl⟩
  rw [← hln] at hn HPR HRF ⊢
  rw [← hlm] at hm HPR HRF ⊢
  have t1 : decide ((100 : Int) < (n : Int)) = false := by simp; omega
  have t2 : decide (100 < n) = false := by simp; omega
  have t3 : decide ((100 : Int) < (m : Int)) = false := by simp; omega
  have t4 : decide (100 < m) = false := by simp; omega
  clear hL hS hok hsrc hln hlm
  go_enter Tryz.func4, Tryz.ntmps4
  go_wp2_with fail
  refine HPR.out.mono ?_
  rintro e w1 ⟨hres, hB1⟩
  have HREF := Lib.hid (HRF.out w1 hB1)
  have HB1 := Lib.hid hB1
  clear hB1 HPR HRF
  rcases hres with ⟨hf, v, rfl, hO⟩ | ⟨hf, rfl⟩
  · have HF := Lib.hid hf
    have hL1 : ∃ va vc, v = .slice va (linesB src l).length vc ∧ Lies w1 va ((linesB src l).map bv) := by
      obtain ⟨va, vc, e, _, h, _⟩ := own_shape hO
      exact ⟨va, vc, e, h⟩
    obtain ⟨va, vc, rfl, hL1⟩ := hL1
    have HL1 := Lib.hid hL1
    clear hf hO hL1
    go_wp2_with fail
    refine HREF.out.mono ?_
    rintro e w2 ⟨hres2, hB2⟩
    have hres3 : e = .returned (.tuple #[strV (linesB src l), .bool true]) := by
      rcases hres2 with ⟨_, h⟩ | ⟨⟨p, hp, hp2⟩, _⟩
      · exact h
      · have := HF.out p hp
        rw [hp2] at this
        cases this
    subst hres3
    have hcv := conv_any (vc := vc) (HL1.out.later hB2)
    obtain ⟨sb, hsb⟩ : ∃ sb : ByteArray, strV (linesB src l) = .string sb := ⟨_, rfl⟩
    rw [hsb] at hcv ⊢
    obtain ⟨N, hN⟩ : ∃ N, N = (linesB src l).length := ⟨_, rfl⟩
    rw [← hN] at hcv ⊢
    have HA := Lib.hid (awake_any w2)
    have HB2 := Lib.hid (HB1.out.trans (hB2.mono HB1.out.size))
    clear hres2 hB2 hN hsb HREF
    go_wp2_with fail
    refine HA.out.mono ?_
    rintro e w3 ⟨rfl, hB3⟩
    have HB3 := Lib.hid (HB2.out.trans (hB3.mono HB2.out.size))
    clear hB3
    go_wp2_with fail
    go_ret
    exact ⟨rfl, HB3.out⟩
  · have HF := Lib.hid hf
    clear hf
    go_wp2_with fail
    refine HREF.out.mono ?_
    rintro e w2 ⟨hres2, hB2⟩
    have hres3 : e = .returned (.tuple #[strV [], .bool false]) := by
      rcases hres2 with ⟨h, _⟩ | ⟨_, h⟩
      · obtain ⟨p, hp, hp2⟩ := HF.out
        have := h p hp
        rw [hp2] at this
        cases this
      · exact h
    subst hres3
    have HA := Lib.hid (awake_any w2)
    have HB2 := Lib.hid (HB1.out.trans (hB2.mono HB1.out.size))
    unfold strV
    clear hres2 hB2 HREF
    go_wp2_with fail
    refine HA.out.mono ?_
    rintro e w3 ⟨rfl, hB3⟩
    have HB3 := Lib.hid (HB2.out.trans (hB3.mono HB2.out.size))
    clear hB3
    go_wp2_with fail
    go_ret
    exact ⟨rfl, HB3.out⟩
set_option maxRecDepth 100000 in
theorem visitPrints_law {H : Type} {enc : TypeId × Value → H} {base : Nat} (v0 v1 : Value) (d0 d1 : DataW H) (p0 p1 : List MemPlace) (W : World)
    (q0 : Value.okWide Tryz.prog W .any base 22 v0) (h0 : DataW.Trod enc Tryz.prog W 0 (fun _ => true) true 22 v0 d0 p0)
    (q1 : Value.okWide Tryz.prog W .any base 44 v1) (h1 : DataW.Trod enc Tryz.prog W 0 (fun _ => true) true 44 v1 d1 p1) :
    Calls Tryz.prog 4 #[v0, v1] W fun e w' => e = .returned (.bool true) ∧ Below W.heap.size W w' := by
  obtain ⟨a, cap, l, rfl, _, _, hok, hL⟩ := visits_open q0 h0
  obtain ⟨sa, sc, src, rfl, _, _, hsrc, hS⟩ := u32s_open q1 h1
  by_cases h : 100 < l.length ∨ 100 < src.length
  · exact prints_long a sa cap sc l.length src.length W h
  · exact prints_in a sa cap sc l src W hL hS hok hsrc (by omega) (by omega)
end Go.Proofs.YtndkohocgfmamaaGreat.Visit
