/- OneLaw, On, ReadLaw, ReadMem, ReadW, ReadM, ManGet, ManReadOn, OpenIdx, OpenOn, SlotsLaw, OnOpen, OnAppend, RefF, RefPut, RefPutW, RefPages, RefSame, RefLaw, RefLaw2, RefNow, Ref09, Ref08, Ref03, RefPlan, in one text. -/
import Derived.Test.YtbfochdoeibofaaGreatDoorQ4
import Derived.Test.YtbfochdoeibofaaGreatDoorQ5
import Derived.Test.YtbfochdoeibofaaGreatDoorQ14
import Derived.Test.YtbfochdoeibofaaGreatDoorQ19
import Derived.Test.YtbfochdoeibofaaGreatDoorQ27
import Derived.Test.YtbfochdoeibofaaGreatDoorQ28
import Derived.Test.YtbfochdoeibofaaGreatDoorQ29
import Derived.Laws.StructEq
/- Layer 10: one file on a new disk, plain. -/
namespace Go.Proofs.YtbfochdoeibofaaGreatDoor.Full
open Go.RowKit Go.Proofs.YtbfochdoeibofaaGreatDoor.Mani Go.Proofs.YtbfochdoeibofaaGreatDoor.Dk Go.Proofs.YtbfochdoeibofaaGreatDoor.Varint
open Go.Proofs.YtbfochdoeibofaaGreatDoor.Store (Chg none' setC setC_same setC_other Files)
open Go.Proofs.YtbfochdoeibofaaGreatDoor.Ext (takeL takeK freeN)

/-- Blocks, each once, where they may be. -/
theorem blkB_of : ∀ {l bks : List Nat}, l.Nodup → (∀ i ∈ l, i ∉ bks ∧ 32 ≤ i ∧ i < 65536) → blkB bks l = true
  | [], _, _, _ => rfl
  | i :: r, bks, hn, h => by
    obtain ⟨n1, n2⟩ := List.nodup_cons.1 hn
    obtain ⟨h1, h2, h3⟩ := h i (by simp)
    unfold Mani.blkB
    have hc : bks.contains i = false := by
      cases hb : bks.contains i with
      | false => rfl
      | true => exact absurd (List.contains_iff_mem.1 hb) h1
    rw [hc, decide_eq_true h2, decide_eq_true h3, blkB_of n2 (fun j hj => ?_)]
    · rfl
    · obtain ⟨a1, a2⟩ := h j (by simp [hj])
      refine ⟨fun hm => ?_, a2⟩
      rcases List.mem_cons.1 hm with rfl | hm
      · exact n1 hj
      · exact a1 hm
/-- The changes: one file. -/
noncomputable def oneC (nm b : List UInt8) : Chg := setC none' nm (some (some b))
theorem oneC_same (nm b : List UInt8) : oneC nm b nm = some (some b) := setC_same _ _ _
theorem oneC_other {nm b x : List UInt8} (h : x ≠ nm) : oneC nm b x = none := setC_other _ h
theorem oneC_keys (nm b : List UInt8) : Keys (oneC nm b) [nm] := ⟨by simp, fun x => by
  rw [List.mem_singleton]
  by_cases e : x = nm
  · subst e
    rw [oneC_same]
    simp
  · rw [oneC_other e]
    simp [e]⟩
/-- The file. -/
def oneF (nm b : List UInt8) (N : Nat) : Fil := ⟨nm, 0, b.length, (freeB N []).take (Mani.many b.length)⟩
theorem freeB_mem {N : Nat} {fs : List Fil} {i : Nat} (h : i ∈ freeB N fs) : 32 ≤ i ∧ i < N ∧ i ∉ bksL fs := by
  obtain ⟨h1, h2⟩ := List.mem_filter.1 h
  have h3 := List.mem_range.1 h1
  unfold tkn at h2
  simp at h2
  exact ⟨h2.1, h3, h2.2⟩
theorem freeB_nodup (N : Nat) (fs : List Fil) : (freeB N fs).Nodup := List.nodup_range.filter _
theorem one_may {nm b : List UInt8} {N : Nat} (hN : N ≤ 65536) (h1 : 1 ≤ nm.length) (h2 : nm.length ≤ 32) (hb : b.length ≤ 10000) (hf : Mani.many b.length ≤ (freeB N []).length) : mayB 1 1 [oneF nm b N] = true := by
  have hl : (oneF nm b N).blocks.length = Mani.many b.length := by
    show ((freeB N []).take (Mani.many b.length)).length = _
    rw [List.length_take]
    omega
  have hbk : ∀ i ∈ (oneF nm b N).blocks, 32 ≤ i ∧ i < N := fun i hi => by
    have := freeB_mem (List.mem_of_mem_take hi)
    exact ⟨this.1, this.2.1⟩
  have hm : Mani.many b.length ≤ 100 := by
    unfold Mani.many
    split <;> omega
  have hR : rightB (oneF nm b N) 1 [] [] = true := by
    unfold Mani.rightB Mani.headB
    have hbb : blkB [] (oneF nm b N).blocks = true := blkB_of ((freeB_nodup N []).sublist (List.take_sublist _ _)) (fun i hi => ⟨List.not_mem_nil, (hbk i hi).1, by have := (hbk i hi).2; omega⟩)
    rw [hbb]
    have e1 : decide (1 ≤ (oneF nm b N).name.length) = true := decide_eq_true h1
    have e2 : decide ((oneF nm b N).name.length ≤ 32) = true := decide_eq_true h2
    have e3 : decide ((oneF nm b N).id < 1) = true := decide_eq_true (show 0 < 1 by decide)
    have e4 : decide (Mani.many (oneF nm b N).size = (oneF nm b N).blocks.length) = true := decide_eq_true hl.symm
    rw [e1, e2, e3, e4]
    rfl
  have hB : (bodyL 1 1 [oneF nm b N]).length ≤ 2035 := by
    have a1 := vput_length 0 1 (by decide)
    have a4 := filL_le (f := oneF nm b N) h2 ⟨by show (0 : Nat) < _; decide, by show b.length < _; omega, fun i hi => by have := (hbk i hi).2; omega⟩ (fun i hi => by have := (hbk i hi).2; omega)
    rw [hl] at a4
    unfold Mani.bodyL
    rw [List.flatMap_cons, List.flatMap_nil, List.append_nil]
    simp only [List.length_append, List.length_cons, List.length_nil, Nat.zero_add]
    omega
  unfold Mani.mayB Mani.allB
  rw [hR, decide_eq_true hB]
  rfl
theorem one_plan {nm b : List UInt8} {N : Nat} (hN1 : 32 ≤ N) (hN : N ≤ 65536) (h1 : 1 ≤ nm.length) (h2 : nm.length ≤ 32) (hb : b.length ≤ 10000) (hf : Mani.many b.length ≤ (freeB N []).length) : planM (oneC nm b) [nm] N 0 0 [] = some (1, [oneF nm b N]) := by
  have hk := freeK_mapK (okm_none N) hN1
  have hst : planF (oneC nm b) [nm] (startF (oneC nm b) N 0 []) = stepF (oneC nm b) nm (startF (oneC nm b) N 0 []) := by
    unfold planF
    rw [List.foldl_cons, List.foldl_nil]
    exact Option.bind_some _ _
  have hfn : ¬ freeN (freeK N []) < Mani.many b.length := by rw [free_okm (okm_none N) hN1]; omega
  have hstep : stepF (oneC nm b) nm (startF (oneC nm b) N 0 []) = some ⟨takeK (freeK N []) (Mani.many b.length : Nat), 1, [oneF nm b N]⟩ := by
    unfold stepF
    rw [oneC_same]
    dsimp only
    have e0 : (startF (oneC nm b) N 0 []).k = freeK N [] := by simp only [startF]
    rw [e0, if_neg hfn]
    have e1 : newF nm b (startF (oneC nm b) N 0 []) = oneF nm b N := by
      unfold newF oneF
      rw [e0, hk, takeL_mapK N (tkn []) hf]
      rfl
    rw [e1]
    rfl
  unfold planM
  rw [if_neg (by decide), hst, hstep]
  dsimp only
  rw [if_pos (one_may hN h1 h2 hb hf)]
set_option maxRecDepth 100000 in
theorem free40 : (freeB 40 []).length = 8 := by decide
set_option maxRecDepth 100000 in
theorem one40 (nm : List UInt8) : oneF nm [99] 40 = ⟨nm, 0, 1, [32]⟩ := by
  unfold oneF
  have : (freeB 40 []).take (Mani.many ([99] : List UInt8).length) = [32] := by decide
  rw [this]
  rfl
set_option maxRecDepth 100000 in
theorem free40' (nm : List UInt8) : (freeB 40 [⟨nm, 0, 1, [32]⟩]).length = 7 := by
  have e : freeB 40 [⟨nm, 0, 1, [32]⟩] = (List.range 40).filter (fun i => !(decide (i < 32) || decide (i ∈ [32]))) := rfl
  rw [e]
  decide
end Go.Proofs.YtbfochdoeibofaaGreatDoor.Full

/- Layer 10: a store on a disk that is on and has no fuse: what each call does. -/
namespace Go.Proofs.YtbfochdoeibofaaGreatDoor.Full
open Go.RowKit Go.Deep Mem Crc Go.Maps Go.Proofs.YtbfochdoeibofaaGreatDoor.Dk Go.Proofs.YtbfochdoeibofaaGreatDoor.Mani
open Go.Proofs.YtbfochdoeibofaaGreatDoor.Store (Chg chgV isChg none' nv Files setC setC_same setC_other)
open Go.Proofs.YtbfochdoeibofaaGreatDoor.Ext (Tab freeN)

/-- The changes are few, their names short, their bytes few. -/
def Few (C : Chg) (n : Nat) : Prop := ∃ L : List (List UInt8), (∀ x, C x ≠ none → x ∈ L) ∧ L.length ≤ n ∧ (∀ x ∈ L, x.length ≤ 32) ∧ ∀ nm b, C nm = some (some b) → b.length ≤ 1048576
theorem few_none (n : Nat) : Few none' n := ⟨[], fun x h => absurd rfl h, Nat.zero_le _, fun x hx => (by cases hx), fun nm b h => by cases h⟩
theorem Few.set {C : Chg} {n : Nat} (h : Few C n) (nm : List UInt8) (hn : nm.length ≤ 32) (o : Option (List UInt8)) (ho : ∀ b, o = some b → b.length ≤ 1048576) : Few (setC C nm (some o)) (n + 1) := by
  obtain ⟨L, h1, h2, h3, h4⟩ := h
  refine ⟨nm :: L, fun x hx => ?_, by simp; omega, fun x hx => ?_, fun x b hx => ?_⟩
  · by_cases e : x = nm
    · rw [e]; simp
    · rw [setC_other _ e] at hx
      exact List.mem_cons_of_mem _ (h1 x hx)
  · rcases List.mem_cons.1 hx with rfl | hx
    · exact hn
    · exact h3 x hx
  · by_cases e : x = nm
    · subst e
      rw [setC_same] at hx
      exact ho b (Option.some.inj hx)
    · rw [setC_other _ e] at hx
      exact h4 x b hx
theorem Few.mono {C : Chg} {n k : Nat} (h : Few C n) (hk : n ≤ k) : Few C k := by
  obtain ⟨L, h1, h2, h3⟩ := h
  exact ⟨L, h1, by omega, h3⟩
theorem dedup_of (p : List UInt8 → Prop) : ∀ L : List (List UInt8), (∀ x, p x → x ∈ L) → ∃ K : List (List UInt8), K.Nodup ∧ ∀ x, x ∈ K ↔ p x := by
  intro L hL
  have h : ∀ M : List (List UInt8), ∃ K : List (List UInt8), K.Nodup ∧ ∀ x, x ∈ K ↔ x ∈ M ∧ p x := by
    intro M
    induction M with
    | nil => exact ⟨[], List.nodup_nil, fun x => by simp⟩
    | cons a r ih =>
      obtain ⟨K, h1, h2⟩ := ih
      rcases Classical.em (a ∈ K ∨ ¬ p a) with h3 | h3
      · refine ⟨K, h1, fun x => ?_⟩
        rw [h2 x, List.mem_cons]
        constructor
        · exact fun h => ⟨.inr h.1, h.2⟩
        · rintro ⟨rfl | h4, h5⟩
          · rcases h3 with h3 | h3
            · exact (h2 x).1 h3
            · exact absurd h5 h3
          · exact ⟨h4, h5⟩
      · have h4 : a ∉ K := fun h => h3 (.inl h)
        have h5 : p a := Classical.byContradiction fun h => h3 (.inr h)
        refine ⟨a :: K, List.nodup_cons.2 ⟨h4, h1⟩, fun x => ?_⟩
        rw [List.mem_cons, h2 x, List.mem_cons]
        constructor
        · rintro (rfl | h)
          · exact ⟨.inl rfl, h5⟩
          · exact ⟨.inr h.1, h.2⟩
        · rintro ⟨rfl | h6, h7⟩
          · exact .inl rfl
          · exact .inr ⟨h6, h7⟩
  obtain ⟨K, h1, h2⟩ := h L
  exact ⟨K, h1, fun x => (h2 x).trans ⟨fun h => h.2, fun h => ⟨hL x h, h⟩⟩⟩
theorem keys_exist {C : Chg} {n : Nat} (h : Few C n) : ∃ ss, Keys C ss := by
  obtain ⟨L, h1, _⟩ := h
  obtain ⟨K, h2, h3⟩ := dedup_of (fun x => C x ≠ none) L h1
  exact ⟨_, sorted_names (List.Perm.refl K) h2, fun nm => by rw [List.mem_mergeSort]; exact h3 nm⟩
/-- All that stands. -/
structure On (B s d g cm : Nat) (w : World) (Q : Nat → Prop) (m : DM) (ver next : Nat) (fs : List Fil) (C : Chg) (H : Files) (n : Nat) : Prop where
  fu : ∃ wv a c l, Fu w Q s d g cm wv m ver next a c l false C ∧ l.map FR.f = fs
  off : m.off = false
  fuse : m.fuse < 0
  wt : m.wt = []
  big : 33 ≤ m.bl.length
  on : OnDisk m.bl fs H
  ok : Okm m.bl.length ver next fs
  few : Few C n
  base : ∀ k, Q k → B ≤ k
  tab : Tab w
  pos : 0 < B
  low : B ≤ w.heap.size
variable {B s d g cm : Nat} {w : World} {Q : Nat → Prop} {m : DM} {ver next : Nat} {fs : List Fil} {C : Chg} {H : Files} {n : Nat}
theorem On.small (h : On B s d g cm w Q m ver next fs C H n) : m.bl.length ≤ 65536 := by
  obtain ⟨wv, a, c, l, hf, _⟩ := h.fu
  exact hf.disk.small
theorem On.lt (h : On B s d g cm w Q m ver next fs C H n) : ∀ k, Q k → k < w.heap.size := by
  obtain ⟨wv, a, c, l, hf, _⟩ := h.fu
  exact hf.lt
theorem On.keep {w' : World} {X : Nat → Prop} (h : On B s d g cm w Q m ver next fs C H n) (hB : Upon X w w') (hX : ∀ k, X k → ¬ Q k ∧ k ≠ 0) : On B s d g cm w' Q m ver next fs C H n := by
  obtain ⟨wv, a, c, l, hf, hl⟩ := h.fu
  exact ⟨⟨wv, a, c, l, hf.upon hB (fun k hk => (hX k hk).1), hl⟩, h.off, h.fuse, h.wt, h.big, h.on, h.ok, h.few, h.base, fun j hj => (World.cell?_of_block (hB.block 0 h.tab.lt (fun e => (hX 0 e).2 rfl))).trans (h.tab j hj), h.pos, Nat.le_trans h.low hB.size⟩
theorem On.later {w' : World} (h : On B s d g cm w Q m ver next fs C H n) (hB : Below w.heap.size w w') : On B s d g cm w' Q m ver next fs C H n :=
  h.keep (X := fun _ => False) (Upon.of_below hB) (fun _ hf => hf.elim)
theorem On.mono {k : Nat} (h : On B s d g cm w Q m ver next fs C H n) (hk : n ≤ k) : On B s d g cm w Q m ver next fs C H k := ⟨h.fu, h.off, h.fuse, h.wt, h.big, h.on, h.ok, h.few.mono hk, h.base, h.tab, h.pos, h.low⟩
theorem On.up (h : On B s d g cm w Q m ver next fs C H n) {w' : World} (hu : Upon Q w w') : Below B w w' := hu.below h.low h.base
/-- The rest of what stands, behind a call that may have written the store alone. -/
theorem On.then {w' : World} {Q' : Nat → Prop} {m' : DM} {ver' next' : Nat} {fs' : List Fil} {C' : Chg} {H' : Files} {n' : Nat} (h : On B s d g cm w Q m ver next fs C H n) (hu : Upon Q w w') (hq : ∀ k, Q' k → Q k ∨ w.heap.size ≤ k) (hf : ∃ wv a c l, Fu w' Q' s d g cm wv m' ver' next' a c l false C' ∧ l.map FR.f = fs') (h1 : m'.off = false) (h2 : m'.fuse < 0) (h3 : m'.wt = []) (h4 : 33 ≤ m'.bl.length) (h5 : OnDisk m'.bl fs' H') (h6 : Okm m'.bl.length ver' next' fs') (h7 : Few C' n') : On B s d g cm w' Q' m' ver' next' fs' C' H' n' :=
  ⟨hf, h1, h2, h3, h4, h5, h6, h7, fun k hk => (hq k hk).elim (h.base k) (fun h8 => Nat.le_trans h.low h8), h.tab.below (h.up hu) h.pos, h.pos, Nat.le_trans h.low hu.size⟩
theorem on_write (h : On B s d g cm w Q m ver next fs C H n) (hn : n ≤ 100000) (nm : List UInt8) (h1 : 1 ≤ nm.length) (h2 : nm.length ≤ 32) (ad : Option Addr) (cp : Nat) (b : List UInt8) (hb : Lies w ad (b.map bv)) (hb2 : b.length ≤ 1048576) :
    Calls Tryz.prog 11 #[.pointer (some ⟨s, 0, none⟩), nv nm, .slice ad b.length cp] w fun e w' => e = .returned (.int .i64 0) ∧ ∃ Q', On B s d g cm w' Q' m ver next fs (setC C nm (some (some b))) H (n + 1) ∧ (∀ k, Q' k → Q k ∨ w.heap.size ≤ k) ∧ Upon Q w w' := by
  obtain ⟨wv, a, c, l, hf, hl⟩ := h.fu
  obtain ⟨L, l1, l2, l3, l4⟩ := h.few
  refine (fwrite_any hf (by rw [h.off]; rfl) L l1 (by omega) nm h1 h2 ad cp b hb hb2).mono ?_
  rintro e w' ⟨rfl, Q', hf', hq, _, ho⟩
  have hu : Upon Q w w' := Upon.of_only ho (fun k hk => .inl (by rw [List.mem_singleton.1 hk]; exact hf.qm))
  exact ⟨rfl, Q', h.then hu hq ⟨wv, a, c, l, hf', hl⟩ h.off h.fuse h.wt h.big h.on h.ok (h.few.set nm h2 (some b) (fun b' e => by cases e; exact hb2)), hq, hu⟩
theorem on_write_name (h : On B s d g cm w Q m ver next fs C H n) (nm : List UInt8) (hn : nm.length = 0 ∨ 32 < nm.length) (ad : Option Addr) (k cp : Nat) :
    Calls Tryz.prog 11 #[.pointer (some ⟨s, 0, none⟩), nv nm, .slice ad k cp] w fun e w' => e = .returned (.int .i64 8) ∧ w' = w := by
  obtain ⟨wv, a, c, l, hf, hl⟩ := h.fu
  exact fwrite_name hf (by rw [h.off]; rfl) nm hn ad k cp
theorem on_forget (h : On B s d g cm w Q m ver next fs C H n) :
    Calls Tryz.prog 24 #[.pointer (some ⟨s, 0, none⟩)] w fun e w' => e = .returned (.tuple #[]) ∧ On B s d g cm w' Q m ver next fs none' H 0 ∧ Upon Q w w' := by
  obtain ⟨wv, a, c, l, hf, hl⟩ := h.fu
  refine (forget_any hf).mono ?_
  rintro e w' ⟨rfl, hf', ho⟩
  have hu : Upon Q w w' := Upon.of_only ho (fun k hk => .inl (by rw [List.mem_singleton.1 hk]; exact hf.qm))
  exact ⟨rfl, h.then hu (fun k hk => .inl hk) ⟨wv, a, c, l, hf', hl⟩ h.off h.fuse h.wt h.big h.on h.ok (few_none 0), hu⟩
theorem on_names (h : On B s d g cm w Q m ver next fs C H n) (hn : n ≤ 90000) :
    Calls Tryz.prog 28 #[.pointer (some ⟨s, 0, none⟩)] w fun e w' => ∃ (v : Value) (ss : List (List UInt8)), e = .returned v ∧ w'.ownsRow w.heap.size 9 1 v ss.length (ss.map encStr) ∧ (∀ nm, nm ∈ ss ↔ nowF C H nm ≠ none) ∧ ss.Pairwise (· < ·) ∧ ss.length ≤ 2035 + n ∧ Below w.heap.size w w' := by
  obtain ⟨wv, a, c, l, hf, hl⟩ := h.fu
  obtain ⟨L, l1, l2, l3, l4⟩ := h.few
  have hfew := h.ok.few
  rw [← hl, List.length_map] at hfew
  refine (fnames_any hf L l1 (by omega) (fun x hx => by have := l3 x hx; omega) (by omega) (fun x hx => (h.ok.ok.each x.f (by rw [← hl]; exact List.mem_map.2 ⟨x, hx, rfl⟩)).n2)).mono ?_
  rintro e w' ⟨v, ss, rfl, h1, h2, h3, h4, h5⟩
  refine ⟨v, ss, rfl, h1, fun nm => ?_, h3, by omega, h5⟩
  rw [h2 nm, hl]
  exact hasF_now h.on nm
/-- What Read hands back. -/
def ansF (o : Option (List UInt8)) : List UInt8 × Int :=
  match o with
  | some b => (b, 0)
  | none => ([], 8)
theorem on_read (h : On B s d g cm w Q m ver next fs C H n) (nm : List UInt8) (hn : nm.length ≤ 1000000) :
    Calls Tryz.prog 12 #[.pointer (some ⟨s, 0, none⟩), nv nm] w fun e w' => ∃ v, e = .returned (.tuple #[v, .int .i64 (ansF (nowF C H nm)).2]) ∧ OwnB w' w.heap.size v (ansF (nowF C H nm)).1 ∧ Below w.heap.size w w' := by
  obtain ⟨wv, a, c, l, hf, hl⟩ := h.fu
  obtain ⟨L, l1, l2, l3, l4⟩ := h.few
  have hr : readF m.bl C fs nm = ansF (nowF C H nm) := readF_now h.on h.ok.ok.rise nm
  have := fread_any hf (by rw [hl]; exact h.ok) (by rw [h.off]; rfl) h.wt nm hn (fun b hb => by have := l4 nm b hb; omega)
  rw [hl, hr] at this
  exact this
theorem on_version (h : On B s d g cm w Q m ver next fs C H n) :
    Calls Tryz.prog 16 #[.pointer (some ⟨s, 0, none⟩)] w fun e w' => e = .returned (.int .u64 (ver : Int)) ∧ w' = w := by
  obtain ⟨wv, a, c, l, hf, hl⟩ := h.fu
  exact version_any hf
theorem on_free (h : On B s d g cm w Q m ver next fs C H n) :
    Calls Tryz.prog 17 #[.pointer (some ⟨s, 0, none⟩)] w fun e w' => e = .returned (.int .i64 ((freeB m.bl.length fs).length : Int)) ∧ Below w.heap.size w w' := by
  obtain ⟨wv, a, c, l, hf, hl⟩ := h.fu
  have hfew := h.ok.few
  have hl2 : l.length = fs.length := by rw [← hl, List.length_map]
  have := frees_any hf (by omega) (fun x hx => by
    have := bksL_mem (l := fs) (f := x.f) (by rw [← hl]; exact List.mem_map.2 ⟨x, hx, rfl⟩)
    omega)
  have hb := h.big
  rw [hl, free_okm h.ok (by omega)] at this
  exact this
theorem on_remove (h : On B s d g cm w Q m ver next fs C H n) (hn : n ≤ 90000) (nm : List UInt8) (hnm : nm.length ≤ 32) (hf : nowF C H nm ≠ none) :
    Calls Tryz.prog 27 #[.pointer (some ⟨s, 0, none⟩), nv nm] w fun e w' => e = .returned (.int .i64 0) ∧ ∃ Q', On B s d g cm w' Q' m ver next fs (setC C nm (some none)) H (n + 1) ∧ (∀ k, Q' k → Q k ∨ w.heap.size ≤ k) ∧ Upon Q w w' := by
  obtain ⟨wv, a, c, l, hfu, hl⟩ := h.fu
  obtain ⟨L, l1, l2, l3, l4⟩ := h.few
  have hfew := h.ok.few
  rw [← hl, List.length_map] at hfew
  refine (fremove_any hfu (by rw [h.off]; rfl) L l1 (by omega) (fun x hx => by have := l3 x hx; omega) (by omega) (fun x hx => (h.ok.ok.each x.f (by rw [← hl]; exact List.mem_map.2 ⟨x, hx, rfl⟩)).n2) nm (by omega) (by rw [hl]; exact (hasF_now h.on nm).2 hf)).mono ?_
  rintro e w' ⟨rfl, Q', hf', hq, _, ho⟩
  have hu : Upon Q w w' := Upon.of_only ho (fun k hk => .inl (by rw [List.mem_singleton.1 hk]; exact hfu.qm))
  exact ⟨rfl, Q', h.then hu hq ⟨wv, a, c, l, hf', hl⟩ h.off h.fuse h.wt h.big h.on h.ok (h.few.set nm hnm none (fun b' e => by cases e)), hq, hu⟩
theorem on_remove_none (h : On B s d g cm w Q m ver next fs C H n) (hn : n ≤ 90000) (nm : List UInt8) (hf : nowF C H nm = none) :
    Calls Tryz.prog 27 #[.pointer (some ⟨s, 0, none⟩), nv nm] w fun e w' => e = .returned (.int .i64 8) ∧ Below w.heap.size w w' := by
  obtain ⟨wv, a, c, l, hfu, hl⟩ := h.fu
  obtain ⟨L, l1, l2, l3, l4⟩ := h.few
  have hfew := h.ok.few
  rw [← hl, List.length_map] at hfew
  exact fremove_none hfu (by rw [h.off]; rfl) L l1 (by omega) (fun x hx => by have := l3 x hx; omega) (by omega) (fun x hx => (h.ok.ok.each x.f (by rw [← hl]; exact List.mem_map.2 ⟨x, hx, rfl⟩)).n2) nm (by rw [hl, hasF_now h.on nm, hf]; simp)
/-- A commit where nothing was changed. -/
theorem on_commit_none (h : On B s d g cm w Q m ver next fs C H n) (hC : ∀ nm, C nm = none) :
    Calls Tryz.prog 13 #[.pointer (some ⟨s, 0, none⟩)] w fun e w' => e = .returned (.int .i64 0) ∧ w' = w := by
  obtain ⟨wv, a, c, l, hfu, hl⟩ := h.fu
  exact commit_none hfu (by rw [h.off]; rfl) hC
/-- The disk behind a commit. -/
def afterD (m : DM) (C : Chg) (ver : Nat) (p : Nat × List Fil) : DM := (commitD m C p.2 (ver + 1) (manL (ver + 1) p.1 p.2)).1
/-- A commit of changes. -/
theorem on_commit (h : On B s d g cm w Q m ver next fs C H n) (hn : n ≤ 9000) {ss : List (List UInt8)} (hK : Keys C ss) (hC : ¬ ∀ nm, C nm = none) :
    Calls Tryz.prog 13 #[.pointer (some ⟨s, 0, none⟩)] w fun e w' =>
      match planM C ss m.bl.length ver next fs with
      | none => e = .returned (.int .i64 7) ∧ Below w.heap.size w w'
      | some p => e = .returned (.int .i64 0) ∧ ∃ Q', On B s d g cm w' Q' (afterD m C ver p) (ver + 1) p.1 p.2 none' (nowF C H) 0 ∧ (∀ k, Q' k → Q k ∨ w.heap.size ≤ k) ∧ Upon Q w w' := by
  obtain ⟨wv, a, c, l, hfu, hl⟩ := h.fu
  obtain ⟨L, l1, l2, l3, l4⟩ := h.few
  have hs : ∀ nm ∈ ss, nm.length ≤ 32 := fun nm hnm => l3 nm (l1 nm ((hK.mem nm).1 hnm))
  refine (commit_any hfu h.tab L l1 (by omega) l3 l4 (by rw [hl]; exact h.ok) hK h.off (by rw [h.wt]; exact Nat.zero_le _) h.big hC).mono ?_
  intro e w' hc
  rw [hl] at hc
  cases hp : planM C ss m.bl.length ver next fs with
  | none => rw [hp] at hc; exact hc
  | some p =>
    rw [hp] at hc
    obtain ⟨he, hu, Q', wv', hq, hr⟩ := hc
    obtain ⟨z1, z2⟩ := commit_free h.fuse C p.2 (ver + 1) (manL (ver + 1) p.1 p.2)
    rw [if_pos z1] at hr
    obtain ⟨a', c', l', hl', hf'⟩ := hr
    obtain ⟨nx, fs'⟩ := p
    obtain ⟨g1, g2, g3⟩ := commit_bl h.wt z1
    have hbl := commit_len h.wt z1
    have hok := (plan_okm h.ok h.small l4 hK hs hp).1
    have hon := commit_on rfl h.small h.on h.ok l4 hK hs hp h.wt _ z1
    refine ⟨by rw [he, z1], Q', h.then hu hq ⟨wv', a', c', l', hf', hl'⟩ (g2.trans h.off) ?_ g3 ?_ hon ?_ (few_none 0), hq, hu⟩
    · show (commitD m C fs' (ver + 1) (manL (ver + 1) nx fs')).1.fuse < 0
      rw [z2]
      exact h.fuse
    · show 33 ≤ (commitD m C fs' (ver + 1) (manL (ver + 1) nx fs')).1.bl.length
      rw [hbl]
      exact h.big
    · show Okm (commitD m C fs' (ver + 1) (manL (ver + 1) nx fs')).1.bl.length (ver + 1) nx fs'
      rw [hbl]
      exact hok
end Go.Proofs.YtbfochdoeibofaaGreatDoor.Full

/- Layer 9: a manifest's fields are read, plain. -/
namespace Go.Proofs.YtbfochdoeibofaaGreatDoor.Read
open Go.RowKit Go.Proofs.YtbfochdoeibofaaGreatDoor.Mani Go.Proofs.YtbfochdoeibofaaGreatDoor.Varint Go.Proofs.YtbfochdoeibofaaGreatDoor.Full

abbrev St := List UInt8 × Int
def numS (most : Nat) (s : St) : Nat × St := if s.2 = 0 then ((numG most 0 0 s.1).1, (s.1.drop (numG most 0 0 s.1).2.1, (numG most 0 0 s.1).2.2)) else (0, s)
def bytesS (n : Nat) (s : St) : List UInt8 × St := if s.2 = 0 then (if s.1.length < n then ([], (s.1, 2)) else (s.1.take n, (s.1.drop n, 0))) else ([], s)
def blocksS : Nat → St → List Nat → List Nat × St
  | 0, s, acc => (acc, s)
  | k + 1, s, acc => if s.2 = 0 then blocksS k (numS 65536 s).2 (acc ++ [(numS 65536 s).1]) else (acc, s)
/-- A file's name, number, size; then its blocks. -/
def headS (s : St) : Fil × St :=
  let a := numS 32 s
  let b := bytesS a.1 a.2
  let c := numS 4294967295 b.2
  let d := numS 7340032 c.2
  (⟨b.1, c.1, d.1, []⟩, d.2)
def fileS (s : St) : Fil × St :=
  let h := headS s
  let b := blocksS (Mani.many h.1.size) h.2 []
  ({ h.1 with blocks := b.1 }, b.2)
def filesS : Nat → St → List Fil → List Fil × St
  | 0, s, acc => (acc, s)
  | k + 1, s, acc => if s.2 = 0 then filesS k (fileS s).2 (acc ++ [(fileS s).1]) else (acc, s)
structure Man where
  ver : Nat
  next : Nat
  fs : List Fil
  err : Int
def readS (b : List UInt8) : Man :=
  let a := numS 18446744073709551615 (b, 0)
  let c := numS 4294967295 a.2
  let n := numS 2048 c.2
  let f := filesS n.1 n.2 []
  ⟨a.1, c.1, f.1, endE f.2.1 f.2.2⟩
-- what was put is read
theorem bitLen_fit {n i : Nat} (h : n * 2 ^ (7 * i) < 2 ^ 64) (h2 : 7 * i ≤ 64) : i * 7 + Lib.bitLen n ≤ 64 := by
  have h3 : n < 2 ^ (64 - 7 * i) := by
    have e : 2 ^ 64 = 2 ^ (64 - 7 * i) * 2 ^ (7 * i) := by rw [← Nat.pow_add]; congr 1; omega
    rw [e] at h
    exact Nat.lt_of_mul_lt_mul_right h
  have := Lib.bitLen_le n (64 - 7 * i) (by omega) h3
  omega
theorem byte_low {n : Nat} (h : n < 128) : (UInt8.ofNat n).toNat = n := by simp; omega
theorem byte_high (n : Nat) : (UInt8.ofNat (n % 128 + 128)).toNat = n % 128 + 128 := by
  have := Nat.mod_lt n (show 0 < 128 by decide)
  simp
  omega
theorem numG_put (most : Nat) (rest : List UInt8) : ∀ (n i N : Nat), N + n * 2 ^ (7 * i) < 2 ^ 64 → N + n * 2 ^ (7 * i) ≤ most → (i = 0 ∨ 0 < n) → numG most i N (vput n ++ rest) = (N + n * 2 ^ (7 * i), i + (vput n).length, 0) := by
  intro n
  induction n using Nat.strongRecOn with
  | ind n ih =>
    intro i N h1 h2 h3
    have hpos : 0 < 2 ^ (7 * i) := Nat.pow_pos (by decide)
    have h7 : 7 * i ≤ 64 := by
      rcases h3 with h3 | h3
      · omega
      · refine Classical.byContradiction fun hc => ?_
        have a1 : 2 ^ 64 ≤ 2 ^ (7 * i) := Nat.pow_le_pow_right (by decide) (by omega)
        have a2 : 2 ^ (7 * i) ≤ n * 2 ^ (7 * i) := Nat.le_mul_of_pos_left _ h3
        omega
    by_cases hl : n < 128
    · rw [vput_low hl]
      have hb := bitLen_fit (n := n) (i := i) (by omega) h7
      have e1 : n % 128 = n := Nat.mod_eq_of_lt hl
      show numG most i N (UInt8.ofNat n :: rest) = _
      unfold numG
      rw [byte_low hl, e1, if_neg (by omega), if_neg (by omega), if_neg (by omega)]
      rfl
    · rw [vput_high (by omega)]
      have hm : n % 128 < 128 := Nat.mod_lt _ (by decide)
      have hdm := Nat.div_add_mod n 128
      have hle : n % 128 * 2 ^ (7 * i) ≤ n * 2 ^ (7 * i) := Nat.mul_le_mul_right _ (Nat.mod_le _ _)
      have hb := bitLen_fit (n := n % 128) (i := i) (by omega) h7
      have e1 : (n % 128 + 128) % 128 = n % 128 := by omega
      have e2 : 2 ^ (7 * (i + 1)) = 128 * 2 ^ (7 * i) := by rw [show 7 * (i + 1) = 7 + 7 * i by omega, Nat.pow_add]
      have e3 : N + n % 128 * 2 ^ (7 * i) + n / 128 * 2 ^ (7 * (i + 1)) = N + n * 2 ^ (7 * i) := by
        rw [e2, ← Nat.mul_assoc, Nat.add_assoc, ← Nat.add_mul]
        congr 2
        omega
      show numG most i N (UInt8.ofNat (n % 128 + 128) :: (vput (n / 128) ++ rest)) = _
      unfold numG
      rw [byte_high, e1, if_neg (by omega), if_pos (by omega), ih (n / 128) (by omega) (i + 1) _ (by rw [e3]; exact h1) (by rw [e3]; exact h2) (.inr (by omega)), e3, List.length_cons]
      congr 2
      omega
theorem numS_put {n most : Nat} (h : n ≤ most) (h2 : n < 18446744073709551616) (rest : List UInt8) : numS most (vput n ++ rest, 0) = (n, (rest, 0)) := by
  have := numG_put most rest n 0 0 (by simpa using h2) (by simpa using h) (.inl rfl)
  simp only [Nat.mul_zero, Nat.pow_zero, Nat.mul_one, Nat.zero_add] at this
  unfold numS
  rw [if_pos rfl]
  dsimp only
  rw [this]
  dsimp only
  rw [List.drop_left]
theorem bytesS_put (nm rest : List UInt8) : bytesS nm.length (nm ++ rest, 0) = (nm, (rest, 0)) := by
  unfold bytesS
  rw [if_pos rfl]
  dsimp only
  rw [if_neg (by rw [List.length_append]; omega), List.take_left, List.drop_left]
theorem blocksS_put (rest : List UInt8) : ∀ (l acc : List Nat), (∀ i ∈ l, i ≤ 65536) → blocksS l.length (blocksL l ++ rest, 0) acc = (acc ++ l, (rest, 0))
  | [], acc, _ => by show (acc, (rest, (0 : Int))) = _; rw [List.append_nil]
  | i :: r, acc, h => by
    have hi := h i (by simp)
    have e : blocksL (i :: r) ++ rest = vput i ++ (blocksL r ++ rest) := by unfold Mani.blocksL; rw [List.flatMap_cons, List.append_assoc]
    rw [e, List.length_cons]
    unfold blocksS
    rw [if_pos rfl, numS_put hi (by omega), blocksS_put rest r _ (fun j hj => h j (by simp [hj])), List.append_assoc]
    rfl
/-- A file whose fields fit. -/
structure FFit (f : Fil) : Prop where
  name : f.name.length ≤ 32
  id : f.id ≤ 4294967295
  size : f.size ≤ 7340032
  many : Mani.many f.size = f.blocks.length
  blocks : ∀ i ∈ f.blocks, i ≤ 65536
theorem fileS_put {f : Fil} (h : FFit f) (rest : List UInt8) : fileS (filL f ++ rest, 0) = (f, (rest, 0)) := by
  have e : filL f ++ rest = vput f.name.length ++ (f.name ++ (vput f.id ++ (vput f.size ++ (blocksL f.blocks ++ rest)))) := by unfold Mani.filL; simp only [List.append_assoc]
  have hd : headS (filL f ++ rest, 0) = (⟨f.name, f.id, f.size, []⟩, (blocksL f.blocks ++ rest, 0)) := by
    unfold headS
    rw [e, numS_put h.name (by have := h.name; omega)]
    dsimp only
    rw [bytesS_put]
    dsimp only
    rw [numS_put h.id (by have := h.id; omega)]
    dsimp only
    rw [numS_put h.size (by have := h.size; omega)]
  unfold fileS
  rw [hd]
  dsimp only
  rw [h.many, blocksS_put rest f.blocks [] h.blocks]
  rfl
theorem filesS_put (rest : List UInt8) : ∀ (fs acc : List Fil), (∀ f ∈ fs, FFit f) → filesS fs.length (fs.flatMap filL ++ rest, 0) acc = (acc ++ fs, (rest, 0))
  | [], acc, _ => by show (acc, (rest, (0 : Int))) = _; rw [List.append_nil]
  | f :: r, acc, h => by
    have e : (f :: r).flatMap filL ++ rest = filL f ++ (r.flatMap filL ++ rest) := by rw [List.flatMap_cons, List.append_assoc]
    rw [e, List.length_cons]
    unfold filesS
    rw [if_pos rfl, fileS_put (h f (by simp)), filesS_put rest r _ (fun g hg => h g (by simp [hg])), List.append_assoc]
    rfl
theorem readS_put {ver next : Nat} {fs : List Fil} (hv : ver < 18446744073709551616) (hn : next < 4294967296) (hl : fs.length ≤ 2048) (h : ∀ f ∈ fs, FFit f) : readS (bodyL ver next fs) = ⟨ver, next, fs, 0⟩ := by
  unfold readS
  have e : bodyL ver next fs = vput ver ++ (vput next ++ (vput fs.length ++ fs.flatMap filL)) := rfl
  rw [e, numS_put (by omega) hv]
  dsimp only
  rw [numS_put (by omega) (by omega)]
  dsimp only
  rw [numS_put hl (by omega)]
  dsimp only
  have := filesS_put [] fs [] h
  rw [List.append_nil, List.nil_append] at this
  rw [this]
  rfl
theorem okm_fit {n ver next : Nat} {fs : List Fil} (h : Okm n ver next fs) : ∀ f ∈ fs, FFit f := fun f hf => by
  have h1 := h.fit f hf
  have h2 := h.size f hf
  have h3 := h.ok.each f hf
  have h4 := h1.2.1.id
  exact ⟨h1.1, by omega, by omega, h3.many, fun i hi => by have := h1.2.2 i hi; omega⟩
theorem readS_okm {n ver next : Nat} {fs : List Fil} (h : Okm n ver next fs) : readS (bodyL ver next fs) = ⟨ver, next, fs, 0⟩ := by
  have := h.few
  exact readS_put h.ver h.next (by omega) (okm_fit h)
-- bounds on whatever is read
theorem numG_le (most : Nat) : ∀ (bs : List UInt8) (i n : Nat), (numG most i n bs).1 ≤ most ∧ (numG most i n bs).2.1 ≤ i + bs.length ∧ ((numG most i n bs).2.2 = 0 → i < (numG most i n bs).2.1)
  | [], i, n => ⟨Nat.zero_le _, Nat.zero_le _, fun h => by cases h⟩
  | c :: r, i, n => by
    unfold numG
    split
    · exact ⟨Nat.zero_le _, Nat.zero_le _, fun h => by cases h⟩
    · split
      · obtain ⟨h1, h2, h3⟩ := numG_le most r (i + 1) (n + c.toNat % 128 * 2 ^ (7 * i))
        exact ⟨h1, by rw [List.length_cons]; omega, fun h => by have := h3 h; omega⟩
      · split
        · exact ⟨Nat.zero_le _, Nat.zero_le _, fun h => by cases h⟩
        · rename_i h1
          exact ⟨by omega, by rw [List.length_cons]; show i + 1 ≤ _; omega, fun _ => Nat.lt_succ_self _⟩
theorem numS_le (most : Nat) (s : St) : (numS most s).1 ≤ most ∧ (numS most s).2.1.length ≤ s.1.length ∧ ((numS most s).2.2 = 0 → (numS most s).2.1.length < s.1.length) := by
  unfold numS
  by_cases h : s.2 = 0
  · rw [if_pos h]
    obtain ⟨h1, h2, h3⟩ := numG_le most s.1 0 0
    refine ⟨h1, by rw [List.length_drop]; omega, fun h4 => ?_⟩
    have h5 := h3 h4
    show (s.1.drop _).length < _
    rw [List.length_drop]
    omega
  · rw [if_neg h]
    exact ⟨Nat.zero_le _, Nat.le_refl _, fun h2 => absurd h2 h⟩
theorem bytesS_le (n : Nat) (s : St) : (bytesS n s).1.length ≤ n ∧ (bytesS n s).2.1.length ≤ s.1.length := by
  unfold bytesS
  split
  · split
    · exact ⟨Nat.zero_le _, Nat.le_refl _⟩
    · exact ⟨by rw [List.length_take]; omega, by rw [List.length_drop]; omega⟩
  · exact ⟨Nat.zero_le _, Nat.le_refl _⟩
theorem blocksS_le : ∀ (k : Nat) (s : St) (acc : List Nat), (∀ i ∈ acc, i ≤ 65536) → (∀ i ∈ (blocksS k s acc).1, i ≤ 65536) ∧ (blocksS k s acc).2.1.length ≤ s.1.length ∧ (blocksS k s acc).1.length + (blocksS k s acc).2.1.length ≤ acc.length + s.1.length + 1
  | 0, s, acc, h => ⟨h, Nat.le_refl _, by show acc.length + s.1.length ≤ _; omega⟩
  | k + 1, s, acc, h => by
    unfold blocksS
    by_cases hs : s.2 = 0
    · rw [if_pos hs]
      obtain ⟨n1, n2, n3⟩ := numS_le 65536 s
      have hacc : ∀ i ∈ acc ++ [(numS 65536 s).1], i ≤ 65536 := fun i hi => by
        rcases List.mem_append.1 hi with hi | hi
        · exact h i hi
        · rw [List.mem_singleton.1 hi]; exact n1
      by_cases hz : (numS 65536 s).2.2 = 0
      · obtain ⟨b1, b2, b3⟩ := blocksS_le k (numS 65536 s).2 _ hacc
        have := n3 hz
        rw [List.length_append, List.length_singleton] at b3
        exact ⟨b1, by omega, by omega⟩
      · have e : blocksS k (numS 65536 s).2 (acc ++ [(numS 65536 s).1]) = (acc ++ [(numS 65536 s).1], (numS 65536 s).2) := by
          cases k with
          | zero => rfl
          | succ k => unfold blocksS; rw [if_neg hz]
        rw [e]
        refine ⟨hacc, n2, ?_⟩
        dsimp only
        rw [List.length_append, List.length_singleton]
        omega
    · rw [if_neg hs]
      exact ⟨h, Nat.le_refl _, by show acc.length + s.1.length ≤ _; omega⟩
/-- What is known of a file that was read, whatever it was read of. -/
structure FGot (f : Fil) : Prop where
  name : f.name.length ≤ 32
  id : f.id ≤ 4294967295
  size : f.size ≤ 7340032
  blocks : ∀ i ∈ f.blocks, i ≤ 65536
theorem fileS_le (s : St) : FGot (fileS s).1 ∧ (fileS s).1.blocks.length + (fileS s).2.1.length ≤ s.1.length + 1 := by
  unfold fileS headS
  dsimp only
  obtain ⟨a1, a2, _⟩ := numS_le 32 s
  obtain ⟨b1, b2⟩ := bytesS_le (numS 32 s).1 (numS 32 s).2
  obtain ⟨c1, c2, _⟩ := numS_le 4294967295 (bytesS (numS 32 s).1 (numS 32 s).2).2
  obtain ⟨d1, d2, _⟩ := numS_le 7340032 (numS 4294967295 (bytesS (numS 32 s).1 (numS 32 s).2).2).2
  obtain ⟨e1, e2, e3⟩ := blocksS_le (Mani.many (numS 7340032 (numS 4294967295 (bytesS (numS 32 s).1 (numS 32 s).2).2).2).1) (numS 7340032 (numS 4294967295 (bytesS (numS 32 s).1 (numS 32 s).2).2).2).2 [] (fun i hi => by cases hi)
  refine ⟨⟨by show (bytesS _ _).1.length ≤ 32; omega, c1, d1, e1⟩, ?_⟩
  rw [List.length_nil] at e3
  omega
theorem filesS_le : ∀ (k : Nat) (s : St) (acc : List Fil), (∀ f ∈ acc, FGot f) → (∀ f ∈ (filesS k s acc).1, FGot f) ∧ (filesS k s acc).1.length ≤ acc.length + k ∧ (bksL (filesS k s acc).1).length + (filesS k s acc).2.1.length ≤ (bksL acc).length + s.1.length + k
  | 0, s, acc, h => ⟨h, Nat.le_refl _, Nat.le_refl _⟩
  | k + 1, s, acc, h => by
    unfold filesS
    by_cases hs : s.2 = 0
    · rw [if_pos hs]
      obtain ⟨g1, g2⟩ := fileS_le s
      obtain ⟨f1, f2, f3⟩ := filesS_le k (fileS s).2 (acc ++ [(fileS s).1]) (fun f hf => by
        rcases List.mem_append.1 hf with hf | hf
        · exact h f hf
        · rw [List.mem_singleton.1 hf]; exact g1)
      have e : (bksL (acc ++ [(fileS s).1])).length = (bksL acc).length + (fileS s).1.blocks.length := by
        unfold Mani.bksL
        rw [List.flatMap_append, List.length_append]
        simp
      rw [e] at f3
      rw [List.length_append, List.length_singleton] at f2
      exact ⟨f1, by omega, by omega⟩
    · rw [if_neg hs]
      exact ⟨h, by show acc.length ≤ _; omega, by show (bksL acc).length + s.1.length ≤ _; omega⟩
theorem readS_le (b : List UInt8) : (readS b).ver ≤ 18446744073709551615 ∧ (readS b).next ≤ 4294967295 ∧ (∀ f ∈ (readS b).fs, FGot f) ∧ (readS b).fs.length ≤ 2048 ∧ (bksL (readS b).fs).length ≤ b.length + 2048 := by
  unfold readS
  dsimp only
  obtain ⟨a1, a2, _⟩ := numS_le 18446744073709551615 (b, 0)
  obtain ⟨b1, b2, _⟩ := numS_le 4294967295 (numS 18446744073709551615 (b, 0)).2
  obtain ⟨c1, c2, _⟩ := numS_le 2048 (numS 4294967295 (numS 18446744073709551615 (b, 0)).2).2
  obtain ⟨f1, f2, f3⟩ := filesS_le (numS 2048 (numS 4294967295 (numS 18446744073709551615 (b, 0)).2).2).1 (numS 2048 (numS 4294967295 (numS 18446744073709551615 (b, 0)).2).2).2 [] (fun f hf => by cases hf)
  have e : (bksL ([] : List Fil)).length = 0 := rfl
  rw [e] at f3
  rw [List.length_nil] at f2
  dsimp only at a2
  exact ⟨a1, b1, f1, by omega, by omega⟩
/-- How long the fields' bytes are, at most. -/
theorem body_got {ver next : Nat} {fs : List Fil} (hv : ver ≤ 18446744073709551615) (hn : next ≤ 4294967295) (hf : ∀ f ∈ fs, FGot f) (hl : fs.length ≤ 2048) (hb : (bksL fs).length ≤ 250000) : (bodyL ver next fs).length ≤ 900000 := by
  have a1 := vput_length 9 ver (by omega)
  have a2 := vput_length 4 next (by omega)
  have a3 := vput_length 9 fs.length (by omega)
  have a4 : ∀ l : List Nat, (∀ i ∈ l, i ≤ 65536) → (blocksL l).length ≤ 3 * l.length := by
    intro l
    induction l with
    | nil => intro _; exact Nat.le_refl _
    | cons i r ih =>
      intro h
      have b1 := vput_length 2 i (by have := h i (by simp); omega)
      have b2 := ih (fun j hj => h j (by simp [hj]))
      unfold Mani.blocksL at b2 ⊢
      rw [List.flatMap_cons, List.length_append, List.length_cons]
      omega
  have a5 : ∀ l : List Fil, (∀ f ∈ l, FGot f) → (l.flatMap filL).length ≤ 60 * l.length + 3 * (bksL l).length := by
    intro l
    induction l with
    | nil => intro _; exact Nat.le_refl _
    | cons f r ih =>
      intro h
      have g := h f (by simp)
      have b1 := vput_length 0 f.name.length (by have := g.name; omega)
      have b2 := vput_length 4 f.id (by have := g.id; omega)
      have b3 := vput_length 4 f.size (by have := g.size; omega)
      have b4 := a4 f.blocks g.blocks
      have b5 := ih (fun x hx => h x (by simp [hx]))
      have b6 := g.name
      have e : (bksL (f :: r)).length = f.blocks.length + (bksL r).length := by unfold Mani.bksL; rw [List.flatMap_cons, List.length_append]
      have e2 : (filL f).length = (vput f.name.length).length + (f.name.length + ((vput f.id).length + ((vput f.size).length + (blocksL f.blocks).length))) := by
        unfold Mani.filL
        simp only [List.length_append]
      rw [e, List.flatMap_cons, List.length_append, List.length_cons, e2]
      omega
  have a6 := a5 fs hf
  unfold Mani.bodyL
  simp only [List.length_append]
  omega
/-- The manifest that some bytes are. -/
def getS (bs : List UInt8) : Option (Nat × Nat × List Fil) :=
  if (Frame.got bs).2.2.2 = 0 ∧ (Frame.got bs).1 = 77 then
    (if (readS (Frame.got bs).2.1).err = 0 ∧ mayB (readS (Frame.got bs).2.1).ver (readS (Frame.got bs).2.1).next (readS (Frame.got bs).2.1).fs = true then some ((readS (Frame.got bs).2.1).ver, (readS (Frame.got bs).2.1).next, (readS (Frame.got bs).2.1).fs) else none)
  else none
theorem num_head (k : UInt8) (n : Nat) (h : n ≤ 1048576) : Frame.num (Frame.head k n) = n := by
  unfold Frame.num Frame.head
  simp only [List.getD_cons_succ, List.getD_cons_zero, UInt8.toNat_ofNat']
  omega
open Go.Proofs.YtbfochdoeibofaaGreatDoor.Crc in
theorem got_long (k : UInt8) (b rest : List UInt8) (hb : b.length ≤ 1048576) : Frame.got (Frame.frameL k b ++ rest) = (k, b, 13 + b.length, 0) := by
  have hl := Frame.frameL_length k b
  have hh : (marked (Frame.head k b.length)).length = 9 := by rw [mark_length]; rfl
  have hm : (marked b).length = b.length + 4 := mark_length b
  have e0 : Frame.frameL k b ++ rest = marked (Frame.head k b.length) ++ (marked b ++ rest) := by unfold Frame.frameL; rw [List.append_assoc]
  have e1 : (Frame.frameL k b ++ rest).take 9 = marked (Frame.head k b.length) := by rw [e0, ← hh, List.take_left]
  have e2 : (Frame.frameL k b ++ rest).drop 9 = marked b ++ rest := by rw [e0, ← hh, List.drop_left]
  have e3 : (marked b ++ rest).take (b.length + 4) = marked b := by rw [← hm, List.take_left]
  have h1 := (fits_mark (Frame.head k b.length)).2
  have h2 := (fits_mark b).2
  have e4 : bodyOf (marked (Frame.head k b.length)) = Frame.head k b.length := bodyOf_mark _
  have hl2 : (Frame.frameL k b ++ rest).length = 13 + b.length + rest.length := by rw [List.length_append, hl]; omega
  unfold Frame.got
  rw [e1, e2, e4, num_head k b.length hb, e3, h1, h2, bodyOf_mark, hl2]
  rw [if_neg (by omega), if_neg (by decide), if_neg (by omega), if_neg (by omega), if_neg (by decide)]
  rfl
theorem getS_man {n ver next : Nat} {fs : List Fil} (h : Okm n ver next fs) : getS (manL ver next fs) = some (ver, next, fs) := by
  have hs := may_short h.may
  have hg := got_long 77 (bodyL ver next fs) (List.replicate (2035 - (bodyL ver next fs).length) 0) (by omega)
  unfold getS Mani.manL
  rw [hg]
  dsimp only
  rw [if_pos ⟨rfl, rfl⟩, readS_okm h]
  dsimp only
  rw [if_pos ⟨rfl, h.may⟩]
end Go.Proofs.YtbfochdoeibofaaGreatDoor.Read

/- Layer 9: a manifest that is being read, as it lies in memory. -/
namespace Go.Proofs.YtbfochdoeibofaaGreatDoor.Read
open Go.RowKit Go.Deep Mem Crc Go.Proofs.YtbfochdoeibofaaGreatDoor.Mani Go.Proofs.YtbfochdoeibofaaGreatDoor.Full

/-- append(l, x) onto a row of numbers of one's own. -/
theorem append_int {base : Nat} (w : World) (ty : TypeId) (v : Value) (l : List Nat) (h : w.ownsRow base 3 1 v l.length (l.map iv)) (x : Nat) (hm : l.length ≤ 1000000) (hb : base ≤ w.heap.size) :
    ∃ v' w', (Builtin.append_ #[51, 51] ty #[v, .slice (some ⟨w.heap.size, 0, none⟩) 1 1]).run Tryz.prog (w.alloc (.cells #[iv x] 3)) = .ok v' w' ∧ w'.ownsRow base 3 1 v' (l ++ [x]).length ((l ++ [x]).map iv) ∧ w.grownBy w' v.ownBlock := by
  obtain ⟨i, hi, hz, h1, h2⟩ := info_parts Ext.infoI
  have hB : Below w.heap.size w (w.alloc (.cells #[iv x] 3)) := (Below.refl _ w).alloc (Nat.le_refl _) _
  obtain ⟨v', w', hr, ho, hg, _⟩ := run_append_own (P := Tryz.prog) (w.alloc (.cells #[iv x] 3)) base 51 ty 3 i (.int .i64 0) 1 8 Tryz.underlying51 hi hz h1 h2 rfl (by decide) v l.length (l.map iv) (own_later h hB) ⟨w.heap.size, 0, none⟩ 1 1 [iv x] rfl (fun j u hu => by
    have := lies_add (new_lies w 3 #[iv x]) j u hu
    exact this) (fun u hu => by rw [List.mem_singleton.1 hu]; rfl) (by unfold maxLen; omega) (by omega) (Nat.le_trans hb hB.size)
  refine ⟨v', w', hr, ?_, grown_later hB hg⟩
  rw [List.length_append, List.map_append]
  exact ho
/-- append(l, f) onto a row of files of one's own. -/
theorem append_file {base : Nat} (w : World) (ty : TypeId) (v : Value) (l : List FR) (h : w.ownsRow base 96 4 v l.length (flatF l)) (x : FR) (hm : l.length ≤ 1000000) (hb : base ≤ w.heap.size) :
    ∃ v' w', (Builtin.append_ #[32, 32] ty #[v, .slice (some ⟨w.heap.size, 0, none⟩) 1 1]).run Tryz.prog (w.alloc (.cells x.vs.toArray 96)) = .ok v' w' ∧ w'.ownsRow base 96 4 v' (l ++ [x]).length (flatF (l ++ [x])) ∧ w.grownBy w' v.ownBlock := by
  obtain ⟨i, hi, hz, h1, h2⟩ := info_parts infoF
  have hB : Below w.heap.size w (w.alloc (.cells x.vs.toArray 96)) := (Below.refl _ w).alloc (Nat.le_refl _) _
  obtain ⟨v', w', hr, ho, hg, _⟩ := run_append_own (P := Tryz.prog) (w.alloc (.cells x.vs.toArray 96)) base 32 ty 96 i (.agg #[.string ⟨#[]⟩, .int .u32 0, .int .i64 0, .slice none 0 0]) 4 56 Tryz.underlying32 hi hz h1 h2 rfl (by decide) v l.length (flatF l) (own_later h hB) ⟨w.heap.size, 0, none⟩ 1 1 x.vs rfl (fun j u hu => by
    have := lies_add (new_lies w 96 x.vs.toArray) j u (by simpa using hu)
    exact this) (fun u hu => by
    unfold FR.vs at hu
    simp only [List.mem_cons, List.not_mem_nil, or_false] at hu
    rcases hu with rfl | rfl | rfl | rfl <;> rfl) (by unfold maxLen; omega) (by omega) (Nat.le_trans hb hB.size)
  refine ⟨v', w', hr, ?_, grown_later hB hg⟩
  have e : flatF (l ++ [x]) = flatF l ++ x.vs := by unfold flatF; rw [List.flatMap_append]; simp
  rw [List.length_append, e]
  exact ho
/-- r: the answer's cells; q: the manifest, whose files' row is u; rd: the reader, what is left. -/
structure RS (w : World) (r q rd ver next : Nat) (u : Value) (l : List FR) (s : St) (W : World) : Prop where
  below : Below w.heap.size w W
  res : Blk W r 34 #[.int .u64 0, .int .u32 0, .slice none 0 0]
  man : Blk W q 34 #[.int .u64 (ver : Int), .int .u32 (next : Int), u]
  row : W.ownsRow w.heap.size 96 4 u l.length (flatF l)
  blocks : ∀ x ∈ l, NewRow w.heap.size W x
  rd : Rd w.heap.size W rd s.1 s.2
  gq : w.heap.size ≤ q
  gr : w.heap.size ≤ r
  ne : q ≠ r
variable {w W W' : World} {r q rd ver next : Nat} {u u' : Value} {l l' : List FR} {s s' : St}
theorem Rd.blk {B : Nat} {rd : Nat} {bs : List UInt8} {e : Int} (h : Rd B W rd bs e) : ∃ cs, Blk W rd 218 cs ∧ B ≤ rd := by
  obtain ⟨a, cap, h1, _, _, _, _, h6⟩ := h
  exact ⟨_, h1, h6⟩
/-- A step that writes only what is new, and neither of these. -/
theorem RS.upon (h : RS w r q rd ver next u l s W) {X : Nat → Prop} (hu : Upon X W W') (hX : ∀ k, X k → w.heap.size ≤ k) (h1 : ¬ X r) (h2 : ¬ X q) (h3 : ∀ k, u.ownBlock = some k → ¬ X k) (h4 : ∀ x ∈ l, ∀ k, (Value.slice x.a x.f.blocks.length x.c).ownBlock = some k → ¬ X k) (h5 : ¬ X rd) : RS w r q rd ver next u l s W' :=
  ⟨h.below.trans (hu.below h.below.size hX), h.res.upon hu h1, h.man.upon hu h2, own_upon h.row hu h3, fun x hx => own_upon (h.blocks x hx) hu (h4 x hx), h.rd.upon hu h5 hX, h.gq, h.gr, h.ne⟩
theorem RS.later (h : RS w r q rd ver next u l s W) (hB : Below W.heap.size W W') : RS w r q rd ver next u l s W' :=
  h.upon (X := fun _ => False) (Upon.of_below hB) (fun _ hf => hf.elim) id id (fun _ _ => id) (fun _ _ _ _ => id) id
/-- The reader has gone on. -/
theorem RS.readU (h : RS w r q rd ver next u l s W) (hu : Upon (fun k => k = rd) W W') (hr : Rd w.heap.size W' rd s'.1 s'.2) : RS w r q rd ver next u l s' W' := by
  obtain ⟨cs, hb, hg⟩ := h.rd.blk
  have hX : ∀ k, k = rd → w.heap.size ≤ k := fun k e => by rw [e]; exact hg
  exact ⟨h.below.trans (hu.below h.below.size hX), h.res.upon hu (h.res.ne hb (by decide)), h.man.upon hu (h.man.ne hb (by decide)), own_upon h.row hu (fun k hk e => own_ne_blk h.row hb (by decide) (e ▸ hk)), fun x hx => own_upon (h.blocks x hx) hu (fun k hk e => own_ne_blk (h.blocks x hx) hb (by decide) (e ▸ hk)), hr, h.gq, h.gr, h.ne⟩
theorem RS.read (h : RS w r q rd ver next u l s W) (ho : Only [rd] W W') (hr : Rd w.heap.size W' rd s'.1 s'.2) : RS w r q rd ver next u l s' W' :=
  h.readU (Upon.of_only ho (fun g hg => .inl (List.mem_singleton.1 hg))) hr
/-- The files' row is another one. -/
theorem RS.rowed (h : RS w r q rd ver next u l s W) (hg : W.grownBy W' u.ownBlock) (hrow : W'.ownsRow w.heap.size 96 4 u' l'.length (flatF l')) (hb : ∀ x ∈ l', x ∈ l ∨ NewRow w.heap.size W x) : RS w r q rd ver next u' l' s (W'.setCell ⟨q, 2, none⟩ u') := by
  obtain ⟨cs, hrb, hrg⟩ := h.rd.blk
  have hu : Upon (fun k => u.ownBlock = some k) W W' := Upon.of_grown hg (fun g hg => .inl hg)
  have hX : ∀ k, u.ownBlock = some k → w.heap.size ≤ k := fun k hk => (h.row.lt k hk).1
  have hman := h.man.upon hu (own_ne_blk h.row h.man (by decide))
  have hres := h.res.upon hu (own_ne_blk h.row h.res (by decide))
  have hbl : ∀ x ∈ l', NewRow w.heap.size W' x := fun x hx => by
    have hn : NewRow w.heap.size W x := (hb x hx).elim (h.blocks x) id
    exact own_upon hn hu (fun k hk e => own_ne_own h.row hn (by decide) e hk)
  have hrd := h.rd.upon hu (own_ne_blk h.row hrb (by decide)) hX
  have hu2 : Upon (fun k => k = q) W' (W'.setCell ⟨q, 2, none⟩ u') := (Upon.refl (fun k => k = q) W').set (p := ⟨q, 2, none⟩) (.inl rfl) _
  obtain ⟨cs2, hrb2, _⟩ := hrd.blk
  have hBW := h.below.trans (hu.below h.below.size hX)
  exact ⟨hBW.setCell h.gq _, hres.far (Ne.symm h.ne) _, hman.set 2 _, own_far hrow (own_ne_blk hrow hman (by decide)) _, fun x hx => own_far (hbl x hx) (own_ne_blk (hbl x hx) hman (by decide)) _, hrd.upon hu2 (hrb2.ne hman (by decide)) (fun k e => by rw [e]; exact h.gq), h.gq, h.gr, h.ne⟩
theorem RS.files (h : RS w r q rd ver next u l s W) : ∃ a c, u = .slice a l.length c ∧ FilesIn W a l ∧ (∀ b, Mem.blk a = some b → w.heap.size ≤ b ∧ b < W.heap.size) ∧ ∀ x ∈ l, ∀ b, Mem.blk x.a = some b → w.heap.size ≤ b ∧ b < W.heap.size := by
  obtain ⟨a, c, rfl, _, hL, hg, _⟩ := own_shape h.row
  refine ⟨a, c, rfl, ⟨hL, fun x hx => ?_⟩, hg, fun x hx b hb => ?_⟩
  · obtain ⟨a2, c2, e, hc, hL2, _, _⟩ := own_shape (h.blocks x hx)
    cases e
    exact ⟨hL2, hc⟩
  · obtain ⟨a2, c2, e, hc, hL2, hg2, _⟩ := own_shape (h.blocks x hx)
    cases e
    exact hg2 b hb
/-- A file under way: its box at fb, its blocks' row bu. -/
structure BS (w : World) (r q rd ver next : Nat) (u : Value) (l : List FR) (fb : Nat) (nm : Value) (id sz : Nat) (bu : Value) (acc : List Nat) (s : St) (W : World) : Prop where
  rs : RS w r q rd ver next u l s W
  box : Blk W fb 96 #[nm, .int .u32 (id : Int), .int .i64 (sz : Int), bu]
  bl : W.ownsRow fb 3 1 bu acc.length (acc.map iv)
  gf : w.heap.size ≤ fb
  lu : ∀ k, u.ownBlock = some k → k < fb
  lx : ∀ x ∈ l, ∀ k, (Value.slice x.a x.f.blocks.length x.c).ownBlock = some k → k < fb
variable {fb id sz id' sz' : Nat} {nm bu bu' : Value} {acc acc' : List Nat}
theorem BS.start (h : RS w r q rd ver next u l s W) (nm : Value) (id sz : Nat) : BS w r q rd ver next u l W.heap.size nm id sz (.slice none 0 0) [] s (W.alloc (.cells #[nm, .int .u32 (id : Int), .int .i64 (sz : Int), .slice none 0 0] 96)) :=
  ⟨h.later ((Below.refl _ W).alloc (Nat.le_refl _) _), Blk.new W _ _, World.ownsRow_nil _ _ _ _, h.below.size, fun k hk => (h.row.lt k hk).2, fun x hx k hk => (World.ownsRow.lt (h.blocks x hx) k hk).2⟩
theorem BS.upon (h : BS w r q rd ver next u l fb nm id sz bu acc s W) {X : Nat → Prop} (hu : Upon X W W') (hX : ∀ k, X k → fb < k ∨ k = fb) (h1 : ¬ X r) (h2 : ¬ X q) (h5 : ¬ X rd) : RS w r q rd ver next u l s W' :=
  h.rs.upon hu (fun k hk => by have := h.gf; have := hX k hk; omega) h1 h2 (fun k hk hx => by have := h.lu k hk; have := hX k hx; omega) (fun x hx k hk hxk => by have := h.lx x hx k hk; have := hX k hxk; omega) h5
theorem BS.readU (h : BS w r q rd ver next u l fb nm id sz bu acc s W) (hu : Upon (fun k => k = rd) W W') (hr : Rd w.heap.size W' rd s'.1 s'.2) : BS w r q rd ver next u l fb nm id sz bu acc s' W' := by
  obtain ⟨cs, hb, hg⟩ := h.rs.rd.blk
  exact ⟨h.rs.readU hu hr, h.box.upon hu (h.box.ne hb (by decide)), own_upon h.bl hu (fun k hk e => own_ne_blk h.bl hb (by decide) (e ▸ hk)), h.gf, h.lu, h.lx⟩
theorem BS.read (h : BS w r q rd ver next u l fb nm id sz bu acc s W) (ho : Only [rd] W W') (hr : Rd w.heap.size W' rd s'.1 s'.2) : BS w r q rd ver next u l fb nm id sz bu acc s' W' :=
  h.readU (Upon.of_only ho (fun g hg => .inl (List.mem_singleton.1 hg))) hr
theorem BS.later (h : BS w r q rd ver next u l fb nm id sz bu acc s W) (hB : Below W.heap.size W W') : BS w r q rd ver next u l fb nm id sz bu acc s W' :=
  ⟨h.rs.later hB, h.box.below hB h.box.lt, own_later h.bl hB, h.gf, h.lu, h.lx⟩
/-- Its box is written. -/
theorem BS.set (h : BS w r q rd ver next u l fb nm id sz bu acc s W) (i : Nat) (v : Value) (hb : Blk (W.setCell ⟨fb, i, none⟩ v) fb 96 #[nm, .int .u32 (id' : Int), .int .i64 (sz' : Int), bu']) (hr : W.ownsRow fb 3 1 bu' acc'.length (acc'.map iv)) : BS w r q rd ver next u l fb nm id' sz' bu' acc' s (W.setCell ⟨fb, i, none⟩ v) := by
  obtain ⟨cs, hrb, hg⟩ := h.rs.rd.blk
  have hu : Upon (fun k => k = fb) W (W.setCell ⟨fb, i, none⟩ v) := (Upon.refl (fun k => k = fb) W).set (p := ⟨fb, i, none⟩) (.inl rfl) _
  exact ⟨h.upon hu (fun k hk => .inr hk) (h.rs.res.ne h.box (by decide)) (h.rs.man.ne h.box (by decide)) (hrb.ne h.box (by decide)), hb, own_far hr (own_ne_blk hr h.box (by decide)) _, h.gf, h.lu, h.lx⟩
/-- A block behind the others: the row first, the box then. -/
theorem BS.grow (h : BS w r q rd ver next u l fb nm id sz bu acc s W) (hg : W.grownBy W' bu.ownBlock) (hr : W'.ownsRow fb 3 1 bu' acc'.length (acc'.map iv)) : BS w r q rd ver next u l fb nm id sz bu' acc' s (W'.setCell ⟨fb, 3, none⟩ bu') := by
  obtain ⟨cs, hrb, hrg⟩ := h.rs.rd.blk
  have hu : Upon (fun k => bu.ownBlock = some k) W W' := Upon.of_grown hg (fun g hg => .inl hg)
  have hrs := h.upon hu (fun k hk => by have h1 := (h.bl.lt k hk).1; rcases Nat.lt_or_eq_of_le h1 with h2 | h2; exact .inl h2; exact .inr h2.symm) (own_ne_blk h.bl h.rs.res (by decide)) (own_ne_blk h.bl h.rs.man (by decide)) (own_ne_blk h.bl hrb (by decide))
  have hbx := h.box.upon hu (own_ne_blk h.bl h.box (by decide))
  have h2 : BS w r q rd ver next u l fb nm id sz bu [] s W' → BS w r q rd ver next u l fb nm id sz bu' acc' s (W'.setCell ⟨fb, 3, none⟩ bu') := fun h3 => h3.set 3 bu' (hbx.set 3 bu') hr
  obtain ⟨cs2, hrb2, _⟩ := hrs.rd.blk
  have hu2 : Upon (fun k => k = fb) W' (W'.setCell ⟨fb, 3, none⟩ bu') := (Upon.refl (fun k => k = fb) W').set (p := ⟨fb, 3, none⟩) (.inl rfl) _
  refine ⟨hrs.upon hu2 (fun k hk => by rw [hk]; exact h.gf) (hrs.res.ne hbx (by decide)) (hrs.man.ne hbx (by decide)) (fun k hk e => by have := h.lu k hk; omega) (fun x hx k hk e => by have := h.lx x hx k hk; omega) (hrb2.ne hbx (by decide)), hbx.set 3 bu', own_far hr (own_ne_blk hr hbx (by decide)) _, h.gf, h.lu, h.lx⟩
end Go.Proofs.YtbfochdoeibofaaGreatDoor.Read

/- Layer 9: manifest.read. -/
namespace Go.Proofs.YtbfochdoeibofaaGreatDoor.Read
open Go.RowKit Go.Deep Mem Crc Go.Proofs.YtbfochdoeibofaaGreatDoor.Mani Go.Proofs.YtbfochdoeibofaaGreatDoor.Full
open Go.Proofs.YtbfochdoeibofaaGreatDoor.Store (nv)

/-- Num, whatever the reader's error. -/
theorem numS_any {B : Nat} {w : World} {r : Nat} {s : St} (h : Rd B w r s.1 s.2) (most : Nat) (hm : most < 18446744073709551616) :
    Calls Tryz.prog 119 #[.pointer (some ⟨r, 0, none⟩), .int .u64 (most : Int)] w fun e w' => e = .returned (.int .u64 ((numS most s).1 : Int)) ∧ Rd B w' r (numS most s).2.1 (numS most s).2.2 ∧ Only [r] w w' := by
  unfold numS
  by_cases hz : s.2 = 0
  · rw [if_pos hz]
    rw [hz] at h
    exact num_any h most hm
  · rw [if_neg hz]
    refine (num_bad h hz most).mono ?_
    rintro e w' ⟨rfl, rfl⟩
    exact ⟨rfl, h, Only.refl _ _⟩
set_option maxHeartbeats 400000 in
set_option maxRecDepth 100000 in
theorem bytesS_any {B : Nat} {w : World} {r : Nat} {s : St} (h : Rd B w r s.1 s.2) (n : Nat) (hn : n ≤ 1000000) :
    Calls Tryz.prog 121 #[.pointer (some ⟨r, 0, none⟩), .int .i64 (n : Int)] w fun e w' => ∃ v, e = .returned v ∧ OwnB w' w.heap.size v (bytesS n s).1 ∧ Rd B w' r (bytesS n s).2.1 (bytesS n s).2.2 ∧ Upon (fun k => k = r) w w' := by
  obtain ⟨bs, k⟩ := s
  unfold bytesS
  dsimp only at h ⊢
  by_cases hz : k = 0
  · subst hz
    rw [if_pos rfl]
    obtain ⟨a, cap, hb, h2, h3, h4, h5, h6⟩ := id h
    have c0 := hb.cell 0
    have c1 := hb.cell 1
    have z0 := hb.frozen 0
    simp at c0 c1
    obtain ⟨L, hL⟩ : ∃ L, L = bs.length := ⟨_, rfl⟩
    rw [← hL] at c0 h2 h3
    have hn0 : decide ((n : Int) < 0) = false := decide_eq_false (by omega)
    by_cases hlt : L < n
    · rw [← hL, if_pos hlt]
      have hd : decide ((L : Int) < (n : Int)) = true := decide_eq_true (by omega)
      have HBAD := Lib.hid (bad_any h 2 (by decide))
      clear h hb h4 h5 h6 hL
      go_enter Tryz.func121, Tryz.ntmps121
      go_wp2_with fail
      refine HBAD.out.mono ?_
      rintro e w1 ⟨rfl, hR, hO⟩
      have HR := Lib.hid hR
      have HO := Lib.hid hO
      clear hR hO HBAD
      go_wp2_with fail
      go_ret
      exact ⟨_, rfl, World.ownsRow_nil _ _ _ _, HR.out, Upon.of_only HO.out (fun g hg => .inl (List.mem_singleton.1 hg))⟩
    · rw [← hL, if_neg hlt]
      have hd : decide ((L : Int) < (n : Int)) = false := decide_eq_false (by omega)
      obtain ⟨a', hsl, hblk, hsl2⟩ := slice_low a L cap n (by omega) h2
      have htl : (bs.take n).length = n := by rw [List.length_take]; omega
      have hcl := clone_any a cap (bs.take n) w (by rw [List.map_take]; exact h4.take n) (by rw [htl]; omega)
      rw [htl] at hcl
      have HCL := Lib.hid hcl
      have HB := Lib.hid hb
      have H4 := Lib.hid h4
      have H5 := Lib.hid h5
      have HSL2 := Lib.hid hsl2
      have HBLK := Lib.hid hblk
      have HL := Lib.hid hL
      have H6 := Lib.hid h6
      clear h hb h4 h5 h6 hL hcl hsl2 hblk
      go_enter Tryz.func121, Tryz.ntmps121
      go_wp2_with fail
      refine HCL.out.mono ?_
      rintro e w1 ⟨v, rfl, hO, hB1⟩
      have hb1 := HB.out.below hB1 HB.out.lt
      have c0 := hb1.cell 0
      have z0 := hb1.frozen 0
      simp at c0
      rw [← HL.out] at c0
      have hu : Upon (fun q => q = r) w1 (w1.setCell ⟨r, 0, none⟩ (.slice a' (L - n) (cap - n))) := (Upon.refl (fun q => q = r) w1).set (p := ⟨r, 0, none⟩) (.inl rfl) _
      have hRn : Rd B (w1.setCell ⟨r, 0, none⟩ (.slice a' (L - n) (cap - n))) r (bs.drop n) 0 := by
        have hbl := hb1.set 0 (.slice a' (L - n) (cap - n))
        have hl2 : (bs.drop n).length = L - n := by rw [List.length_drop, HL.out]
        refine ⟨a', cap - n, by rw [hl2]; exact hbl, by rw [hl2]; omega, by rw [hl2]; omega, ?_, fun q hq => H5.out q (by rw [← HBLK.out]; exact hq), H6.out⟩
        exact ((HSL2.out w bs HL.out.symm H4.out).later hB1).upon hu (fun q hq e => by
          have := H5.out q (by rw [← HBLK.out]; exact hq)
          have := H6.out
          omega)
      have hOn : OwnB (w1.setCell ⟨r, 0, none⟩ (.slice a' (L - n) (cap - n))) w.heap.size v (bs.take n) := own_far hO (own_ne_blk hO hb1 (by decide)) _
      have hun : Upon (fun q => q = r) w (w1.setCell ⟨r, 0, none⟩ (.slice a' (L - n) (cap - n))) := (Upon.of_below hB1).trans hu (fun q hq => .inl hq)
      have HRN := Lib.hid hRn
      have HON := Lib.hid hOn
      have HUN := Lib.hid hun
      clear hb1 hu hRn hOn hun hO hB1 HCL
      go_wp2_with fail
      go_ret
      exact ⟨v, rfl, HON.out, HRN.out, HUN.out⟩
  · rw [if_neg hz]
    obtain ⟨a, cap, hb, h2, h3, h4, h5, h6⟩ := id h
    have c1 := hb.cell 1
    simp at c1
    have hk' : (k == 0) = false := by simpa using hz
    have HR := Lib.hid h
    clear h hb h4 h5
    go_enter Tryz.func121, Tryz.ntmps121
    go_wp2_with fail
    go_ret
    exact ⟨_, rfl, World.ownsRow_nil _ _ _ _, HR.out, Upon.refl _ _⟩
end Go.Proofs.YtbfochdoeibofaaGreatDoor.Read

/- Layer 9: manifest.read. -/
namespace Go.Proofs.YtbfochdoeibofaaGreatDoor.Read
open Go.RowKit Go.Deep Mem Crc Go.Proofs.YtbfochdoeibofaaGreatDoor.Mani Go.Proofs.YtbfochdoeibofaaGreatDoor.Full
open Go.Proofs.YtbfochdoeibofaaGreatDoor.Store (nv)

/-- string(b). -/
theorem conv_b {va : Option Addr} {vc : Nat} {b : List UInt8} {w : World} (hL : Lies w va (b.map bv)) : (convert 22 9 (.slice va b.length vc)).run Tryz.prog w = .ok (sv b) w := by
  cases va with
  | none =>
    have e0 : b = [] := by
      rcases hL with h | ⟨g, o, h, _⟩
      · exact List.map_eq_nil_iff.1 h
      · cases h
    subst e0
    show (convert 22 9 (.slice none 0 vc)).run Tryz.prog w = .ok (.string ⟨#[]⟩) w
    kernel_rfl
  | some ad => exact run_convert_bytes_back w 22 9 5 _ vc _ Tryz.underlying22 Tryz.underlying5 Tryz.underlying9 (fun j hj => lies_add hL j _ (by simp [hj, bv]))
/-- What read answers. -/
def ReadsM (w : World) (M : Man) (e : Ending) (w' : World) : Prop := Below w.heap.size w w' ∧ ∃ (a : Option Addr) (c : Nat) (l : List FR), e = .returned (.tuple #[.agg #[.int .u64 (M.ver : Int), .int .u32 (M.next : Int), .slice a l.length c], .int .i64 M.err]) ∧ l.map FR.f = M.fs ∧ FilesIn w' a l ∧ (∀ b, Mem.blk a = some b → w.heap.size ≤ b ∧ b < w'.heap.size) ∧ ∀ x ∈ l, ∀ b, Mem.blk x.a = some b → w.heap.size ≤ b ∧ b < w'.heap.size
/-- What stands is answered. -/
theorem RS.gives {w W : World} {r q rd ver next : Nat} {a : Option Addr} {n c : Nat} {l : List FR} {s : St} {F : List Fil × St} (h : RS w r q rd ver next (.slice a n c) l s W) (hF : (l.map FR.f, s) = F) :
    ReadsM w ⟨ver, next, F.1, endE F.2.1 F.2.2⟩ (.returned (.tuple #[.agg #[.int .u64 (ver : Int), .int .u32 (next : Int), .slice a n c], .int .i64 (endE s.1 s.2)])) (((W.setCell ⟨r, 0, none⟩ (.int .u64 (ver : Int))).setCell ⟨r, 1, none⟩ (.int .u32 (next : Int))).setCell ⟨r, 2, none⟩ (.slice a n c)) := by
  subst hF
  have h1 := own_ne_blk h.row h.res (by decide)
  have hrow := own_far (own_far (own_far h.row h1 (p := ⟨r, 0, none⟩) (.int .u64 (ver : Int))) h1 (p := ⟨r, 1, none⟩) (.int .u32 (next : Int))) h1 (p := ⟨r, 2, none⟩) (.slice a n c)
  obtain ⟨a2, c2, e, _, hL, hg, _⟩ := own_shape hrow
  cases e
  refine ⟨below_res h.below h.gr _ _ _, a, c, l, rfl, rfl, ⟨hL, fun x hx => ?_⟩, hg, fun x hx b hb => ?_⟩
  · have h2 := own_ne_blk (h.blocks x hx) h.res (by decide)
    obtain ⟨a3, c3, e3, hc3, hL3, _, _⟩ := own_shape (own_far (own_far (own_far (h.blocks x hx) h2 (p := ⟨r, 0, none⟩) (.int .u64 (ver : Int))) h2 (p := ⟨r, 1, none⟩) (.int .u32 (next : Int))) h2 (p := ⟨r, 2, none⟩) (.slice a l.length c))
    cases e3
    exact ⟨hL3, hc3⟩
  · obtain ⟨a3, c3, e3, _, _, hg3, _⟩ := own_shape (h.blocks x hx)
    cases e3
    have := hg3 b hb
    simpa using this
attribute [local go_sem] Oper.semAt_some
set_option maxHeartbeats 4000000 in
set_option maxRecDepth 200000 in
theorem read_any (a : Option Addr) (cap : Nat) (bs : List UInt8) (w : World) (hc : bs.length ≤ cap) (hn : bs.length ≤ 100000) (hL : Lies w a (bs.map bv)) (ha : ∀ k, Mem.blk a = some k → k < w.heap.size) :
    Calls Tryz.prog 85 #[.slice a bs.length cap] w (ReadsM w (readS bs)) := by
  obtain ⟨s0, hs0⟩ : ∃ s : St, s = (bs, 0) := ⟨_, rfl⟩
  obtain ⟨s1, hs1⟩ : ∃ s, s = (numS 18446744073709551615 s0).2 := ⟨_, rfl⟩
  obtain ⟨ver, hver⟩ : ∃ s, s = (numS 18446744073709551615 s0).1 := ⟨_, rfl⟩
  obtain ⟨s2, hs2⟩ : ∃ s, s = (numS 4294967295 s1).2 := ⟨_, rfl⟩
  obtain ⟨next, hnext⟩ : ∃ s, s = (numS 4294967295 s1).1 := ⟨_, rfl⟩
  obtain ⟨s3, hs3⟩ : ∃ s, s = (numS 2048 s2).2 := ⟨_, rfl⟩
  obtain ⟨cnt, hcnt⟩ : ∃ s, s = (numS 2048 s2).1 := ⟨_, rfl⟩
  obtain ⟨F, hF⟩ : ∃ s, s = filesS cnt s3 [] := ⟨_, rfl⟩
  have hM : readS bs = ⟨ver, next, F.1, endE F.2.1 F.2.2⟩ := by
    rw [hF, hcnt, hs3, hnext, hs2, hver, hs1, hs0]
    rfl
  rw [hM]
  have hnext2 : next ≤ 4294967295 := by rw [hnext]; exact (numS_le _ _).1
  have hcnt2 : cnt ≤ 2048 := by rw [hcnt]; exact (numS_le _ _).1
  have hnw : IntKind.u32.wrap (next : Int) = (next : Int) := by rw [IntKind.wrap_u32]; omega
  obtain ⟨W0, hW0⟩ : ∃ W, W = w.alloc (.cells #[.int .u64 0, .int .u32 0, .slice none 0 0] 34) := ⟨_, rfl⟩
  obtain ⟨r, hr⟩ : ∃ b, b = w.heap.size := ⟨_, rfl⟩
  have hB0 : Below w.heap.size w W0 := by rw [hW0]; exact (Below.refl _ w).alloc (Nat.le_refl _) _
  have hres : Blk W0 r 34 #[.int .u64 0, .int .u32 0, .slice none 0 0] := by rw [hW0, hr]; exact Blk.new w _ _
  have hnew := new_any w.heap.size a cap bs W0 hc (by omega) (hL.later hB0) ha hB0.size
  obtain ⟨n, hnl⟩ : ∃ n, n = bs.length := ⟨_, rfl⟩
  rw [← hnl] at hnew ⊢
  have HNEW := Lib.hid hnew
  have HB0 := Lib.hid hB0
  have HRES := Lib.hid hres
  have HS0 := Lib.hid hs0
  have HS1 := Lib.hid hs1
  have HV := Lib.hid hver
  have HS2 := Lib.hid hs2
  have HX := Lib.hid hnext
  have HS3 := Lib.hid hs3
  have HCN := Lib.hid hcnt
  have HFF := Lib.hid hF
  have HRE := Lib.hid hr
  clear hc hn hL ha hnew hB0 hres hs0 hs1 hver hs2 hnext hs3 hcnt hF hM hnl
  go_enter Tryz.func85, Tryz.ntmps85
  go_wp2_with fail
  rw [← hW0, ← hr]
  clear hW0 hr
  refine HNEW.out.mono ?_
  rintro e w1 ⟨rd, rfl, hR1, hrd, hB1⟩
  have HN1 : Hid (Calls Tryz.prog 119 #[.pointer (some ⟨rd, 0, none⟩), .int .u64 18446744073709551615] w1 fun e w' => e = .returned (.int .u64 (ver : Int)) ∧ Rd w.heap.size w' rd s1.1 s1.2 ∧ Only [rd] w1 w') := Lib.hid (by
    have h0 : Rd w.heap.size w1 rd s0.1 s0.2 := by rw [HS0.out]; exact hR1
    have := numS_any h0 18446744073709551615 (by decide)
    rw [← HV.out, ← HS1.out] at this
    exact this)
  have hres1 := HRES.out.below hB1 HRES.out.lt
  have HRES1 := Lib.hid hres1
  have HB1 := Lib.hid (HB0.out.trans (hB1.mono HB0.out.size))
  have HRD := Lib.hid hrd
  clear hR1 hrd hB1 hres1 HNEW
  go_wp2_with fail
  refine HN1.out.mono ?_
  rintro e w2 ⟨rfl, hR2, hO2⟩
  have HN2 : Hid (Calls Tryz.prog 119 #[.pointer (some ⟨rd, 0, none⟩), .int .u64 4294967295] w2 fun e w' => e = .returned (.int .u64 (next : Int)) ∧ Rd w.heap.size w' rd s2.1 s2.2 ∧ Only [rd] w2 w') := Lib.hid (by
    have := numS_any hR2 4294967295 (by decide)
    rw [← HX.out, ← HS2.out] at this
    exact this)
  have HO2 := Lib.hid hO2
  clear hR2 hO2 HN1
  go_wp2_with fail
  refine HN2.out.mono ?_
  rintro e w3 ⟨rfl, hR3, hO3⟩
  obtain ⟨W4, hW4⟩ : ∃ W, W = w3.alloc (.cells #[.int .u64 (ver : Int), .int .u32 (next : Int), .slice none 0 0] 34) := ⟨_, rfl⟩
  obtain ⟨q, hq⟩ : ∃ b, b = w3.heap.size := ⟨_, rfl⟩
  have hB4 : Below w3.heap.size w3 W4 := by rw [hW4]; exact (Below.refl _ w3).alloc (Nat.le_refl _) _
  have hman : Blk W4 q 34 #[.int .u64 (ver : Int), .int .u32 (next : Int), .slice none 0 0] := by rw [hW4, hq]; exact Blk.new w3 _ _
  obtain ⟨cs3, hrb3, hrg3⟩ := hR3.blk
  have hu13 : Upon (fun k => k = rd) w1 w3 := (Upon.of_only HO2.out (fun g hg => .inl (List.mem_singleton.1 hg))).trans (Upon.of_only hO3 (fun g hg => .inl (List.mem_singleton.1 hg))) (fun _ hk => .inl hk)
  have hrr : r ≠ rd := fun e => by
    have h1 := HRES1.out.lt
    have h2 := HB0.out.size
    have h3 := HRES.out.lt
    have h4 := HRD.out
    omega
  have hres3 := HRES1.out.upon hu13 hrr
  have hBw3 : Below w.heap.size w w3 := HB1.out.trans (hu13.below HB1.out.size (fun k hk => by have := HRD.out; have := HB0.out.size; omega))
  have hrs4 : RS w r q rd ver next (.slice none 0 0) [] s2 W4 := ⟨hBw3.trans (hB4.mono hBw3.size), hres3.below hB4 hres3.lt, hman, World.ownsRow_nil _ _ _ _, fun x hx => (by cases hx), hR3.later hB4, by rw [hq]; exact hBw3.size, by rw [HRE.out]; exact Nat.le_refl _, fun e => by have := hres3.lt; omega⟩
  have HRS4 := Lib.hid hrs4
  have HN3 : Hid (Calls Tryz.prog 119 #[.pointer (some ⟨rd, 0, none⟩), .int .u64 2048] W4 fun e w' => e = .returned (.int .u64 (cnt : Int)) ∧ Rd w.heap.size w' rd s3.1 s3.2 ∧ Only [rd] W4 w') := Lib.hid (by
    have := numS_any hrs4.rd 2048 (by decide)
    rw [← HCN.out, ← HS3.out] at this
    exact this)
  clear hR3 hO3 HN2 hB4 hman hrb3 hrg3 hu13 hrr hres3 hBw3 hrs4 HRES HRES1
  go_wp2_with fail
  rw [← hW4, ← hq]
  clear hW4 hq
  refine HN3.out.mono ?_
  rintro e w5 ⟨rfl, hR5, hO5⟩
  have HRS5 := Lib.hid (HRS4.out.read (s' := s3) hO5 hR5)
  have HF0 : Hid (filesS cnt s3 (([] : List FR).map FR.f) = F) := Lib.hid HFF.out.symm
  clear hR5 hO5 HN3 HRS4
  go_wp2_with fail
  go_loopw [6] (fun n6 wr => ∃ (k : Nat) (u : Value) (l : List FR) (s : St), n6 = .int .u64 (k : Int) ∧ k ≤ 2048 ∧ l.length + k ≤ 2048 ∧ Hid (RS w r q rd ver next u l s wr) ∧ Hid (filesS k s (l.map FR.f) = F)) (fun n6 _ => (intOf n6).toNat)
  case atStart => exact ⟨cnt, _, [], s3, rfl, hcnt2, by simpa using hcnt2, HRS5, HF0⟩
  case round =>
    obtain ⟨k, u, l, s, rfl, hk, hlk, hRS, hFS⟩ := hrel
    by_cases hgo : 0 < k ∧ s.2 = 0
    · have hk0 : decide (0 < k) = true := decide_eq_true hgo.1
      have HERR : Hid (Calls Tryz.prog 120 #[.pointer (some ⟨rd, 0, none⟩)] wr fun e w' => e = .returned (.int .i64 0) ∧ w' = wr) := Lib.hid (by have := err_any hRS.out.rd; rw [hgo.2] at this; exact this)
      -- a file's name
      obtain ⟨ln, hln⟩ : ∃ x, x = (numS 32 s).1 := ⟨_, rfl⟩
      obtain ⟨t1, ht1⟩ : ∃ x, x = (numS 32 s).2 := ⟨_, rfl⟩
      obtain ⟨nmb, hnmb⟩ : ∃ x, x = (bytesS ln t1).1 := ⟨_, rfl⟩
      obtain ⟨t2, ht2⟩ : ∃ x, x = (bytesS ln t1).2 := ⟨_, rfl⟩
      obtain ⟨id, hid⟩ : ∃ x, x = (numS 4294967295 t2).1 := ⟨_, rfl⟩
      obtain ⟨t3, ht3⟩ : ∃ x, x = (numS 4294967295 t2).2 := ⟨_, rfl⟩
      obtain ⟨sz, hsz⟩ : ∃ x, x = (numS 7340032 t3).1 := ⟨_, rfl⟩
      obtain ⟨t4, ht4⟩ : ∃ x, x = (numS 7340032 t3).2 := ⟨_, rfl⟩
      obtain ⟨BL, hBL⟩ : ∃ x, x = blocksS (Mani.many sz) t4 [] := ⟨_, rfl⟩
      have hfile : fileS s = (⟨nmb, id, sz, BL.1⟩, BL.2) := by
        unfold fileS headS
        dsimp only
        rw [← hln, ← ht1, ← hnmb, ← ht2, ← hid, ← ht3, ← hsz, ← ht4, ← hBL]
      have hln32 : ln ≤ 32 := by rw [hln]; exact (numS_le _ _).1
      have hid32 : id ≤ 4294967295 := by rw [hid]; exact (numS_le _ _).1
      have hszm : sz ≤ 7340032 := by rw [hsz]; exact (numS_le _ _).1
      have hnm32 : nmb.length ≤ 32 := by rw [hnmb]; have := (bytesS_le ln t1).1; omega
      have hw1 : IntKind.i64.wrap (ln : Int) = (ln : Int) := by rw [IntKind.wrap_i64]; omega
      have hw2 : IntKind.u32.wrap (id : Int) = (id : Int) := by rw [IntKind.wrap_u32]; omega
      have hw3 : IntKind.i64.wrap (sz : Int) = (sz : Int) := by rw [IntKind.wrap_i64]; omega
      have HNA : Hid (Calls Tryz.prog 119 #[.pointer (some ⟨rd, 0, none⟩), .int .u64 32] wr fun e w' => e = .returned (.int .u64 (ln : Int)) ∧ Rd w.heap.size w' rd t1.1 t1.2 ∧ Only [rd] wr w') := Lib.hid (by
        have := numS_any hRS.out.rd 32 (by decide)
        rw [← hln, ← ht1] at this
        exact this)
      have HNM := Lib.hid hnmb
      have HT2 := Lib.hid ht2
      have HID := Lib.hid hid
      have HT3 := Lib.hid ht3
      have HSZ := Lib.hid hsz
      have HT4 := Lib.hid ht4
      have HBL := Lib.hid hBL
      have HFILE := Lib.hid hfile
      have HGO := Lib.hid hgo
      clear hln ht1 hnmb ht2 hid ht3 hsz ht4 hBL hfile hgo
      go_wp2_with fail
      refine HERR.out.mono ?_
      rintro e w6 ⟨rfl, rfl⟩
      go_wp2_with fail
      refine HNA.out.mono ?_
      rintro e w7 ⟨rfl, hR7, hO7⟩
      have hrs7 := hRS.out.read (s' := t1) hO7 hR7
      have HBY := Lib.hid (bytesS_any (s := t1) hrs7.rd ln (by omega))
      have HRS7 := Lib.hid hrs7
      clear hR7 hO7 hrs7 HNA
      go_wp2_with fail
      refine HBY.out.mono ?_
      rintro e w8 ⟨v8, rfl, hO8, hR8, hU8⟩
      rw [← HNM.out] at hO8
      rw [← HT2.out] at hR8
      obtain ⟨a8, c8, rfl, _, hL8, _, _⟩ := own_shape hO8
      have hcv := conv_b (vc := c8) hL8
      obtain ⟨sb, hsb⟩ : ∃ sb : ByteArray, sv nmb = .string sb := ⟨_, rfl⟩
      rw [hsb] at hcv
      have HRS8 := Lib.hid (HRS7.out.readU (s' := t2) hU8 hR8)
      have HSB := Lib.hid hsb
      obtain ⟨nl, hnl⟩ : ∃ x, x = nmb.length := ⟨_, rfl⟩
      rw [← hnl] at hcv hnm32 ⊢
      clear hO8 hR8 hU8 hL8 hsb hnl HBY
      go_wp2_with fail
      obtain ⟨W9, hW9⟩ : ∃ W, W = w8.alloc (.cells #[.string sb, .int .u32 0, .int .i64 0, .slice none 0 0] 96) := ⟨_, rfl⟩
      obtain ⟨fb, hfb⟩ : ∃ b, b = w8.heap.size := ⟨_, rfl⟩
      have hbs9 : BS w r q rd ver next u l fb (.string sb) 0 0 (.slice none 0 0) [] t2 W9 := by rw [hW9, hfb]; exact BS.start HRS8.out (.string sb) 0 0
      rw [← hW9, ← hfb]
      have HNI : Hid (Calls Tryz.prog 119 #[.pointer (some ⟨rd, 0, none⟩), .int .u64 4294967295] W9 fun e w' => e = .returned (.int .u64 (id : Int)) ∧ Rd w.heap.size w' rd t3.1 t3.2 ∧ Only [rd] W9 w') := Lib.hid (by
        have := numS_any hbs9.rs.rd 4294967295 (by decide)
        rw [← HID.out, ← HT3.out] at this
        exact this)
      have HBS9 := Lib.hid hbs9
      clear hW9 hfb hbs9 hcv
      refine HNI.out.mono ?_
      rintro e w10 ⟨rfl, hR10, hO10⟩
      have hbs10 := HBS9.out.read (s' := t3) hO10 hR10
      have HNS : Hid (Calls Tryz.prog 119 #[.pointer (some ⟨rd, 0, none⟩), .int .u64 7340032] w10 fun e w' => e = .returned (.int .u64 (sz : Int)) ∧ Rd w.heap.size w' rd t4.1 t4.2 ∧ Only [rd] w10 w') := Lib.hid (by
        have := numS_any hbs10.rs.rd 7340032 (by decide)
        rw [← HSZ.out, ← HT4.out] at this
        exact this)
      have HBS10 := Lib.hid hbs10
      clear hR10 hO10 hbs10 HNI
      go_wp2_with fail
      refine HNS.out.mono ?_
      rintro e w11 ⟨rfl, hR11, hO11⟩
      have hbs11 := HBS10.out.read (s' := t4) hO11 hR11
      have z1 := hbs11.box.frozen 1
      have z2 := hbs11.box.frozen 2
      have hd1 := hbs11.box.cell 1
      have hd2 := hbs11.box.cell 2
      simp at hd1 hd2
      have hbs12 := hbs11.set (id' := id) (sz' := 0) (bu' := .slice none 0 0) (acc' := []) 1 (.int .u32 (id : Int)) (hbs11.box.set 1 _) hbs11.bl
      have hbs13 := hbs12.set (id' := id) (sz' := sz) (bu' := .slice none 0 0) (acc' := []) 2 (.int .i64 (sz : Int)) (hbs12.box.set 2 _) hbs12.bl
      have hd3 := hbs13.box.cell 2
      simp at hd3
      have HBS13 := Lib.hid hbs13
      obtain ⟨mn, hmn⟩ : ∃ x, x = Mani.many sz := ⟨_, rfl⟩
      have hmn2 : mn ≤ 70000 := by rw [hmn]; unfold Mani.many; split <;> omega
      obtain ⟨W13, hW13⟩ : ∃ W, W = (w11.setCell ⟨fb, 1, none⟩ (.int .u32 (id : Int))).setCell ⟨fb, 2, none⟩ (.int .i64 (sz : Int)) := ⟨_, rfl⟩
      rw [← hW13] at HBS13
      have HMY := Lib.hid (many_any sz (by omega) W13)
      rw [← hmn] at HMY
      have HB0L : Hid (blocksS mn t4 [] = BL) := Lib.hid (by rw [hmn]; exact HBL.out.symm)
      rw [hW13] at HMY
      clear hR11 hO11 hbs11 hbs12 hbs13 HNS hmn
      go_wp2_with fail
      refine HMY.out.mono ?_
      rw [← hW13]
      rintro e w14 ⟨rfl, rfl⟩
      clear hd3 hd1 hd2 z1 z2 hW13 HMY
      go_wp2_with fail
      go_loopw [45] (fun i wr2 => ∃ (j : Nat) (bu : Value) (acc : List Nat) (t : St), i = .int .i64 (j : Int) ∧ j ≤ mn ∧ acc.length ≤ j ∧ Hid (BS w r q rd ver next u l fb (.string sb) id sz bu acc t wr2) ∧ Hid (blocksS (mn - j) t acc = BL)) (fun i _ => mn - (intOf i).toNat)
      case atStart => exact ⟨0, _, [], t4, rfl, Nat.zero_le _, Nat.zero_le _, HBS13, HB0L⟩
      case round =>
        obtain ⟨j, bu, acc, tt, rfl, hj, haj, hBS, hBK⟩ := hrel
        by_cases hlt : j < mn
        · have hjd : decide ((j : Int) < (mn : Int)) = true := decide_eq_true (by omega)
          have HER2 := Lib.hid (err_any hBS.out.rs.rd)
          by_cases hz : tt.2 = 0
          · rw [hz] at HER2
            obtain ⟨ba, bc, rfl, hbc, _, _, _⟩ := own_shape hBS.out.bl
            obtain ⟨vb, hvb⟩ : ∃ x, x = (numS 65536 tt).1 := ⟨_, rfl⟩
            obtain ⟨t6, ht6⟩ : ∃ x, x = (numS 65536 tt).2 := ⟨_, rfl⟩
            have hvb2 : vb ≤ 65536 := by rw [hvb]; exact (numS_le _ _).1
            have hwv : IntKind.i64.wrap (vb : Int) = (vb : Int) := by rw [IntKind.wrap_i64]; omega
            have hbk2 : blocksS (mn - (j + 1)) t6 (acc ++ [vb]) = BL := by
              have h1 := hBK.out
              rw [show mn - j = (mn - (j + 1)) + 1 by omega] at h1
              unfold blocksS at h1
              rw [if_pos hz, ← hvb, ← ht6] at h1
              exact h1
            have hbsd := hBS.out.later (Below.refl _ wr).drew
            have HNV : Hid (Calls Tryz.prog 119 #[.pointer (some ⟨rd, 0, none⟩), .int .u64 65536] wr.drew fun e w' => e = .returned (.int .u64 (vb : Int)) ∧ Rd w.heap.size w' rd t6.1 t6.2 ∧ Only [rd] wr.drew w') := Lib.hid (by
              have := numS_any hbsd.rs.rd 65536 (by decide)
              rw [← hvb, ← ht6] at this
              exact this)
            have hk1 : wr.drew.cell? ⟨fb, 3, none⟩ = some (.slice ba acc.length bc) := hbsd.box.cell 3
            have HBSD := Lib.hid hbsd
            have HBK2 := Lib.hid hbk2
            obtain ⟨al, hal⟩ : ∃ x, x = acc.length := ⟨_, rfl⟩
            rw [← hal] at hk1
            have HAL := Lib.hid hal
            clear hbk2 hvb ht6 hbsd hBS hBK hbc hal
            go_wp2_with fail
            refine HER2.out.mono ?_
            rintro e wr ⟨rfl, rfl⟩
            go_wp2_with fail
            go_region_law ((first | (go_simp; go_at_call 119; refine HNV.out.mono ?_; rintro e w16 ⟨rfl, hR16, hO16⟩; have hbs16 := HBSD.out.read (s' := t6) hO16 hR16; have hk2 := hbs16.box.cell 3; simp only [List.getElem?_toArray, List.getElem?_cons_zero, List.getElem?_cons_succ] at hk2; rw [← HAL.out] at hk2; obtain ⟨v17, w17, hr17, hrow17, hg17⟩ := append_int w16 51 _ acc hbs16.bl vb (by omega) (Nat.le_of_lt hbs16.box.lt); have hk2a : (w16.alloc (.cells #[.int .i64 (vb : Int)] 3)).cell? ⟨fb, 3, none⟩ = some (.slice ba al bc) := (((Below.refl _ w16).alloc (Nat.le_refl _) _).cell (p := ⟨fb, 3, none⟩) hbs16.box.lt).trans hk2; have hu17 : Upon (fun y => (Value.slice ba acc.length bc).ownBlock = some y) w16 w17 := Upon.of_grown hg17 (fun g hg => .inl hg); have hbx17 := hbs16.box.upon hu17 (own_ne_blk hbs16.bl hbs16.box (by decide)); have hk3 := hbx17.cell 3; have hz17 := hbx17.frozen 3; simp only [List.getElem?_toArray, List.getElem?_cons_zero, List.getElem?_cons_succ] at hk3; rw [← HAL.out] at hk3 hr17; unfold iv at hr17; obtain ⟨a17, c17, rfl, _, _, _, _⟩ := own_shape hrow17; have hbs18 := hbs16.grow (acc' := acc ++ [vb]) hg17 hrow17; obtain ⟨l17, hl17⟩ : ∃ x, x = (acc ++ [vb]).length := ⟨_, rfl⟩; rw [← hl17] at hr17 hbs18; have HBS18 := Lib.hid hbs18; clear hbs18 hbs16 hrow17 hg17 hu17 hbx17 hR16 hO16 hl17; dsimp only) | (refine step_append_run rfl (.tmp 51) (.tmp 55) 51 51 rfl _ _ rfl rfl hr17 ?_)))
            all_goals go_wp2_with fail
            all_goals exact ⟨⟨j + 1, _, acc ++ [vb], t6, by simp, by omega, by rw [List.length_append, List.length_singleton]; omega, HBS18, HBK2⟩, by simp [intOf]; omega⟩
          · have hfin : (acc, tt) = BL := by
              have h1 := hBK.out
              obtain ⟨d, hd⟩ : ∃ d, mn - j = d + 1 := ⟨mn - j - 1, by omega⟩
              rw [hd] at h1
              unfold blocksS at h1
              rw [if_neg hz] at h1
              exact h1
            obtain ⟨te, hte⟩ : ∃ x, x = tt.2 := ⟨_, rfl⟩
            have hteb : (te == 0) = false := by rw [hte]; simpa using hz
            rw [← hte] at HER2
            clear hte hz
            go_wp2_with fail
            refine HER2.out.mono ?_
            rintro e wr ⟨rfl, rfl⟩
            obtain ⟨ba, bc, rfl, hbc, hbL, hbg, _⟩ := own_shape hBS.out.bl
            obtain ⟨xf, hxf⟩ : ∃ x : FR, x = ⟨⟨nmb, id, sz, acc⟩, ba, bc⟩ := ⟨_, rfl⟩
            have hvs : xf.vs = [.string sb, .int .u32 (id : Int), .int .i64 (sz : Int), .slice ba acc.length bc] := by rw [hxf, ← HSB.out]; rfl
            have hxn : xf.f = (fileS s).1 := by rw [HFILE.out, hxf, ← hfin]
            obtain ⟨v13, w13, hr13, hrow13, hg13⟩ := append_file wr 32 u l hBS.out.rs.row xf (by omega) hBS.out.rs.below.size
            obtain ⟨a13, c13, rfl, _, _, _, _⟩ := own_shape hrow13
            have hrs13 := hBS.out.rs.rowed (l' := l ++ [xf]) hg13 hrow13 (fun y hy => by
              rcases List.mem_append.1 hy with hy | hy
              · exact .inl hy
              · rw [List.mem_singleton.1 hy]
                refine .inr ?_
                rw [hxf]
                exact own_mono hBS.out.bl hBS.out.gf)
            have hfs13 : filesS (k - 1) tt ((l ++ [xf]).map FR.f) = F := by
              have h1 := hFS.out
              obtain ⟨k', hk'⟩ : ∃ k', k = k' + 1 := ⟨k - 1, by have := HGO.out.1; omega⟩
              rw [hk'] at h1
              unfold filesS at h1
              rw [if_pos HGO.out.2] at h1
              have h2 : tt = (fileS s).2 := by rw [HFILE.out, ← hfin]
              rw [List.map_append, List.map_singleton, hxn, h2, hk']
              exact h1
            have g0 := hBS.out.box.cell 0
            have g1 := hBS.out.box.cell 1
            have g2 := hBS.out.box.cell 2
            have g3 := hBS.out.box.cell 3
            have m2 := hBS.out.rs.man.cell 2
            have hmz : w13.frozen? ⟨q, 2, none⟩ = false := by
              have hu13 : Upon (fun y => u.ownBlock = some y) wr w13 := Upon.of_grown hg13 (fun g hg => .inl hg)
              exact (hBS.out.rs.man.upon hu13 (own_ne_blk hBS.out.rs.row hBS.out.rs.man (by decide))).frozen 2
            have hmc : w13.cell? ⟨q, 2, none⟩ = some u := by
              have hu13 : Upon (fun y => u.ownBlock = some y) wr w13 := Upon.of_grown hg13 (fun g hg => .inl hg)
              exact (hBS.out.rs.man.upon hu13 (own_ne_blk hBS.out.rs.row hBS.out.rs.man (by decide))).cell 2
            simp at g0 g1 g2 g3 m2
            rw [hvs] at hr13
            obtain ⟨ll, hll⟩ : ∃ x, x = (l ++ [xf]).length := ⟨_, rfl⟩
            rw [← hll] at hr13 hrs13
            have HRS13 := Lib.hid hrs13
            have HFS13 := Lib.hid hfs13
            have hkm : k - 1 + 1 = k := by have := HGO.out.1; omega
            have hlen13 : (l ++ [xf]).length + (k - 1) ≤ 2048 := by rw [List.length_append, List.length_singleton]; omega
            have HLEN13 := Lib.hid hlen13
            obtain ⟨km, hkm2⟩ : ∃ km, km = k - 1 := ⟨_, rfl⟩
            rw [← hkm2] at HFS13 HLEN13
            have hki : (k : Int) = (km : Int) + 1 := by omega
            have hkl : km < k := by omega
            have hkx : km ≤ 2048 := by omega
            obtain ⟨al, hal⟩ : ∃ x, x = acc.length := ⟨_, rfl⟩
            rw [← hal] at hr13 g3
            clear hbL hbg hvs hxn hrow13 hg13 hrs13 hfs13 hfin hBS hlen13 hkm hkm2 hxf hbc hal hll
            go_wp2_with (first | (at_builtin; refine Lib.wpList_append_run _ rfl _ _ _ _ rfl _ _ rfl rfl _ _ hr13 ?_))
            exact ⟨⟨km, _, _, _, by simp, hkx, HLEN13.out, HRS13, HFS13⟩, by simp [intOf]; omega⟩
        · obtain rfl : mn = j := by omega
          have hjd : decide ((mn : Int) < (mn : Int)) = false := decide_eq_false (by omega)
          have hfin : (acc, tt) = BL := by
            have h1 := hBK.out
            rw [Nat.sub_self] at h1
            exact h1
          obtain ⟨ba, bc, rfl, hbc, hbL, hbg, _⟩ := own_shape hBS.out.bl
          obtain ⟨xf, hxf⟩ : ∃ x : FR, x = ⟨⟨nmb, id, sz, acc⟩, ba, bc⟩ := ⟨_, rfl⟩
          have hvs : xf.vs = [.string sb, .int .u32 (id : Int), .int .i64 (sz : Int), .slice ba acc.length bc] := by rw [hxf, ← HSB.out]; rfl
          have hxn : xf.f = (fileS s).1 := by rw [HFILE.out, hxf, ← hfin]
          obtain ⟨v13, w13, hr13, hrow13, hg13⟩ := append_file wr 32 u l hBS.out.rs.row xf (by omega) hBS.out.rs.below.size
          obtain ⟨a13, c13, rfl, _, _, _, _⟩ := own_shape hrow13
          have hrs13 := hBS.out.rs.rowed (l' := l ++ [xf]) hg13 hrow13 (fun y hy => by
            rcases List.mem_append.1 hy with hy | hy
            · exact .inl hy
            · rw [List.mem_singleton.1 hy]
              refine .inr ?_
              rw [hxf]
              exact own_mono hBS.out.bl hBS.out.gf)
          have hfs13 : filesS (k - 1) tt ((l ++ [xf]).map FR.f) = F := by
            have h1 := hFS.out
            obtain ⟨k', hk'⟩ : ∃ k', k = k' + 1 := ⟨k - 1, by have := HGO.out.1; omega⟩
            rw [hk'] at h1
            unfold filesS at h1
            rw [if_pos HGO.out.2] at h1
            have h2 : tt = (fileS s).2 := by rw [HFILE.out, ← hfin]
            rw [List.map_append, List.map_singleton, hxn, h2, hk']
            exact h1
          have g0 := hBS.out.box.cell 0
          have g1 := hBS.out.box.cell 1
          have g2 := hBS.out.box.cell 2
          have g3 := hBS.out.box.cell 3
          have m2 := hBS.out.rs.man.cell 2
          have hmz : w13.frozen? ⟨q, 2, none⟩ = false := by
            have hu13 : Upon (fun y => u.ownBlock = some y) wr w13 := Upon.of_grown hg13 (fun g hg => .inl hg)
            exact (hBS.out.rs.man.upon hu13 (own_ne_blk hBS.out.rs.row hBS.out.rs.man (by decide))).frozen 2
          have hmc : w13.cell? ⟨q, 2, none⟩ = some u := by
            have hu13 : Upon (fun y => u.ownBlock = some y) wr w13 := Upon.of_grown hg13 (fun g hg => .inl hg)
            exact (hBS.out.rs.man.upon hu13 (own_ne_blk hBS.out.rs.row hBS.out.rs.man (by decide))).cell 2
          simp at g0 g1 g2 g3 m2
          rw [hvs] at hr13
          obtain ⟨ll, hll⟩ : ∃ x, x = (l ++ [xf]).length := ⟨_, rfl⟩
          rw [← hll] at hr13 hrs13
          have HRS13 := Lib.hid hrs13
          have HFS13 := Lib.hid hfs13
          have hkm : k - 1 + 1 = k := by have := HGO.out.1; omega
          have hlen13 : (l ++ [xf]).length + (k - 1) ≤ 2048 := by rw [List.length_append, List.length_singleton]; omega
          have HLEN13 := Lib.hid hlen13
          obtain ⟨km, hkm2⟩ : ∃ km, km = k - 1 := ⟨_, rfl⟩
          rw [← hkm2] at HFS13 HLEN13
          have hki : (k : Int) = (km : Int) + 1 := by omega
          have hkl : km < k := by omega
          have hkx : km ≤ 2048 := by omega
          obtain ⟨al, hal⟩ : ∃ x, x = acc.length := ⟨_, rfl⟩
          rw [← hal] at hr13 g3
          clear hbL hbg hvs hxn hrow13 hg13 hrs13 hfs13 hfin hBS hlen13 hkm hkm2 hxf hbc hal hll
          go_wp2_with (first | (at_builtin; refine Lib.wpList_append_run _ rfl _ _ _ _ rfl _ _ rfl rfl _ _ hr13 ?_))
          exact ⟨⟨km, _, _, _, by simp, hkx, HLEN13.out, HRS13, HFS13⟩, by simp [intOf]; omega⟩
    · by_cases hk0 : k = 0
      · subst hk0
        have hFe : (l.map FR.f, s) = F := hFS.out
        have hki : decide (0 < 0) = false := rfl
        go_wp2_with fail
        have hres := hRS.out.res
        have z0 := hres.frozen 0
        have z1 := hres.frozen 1
        have z2 := hres.frozen 2
        obtain ⟨ua, uc, rfl, _, _, _, _⟩ := own_shape hRS.out.row
        obtain ⟨ul, hul⟩ : ∃ x, x = l.length := ⟨_, rfl⟩
        rw [← hul] at hRS
        have m0 := hRS.out.man.cell 0
        have m1 := hRS.out.man.cell 1
        have m2 := hRS.out.man.cell 2
        have HEND := Lib.hid (end_any (hRS.out.later (Below.refl _ wr).drew).rd)
        have HG := Lib.hid ((hRS.out.later (Below.refl _ wr).drew).gives (F := F))
        have y0 := res_set hRS.out.res (.int .u64 (ver : Int)) (.int .u32 (next : Int)) (.slice ua ul uc)
        have hfar := (((hRS.out.later (Below.refl _ wr).drew).man.far (p := ⟨r, 0, none⟩) hRS.out.ne (.int .u64 (ver : Int))).far (p := ⟨r, 1, none⟩) hRS.out.ne (.int .u32 (next : Int))).far (p := ⟨r, 2, none⟩) hRS.out.ne (.slice ua ul uc)
        have hS1 : (fun w' : World => w'.cell? ⟨q, 0, none⟩ = some (.int .u64 (ver : Int)) ∧ w'.cell? ⟨q, 1, none⟩ = some (.int .u32 (next : Int)) ∧ w'.cell? ⟨q, 2, none⟩ = some (.slice ua ul uc)) wr.drew := ⟨m0, m1, m2⟩
        have hS2 : (fun w' : World => w'.cell? ⟨q, 0, none⟩ = some (.int .u64 (ver : Int)) ∧ w'.cell? ⟨q, 1, none⟩ = some (.int .u32 (next : Int)) ∧ w'.cell? ⟨q, 2, none⟩ = some (.slice ua ul uc)) (((wr.drew.setCell ⟨r, 0, none⟩ (.int .u64 (ver : Int))).setCell ⟨r, 1, none⟩ (.int .u32 (next : Int))).setCell ⟨r, 2, none⟩ (.slice ua ul uc)) := ⟨hfar.cell 0, hfar.cell 1, hfar.cell 2⟩
        obtain ⟨ee, hee⟩ : ∃ x, x = endE s.1 s.2 := ⟨_, rfl⟩
        rw [← hee] at HEND
        have HEE := Lib.hid hee
        have r06 := hres.cell 0
        have r16 := hres.cell 1
        have r26 := hres.cell 2
        simp only [List.getElem?_toArray, List.getElem?_cons_zero, List.getElem?_cons_succ] at r06 r16 r26
        have HFE := Lib.hid hFe
        clear hres hfar hul hee hFe
        go_wp2_with fail
        go_region_held3 (fun w' => w'.cell? ⟨q, 0, none⟩ = some (.int .u64 (ver : Int)) ∧ w'.cell? ⟨q, 1, none⟩ = some (.int .u32 (next : Int)) ∧ w'.cell? ⟨q, 2, none⟩ = some (.slice ua ul uc)) (first | exact hS1 | exact hS2) (first | (go_at_call 122; refine HEND.out.mono ?_; rintro e w6 ⟨rfl, rfl⟩; dsimp only))
        obtain ⟨y0, y1, y2⟩ := y0
        have hgv := HG.out HFE.out
        rw [← HEE.out] at hgv
        go_wp2_with fail
        refine bodyPost_ret (v := .tuple #[.agg #[.int .u64 (ver : Int), .int .u32 (next : Int), .slice ua ul uc], .int .i64 ee]) (by simp [results, Tryz.f85, Tryz.results85, go_sem, y0, y1, y2]) rfl ?_
        exact hgv
      · have hz : s.2 ≠ 0 := fun e => hgo ⟨by omega, e⟩
        have hkd : decide (0 < k) = true := decide_eq_true (by omega)
        have hFe : (l.map FR.f, s) = F := by
          have h1 := hFS.out
          obtain ⟨k', hk'⟩ : ∃ k', k = k' + 1 := ⟨k - 1, by omega⟩
          rw [hk'] at h1
          unfold filesS at h1
          rw [if_neg hz] at h1
          exact h1
        have HERR := Lib.hid (err_any hRS.out.rd)
        obtain ⟨se, hse⟩ : ∃ x, x = s.2 := ⟨_, rfl⟩
        have hseb : (se == 0) = false := by rw [hse]; simpa using hz
        rw [← hse] at HERR
        clear hse hz hgo
        go_wp2_with fail
        refine HERR.out.mono ?_
        rintro e wr ⟨rfl, rfl⟩
        go_wp2_with fail
        have hres := hRS.out.res
        have z0 := hres.frozen 0
        have z1 := hres.frozen 1
        have z2 := hres.frozen 2
        obtain ⟨ua, uc, rfl, _, _, _, _⟩ := own_shape hRS.out.row
        obtain ⟨ul, hul⟩ : ∃ x, x = l.length := ⟨_, rfl⟩
        rw [← hul] at hRS
        have m0 := hRS.out.man.cell 0
        have m1 := hRS.out.man.cell 1
        have m2 := hRS.out.man.cell 2
        have HEND := Lib.hid (end_any (hRS.out.later (Below.refl _ wr).drew).rd)
        have HG := Lib.hid ((hRS.out.later (Below.refl _ wr).drew).gives (F := F))
        have y0 := res_set hRS.out.res (.int .u64 (ver : Int)) (.int .u32 (next : Int)) (.slice ua ul uc)
        have hfar := (((hRS.out.later (Below.refl _ wr).drew).man.far (p := ⟨r, 0, none⟩) hRS.out.ne (.int .u64 (ver : Int))).far (p := ⟨r, 1, none⟩) hRS.out.ne (.int .u32 (next : Int))).far (p := ⟨r, 2, none⟩) hRS.out.ne (.slice ua ul uc)
        have hS1 : (fun w' : World => w'.cell? ⟨q, 0, none⟩ = some (.int .u64 (ver : Int)) ∧ w'.cell? ⟨q, 1, none⟩ = some (.int .u32 (next : Int)) ∧ w'.cell? ⟨q, 2, none⟩ = some (.slice ua ul uc)) wr.drew := ⟨m0, m1, m2⟩
        have hS2 : (fun w' : World => w'.cell? ⟨q, 0, none⟩ = some (.int .u64 (ver : Int)) ∧ w'.cell? ⟨q, 1, none⟩ = some (.int .u32 (next : Int)) ∧ w'.cell? ⟨q, 2, none⟩ = some (.slice ua ul uc)) (((wr.drew.setCell ⟨r, 0, none⟩ (.int .u64 (ver : Int))).setCell ⟨r, 1, none⟩ (.int .u32 (next : Int))).setCell ⟨r, 2, none⟩ (.slice ua ul uc)) := ⟨hfar.cell 0, hfar.cell 1, hfar.cell 2⟩
        obtain ⟨ee, hee⟩ : ∃ x, x = endE s.1 s.2 := ⟨_, rfl⟩
        rw [← hee] at HEND
        have HEE := Lib.hid hee
        have r06 := hres.cell 0
        have r16 := hres.cell 1
        have r26 := hres.cell 2
        simp only [List.getElem?_toArray, List.getElem?_cons_zero, List.getElem?_cons_succ] at r06 r16 r26
        have HFE := Lib.hid hFe
        clear hres hfar hul hee hFe
        go_wp2_with fail
        go_region_held3 (fun w' => w'.cell? ⟨q, 0, none⟩ = some (.int .u64 (ver : Int)) ∧ w'.cell? ⟨q, 1, none⟩ = some (.int .u32 (next : Int)) ∧ w'.cell? ⟨q, 2, none⟩ = some (.slice ua ul uc)) (first | exact hS1 | exact hS2) (first | (go_at_call 122; refine HEND.out.mono ?_; rintro e w6 ⟨rfl, rfl⟩; dsimp only))
        obtain ⟨y0, y1, y2⟩ := y0
        have hgv := HG.out HFE.out
        rw [← HEE.out] at hgv
        go_wp2_with fail
        refine bodyPost_ret (v := .tuple #[.agg #[.int .u64 (ver : Int), .int .u32 (next : Int), .slice ua ul uc], .int .i64 ee]) (by simp [results, Tryz.f85, Tryz.results85, go_sem, y0, y1, y2]) rfl ?_
        exact hgv
end Go.Proofs.YtbfochdoeibofaaGreatDoor.Read

/- Layer 9: Get of a manifest. -/
namespace Go.Proofs.YtbfochdoeibofaaGreatDoor.Read
open Go.RowKit Go.Deep Mem Crc Go.Proofs.YtbfochdoeibofaaGreatDoor.Mani Go.Proofs.YtbfochdoeibofaaGreatDoor.Full

/-- A manifest that was got: it lies in what is new. -/
def ManAt (w w' : World) (v : Value) (ver next : Nat) (fs : List Fil) : Prop := ∃ a c l, v = .agg #[.int .u64 (ver : Int), .int .u32 (next : Int), .slice a (l : List FR).length c] ∧ l.map FR.f = fs ∧ FilesIn w' a l ∧ (∀ b, Mem.blk a = some b → w.heap.size ≤ b ∧ b < w'.heap.size) ∧ ∀ x ∈ l, ∀ b, Mem.blk x.a = some b → w.heap.size ≤ b ∧ b < w'.heap.size
def noneV : Value := .agg #[.int .u64 0, .int .u32 0, .slice none 0 0]
theorem manAt_none (w w' : World) : ManAt w w' noneV 0 0 [] := ⟨none, 0, [], rfl, rfl, ⟨.inl rfl, fun x hx => (List.not_mem_nil hx).elim⟩, fun b h => (by cases h), fun x hx => (List.not_mem_nil hx).elim⟩
theorem ManAt.later {w w1 w2 : World} {v : Value} {ver next : Nat} {fs : List Fil} (h : ManAt w w1 v ver next fs) (hB : Below w1.heap.size w1 w2) : ManAt w w2 v ver next fs := by
  obtain ⟨a, c, l, h1, h2, h3, h4, h5⟩ := h
  exact ⟨a, c, l, h1, h2, h3.later hB, fun b hb => ⟨(h4 b hb).1, Nat.lt_of_lt_of_le (h4 b hb).2 hB.size⟩, fun x hx b hb => ⟨(h5 x hx b hb).1, Nat.lt_of_lt_of_le (h5 x hx b hb).2 hB.size⟩⟩
theorem ManAt.base {w0 w w' : World} {v : Value} {ver next : Nat} {fs : List Fil} (h : ManAt w w' v ver next fs) (hB : w0.heap.size ≤ w.heap.size) : ManAt w0 w' v ver next fs := by
  obtain ⟨a, c, l, h1, h2, h3, h4, h5⟩ := h
  exact ⟨a, c, l, h1, h2, h3, fun b hb => ⟨Nat.le_trans hB (h4 b hb).1, (h4 b hb).2⟩, fun x hx b hb => ⟨Nat.le_trans hB (h5 x hx b hb).1, (h5 x hx b hb).2⟩⟩
/-- What Get answers. -/
def GotM (w : World) (o : Option (Nat × Nat × List Fil)) (e : Ending) (w' : World) : Prop :=
  match o with
  | none => e = .returned (.tuple #[noneV, .int .i64 5])
  | some p => ∃ v, e = .returned (.tuple #[v, .int .i64 0]) ∧ ManAt w w' v p.1 p.2.1 p.2.2
theorem ManAt.set {wb W : World} {v : Value} {ver next : Nat} {fs : List Fil} (h : ManAt wb W v ver next fs) {p : Addr} (hr : p.block < wb.heap.size) (x : Value) : ManAt wb (W.setCell p x) v ver next fs := by
  obtain ⟨a, c, l, h1, h2, h3, h4, h5⟩ := h
  have hu : Upon (fun k => k = p.block) W (W.setCell p x) := (Upon.refl (fun k => k = p.block) W).set (.inl rfl) _
  have hs : (W.setCell p x).heap.size = W.heap.size := by simp
  refine ⟨a, c, l, h1, h2, ⟨h3.row.upon hu (fun g hg e => ?_), fun y hy => ⟨(h3.blocks y hy).1.upon hu (fun g hg e => ?_), (h3.blocks y hy).2⟩⟩, fun b hb => by rw [hs]; exact h4 b hb, fun y hy b hb => by rw [hs]; exact h5 y hy b hb⟩
  · have := h4 g hg
    omega
  · have := h5 y hy g hg
    omega
theorem got_len (bs : List UInt8) : (Frame.got bs).2.1.length ≤ bs.length := by
  unfold Frame.got
  repeat' split
  all_goals first | exact Nat.zero_le _ | skip
  dsimp only
  rw [bodyOf_length, List.length_take, List.length_drop]
  omega
theorem FGot.fits {f : Fil} (h : FGot f) : f.fits := ⟨by have := h.id; omega, by have := h.size; omega, fun i hi => by have := h.blocks i hi; omega⟩
attribute [local go_sem] Oper.semAt_some
set_option maxHeartbeats 1000000 in
set_option maxRecDepth 100000 in
theorem mget_any (a : Option Addr) (cp : Nat) (bs : List UInt8) (w : World) (h : Lies w a (bs.map bv)) (hc : bs.length ≤ cp) (hm : bs.length ≤ 100000) :
    Calls Tryz.prog 53 #[.slice a bs.length cp] w fun e w' => GotM w (getS bs) e w' ∧ Below w.heap.size w w' := by
  have hgl := got_len bs
  obtain ⟨W0, hW0⟩ : ∃ W, W = w.alloc (.cells #[.int .u64 0, .int .u32 0, .slice none 0 0] 34) := ⟨_, rfl⟩
  obtain ⟨r, hr⟩ : ∃ b, b = w.heap.size := ⟨_, rfl⟩
  have hB0 : Below w.heap.size w W0 := by rw [hW0]; exact (Below.refl _ w).alloc (Nat.le_refl _) _
  have hres : Blk W0 r 34 #[.int .u64 0, .int .u32 0, .slice none 0 0] := by rw [hW0, hr]; exact Blk.new w _ _
  have hget := Frame.get_any a cp bs W0 (h.later hB0) hc (by omega)
  obtain ⟨n, hnl⟩ : ∃ n, n = bs.length := ⟨_, rfl⟩
  rw [← hnl] at hget ⊢
  have hrs := hres.lt
  have hr0 : w.heap.size ≤ r := by rw [hr]; exact Nat.le_refl _
  have hg := @got_len bs
  obtain ⟨G, hG⟩ : ∃ G, G = Frame.got bs := ⟨_, rfl⟩
  have hgs : getS bs = if G.2.2.2 = 0 ∧ G.1 = 77 then (if (readS G.2.1).err = 0 ∧ mayB (readS G.2.1).ver (readS G.2.1).next (readS G.2.1).fs = true then some ((readS G.2.1).ver, (readS G.2.1).next, (readS G.2.1).fs) else none) else none := by rw [hG]; rfl
  have hgl2 : G.2.1.length ≤ 100000 := by rw [hG]; omega
  have HGET : Hid (Calls Tryz.prog 84 #[.slice a n cp] W0 fun e w' => (∃ v, e = .returned (.tuple #[.agg #[bv G.1, v], .int .i64 G.2.2.1, .int .i64 G.2.2.2]) ∧ OwnB w' W0.heap.size v G.2.1) ∧ Below W0.heap.size W0 w') := Lib.hid (hget.mono (fun e w' hh => by rw [hG]; exact ⟨hh.out, hh.below⟩))
  have HGS := Lib.hid hgs
  have HB0 := Lib.hid hB0
  have HRES := Lib.hid hres
  clear h hc hm hgl hg hget hnl hgs hres
  obtain ⟨gk, gb, gn, ge⟩ := G
  dsimp only at HGET HGS hgl2
  obtain ⟨kv, hkv⟩ : ∃ x, x = gk.toNat := ⟨_, rfl⟩
  have hbk : bv gk = .int .u8 (kv : Int) := by rw [hkv]; rfl
  rw [hbk] at HGET
  have hk77 : gk = 77 ↔ (kv : Int) = 77 := by
    rw [hkv]
    constructor
    · rintro rfl; rfl
    · intro e
      exact UInt8.toNat_inj.1 (by show gk.toNat = 77; omega)
  have HK77 := Lib.hid hk77
  clear hkv hbk hG hk77 hB0
  go_enter Tryz.func53, Tryz.ntmps53
  go_wp2_with fail
  rw [← hW0, ← hr]
  clear hW0 hr
  refine HGET.out.mono ?_
  rintro e w1 ⟨⟨v, rfl, hO⟩, hB1⟩
  obtain ⟨va, vc, ev, hvc, hL, hbb, _⟩ := own_shape hO
  subst ev
  obtain ⟨W1, hW1⟩ : ∃ W, W = w1.alloc (.cells #[.int .u8 (kv : Int), .slice va gb.length vc] 155) := ⟨_, rfl⟩
  obtain ⟨sb, hsb⟩ : ∃ b, b = w1.heap.size := ⟨_, rfl⟩
  have hBa : Below w1.heap.size w1 W1 := by rw [hW1]; exact (Below.refl _ w1).alloc (Nat.le_refl _) _
  have hsec : Blk W1 sb 155 #[.int .u8 (kv : Int), .slice va gb.length vc] := by rw [hW1, hsb]; exact Blk.new w1 _ _
  have hL1 := hL.later hBa
  have hbb1 : ∀ k, Mem.blk va = some k → k < W1.heap.size := fun k hk => Nat.lt_of_lt_of_le (hbb k hk).2 hBa.size
  have hB01 : Below w.heap.size w W1 := HB0.out.trans ((hB1.mono HB0.out.size).trans (hBa.mono (Nat.le_trans HB0.out.size hB1.size)))
  have hres1 := (HRES.out.below hB1 HRES.out.lt).below hBa (Nat.lt_of_lt_of_le HRES.out.lt hB1.size)
  have hrl1 := hres1.lt
  obtain ⟨gl, hgl⟩ : ∃ x, x = gb.length := ⟨_, rfl⟩
  have hrd : ∀ x : World, Below W1.heap.size W1 x → Calls Tryz.prog 85 #[.slice va gl vc] x (ReadsM x (readS gb)) := fun x hx => by
    rw [hgl]
    exact read_any va vc gb x hvc hgl2 (hL1.later hx) (fun k hk => Nat.lt_of_lt_of_le (hbb1 k hk) hx.size)
  rw [← hgl] at hsec hW1 hgl2 ⊢
  have HRD := Lib.hid hrd
  have HSEC := Lib.hid hsec
  have HRES1 := Lib.hid hres1
  have HB01 := Lib.hid hB01
  have k0 := hsec.cell 0
  have k1 := hsec.cell 1
  have r0 := hres1.cell 0
  have r1 := hres1.cell 1
  have r2 := hres1.cell 2
  have f0 := hres1.frozen 0
  have f1 := hres1.frozen 1
  have f2 := hres1.frozen 2
  simp only [List.getElem?_toArray, List.getElem?_cons_zero, List.getElem?_cons_succ] at k0 k1 r0 r1 r2
  have y0 := res_set hres1 (.int .u64 0) (.int .u32 0) (.slice none 0 0)
  have hBf := below_res hB01 hr0 (.int .u64 0) (.int .u32 0) (.slice none 0 0)
  have HBF := Lib.hid hBf
  have hglL := hgl
  have HGLL := Lib.hid hglL
  subst hW1 hsb
  simp at k0 k1 r0 r1 r2 f0 f1 f2
  clear hgl hglL hrd hsec hres1 hB01 hL hL1 hbb hbb1 hBa hB1 hO HRES HB0 HGET hBf hvc
  obtain ⟨ke, hke⟩ : ∃ b : Bool, (ge == 0) = b := ⟨_, rfl⟩
  cases ke
  · have hno : getS bs = none := by rw [HGS.out, if_neg (fun hh => by rw [hh.1] at hke; cases hke)]
    have HNO := Lib.hid hno
    clear hno
    go_wp2_with fail
    obtain ⟨y0, y1, y2⟩ := y0
    refine bodyPost_ret (v := .tuple #[.agg #[.int .u64 0, .int .u32 0, .slice none 0 0], .int .i64 5]) (by simp [results, Tryz.f53, Tryz.results53, go_sem, y0, y1, y2]) rfl ?_
    rw [HNO.out]
    exact ⟨rfl, HBF.out⟩
  · have hke0 : ge = 0 := by simpa using hke
    subst hke0
    obtain ⟨kk, hkk⟩ : ∃ b : Bool, ((kv : Int) == 77) = b := ⟨_, rfl⟩
    cases kk
    · have hno : getS bs = none := by rw [HGS.out, if_neg (fun hh => by rw [HK77.out.1 hh.2] at hkk; cases hkk)]
      have HNO := Lib.hid hno
      clear hno
      go_wp2_with fail
      obtain ⟨y0, y1, y2⟩ := y0
      refine bodyPost_ret (v := .tuple #[.agg #[.int .u64 0, .int .u32 0, .slice none 0 0], .int .i64 5]) (by simp [results, Tryz.f53, Tryz.results53, go_sem, y0, y1, y2]) rfl ?_
      rw [HNO.out]
      exact ⟨rfl, HBF.out⟩
    · have hgs2 : getS bs = if (readS gb).err = 0 ∧ mayB (readS gb).ver (readS gb).next (readS gb).fs = true then some ((readS gb).ver, (readS gb).next, (readS gb).fs) else none := by rw [HGS.out, if_pos ⟨rfl, HK77.out.2 (by simpa using hkk)⟩]
      have hle := readS_le gb
      rw [← HGLL.out] at hle
      obtain ⟨M, hM⟩ : ∃ M, M = readS gb := ⟨_, rfl⟩
      rw [← hM] at hgs2 hle HRD
      obtain ⟨ver, next, fs, er⟩ := M
      dsimp only at hgs2 hle
      obtain ⟨v1, n1, g1, q1, b1⟩ := hle
      have hfit : ∀ f ∈ fs, f.fits := fun f hf => (g1 f hf).fits
      have hbd := body_got v1 n1 g1 q1 (by omega)
      have HGS2 := Lib.hid hgs2
      have HFIT := Lib.hid hfit
      have HG1 := Lib.hid g1
      clear hM hgs2 hfit HGS HK77 g1 b1 y0
      go_wp2_with fail
      refine (HRD.out _ (by first | exact Below.refl _ _ | exact (Below.refl _ _).drew)).mono ?_
      rintro e w2 ⟨hB2, a2, c2, l2, rfl, hl2, hF2, ha2, hx2⟩
      dsimp only at hl2
      have hs2 := hB2.size
      simp at hs2
      have hres2 := HRES1.out.below (w' := w2) ⟨hB2.os, hB2.tape, hB2.output, hB2.size, hB2.block⟩ HRES1.out.lt
      obtain ⟨n2, hn2⟩ : ∃ n, n = l2.length := ⟨_, rfl⟩
      rw [← hn2]
      obtain ⟨W3, hW3⟩ : ∃ W, W = w2.alloc (.cells #[.int .u64 (ver : Int), .int .u32 (next : Int), .slice a2 n2 c2] 34) := ⟨_, rfl⟩
      obtain ⟨mb, hmb⟩ : ∃ b, b = w2.heap.size := ⟨_, rfl⟩
      have hB3 : Below w2.heap.size w2 W3 := by rw [hW3]; exact (Below.refl _ w2).alloc (Nat.le_refl _) _
      have hman : Blk W3 mb 34 #[.int .u64 (ver : Int), .int .u32 (next : Int), .slice a2 n2 c2] := by rw [hW3, hmb]; exact Blk.new w2 _ _
      have hres3 := hres2.below hB3 hres2.lt
      have hBl : Below w.heap.size w w2 := HB01.out.trans ((show Below (w1.alloc (.cells #[.int .u8 (kv : Int), .slice va gl vc] 155)).heap.size (w1.alloc (.cells #[.int .u8 (kv : Int), .slice va gl vc] 155)) w2 from ⟨hB2.os, hB2.tape, hB2.output, hB2.size, hB2.block⟩).mono HB01.out.size)
      have hBl3 := hBl.trans (hB3.mono hBl.size)
      have hat : ManAt (w1.alloc (.cells #[.int .u8 (kv : Int), .slice va gl vc] 155)) W3 (.agg #[.int .u64 (ver : Int), .int .u32 (next : Int), .slice a2 n2 c2]) ver next fs := by
        rw [hn2]
        exact ManAt.later ⟨a2, c2, l2, rfl, hl2, hF2, ha2, hx2⟩ hB3
      have hmay : ∀ x : World, Below W3.heap.size W3 x → Calls Tryz.prog 76 #[.agg #[.int .u64 (ver : Int), .int .u32 (next : Int), .slice a2 n2 c2]] x fun e w' => e = .returned (.bool (mayB ver next fs)) ∧ Below x.heap.size x w' := fun x hx => by
        rw [hn2, ← hl2]
        exact may_any ver next a2 c2 l2 x ((hF2.later hB3).later hx) (by omega) (by omega) (fun y hy => HFIT.out _ (by rw [← hl2]; exact List.mem_map_of_mem hy)) (by rw [hl2]; exact hbd)
      have y0 := res_set hres3 (.int .u64 0) (.int .u32 0) (.slice none 0 0)
      have HBF3 := Lib.hid (below_res hBl3 hr0 (.int .u64 0) (.int .u32 0) (.slice none 0 0))
      have e0 := hman.cell 0
      have e1 := hman.cell 1
      have e2 := hman.cell 2
      have z0 := hres3.frozen 0
      have z1 := hres3.frozen 1
      have z2 := hres3.frozen 2
      have x0 := hres3.cell 0
      have x1 := hres3.cell 1
      have x2 := hres3.cell 2
      have HMAN := Lib.hid hman
      have HRES3 := Lib.hid hres3
      have HBL3 := Lib.hid hBl3
      have HAT := Lib.hid hat
      have HMAY := Lib.hid hmay
      subst hW3 hmb
      simp at e0 e1 e2 z0 z1 z2 x0 x1 x2
      clear hB2 hl2 hF2 ha2 hx2 hres2 hB3 hman hres3 hBl hBl3 hat hmay HFIT hbd hn2
      obtain ⟨ke2, hke2⟩ : ∃ b : Bool, (er == 0) = b := ⟨_, rfl⟩
      cases ke2
      · have hno : getS bs = none := by rw [HGS2.out, if_neg (fun hh => by rw [hh.1] at hke2; cases hke2)]
        have HNO := Lib.hid hno
        have hnb : (er != 0) = true := by simpa using hke2
        clear hno
        go_wp2_with fail
        obtain ⟨y0, y1, y2⟩ := y0
        refine bodyPost_ret (v := .tuple #[.agg #[.int .u64 0, .int .u32 0, .slice none 0 0], .int .i64 5]) (by simp [results, Tryz.f53, Tryz.results53, go_sem, y0, y1, y2]) rfl ?_
        rw [HNO.out]
        exact ⟨rfl, HBF3.out⟩
      · have hke20 : er = 0 := by simpa using hke2
        subst hke20
        obtain ⟨mv, hmv⟩ : ∃ b, mayB ver next fs = b := ⟨_, rfl⟩
        rw [hmv] at HMAY HGS2
        clear y0
        cases mv
        · have hno : getS bs = none := by rw [HGS2.out, if_neg (fun hh => by cases hh.2)]
          have HNO := Lib.hid hno
          clear hno
          go_wp2_with (first | (go_at_call 76; refine (HMAY.out _ (by first | exact Below.refl _ _ | exact (Below.refl _ _).drew)).mono ?_; rintro e w5 ⟨rfl, hB5⟩; have hres5 := HRES3.out.below (w' := w5) ⟨hB5.os, hB5.tape, hB5.output, hB5.size, hB5.block⟩ HRES3.out.lt; have HRES5 := Lib.hid hres5; have o0 := hres5.cell 0; have o1 := hres5.cell 1; have o2 := hres5.cell 2; have t0 := hres5.frozen 0; have t1 := hres5.frozen 1; have t2 := hres5.frozen 2; simp at o0 o1 o2 t0 t1 t2; have HB5 := Lib.hid hB5; clear hB5 hres5))
          have hB35 := HBL3.out.trans ((show Below (w2.alloc (.cells #[.int .u64 (ver : Int), .int .u32 (next : Int), .slice a2 n2 c2] 34)).heap.size (w2.alloc (.cells #[.int .u64 (ver : Int), .int .u32 (next : Int), .slice a2 n2 c2] 34)) w5 from ⟨HB5.out.os, HB5.out.tape, HB5.out.output, HB5.out.size, HB5.out.block⟩).mono HBL3.out.size)
          obtain ⟨y0, y1, y2⟩ := res_set HRES5.out (.int .u64 0) (.int .u32 0) (.slice none 0 0)
          have hbf := below_res hB35 hr0 (.int .u64 0) (.int .u32 0) (.slice none 0 0)
          refine bodyPost_ret (v := .tuple #[.agg #[.int .u64 0, .int .u32 0, .slice none 0 0], .int .i64 5]) (by simp [results, Tryz.f53, Tryz.results53, go_sem, y0, y1, y2]) rfl ?_
          rw [HNO.out]
          exact ⟨rfl, hbf⟩
        · have hyes : getS bs = some (ver, next, fs) := by rw [HGS2.out, if_pos ⟨rfl, rfl⟩]
          have HYES := Lib.hid hyes
          clear hyes
          go_wp2_with (first | (go_at_call 76; refine (HMAY.out _ (by first | exact Below.refl _ _ | exact (Below.refl _ _).drew)).mono ?_; rintro e w5 ⟨rfl, hB5⟩; have hres5 := HRES3.out.below (w' := w5) ⟨hB5.os, hB5.tape, hB5.output, hB5.size, hB5.block⟩ HRES3.out.lt; have HRES5 := Lib.hid hres5; have o0 := hres5.cell 0; have o1 := hres5.cell 1; have o2 := hres5.cell 2; have t0 := hres5.frozen 0; have t1 := hres5.frozen 1; have t2 := hres5.frozen 2; simp at o0 o1 o2 t0 t1 t2; have hman5 := HMAN.out.below (w' := w5) ⟨hB5.os, hB5.tape, hB5.output, hB5.size, hB5.block⟩ HMAN.out.lt; have e0 := hman5.cell 0; have e1 := hman5.cell 1; have e2 := hman5.cell 2; simp at e0 e1 e2; have HB5 := Lib.hid hB5; clear hB5 hres5 hman5))
          have hb35 := (show Below (w2.alloc (.cells #[.int .u64 (ver : Int), .int .u32 (next : Int), .slice a2 n2 c2] 34)).heap.size (w2.alloc (.cells #[.int .u64 (ver : Int), .int .u32 (next : Int), .slice a2 n2 c2] 34)) w5 from ⟨HB5.out.os, HB5.out.tape, HB5.out.output, HB5.out.size, HB5.out.block⟩)
          have hB35 := HBL3.out.trans (hb35.mono HBL3.out.size)
          obtain ⟨y0, y1, y2⟩ := res_set HRES5.out (.int .u64 (ver : Int)) (.int .u32 (next : Int)) (.slice a2 n2 c2)
          have hbf := below_res hB35 hr0 (.int .u64 (ver : Int)) (.int .u32 (next : Int)) (.slice a2 n2 c2)
          have hat5 := (((HAT.out.later hb35).set (p := ⟨r, 0, none⟩) hrl1 (.int .u64 (ver : Int))).set (p := ⟨r, 1, none⟩) hrl1 (.int .u32 (next : Int))).set (p := ⟨r, 2, none⟩) hrl1 (.slice a2 n2 c2)
          refine bodyPost_ret (v := .tuple #[.agg #[.int .u64 (ver : Int), .int .u32 (next : Int), .slice a2 n2 c2], .int .i64 0]) (by simp [results, Tryz.f53, Tryz.results53, go_sem, y0, y1, y2]) rfl ?_
          rw [HYES.out]
          exact ⟨⟨_, rfl, hat5.base HB01.out.size⟩, hbf⟩
end Go.Proofs.YtbfochdoeibofaaGreatDoor.Read

/- Layer 9: manifest.Read over any disk that is on, with nothing waiting. Printed by gen_mread.py. -/
namespace Go.Proofs.YtbfochdoeibofaaGreatDoor.Read
open Go.RowKit Go.Deep Mem Crc Go.Proofs.YtbfochdoeibofaaGreatDoor.Mani Go.Proofs.YtbfochdoeibofaaGreatDoor.Full Go.Proofs.YtbfochdoeibofaaGreatDoor.Man Go.Proofs.YtbfochdoeibofaaGreatDoor.Dk

abbrev MT := Nat × Nat × List Fil
/-- The better one of what stands and what a slot holds; was a slot blank? -/
def stepR (s : Option MT × Bool) (b : List UInt8) : Option MT × Bool :=
  (match getS b with
   | none => s.1
   | some p => match s.1 with
     | none => some p
     | some q => if q.1 < p.1 then some p else some q, s.2 || !b.any (· != 0))
def stR (bl : List (List UInt8)) : Nat → Option MT × Bool
  | 0 => (none, false)
  | j + 1 => stepR (stR bl j) (slotB bl j)
def readM (bl : List (List UInt8)) : Option MT × Bool := stR bl 2
/-- What Read answers. -/
def ReadOn (w : World) (s : Option MT × Bool) (e : Ending) (w' : World) : Prop :=
  match s.1 with
  | none => e = .returned (.tuple #[noneV, .int .i64 (if s.2 then 0 else 5)])
  | some p => ∃ v, e = .returned (.tuple #[v, .int .i64 0]) ∧ ManAt w w' v p.1 p.2.1 p.2.2
/-- The best so far, in its box. -/
def BestIs (wb wr : World) (bb : Nat) : Option MT → Prop
  | none => Blk wr bb 34 #[.int .u64 0, .int .u32 0, .slice none 0 0]
  | some p => ∃ a n c, Blk wr bb 34 #[.int .u64 (p.1 : Int), .int .u32 (p.2.1 : Int), .slice a n c] ∧ ManAt wb wr (.agg #[.int .u64 (p.1 : Int), .int .u32 (p.2.1 : Int), .slice a n c]) p.1 p.2.1 p.2.2
theorem BestIs.later {wb wr w' : World} {bb : Nat} {o : Option MT} (h : BestIs wb wr bb o) (hB : Below wr.heap.size wr w') : BestIs wb w' bb o := by
  cases o with
  | none => exact Blk.below h hB h.lt
  | some p =>
    obtain ⟨a, n, c, h1, h2⟩ := h
    exact ⟨a, n, c, h1.below hB h1.lt, h2.later hB⟩
attribute [local go_sem] Oper.semAt_some
set_option maxHeartbeats 2000000 in
set_option maxRecDepth 100000 in
theorem mread_on {d g : Nat} {wv : Value} {m : DM} {w : World} (h : Dk w d g wv m) (hoff : m.off = false) (hwt : m.wt = []) (h33 : 33 ≤ m.bl.length) :
    Calls Tryz.prog 20 #[.pointer (some ⟨d, 0, none⟩)] w fun e w' => ReadOn w (readM m.bl) e w' ∧ Below w.heap.size w w' := by
  have hal := (Below.refl w.heap.size w).alloc (Nat.le_refl _) (Obj.cells #[Value.int .u64 0, Value.int .u32 0, Value.slice none 0 0] 34)
  have hC := Lib.hid (Dk.count_any (h.later hal))
  have HA := Lib.hid hal
  have hd0 : decide ((m.bl.length : Int) ≤ 32) = false := decide_eq_false (by omega)
  obtain ⟨W, hW⟩ : ∃ W, W = (w.alloc (Obj.cells #[Value.int .u64 0, Value.int .u32 0, Value.slice none 0 0] 34)).alloc (Obj.cells #[Value.int .u64 0, Value.int .u32 0, Value.slice none 0 0] 34) := ⟨_, rfl⟩
  obtain ⟨r, hr⟩ : ∃ b, b = w.heap.size := ⟨_, rfl⟩
  obtain ⟨q, hq⟩ : ∃ b, b = w.heap.size + 1 := ⟨_, rfl⟩
  have hb0 : Blk W r 34 #[Value.int .u64 0, Value.int .u32 0, Value.slice none 0 0] := by rw [hW, hr]; exact (Blk.new w _ _).alloc _
  have hb1 : Blk W q 34 #[Value.int .u64 0, Value.int .u32 0, Value.slice none 0 0] := by rw [hW, hq]; exact Blk.at_ (by simp)
  have hBW : Below w.heap.size w W := by rw [hW]; exact HA.out.alloc (by simp) _
  have H := Lib.hid h
  have HB0 := Lib.hid hb0
  have HB1 : Hid (BestIs W W q (stR m.bl 0).1) := Lib.hid hb1
  have HBW := Lib.hid hBW
  have HBWW := Lib.hid (Below.refl W.heap.size W)
  have hr0 : w.heap.size ≤ r := by rw [hr]; exact Nat.le_refl _
  have hq0 : w.heap.size ≤ q := by rw [hq]; omega
  have hrl := hb0.lt
  have hql := hb1.lt
  have hne : q ≠ r := by omega
  clear hal h hb0 hb1 hBW
  go_enter Tryz.func20, Tryz.ntmps20
  go_wp2_with fail
  refine hC.out.mono ?_
  rintro e w1 ⟨rfl, rfl⟩
  go_wp2_with fail
  rw [← hW, ← hq, ← hr]
  clear hC HA hd0 hW hr hq
  go_loopw [5, 6, 15] (fun f b i wr => ∃ (j : Nat) (o : Option MT) (k : Bool), j ≤ 2 ∧ f = .bool o.isSome ∧ b = .bool k ∧ i = .int .i64 (j : Int) ∧ Hid (stR m.bl j = (o, k)) ∧ Hid (Blk wr r 34 #[Value.int .u64 0, Value.int .u32 0, Value.slice none 0 0]) ∧ Hid (BestIs W wr q o) ∧ Hid (Below w.heap.size w wr) ∧ Hid (W.heap.size ≤ wr.heap.size)) (fun _ _ i _ => 2 - (intOf i).toNat)
  case atStart => exact ⟨0, none, false, by omega, rfl, rfl, rfl, Lib.hid rfl, HB0, HB1, HBW, Lib.hid (Nat.le_refl _)⟩
  case round =>
    obtain ⟨j, o, k, hj, rfl, rfl, rfl, hst, hb0, hbo, hB, hWr⟩ := hrel
    by_cases hj2 : j < 2
    · have hd : decide ((j : Int) < 2) = true := by simp; omega
      have hS := Lib.hid (slot_on j hj2 (H.out.later hB.out) hoff hwt h33)
      obtain ⟨bs, hbs⟩ : ∃ x, x = slotB m.bl j := ⟨_, rfl⟩
      have hlen : bs.length = 2048 := by rw [hbs]; exact slotB_length H.out.len hj2 h33
      have hst2 : stR m.bl (j + 1) = stepR (o, k) bs := by show stepR (stR m.bl j) (slotB m.bl j) = _; rw [hst.out, hbs]
      rw [← hbs] at hS
      obtain ⟨bn, hbn⟩ : ∃ x, x = bs.length := ⟨_, rfl⟩
      have HST := Lib.hid hst2
      have HLEN := Lib.hid hlen
      have HBN := Lib.hid hbn
      have hsz := hB.out.size
      obtain ⟨nz, hnz⟩ : ∃ x, x = bs.any (· != 0) := ⟨_, rfl⟩
      have HNZ := Lib.hid hnz
      clear hbs hlen hst2 hst hnz
      go_wp2_with fail
      refine hS.out.mono ?_
      rintro e w1 ⟨v, rfl, hO, hB1⟩
      obtain ⟨va, vc, ev, hvc, hL, _, _⟩ := own_shape hO
      subst ev
      have hcc := contains_any' va vc bs w1 hL (by rw [HLEN.out]; omega)
      have hgg := mget_any va vc bs w1 hL hvc (by rw [HLEN.out]; omega)
      rw [← HNZ.out] at hcc
      rw [← hbn] at hcc hgg ⊢
      have HCC := Lib.hid hcc
      have HGG := Lib.hid hgg
      have HB01 := Lib.hid (hb0.out.below hB1 hb0.out.lt)
      have HBO1 := Lib.hid (hbo.out.later hB1)
      have hBB := hB.out.trans (hB1.mono hsz)
      have HBB := Lib.hid hBB
      have hWr1 := Nat.le_trans hWr.out hB1.size
      have HBN := Lib.hid hbn
      clear hO hL hcc hgg hB1 hd hS hBB hvc hbn hbo hb0 hB hWr
      obtain ⟨k2, hk2⟩ : ∃ x, x = (k || !nz) := ⟨_, rfl⟩
      have HK2 := Lib.hid hk2
      clear hk2
      cases k
      all_goals
        go_wp2_with (first | (go_at_call 51; refine HCC.out.mono ?_; rintro e w2 ⟨rfl, rfl⟩))
        refine HGG.out.mono ?_
        rintro e w3 ⟨hG, hB3⟩
        have hwb := Nat.le_trans hWr1 hB3.size
        have hB03 := HBB.out.trans (hB3.mono HBB.out.size)
        have hb03 := HB01.out.below hB3 HB01.out.lt
        have hbo3 := HBO1.out.later hB3
        cases hgs : getS bs with
        | none =>
          rw [hgs] at hG
          obtain rfl : e = _ := hG
          unfold noneV
          have hst3 : stR m.bl (j + 1) = (o, k2) := by rw [HST.out, HK2.out, HNZ.out]; unfold stepR; rw [hgs]
          have HST3 := Lib.hid hst3
          have HB3 := Lib.hid hB3
          have HB03 := Lib.hid hB03
          have Hb03 := Lib.hid hb03
          have HBO3 := Lib.hid hbo3
          clear hgs hst3 hB3 hB03 hb03 hbo3
          go_wp2_with fail
          exact ⟨⟨j + 1, o, k2, hj2, rfl, by rw [HK2.out]; simp, by simp, HST3, Lib.hid (Hb03.out.alloc _), Lib.hid (HBO3.out.later ((Below.refl _ w3).alloc (Nat.le_refl _) _)), Lib.hid (HB03.out.alloc HB03.out.size _), Lib.hid (by simp; omega)⟩, by simp [intOf]; omega⟩
        | some p =>
          rw [hgs] at hG
          obtain ⟨v, rfl, hat⟩ := hG
          obtain ⟨pv, pn, pf⟩ := p
          dsimp only at hat
          obtain ⟨a3, c3, l3, rfl, hl3, hF3, ha3, hx3⟩ := hat
          obtain ⟨n3, hn3⟩ : ∃ x, x = l3.length := ⟨_, rfl⟩
          have hatW : ManAt W w3 (.agg #[.int .u64 (pv : Int), .int .u32 (pn : Int), .slice a3 n3 c3]) pv pn pf := by
            rw [hn3]
            exact ManAt.base ⟨a3, c3, l3, rfl, hl3, hF3, ha3, hx3⟩ hWr1
          rw [← hn3]
          have halc := (Below.refl w3.heap.size w3).alloc (Nat.le_refl _) (.cells #[.int .u64 (pv : Int), .int .u32 (pn : Int), .slice a3 n3 c3] 34)
          have hmx := Blk.new w3 34 #[.int .u64 (pv : Int), .int .u32 (pn : Int), .slice a3 n3 c3]
          have e0 := hmx.cell 0
          have e1 := hmx.cell 1
          have e2 := hmx.cell 2
          simp at e0 e1 e2
          have HATW := Lib.hid hatW
          have HB03 := Lib.hid hB03
          have Hb03 := Lib.hid hb03
          clear hl3 hF3 ha3 hx3 hn3 hatW hmx hB3 hB03 hb03
          cases o with
          | none =>
            have hst3 : stR m.bl (j + 1) = (some (pv, pn, pf), k2) := by rw [HST.out, HK2.out, HNZ.out]; unfold stepR; rw [hgs]
            have hbq : Blk (w3.alloc (.cells #[.int .u64 (pv : Int), .int .u32 (pn : Int), .slice a3 n3 c3] 34)) q 34 #[.int .u64 0, .int .u32 0, .slice none 0 0] := hbo3.later halc
            have b0 := hbq.cell 0
            have b1 := hbq.cell 1
            have b2 := hbq.cell 2
            have z0 := hbq.frozen 0
            have z1 := hbq.frozen 1
            have z2 := hbq.frozen 2
            simp at b0 b1 b2 z0 z1 z2
            have HST3 := Lib.hid hst3
            have hbs := ((hbq.set 0 (.int .u64 (pv : Int))).set 1 (.int .u32 (pn : Int))).set 2 (.slice a3 n3 c3)
            have hat5 := (((HATW.out.later halc).set (p := ⟨q, 0, none⟩) hql (.int .u64 (pv : Int))).set (p := ⟨q, 1, none⟩) hql (.int .u32 (pn : Int))).set (p := ⟨q, 2, none⟩) hql (.slice a3 n3 c3)
            have HBS := Lib.hid hbs
            have HAT5 := Lib.hid hat5
            have HR5 := Lib.hid ((((Hb03.out.alloc (.cells #[.int .u64 (pv : Int), .int .u32 (pn : Int), .slice a3 n3 c3] 34)).far (p := ⟨q, 0, none⟩) hne.symm (.int .u64 (pv : Int))).far (p := ⟨q, 1, none⟩) hne.symm (.int .u32 (pn : Int))).far (p := ⟨q, 2, none⟩) hne.symm (.slice a3 n3 c3))
            have HB5 := Lib.hid (below_res (HB03.out.alloc HB03.out.size (.cells #[.int .u64 (pv : Int), .int .u32 (pn : Int), .slice a3 n3 c3] 34)) hq0 (.int .u64 (pv : Int)) (.int .u32 (pn : Int)) (.slice a3 n3 c3))
            clear hst3 hgs hbq hbs hat5 halc
            go_wp2_with fail
            exact ⟨⟨j + 1, some (pv, pn, pf), k2, hj2, rfl, by rw [HK2.out]; simp, by simp, HST3, HR5, Lib.hid ⟨a3, n3, c3, HBS.out, HAT5.out⟩, HB5, Lib.hid (by simp; omega)⟩, by simp [intOf]; omega⟩
          | some o =>
            obtain ⟨qv, qn, qf⟩ := o
            obtain ⟨oa, on, oc, hbo4, hat4⟩ := hbo3
            dsimp only at hbo4 hat4
            have hbq := hbo4.below halc hbo4.lt
            have b0 := hbq.cell 0
            simp at b0
            by_cases hlt : qv < pv
            · have hlti : decide ((qv : Int) < (pv : Int)) = true := decide_eq_true (by omega)
              have hst3 : stR m.bl (j + 1) = (some (pv, pn, pf), k2) := by rw [HST.out, HK2.out, HNZ.out]; unfold stepR; rw [hgs]; dsimp only; rw [if_pos hlt]
              have b1 := hbq.cell 1
              have b2 := hbq.cell 2
              have z0 := hbq.frozen 0
              have z1 := hbq.frozen 1
              have z2 := hbq.frozen 2
              simp at b1 b2 z0 z1 z2
              have HST3 := Lib.hid hst3
              have hbs := ((hbq.set 0 (.int .u64 (pv : Int))).set 1 (.int .u32 (pn : Int))).set 2 (.slice a3 n3 c3)
              have hat5 := (((HATW.out.later halc).set (p := ⟨q, 0, none⟩) hql (.int .u64 (pv : Int))).set (p := ⟨q, 1, none⟩) hql (.int .u32 (pn : Int))).set (p := ⟨q, 2, none⟩) hql (.slice a3 n3 c3)
              have HBS := Lib.hid hbs
              have HAT5 := Lib.hid hat5
              have HR5 := Lib.hid ((((Hb03.out.alloc (.cells #[.int .u64 (pv : Int), .int .u32 (pn : Int), .slice a3 n3 c3] 34)).far (p := ⟨q, 0, none⟩) hne.symm (.int .u64 (pv : Int))).far (p := ⟨q, 1, none⟩) hne.symm (.int .u32 (pn : Int))).far (p := ⟨q, 2, none⟩) hne.symm (.slice a3 n3 c3))
              have HB5 := Lib.hid (below_res (HB03.out.alloc HB03.out.size (.cells #[.int .u64 (pv : Int), .int .u32 (pn : Int), .slice a3 n3 c3] 34)) hq0 (.int .u64 (pv : Int)) (.int .u32 (pn : Int)) (.slice a3 n3 c3))
              clear hst3 hgs hbq hbs hat5 halc hbo4 hat4
              go_wp2_with fail
              exact ⟨⟨j + 1, some (pv, pn, pf), k2, hj2, rfl, by rw [HK2.out]; simp, by simp, HST3, HR5, Lib.hid ⟨a3, n3, c3, HBS.out, HAT5.out⟩, HB5, Lib.hid (by simp; omega)⟩, by simp [intOf]; omega⟩
            · have hlti : decide ((qv : Int) < (pv : Int)) = false := decide_eq_false (by omega)
              have hst3 : stR m.bl (j + 1) = (some (qv, qn, qf), k2) := by rw [HST.out, HK2.out, HNZ.out]; unfold stepR; rw [hgs]; dsimp only; rw [if_neg hlt]
              have HST3 := Lib.hid hst3
              have HBQ := Lib.hid hbq
              have HAT4 := Lib.hid (hat4.later halc)
              clear hst3 hgs hbq hbo4 hat4 halc
              go_wp2_with fail
              exact ⟨⟨j + 1, some (qv, qn, qf), k2, hj2, rfl, by rw [HK2.out]; simp, by simp, HST3, Lib.hid (Hb03.out.alloc _), Lib.hid ⟨oa, on, oc, HBQ.out, HAT4.out⟩, Lib.hid (HB03.out.alloc HB03.out.size _), Lib.hid (by simp; omega)⟩, by simp [intOf]; omega⟩
    · obtain rfl : j = 2 := by omega
      have hd : decide ((2 : Int) < 2) = false := by decide
      have hfin : readM m.bl = (o, k) := hst.out
      have p0 := hb0.out.cell 0
      have p1 := hb0.out.cell 1
      have p2 := hb0.out.cell 2
      have f0 := hb0.out.frozen 0
      have f1 := hb0.out.frozen 1
      have f2 := hb0.out.frozen 2
      simp at p0 p1 p2
      have HFIN := Lib.hid hfin
      clear hfin hst
      cases o with
      | none =>
        have hbq : Blk wr q 34 #[.int .u64 0, .int .u32 0, .slice none 0 0] := hbo.out
        have q0 := hbq.cell 0
        have q1 := hbq.cell 1
        have q2 := hbq.cell 2
        simp at q0 q1 q2
        have y := res_set hb0.out (.int .u64 0) (.int .u32 0) (.slice none 0 0)
        have HBF := Lib.hid (below_res hB.out hr0 (.int .u64 0) (.int .u32 0) (.slice none 0 0))
        clear hbq
        cases k
        · go_wp2_with fail
          obtain ⟨y0, y1, y2⟩ := y
          refine bodyPost_ret (v := .tuple #[.agg #[.int .u64 0, .int .u32 0, .slice none 0 0], .int .i64 5]) (by simp [results, Tryz.f20, Tryz.results20, go_sem, y0, y1, y2]) rfl ?_
          rw [HFIN.out]
          exact ⟨rfl, HBF.out⟩
        · go_wp2_with fail
          obtain ⟨y0, y1, y2⟩ := y
          refine bodyPost_ret (v := .tuple #[.agg #[.int .u64 0, .int .u32 0, .slice none 0 0], .int .i64 0]) (by simp [results, Tryz.f20, Tryz.results20, go_sem, y0, y1, y2]) rfl ?_
          rw [HFIN.out]
          exact ⟨rfl, HBF.out⟩
      | some o =>
        obtain ⟨qv, qn, qf⟩ := o
        obtain ⟨oa, on, oc, hbq, hat⟩ := hbo.out
        dsimp only at hbq hat
        have q0 := hbq.cell 0
        have q1 := hbq.cell 1
        have q2 := hbq.cell 2
        simp at q0 q1 q2
        have y := res_set hb0.out (.int .u64 (qv : Int)) (.int .u32 (qn : Int)) (.slice oa on oc)
        have HBF := Lib.hid (below_res hB.out hr0 (.int .u64 (qv : Int)) (.int .u32 (qn : Int)) (.slice oa on oc))
        have HAT := Lib.hid (((hat.set (p := ⟨r, 0, none⟩) hrl (.int .u64 (qv : Int))).set (p := ⟨r, 1, none⟩) hrl (.int .u32 (qn : Int))).set (p := ⟨r, 2, none⟩) hrl (.slice oa on oc))
        clear hbq hat
        go_wp2_with fail
        obtain ⟨y0, y1, y2⟩ := y
        refine bodyPost_ret (v := .tuple #[.agg #[.int .u64 (qv : Int), .int .u32 (qn : Int), .slice oa on oc], .int .i64 0]) (by simp [results, Tryz.f20, Tryz.results20, go_sem, y0, y1, y2]) rfl ?_
        rw [HFIN.out]
        exact ⟨⟨_, rfl, HAT.out.base HBW.out.size⟩, HBF.out⟩
end Go.Proofs.YtbfochdoeibofaaGreatDoor.Read

/- Layer 10: does a file lie beyond its disk? -/
namespace Go.Proofs.YtbfochdoeibofaaGreatDoor.Full
open Go.RowKit Go.Deep Mem Crc Go.Proofs.YtbfochdoeibofaaGreatDoor.Dk Go.Proofs.YtbfochdoeibofaaGreatDoor.Mani Go.Proofs.YtbfochdoeibofaaGreatDoor.Read

theorem beyond_any {d g : Nat} {wv : Value} {m : DM} {w : World} (h : Dk w d g wv m) {bx : Nat} (hb : Blk w bx 29 #[.pointer (some ⟨d, 0, none⟩)]) (i : Nat) :
    Calls Tryz.prog 55 #[.int .i64 (i : Int), .pointer (some ⟨bx, 0, none⟩)] w fun e w' => e = .returned (.bool (decide (m.bl.length ≤ i))) ∧ Below w.heap.size w w' := by
  have hc : ∀ x : World, Below w.heap.size w x → Calls Tryz.prog 49 #[.pointer (some ⟨d, 0, none⟩)] x fun e w' => e = .returned (.int .i64 (m.bl.length : Int)) ∧ w' = x := fun x hx => Dk.count_any (h.later hx)
  have HC := Lib.hid hc
  have c0 := hb.cell 0
  simp at c0
  clear h hb hc
  go_enter Tryz.func55, Tryz.ntmps55
  go_wp2_with fail
  refine (HC.out _ (by first | exact Below.refl _ _ | exact (Below.refl _ _).drew)).mono ?_
  rintro e w1 ⟨rfl, rfl⟩
  go_wp2_with fail
  go_ret
  exact ⟨rfl, by first | exact Below.refl _ _ | exact (Below.refl _ _).drew⟩
set_option maxHeartbeats 400000 in
theorem beyond_index {d g : Nat} {wv : Value} {m : DM} {w : World} (h : Dk w d g wv m) {bx : Nat} (hb : Blk w bx 29 #[.pointer (some ⟨d, 0, none⟩)]) (a : Option Addr) (cp : Nat) (l : List Nat) (hL : Lies w a (l.map iv)) (hn : l.length ≤ 4000000) :
    Calls Tryz.prog 86 #[.slice a l.length cp, .func (.func 55) #[] #[.pointer (some ⟨bx, 0, none⟩)]] w fun e w' => ∃ i : Int, e = .returned (.int .i64 i) ∧ decide (0 ≤ i) = l.any (fun i => decide (m.bl.length ≤ i)) ∧ Below w.heap.size w w' := by
  have hbe : ∀ (x : World) (i : Nat), Below w.heap.size w x → Calls Tryz.prog 55 #[.int .i64 (i : Int), .pointer (some ⟨bx, 0, none⟩)] x fun e w' => e = .returned (.bool (decide (m.bl.length ≤ i))) ∧ Below x.heap.size x w' := fun x i hx => beyond_any (h.later hx) (hb.below hx hb.lt) i
  have HBE := Lib.hid hbe
  have HL := Lib.hid hL
  obtain ⟨n, hnn⟩ : ∃ n, n = l.length := ⟨_, rfl⟩
  rw [← hnn] at hn ⊢
  have HN := Lib.hid hnn
  clear h hb hbe hnn hL
  go_enter Tryz.func86, Tryz.ntmps86
  go_wp2_with fail
  go_loopw [8] (fun i wr => ∃ j : Nat, j ≤ n ∧ i = .int .i64 (j : Int) ∧ Hid (Below w.heap.size w wr) ∧ Hid ((l.take j).any (fun i => decide (m.bl.length ≤ i)) = false)) (fun i _ => n - (intOf i).toNat)
  case atStart => exact ⟨0, by omega, rfl, Lib.hid (Below.refl _ _), Lib.hid rfl⟩
  case round =>
    obtain ⟨j, hj, rfl, hB, hz⟩ := hrel
    by_cases hjn : j < n
    · have hjd : decide ((j : Int) < (n : Int)) = true := decide_eq_true (by omega)
      obtain ⟨c, hc⟩ : ∃ c, l[j]? = some c := ⟨l[j]'(by rw [← HN.out]; exact hjn), List.getElem?_eq_getElem _⟩
      obtain ⟨g, off, rfl, _, hcs⟩ := (HL.out.later hB.out).resolve_left (fun e => by rw [List.map_eq_nil_iff.1 e] at hc; simp at hc)
      have c0 : wr.cell? ⟨g, off + j, none⟩ = some (.int .i64 (c : Int)) := hcs j _ (by rw [List.getElem?_map, hc]; rfl)
      have hst : (l.take (j + 1)).any (fun i => decide (m.bl.length ≤ i)) = ((l.take j).any (fun i => decide (m.bl.length ≤ i)) || decide (m.bl.length ≤ c)) := by rw [List.take_add_one, hc, List.any_append]; simp
      have hin : decide (m.bl.length ≤ c) = true → l.any (fun i => decide (m.bl.length ≤ i)) = true := fun h => List.any_eq_true.2 ⟨c, List.mem_of_getElem? hc, h⟩
      rw [hz.out, Bool.false_or] at hst
      have his : ∀ x : World, Below wr.heap.size wr x → Calls Tryz.prog 55 #[.int .i64 (c : Int), .pointer (some ⟨bx, 0, none⟩)] x fun e w' => e = .returned (.bool (decide (m.bl.length ≤ c))) ∧ Below wr.heap.size wr w' := fun x hx => (HBE.out x c (hB.out.trans (hx.mono hB.out.size))).mono (fun e w' hh => ⟨hh.1, hx.trans (hh.2.mono hx.size)⟩)
      obtain ⟨nz, hnz⟩ : ∃ b, b = decide (m.bl.length ≤ c) := ⟨_, rfl⟩
      rw [← hnz] at hst hin his
      have HIS := Lib.hid his
      have HST := Lib.hid hst
      have HIN := Lib.hid hin
      clear hcs hc his hst hin hnz hz
      cases nz
      · go_wp2_with (first | (go_at_call 55; refine (HIS.out _ (by first | exact Below.refl _ _ | exact (Below.refl _ _).drew)).mono ?_; rintro e w1 ⟨rfl, hB1⟩; have HB1 := Lib.hid (hB.out.trans (hB1.mono hB.out.size)); clear hB1))
        exact ⟨⟨j + 1, hjn, by simp, HB1, HST⟩, by simp [intOf]; omega⟩
      · go_wp2_with (first | (go_at_call 55; refine (HIS.out _ (by first | exact Below.refl _ _ | exact (Below.refl _ _).drew)).mono ?_; rintro e w1 ⟨rfl, hB1⟩; have HB1 := Lib.hid (hB.out.trans (hB1.mono hB.out.size)); clear hB1))
        go_ret
        exact ⟨_, rfl, by rw [HIN.out (by trivial)]; exact decide_eq_true (by omega), HB1.out⟩
    · obtain rfl : n = j := by omega
      have hjd : decide ((n : Int) < (n : Int)) = false := decide_eq_false (by omega)
      have hz2 := hz.out
      rw [List.take_of_length_le (by rw [HN.out]; exact Nat.le_refl _)] at hz2
      have HZ := Lib.hid hz2
      clear hz2 hz
      go_wp2_with fail
      go_ret
      exact ⟨_, rfl, by rw [HZ.out]; rfl, hB.out⟩
theorem beyond_has {d g : Nat} {wv : Value} {m : DM} {w : World} (h : Dk w d g wv m) {bx : Nat} (hb : Blk w bx 29 #[.pointer (some ⟨d, 0, none⟩)]) (a : Option Addr) (cp : Nat) (l : List Nat) (hL : Lies w a (l.map iv)) (hn : l.length ≤ 4000000) :
    Calls Tryz.prog 54 #[.slice a l.length cp, .func (.func 55) #[] #[.pointer (some ⟨bx, 0, none⟩)]] w fun e w' => e = .returned (.bool (l.any (fun i => decide (m.bl.length ≤ i)))) ∧ Below w.heap.size w w' := by
  have H := Lib.hid (beyond_index h hb a cp l hL hn)
  clear h
  obtain ⟨n, hnn⟩ : ∃ n, n = l.length := ⟨_, rfl⟩
  rw [← hnn] at H ⊢
  obtain ⟨z, hz⟩ : ∃ z, z = l.any (fun i => decide (m.bl.length ≤ i)) := ⟨_, rfl⟩
  rw [← hz] at H ⊢
  clear hnn hz hn hb hL
  go_enter Tryz.func54, Tryz.ntmps54
  go_wp2_with fail
  refine H.out.mono ?_
  rintro e w1 ⟨i, rfl, hi, hB1⟩
  have HB1 := Lib.hid hB1
  clear hB1
  go_wp2_with fail
  go_ret
  exact ⟨by rw [← hi]; rfl, HB1.out⟩
end Go.Proofs.YtbfochdoeibofaaGreatDoor.Full

/- Layer 10: store.Open over any disk that is on, with nothing waiting. -/
namespace Go.Proofs.YtbfochdoeibofaaGreatDoor.Full
open Go.RowKit Go.Deep Mem Crc Go.Maps Go.Proofs.YtbfochdoeibofaaGreatDoor.Dk Go.Proofs.YtbfochdoeibofaaGreatDoor.Mani Go.Proofs.YtbfochdoeibofaaGreatDoor.Read
open Go.Proofs.YtbfochdoeibofaaGreatDoor.Store (Chg none' nv)

/-- What holds of a manifest that was got. -/
structure GOk (p : MT) : Prop where
  ver : p.1 < 18446744073709551616
  next : p.2.1 < 4294967296
  got : ∀ f ∈ p.2.2, FGot f
  few : p.2.2.length ≤ 2048
  bks : (bksL p.2.2).length ≤ 5000
  may : p = (0, 0, []) ∨ mayB p.1 p.2.1 p.2.2 = true
theorem getS_ok {b : List UInt8} {p : MT} (hb : b.length = 2048) (h : getS b = some p) : GOk p := by
  have hgl := got_len b
  unfold getS at h
  by_cases h1 : (Frame.got b).2.2.2 = 0 ∧ (Frame.got b).1 = 77
  · rw [if_pos h1] at h
    by_cases h2 : (readS (Frame.got b).2.1).err = 0 ∧ mayB (readS (Frame.got b).2.1).ver (readS (Frame.got b).2.1).next (readS (Frame.got b).2.1).fs = true
    · rw [if_pos h2] at h
      have h := Option.some.inj h
      subst h
      obtain ⟨a1, a2, a3, a4, a5⟩ := readS_le (Frame.got b).2.1
      exact ⟨by show (readS _).ver < _; omega, by show (readS _).next < _; omega, a3, a4, by show (bksL (readS _).fs).length ≤ _; omega, .inr h2.2⟩
    · rw [if_neg h2] at h; cases h
  · rw [if_neg h1] at h; cases h
theorem stR_ok (bl : List (List UInt8)) (hb : ∀ j, j < 2 → (Man.slotB bl j).length = 2048) : ∀ (j : Nat) (p : MT), j ≤ 2 → (stR bl j).1 = some p → GOk p
  | 0, p, _, h => by cases h
  | j + 1, p, hj, h => by
    have ih := fun p => stR_ok bl hb j p (by omega)
    have hbj := hb j (by omega)
    have e : stR bl (j + 1) = stepR (stR bl j) (Man.slotB bl j) := rfl
    rw [e] at h
    unfold stepR at h
    dsimp only at h
    cases hg : Read.getS (Man.slotB bl j) with
    | none => rw [hg] at h; exact ih p h
    | some x =>
      rw [hg] at h
      dsimp only at h
      cases hs : (stR bl j).1 with
      | none => rw [hs] at h; rw [← Option.some.inj h]; exact getS_ok hbj hg
      | some y =>
        rw [hs] at h
        dsimp only at h
        by_cases hlt : y.1 < x.1
        · rw [if_pos hlt] at h; rw [← Option.some.inj h]; exact getS_ok hbj hg
        · rw [if_neg hlt] at h; exact ih p (hs.trans h)
theorem readM_ok {bl : List (List UInt8)} {p : MT} {k : Bool} (hb : ∀ j, j < 2 → (Man.slotB bl j).length = 2048) (h : readM bl = (some p, k)) : GOk p := stR_ok bl hb 2 p (Nat.le_refl _) (by show (readM bl).1 = _; rw [h])
theorem bks_ge {fs : List Fil} {f : Fil} (h : f ∈ fs) : f.blocks.length ≤ (bksL fs).length := by
  obtain ⟨s, t, rfl⟩ := List.append_of_mem h
  unfold Mani.bksL
  rw [List.flatMap_append, List.flatMap_cons, List.length_append, List.length_append]
  omega
/-- What Open comes to: the error, the disk, the manifest. -/
def openL (m : DM) : Int × DM × MT :=
  match (readM m.bl).1 with
  | none => (if (readM m.bl).2 then 0 else 5, m, (0, 0, []))
  | some p =>
    if p.2.2.any (fun f => f.blocks.any (fun i => decide (m.bl.length ≤ i))) then (9, m, p)
    else if p.1 = 0 then (0, m, p)
    else ((m.mani p.1 (manL p.1 p.2.1 p.2.2)).2, (m.mani p.1 (manL p.1 p.2.1 p.2.2)).1, p)
/-- What stands when a store was opened. -/
def Opened (w : World) (d g : Nat) (o : Int × DM × MT) (e : Ending) (w' : World) (wv' : Value) : Prop :=
  if o.1 = 0 then ∃ s cm a c l, e = .returned (.tuple #[.pointer (some ⟨s, 0, none⟩), .int .i64 0]) ∧ (l : List FR).map FR.f = o.2.2.2.2 ∧ Fu w' (fun k => Has d g wv' k ∨ (w.heap.size ≤ k ∧ k < w'.heap.size)) s d g cm wv' o.2.1 o.2.2.1 o.2.2.2.1 a c l false none'
  else e = .returned (.tuple #[.pointer none, .int .i64 o.1])
/-- A store's box and its map are new; the rest stands. -/
theorem fu_new {w w2 w' : World} {d g : Nat} {wv : Value} {m : DM} {ver next : Nat} {a : Option Addr} {c : Nat} {l : List FR} (hs : w.heap.size ≤ w2.heap.size) (hd : Dk w2 d g wv m) (hf : FilesIn w2 a l) (ha : ∀ b, Mem.blk a = some b → w.heap.size ≤ b ∧ b < w2.heap.size) (hx : ∀ x ∈ l, ∀ b, Mem.blk x.a = some b → w.heap.size ≤ b ∧ b < w2.heap.size) (hna : ∀ b, Mem.blk a = some b → ¬ Has d g wv b) (hnx : ∀ x ∈ l, ∀ b, Mem.blk x.a = some b → ¬ Has d g wv b)
    (hw : w' = (w2.alloc (.map #[] 0)).alloc (.cells #[.pointer (some ⟨d, 0, none⟩), .int .u64 (ver : Int), .int .u32 (next : Int), .slice a l.length c, .map (some w2.heap.size), .bool false] 90)) :
    Fu w' (fun k => Has d g wv k ∨ (w.heap.size ≤ k ∧ k < w'.heap.size)) (w2.heap.size + 1) d g w2.heap.size wv m ver next a c l false none' := by
  subst hw
  have hB : Below w2.heap.size w2 ((w2.alloc (.map #[] 0)).alloc (.cells #[.pointer (some ⟨d, 0, none⟩), .int .u64 (ver : Int), .int .u32 (next : Int), .slice a l.length c, .map (some w2.heap.size), .bool false] 90)) := ((Below.refl _ w2).alloc (Nat.le_refl _) _).alloc (by simp) _
  have hsz : ((w2.alloc (.map #[] 0)).alloc (.cells #[.pointer (some ⟨d, 0, none⟩), .int .u64 (ver : Int), .int .u32 (next : Int), .slice a l.length c, .map (some w2.heap.size), .bool false] 90)).heap.size = w2.heap.size + 2 := by simp
  have hmap : MapIs ((w2.alloc (.map #[] 0)).alloc (.cells #[.pointer (some ⟨d, 0, none⟩), .int .u64 (ver : Int), .int .u32 (next : Int), .slice a l.length c, .map (some w2.heap.size), .bool false] 90)) 9 w2.heap.size (fun _ => none) := (MapIs.made w2 _).keep (Below.heap_alloc _ _ _ (by simp))
  refine ⟨Blk.at_ (by simp), hd.later hB, hf.later hB, fun k hk => ?_, fun x hx2 k hk => ?_, ⟨_, hmap, fun x h => absurd rfl h, fun nm => rfl⟩, .inr ⟨by omega, by omega⟩, .inr ⟨by omega, by omega⟩, fun k hk => .inl hk, fun k hk => ?_⟩
  · have h1 := ha k hk
    exact ⟨.inr ⟨h1.1, by omega⟩, by omega, by omega, hna k hk⟩
  · have h1 := hx x hx2 k hk
    exact ⟨.inr ⟨h1.1, by omega⟩, by omega, by omega, hnx x hx2 k hk⟩
  · rcases hk with hk | hk
    · have := hd.lt k hk
      omega
    · exact hk.2
theorem gok_none : GOk (0, 0, []) := ⟨by decide, by decide, fun f hf => (List.not_mem_nil hf).elim, Nat.zero_le _, Nat.zero_le _, .inl rfl⟩
/-- What Open comes to behind a manifest p. -/
def goL (m : DM) (p : MT) : Int × DM × MT :=
  if p.2.2.any (fun f => f.blocks.any (fun i => decide (m.bl.length ≤ i))) then (9, m, p)
  else if p.1 = 0 then (0, m, p)
  else ((m.mani p.1 (manL p.1 p.2.1 p.2.2)).2, (m.mani p.1 (manL p.1 p.2.1 p.2.2)).1, p)
theorem mread_go {d g : Nat} {wv : Value} {m : DM} {w : World} (h : Dk w d g wv m) (hoff : m.off = false) (hwt : m.wt = []) (h33 : 33 ≤ m.bl.length) :
    Calls Tryz.prog 20 #[.pointer (some ⟨d, 0, none⟩)] w fun e w' => Below w.heap.size w w' ∧ ((e = .returned (.tuple #[noneV, .int .i64 5]) ∧ openL m = (5, m, (0, 0, []))) ∨ ∃ p v, e = .returned (.tuple #[v, .int .i64 0]) ∧ ManAt w w' v p.1 p.2.1 p.2.2 ∧ GOk p ∧ openL m = goL m p) :=
  (mread_on h hoff hwt h33).mono (fun e w' hh => by
    obtain ⟨h1, h2⟩ := hh
    refine ⟨h2, ?_⟩
    cases hrm : readM m.bl with
    | mk o k =>
      rw [hrm] at h1
      cases o with
      | none =>
        have h1 : e = .returned (.tuple #[noneV, .int .i64 (if k then 0 else 5)]) := h1
        cases k with
        | false => exact .inl ⟨h1, by unfold openL; rw [hrm]; rfl⟩
        | true => exact .inr ⟨(0, 0, []), noneV, h1, manAt_none _ _, gok_none, by unfold openL; rw [hrm]; rfl⟩
      | some p =>
        obtain ⟨v, h3, h4⟩ := h1
        exact .inr ⟨p, v, h3, h4, readM_ok (fun j hj => Man.slotB_length h.len hj h33) hrm, by unfold openL goL; rw [hrm]⟩)
attribute [local go_sem] Oper.semAt_some
set_option maxHeartbeats 2000000 in
set_option maxRecDepth 100000 in
theorem open_on {d g : Nat} {wv : Value} {m : DM} {w : World} (h : Dk w d g wv m) (hoff : m.off = false) (hwt : m.wt = []) (h33 : 33 ≤ m.bl.length) :
    Calls Tryz.prog 23 #[.pointer (some ⟨d, 0, none⟩)] w fun e w' => ∃ wv', Dk w' d g wv' (openL m).2.1 ∧ Upon (Has d g wv) w w' ∧ (∀ k, wv'.ownBlock = some k → wv.ownBlock = some k ∨ w.heap.size ≤ k) ∧ Opened w d g (openL m) e w' wv' := by
  obtain ⟨W0, hW0⟩ : ∃ W, W = w.alloc (.cells #[.pointer (some ⟨d, 0, none⟩)] 29) := ⟨_, rfl⟩
  obtain ⟨bx, hbx⟩ : ∃ b, b = w.heap.size := ⟨_, rfl⟩
  have hal : Below w.heap.size w W0 := by rw [hW0]; exact (Below.refl w.heap.size w).alloc (Nat.le_refl _) _
  have hb : Blk W0 bx 29 #[.pointer (some ⟨d, 0, none⟩)] := by rw [hW0, hbx]; exact Blk.new w _ _
  have hs0 : W0.heap.size = w.heap.size + 1 := by rw [hW0]; simp
  have hrd : ∀ x : World, Below W0.heap.size W0 x → Calls Tryz.prog 20 #[.pointer (some ⟨d, 0, none⟩)] x fun e w' => Below x.heap.size x w' ∧ ((e = .returned (.tuple #[noneV, .int .i64 5]) ∧ openL m = (5, m, (0, 0, []))) ∨ ∃ p v, e = .returned (.tuple #[v, .int .i64 0]) ∧ ManAt x w' v p.1 p.2.1 p.2.2 ∧ GOk p ∧ openL m = goL m p) := fun x hx => mread_go ((h.later hal).later hx) hoff hwt h33
  have HRD := Lib.hid hrd
  have HD := Lib.hid h
  have HDL := Lib.hid h.lt
  have HAL := Lib.hid hal
  have HB := Lib.hid hb
  have c0 := hb.cell 0
  simp at c0
  clear h hal hb hrd
  go_enter Tryz.func23, Tryz.ntmps23
  go_wp2_with fail
  rw [← hW0, ← hbx]
  have HBE := Lib.hid hbx
  clear hW0 hbx
  refine (HRD.out _ (by first | exact Below.refl _ _ | exact (Below.refl _ _).drew)).mono ?_
  rintro e w1 ⟨hB1, hR⟩
  have hs1 := hB1.size
  have hB01 := HAL.out.trans (hB1.mono HAL.out.size)
  have hbx1 := HB.out.below hB1 HB.out.lt
  have HB01 := Lib.hid hB01
  have HBX1 := Lib.hid hbx1
  rcases hR with ⟨rfl, hO⟩ | ⟨p, v, rfl, hat, hok, hO⟩
  · have HO := Lib.hid hO
    unfold noneV
    clear hO hB1 hB01 hbx1
    go_wp2_with fail
    go_ret2
    have hbl : Below w.heap.size w (w1.alloc (.cells #[.int .u64 0, .int .u32 0, .slice none 0 0] 34)) := HB01.out.alloc HB01.out.size _
    rw [HO.out]
    exact ⟨wv, HD.out.later hbl, Upon.of_below hbl, fun k hk => .inl hk, rfl⟩
  · obtain ⟨ver, next, fs⟩ := p
    obtain ⟨a, c, l, rfl, hl, hF, ha, hx⟩ := hat
    dsimp only at hl ha hx
    obtain ⟨n, hn⟩ : ∃ n, n = l.length := ⟨_, rfl⟩
    rw [← hn]
    obtain ⟨W, hW⟩ : ∃ W, W = w1.alloc (.cells #[.int .u64 (ver : Int), .int .u32 (next : Int), .slice a n c] 34) := ⟨_, rfl⟩
    obtain ⟨mb, hmb⟩ : ∃ b, b = w1.heap.size := ⟨_, rfl⟩
    have hman : Blk W mb 34 #[.int .u64 (ver : Int), .int .u32 (next : Int), .slice a n c] := by rw [hW, hmb]; exact Blk.new w1 _ _
    have hB1W : Below w1.heap.size w1 W := by rw [hW]; exact (Below.refl _ w1).alloc (Nat.le_refl _) _
    have hFW := hF.later hB1W
    have hbxW := hbx1.below hB1W hbx1.lt
    have hBW : Below w.heap.size w W := hB01.trans (hB1W.mono hB01.size)
    have hn2 : n ≤ 2048 := by rw [hn, ← List.length_map (f := FR.f), hl]; exact hok.few
    have haW : ∀ b, Mem.blk a = some b → w.heap.size ≤ b ∧ b < W.heap.size := fun b hb => ⟨by have := (ha b hb).1; omega, Nat.lt_of_lt_of_le (ha b hb).2 hB1W.size⟩
    have hxW : ∀ x ∈ l, ∀ b, Mem.blk x.a = some b → w.heap.size ≤ b ∧ b < W.heap.size := fun x hx2 b hb => ⟨by have := (hx x hx2 b hb).1; omega, Nat.lt_of_lt_of_le (hx x hx2 b hb).2 hB1W.size⟩
    have m0 := hman.cell 0
    have m1 := hman.cell 1
    have m2 := hman.cell 2
    simp at m0 m1 m2
    have HO := Lib.hid hO
    have HOK := Lib.hid hok
    have HL := Lib.hid hl
    have HN := Lib.hid hn
    have HMAN := Lib.hid hman
    have HFW := Lib.hid hFW
    have HBXW := Lib.hid hbxW
    have HBW := Lib.hid hBW
    have HAW := Lib.hid haW
    have HXW := Lib.hid hxW
    have hmbw : w.heap.size ≤ mb := by rw [hmb]; exact hB01.size
    clear hO hok hl hn hman hFW hbxW hBW haW hxW hF ha hx hB1 hB01 hbx1 hB1W
    go_wp2_with fail
    rw [← hW, ← hmb]
    clear hW hmb m0 m1 m2
    go_loopw [20] (fun i wr => ∃ k : Nat, k ≤ n ∧ i = .int .i64 (k : Int) ∧ Hid (Below W.heap.size W wr) ∧ Hid ((fs.take k).any (fun f => f.blocks.any (fun i => decide (m.bl.length ≤ i))) = false)) (fun i _ => n - (intOf i).toNat)
    case atStart => exact ⟨0, Nat.zero_le _, rfl, Lib.hid (Below.refl _ _), Lib.hid rfl⟩
    case round =>
      obtain ⟨k, hk, rfl, hB, hz⟩ := hrel
      by_cases hkn : k < n
      · have hkd : decide ((k : Int) < (n : Int)) = true := decide_eq_true (by omega)
        obtain ⟨x, hx⟩ : ∃ x, l[k]? = some x := ⟨l[k]'(by rw [← HN.out]; exact hkn), List.getElem?_eq_getElem _⟩
        have hFr := HFW.out.later hB.out
        obtain ⟨g, o, rfl, e0, e1, e2, e3⟩ := hFr.cells hx
        have hxm := List.mem_of_getElem? hx
        have hbk := hFr.blocks x hxm
        have hfx : fs[k]? = some x.f := by rw [← HL.out, List.getElem?_map, hx]; rfl
        have hst : (fs.take (k + 1)).any (fun f => f.blocks.any (fun i => decide (m.bl.length ≤ i))) = ((fs.take k).any (fun f => f.blocks.any (fun i => decide (m.bl.length ≤ i))) || x.f.blocks.any (fun i => decide (m.bl.length ≤ i))) := by rw [List.take_add_one, hfx, List.any_append]; simp
        rw [hz.out, Bool.false_or] at hst
        have hany : x.f.blocks.any (fun i => decide (m.bl.length ≤ i)) = true → fs.any (fun f => f.blocks.any (fun i => decide (m.bl.length ≤ i))) = true := fun hh => List.any_eq_true.2 ⟨x.f, List.mem_of_getElem? hfx, hh⟩
        have hln : x.f.blocks.length ≤ 4000000 := by
          have h1 := bks_ge (List.mem_of_getElem? hfx)
          have h2 := HOK.out.bks
          dsimp only at h2
          omega
        have hhas : ∀ y : World, Below wr.heap.size wr y → Calls Tryz.prog 54 #[.slice x.a x.f.blocks.length x.c, .func (.func 55) #[] #[.pointer (some ⟨bx, 0, none⟩)]] y fun e w' => e = .returned (.bool (x.f.blocks.any (fun i => decide (m.bl.length ≤ i)))) ∧ Below wr.heap.size wr w' := fun y hy =>
          (beyond_has ((HD.out.later (HBW.out.trans (hB.out.mono HBW.out.size))).later hy) ((HBXW.out.below hB.out HBXW.out.lt).below hy (HBXW.out.below hB.out HBXW.out.lt).lt) x.a x.c x.f.blocks (hbk.1.later hy) hln).mono (fun e w' hh => ⟨hh.1, hy.trans (hh.2.mono hy.size)⟩)
        obtain ⟨nz, hnz⟩ : ∃ b, b = x.f.blocks.any (fun i => decide (m.bl.length ≤ i)) := ⟨_, rfl⟩
        obtain ⟨xl, hxl⟩ : ∃ b, b = x.f.blocks.length := ⟨_, rfl⟩
        obtain ⟨nv, hnv⟩ : ∃ b : ByteArray, sv x.f.name = .string b := ⟨_, rfl⟩
        unfold iv at e2
        rw [← hnz] at hst hany hhas
        rw [← hxl] at hhas e3
        rw [hnv] at e0
        have HHAS := Lib.hid hhas
        have HST := Lib.hid hst
        have HANY := Lib.hid hany
        clear hhas hst hany hnz hxl hnv hz hfx hbk hxm hx hFr
        cases nz
        · go_wp2_with (first | (go_at_call 54; refine (HHAS.out _ (by first | exact (Below.refl _ wr).alloc (Nat.le_refl _) _ | exact ((Below.refl _ wr).alloc (Nat.le_refl _) _).drew)).mono ?_; rintro e w3 ⟨rfl, hB3⟩; have HB3 := Lib.hid (hB.out.trans (hB3.mono hB.out.size)); clear hB3))
          exact ⟨⟨k + 1, hkn, by simp, HB3, HST⟩, by simp [intOf]; omega⟩
        · go_wp2_with (first | (go_at_call 54; refine (HHAS.out _ (by first | exact (Below.refl _ wr).alloc (Nat.le_refl _) _ | exact ((Below.refl _ wr).alloc (Nat.le_refl _) _).drew)).mono ?_; rintro e w3 ⟨rfl, hB3⟩; have HB3 := Lib.hid (hB.out.trans (hB3.mono hB.out.size)); clear hB3))
          go_ret2
          have hbl := HBW.out.trans (HB3.out.mono HBW.out.size)
          have hol : openL m = (9, m, (ver, next, fs)) := by rw [HO.out]; unfold goL; rw [if_pos (HANY.out (by trivial))]
          rw [hol]
          exact ⟨wv, HD.out.later hbl, Upon.of_below hbl, fun k hk => .inl hk, rfl⟩
      · obtain rfl : n = k := by omega
        have hkd : decide ((n : Int) < (n : Int)) = false := decide_eq_false (by omega)
        have hany : fs.any (fun f => f.blocks.any (fun i => decide (m.bl.length ≤ i))) = false := by
          have h1 := hz.out
          rw [List.take_of_length_le (by rw [HN.out, ← HL.out, List.length_map]; exact Nat.le_refl _)] at h1
          exact h1
        have hman := HMAN.out.below hB.out HMAN.out.lt
        have hbxr := HBXW.out.below hB.out HBXW.out.lt
        have m0 := hman.cell 0
        have m1 := hman.cell 1
        have m2 := hman.cell 2
        have d0 := hbxr.cell 0
        simp at m0 m1 m2 d0
        have hFr := HFW.out.later hB.out
        have hBr := HBW.out.trans (hB.out.mono HBW.out.size)
        have hDr := HD.out.later hBr
        have HANY := Lib.hid hany
        have HFR := Lib.hid hFr
        have HBR := Lib.hid hBr
        have HDR := Lib.hid hDr
        have HMR := Lib.hid hman
        have HXR := Lib.hid hbxr
        clear hany hFr hBr hDr hman hbxr hz
        have hlt : ∀ b, w.heap.size ≤ b → b ≠ d ∧ b ≠ g := fun b hb => ⟨fun e => by have := HDL.out d (.inl rfl); omega, fun e => by have := HDL.out g (.inr (.inl rfl)); omega⟩
        have HLT := Lib.hid hlt
        have hsW := hB.out.size
        clear hlt
        by_cases hv : ver = 0
        · subst hv
          have hmk := run_makeMap (P := Tryz.prog) 88 wr
          go_wp2_with fail
          go_ret2
          have hol : openL m = (0, m, (0, next, fs)) := by rw [HO.out]; unfold goL; rw [if_neg (by rw [HANY.out]; exact Bool.false_ne_true), if_pos rfl]
          have hB2 : Below wr.heap.size wr ((wr.alloc (.map #[] 0)).alloc (.cells #[.pointer (some ⟨d, 0, none⟩), .int .u64 0, .int .u32 (next : Int), .slice a n c, .map (some wr.heap.size), .bool false] 90)) := ((Below.refl _ wr).alloc (Nat.le_refl _) _).alloc (by simp) _
          rw [hol]
          refine ⟨wv, HDR.out.later hB2, (Upon.of_below HBR.out).trans (Upon.of_below hB2) (fun _ hk => .inl hk), fun k hk => .inl hk, ?_⟩
          unfold Opened
          rw [if_pos rfl]
          exact ⟨wr.heap.size + 1, wr.heap.size, a, c, l, rfl, HL.out, fu_new HBR.out.size HDR.out HFR.out (fun b hb => ⟨(HAW.out b hb).1, Nat.lt_of_lt_of_le (HAW.out b hb).2 hsW⟩) (fun x hx b hb => ⟨(HXW.out x hx b hb).1, Nat.lt_of_lt_of_le (HXW.out x hx b hb).2 hsW⟩) (fun b hb hh => by have h1 := (HAW.out b hb).1; have h2 := HDL.out b hh; omega) (fun x hx b hb hh => by have h1 := (HXW.out x hx b hb).1; have h2 := HDL.out b hh; omega) (by rw [← HN.out]; rfl)⟩
        · have hvd : decide (0 < ver) = true := decide_eq_true (by omega)
          have hmay : mayB ver next fs = true := by
            rcases HOK.out.may with e | e
            · exact absurd (congrArg Prod.fst e) hv
            · exact e
          have hwr := write_any ver next a c l wr HDR.out hoff h33 (by rw [hwt]; exact Nat.zero_le _) HFR.out HOK.out.ver HOK.out.next (fun x hx => (HOK.out.got x.f (by show x.f ∈ fs; rw [← HL.out]; exact List.mem_map_of_mem hx)).fits) (by rw [HL.out]; exact hmay)
          rw [HL.out, ← HN.out] at hwr
          have hol : openL m = ((m.mani ver (manL ver next fs)).2, (m.mani ver (manL ver next fs)).1, (ver, next, fs)) := by rw [HO.out]; unfold goL; rw [if_neg (by rw [HANY.out]; exact Bool.false_ne_true), if_neg hv]
          obtain ⟨mm, hmm⟩ : ∃ x, x = m.mani ver (manL ver next fs) := ⟨_, rfl⟩
          rw [← hmm] at hwr hol
          obtain ⟨m', E⟩ := mm
          dsimp only at hwr hol
          have HWR := Lib.hid hwr
          have HOL := Lib.hid hol
          clear hwr hol hmm hmay
          go_wp2_with fail
          refine HWR.out.mono ?_
          rintro e w3 ⟨rfl, wv', hD3, hu3, ho3⟩
          have hnm : ¬ Has d g wv mb := fun hh => by have := HDL.out mb hh; omega
          have hnb : ¬ Has d g wv bx := fun hh => by have h1 := HDL.out bx hh; have h2 := HBE.out; omega
          have hman := HMR.out.upon hu3 hnm
          have hbxr := HXR.out.upon hu3 hnb
          have m0 := hman.cell 0
          have m1 := hman.cell 1
          have m2 := hman.cell 2
          have d0 := hbxr.cell 0
          simp at m0 m1 m2 d0
          have hs3 := hu3.size
          have HD3 := Lib.hid hD3
          have HU3 := Lib.hid ((Upon.of_below HBR.out).trans hu3 (fun _ hk => .inl hk))
          have HO3 : Hid (∀ k, wv'.ownBlock = some k → wv.ownBlock = some k ∨ wr.heap.size ≤ k) := Lib.hid ho3
          have HU4 := Lib.hid hu3
          clear hD3 hu3 ho3 hman hbxr hnm hnb
          have hown : Hid (∀ k, wv'.ownBlock = some k → wv.ownBlock = some k ∨ w.heap.size ≤ k) := Lib.hid (fun k hk => (HO3.out k hk).imp id (fun h => Nat.le_trans HBR.out.size h))
          obtain ⟨z, hz⟩ : ∃ b : Bool, (E == 0) = b := ⟨_, rfl⟩
          cases z
          · have hnz : (E != 0) = true := by simpa using hz
            have hE : E ≠ 0 := by simpa using hz
            have HE := Lib.hid hE
            clear hE
            go_wp2_with fail
            go_ret2
            rw [HOL.out]
            refine ⟨wv', HD3.out, HU3.out, hown.out, ?_⟩
            unfold Opened
            rw [if_neg HE.out]
            rfl
          · have hE : E = 0 := by simpa using hz
            subst hE
            have hmk := run_makeMap (P := Tryz.prog) 88 w3
            go_wp2_with fail
            go_ret2
            have hB2 : Below w3.heap.size w3 ((w3.alloc (.map #[] 0)).alloc (.cells #[.pointer (some ⟨d, 0, none⟩), .int .u64 (ver : Int), .int .u32 (next : Int), .slice a n c, .map (some w3.heap.size), .bool false] 90)) := ((Below.refl _ w3).alloc (Nat.le_refl _) _).alloc (by simp) _
            have hf3 : FilesIn w3 a l := HFR.out.keep hs3 (fun k hk => HU4.out.block k (Nat.lt_of_lt_of_le (HAW.out k hk).2 hsW) (fun hh => by have h1 := (HAW.out k hk).1; have h2 := HDL.out k hh; omega)) (fun x hx k hk => HU4.out.block k (Nat.lt_of_lt_of_le (HXW.out x hx k hk).2 hsW) (fun hh => by have h1 := (HXW.out x hx k hk).1; have h2 := HDL.out k hh; omega))
            have hno : ∀ b, w.heap.size ≤ b → b < W.heap.size → ¬ Has d g wv' b := fun b h1 h2 hh => by
              rcases hh with e | e | e
              · exact (HLT.out b h1).1 e
              · exact (HLT.out b h1).2 e
              · rcases HO3.out b e with h3 | h3
                · have := HDL.out b (.inr (.inr h3))
                  omega
                · omega
            rw [HOL.out]
            refine ⟨wv', HD3.out.later hB2, HU3.out.trans (Upon.of_below hB2) (fun _ hk => .inl hk), hown.out, ?_⟩
            unfold Opened
            rw [if_pos rfl]
            exact ⟨w3.heap.size + 1, w3.heap.size, a, c, l, rfl, HL.out, fu_new (Nat.le_trans HBR.out.size hs3) HD3.out hf3 (fun b hb => ⟨(HAW.out b hb).1, by have := (HAW.out b hb).2; omega⟩) (fun x hx b hb => ⟨(HXW.out x hx b hb).1, by have := (HXW.out x hx b hb).2; omega⟩) (fun b hb => hno b (HAW.out b hb).1 (HAW.out b hb).2) (fun x hx b hb => hno b (HXW.out x hx b hb).1 (HXW.out x hx b hb).2) (by rw [← HN.out])⟩
end Go.Proofs.YtbfochdoeibofaaGreatDoor.Full

/- Layer 10, plain: what the slots hold, and what Open makes of it. -/
namespace Go.Proofs.YtbfochdoeibofaaGreatDoor.Full
open Go.RowKit Go.Proofs.YtbfochdoeibofaaGreatDoor.Dk Go.Proofs.YtbfochdoeibofaaGreatDoor.Mani Go.Proofs.YtbfochdoeibofaaGreatDoor.Read Go.Proofs.YtbfochdoeibofaaGreatDoor.Man
open Go.Proofs.YtbfochdoeibofaaGreatDoor.Store (Chg none' nv Files)

theorem slotB_of {bl : List (List UInt8)} {b : List UInt8} {n : Nat} (hb : b.length = 2048) (h : ∀ k, k < 16 → bl[n * 16 + k]? = some ((b.drop (k * 128)).take 128)) : slotB bl n = b := by
  have hj : ∀ j, j ≤ 16 → slotJ bl n j = b.take (j * 128) := by
    intro j
    induction j with
    | zero => intro _; simp [slotJ]
    | succ j ih =>
      intro hj
      rw [slotJ_succ (h j (by omega)), ih (by omega), Nat.succ_mul, List.take_add]
  unfold Man.slotB
  rw [hj 16 (Nat.le_refl _), List.take_of_length_le (by omega)]
theorem slotW_nodup (at_ : Nat) (b : List UInt8) : ((slotW at_ b).map Prod.fst).Nodup := by
  unfold Dk.slotW
  rw [List.map_map]
  refine List.Pairwise.map _ (fun x y hxy => ?_) (List.nodup_range (n := 16))
  show at_ + x ≠ at_ + y
  have : x ≠ y := hxy
  omega
theorem slotW_mem (at_ : Nat) (b : List UInt8) {k : Nat} (hk : k < 16) : (at_ + k, (b.drop (k * 128)).take 128) ∈ slotW at_ b := List.mem_map.2 ⟨k, List.mem_range.2 hk, rfl⟩
theorem slots_at {bl : List (List UInt8)} {b : List UInt8} (ver : Nat) {j : Nat} (hb : b.length = 2048) (h33 : 33 ≤ bl.length) (hj : j < 2) : slotB (puts (puts bl (slotW (ver % 2 * 16) b)) (slotW ((ver + 1) % 2 * 16) b)) j = b := by
  refine slotB_of hb (fun k hk => ?_)
  have h2 := Nat.mod_lt ver (show 0 < 2 by decide)
  by_cases e : j = (ver + 1) % 2
  · subst e
    exact puts_at _ _ _ _ (slotW_nodup _ _) (slotW_mem _ _ hk) (by rw [puts_length]; omega)
  · have e2 : j = ver % 2 := by omega
    subst e2
    rw [puts_other _ _ _ (fun hm => by have := slotW_keys hm; omega)]
    exact puts_at _ _ _ _ (slotW_nodup _ _) (slotW_mem _ _ hk) (by omega)
theorem slotB_same {bl bl' : List (List UInt8)} (h : ∀ i, i < 32 → bl'[i]? = bl[i]?) {j : Nat} (hj : j < 2) : slotB bl' j = slotB bl j := by
  unfold Man.slotB Man.slotJ
  congr 1
  refine List.ext_getElem? (fun i => ?_)
  rw [List.getElem?_take, List.getElem?_take]
  by_cases hi : i < 16
  · rw [if_pos hi, if_pos hi, List.getElem?_drop, List.getElem?_drop, h _ (by omega)]
  · rw [if_neg hi, if_neg hi]
/-- What the slots hold: nothing yet, or the manifest, both. -/
def Slots (bl : List (List UInt8)) (ver next : Nat) (fs : List Fil) : Prop :=
  (ver = 0 ∧ next = 0 ∧ fs = [] ∧ ∀ j, j < 2 → slotB bl j = Man.zb 2048) ∨ ∀ j, j < 2 → slotB bl j = manL ver next fs
theorem getS_zero : getS (Man.zb 2048) = none := by
  unfold getS
  rw [Man.got_zero]
  rfl
theorem zb_any : (Man.zb 2048).any (· != 0) = false := by
  refine Bool.eq_false_iff.2 (fun h => ?_)
  obtain ⟨x, hx, h2⟩ := List.any_eq_true.1 h
  unfold Man.zb at hx
  rw [List.eq_of_mem_replicate hx] at h2
  cases h2
theorem readM_slots {bl : List (List UInt8)} {n ver next : Nat} {fs : List Fil} (h : Slots bl ver next fs) (hok : Okm n ver next fs) : (readM bl = (none, true) ∧ ver = 0 ∧ next = 0 ∧ fs = []) ∨ (readM bl).1 = some (ver, next, fs) := by
  rcases h with ⟨h1, h2, h3, h4⟩ | h
  · refine .inl ⟨?_, h1, h2, h3⟩
    show stepR (stepR (none, false) (slotB bl 0)) (slotB bl 1) = _
    rw [h4 0 (by decide), h4 1 (by decide)]
    unfold stepR
    rw [getS_zero, zb_any]
    rfl
  · refine .inr ?_
    show (stepR (stepR (none, false) (slotB bl 0)) (slotB bl 1)).1 = _
    rw [h 0 (by decide), h 1 (by decide)]
    unfold stepR
    rw [getS_man hok]
    dsimp only
    rw [if_neg (Nat.lt_irrefl _)]
theorem mani_free {m : DM} (h : m.fuse < 0) (ver : Nat) (b : List UInt8) : (m.mani ver b).2 = 0 ∧ (m.mani ver b).1.fuse = m.fuse := by
  obtain ⟨a1, a2⟩ := slot_free h (ver % 2 * 16) b
  obtain ⟨b1, b2⟩ := slot_free (m := (m.slot (ver % 2 * 16) b).1) (by rw [a2]; exact h) ((ver + 1) % 2 * 16) b
  unfold DM.mani
  rw [if_pos a1]
  exact ⟨b1, b2.trans a2⟩
/-- A disk that was written in its slots alone. -/
structure SlotW (m m' : DM) : Prop where
  off : m'.off = m.off
  wt : m'.wt = []
  fuse : m'.fuse = m.fuse
  len : m'.bl.length = m.bl.length
  far : ∀ i, 32 ≤ i → m'.bl[i]? = m.bl[i]?
theorem openL_slots {m : DM} {ver next : Nat} {fs : List Fil} (h : Slots m.bl ver next fs) (hok : Okm m.bl.length ver next fs) (hf : m.fuse < 0) (hw : m.wt = []) (h33 : 33 ≤ m.bl.length) : ∃ m', openL m = (0, m', (ver, next, fs)) ∧ SlotW m m' ∧ Slots m'.bl ver next fs := by
  have hrf : SlotW m m := ⟨rfl, hw, rfl, rfl, fun _ _ => rfl⟩
  rcases readM_slots h hok with ⟨h1, rfl, rfl, rfl⟩ | h1
  · refine ⟨m, ?_, hrf, h⟩
    unfold openL
    rw [h1]
    rfl
  · have hin : (fs.any (fun f => f.blocks.any (fun i => decide (m.bl.length ≤ i)))) = false := by
      refine Bool.eq_false_iff.2 (fun hh => ?_)
      obtain ⟨f, hff, h2⟩ := List.any_eq_true.1 hh
      obtain ⟨i, hi, h3⟩ := List.any_eq_true.1 h2
      have h4 := of_decide_eq_true h3
      have h5 := hok.in_ f hff i hi
      omega
    by_cases hv : ver = 0
    · refine ⟨m, ?_, hrf, h⟩
      unfold openL
      rw [h1]
      dsimp only
      rw [hin, if_neg Bool.false_ne_true, if_pos hv]
    · obtain ⟨f1, f2⟩ := mani_free hf ver (manL ver next fs)
      obtain ⟨b1, b2, b3⟩ := mani_bl hw f1
      refine ⟨(m.mani ver (manL ver next fs)).1, ?_, ⟨b2, b3, f2, by rw [b1, puts_length, puts_length], fun i hi => ?_⟩, .inr (fun j hj => ?_)⟩
      · unfold openL
        rw [h1]
        dsimp only
        rw [hin, if_neg Bool.false_ne_true, if_neg hv, f1]
      · have h2 := Nat.mod_lt ver (show 0 < 2 by decide)
        rw [b1, puts_other _ _ _ (fun hm => by have := slotW_keys hm; omega), puts_other _ _ _ (fun hm => by have := slotW_keys hm; omega)]
      · rw [b1]
        exact slots_at ver (manL_length hok.may) h33 hj
/-- Behind a commit both slots hold the manifest. -/
theorem slots_commit {m : DM} {C : Chg} {n ver next : Nat} {fs : List Fil} (hw : m.wt = []) (h33 : 33 ≤ m.bl.length) (hok : Okm n ver next fs) (h : (commitD m C fs ver (manL ver next fs)).2 = 0) : Slots (commitD m C fs ver (manL ver next fs)).1.bl ver next fs := .inr (fun j hj => by
  rw [(commit_bl hw h).1]
  exact slots_at ver (manL_length hok.may) (by rw [puts_length]; exact h33) hj)
theorem PagesAt.far {bl bl' : List (List UInt8)} {f : Fil} {b : List UInt8} (h : PagesAt bl f b) (hf : ∀ i ∈ f.blocks, bl'[i]? = bl[i]?) : PagesAt bl' f b := ⟨h.size, h.many, fun k i hk => by rw [hf i (List.mem_of_getElem? hk)]; exact h.at_ k i hk⟩
theorem OnDisk.far {bl bl' : List (List UInt8)} {n ver next : Nat} {fs : List Fil} {H : Files} (h : OnDisk bl fs H) (hok : Okm n ver next fs) (hf : ∀ i, 32 ≤ i → bl'[i]? = bl[i]?) : OnDisk bl' fs H := ⟨fun f hff => by
  obtain ⟨b, h1, h2⟩ := h.there f hff
  exact ⟨b, h1, h2.far (fun i hi => hf i ((hok.ok.each f hff).blocks i hi).1)⟩, h.none_⟩
end Go.Proofs.YtbfochdoeibofaaGreatDoor.Full

/- Layer 10: a store is opened anew; manifest.Read at a store's disk. -/
namespace Go.Proofs.YtbfochdoeibofaaGreatDoor.Full
open Go.RowKit Go.Deep Mem Crc Go.Maps Go.Proofs.YtbfochdoeibofaaGreatDoor.Dk Go.Proofs.YtbfochdoeibofaaGreatDoor.Mani Go.Proofs.YtbfochdoeibofaaGreatDoor.Read
open Go.Proofs.YtbfochdoeibofaaGreatDoor.Store (Chg none' nv Files)

theorem on_open {B s d g cm : Nat} {w : World} {Q : Nat → Prop} {m : DM} {ver next : Nat} {fs : List Fil} {C : Chg} {H : Files} {n : Nat} (h : On B s d g cm w Q m ver next fs C H n) (hs : Slots m.bl ver next fs) :
    Calls Tryz.prog 23 #[.pointer (some ⟨d, 0, none⟩)] w fun e w' => ∃ s' cm' Q' m', e = .returned (.tuple #[.pointer (some ⟨s', 0, none⟩), .int .i64 0]) ∧ On B s' d g cm' w' Q' m' ver next fs none' H 0 ∧ Slots m'.bl ver next fs ∧ m'.bl.length = m.bl.length ∧ (∀ k, Q' k → Q k ∨ w.heap.size ≤ k) ∧ Upon Q w w' := by
  obtain ⟨wv, a, c, l, hfu, hl⟩ := h.fu
  obtain ⟨m', hm, hS, hs'⟩ := openL_slots hs h.ok h.fuse h.wt h.big
  refine (open_on hfu.disk h.off h.wt h.big).mono ?_
  rintro e w' ⟨wv', hD, hu, ho, hop⟩
  rw [hm] at hD hop
  unfold Opened at hop
  rw [if_pos rfl] at hop
  obtain ⟨s', cm', a', c', l', he, hl', hf'⟩ := hop
  have hQ : ∀ k, Has d g wv k → Q k := hfu.qd
  have hu2 : Upon Q w w' := hu.mono hQ
  have hq : ∀ k, (Has d g wv' k ∨ (w.heap.size ≤ k ∧ k < w'.heap.size)) → Q k ∨ w.heap.size ≤ k := fun k hk => by
    rcases hk with (rfl | rfl | e) | e
    · exact .inl (hQ _ (.inl rfl))
    · exact .inl (hQ _ (.inr (.inl rfl)))
    · exact (ho k e).imp (fun e2 => hQ k (.inr (.inr e2))) id
    · exact .inr e.1
  exact ⟨s', cm', _, m', he, ⟨⟨wv', a', c', l', hf', hl'⟩, hS.off.trans h.off, (by rw [hS.fuse]; exact h.fuse), hS.wt, (by rw [hS.len]; exact h.big), h.on.far h.ok hS.far, (by rw [hS.len]; exact h.ok), few_none 0, fun k hk => (hq k hk).elim (h.base k) (fun h8 => Nat.le_trans h.low h8), h.tab.below (h.up hu2) h.pos, h.pos, Nat.le_trans h.low hu2.size⟩, hs', hS.len, hq, hu2⟩
theorem slots_new (N : Nat) (h : 33 ≤ N) : Slots (D0 N).bl 0 0 [] := .inl ⟨rfl, rfl, rfl, fun j hj => by
  refine slotB_of (by unfold Man.zb; exact List.length_replicate) (fun k hk => ?_)
  unfold D0 Man.zb
  rw [List.getElem?_replicate, if_pos (by omega), List.drop_replicate, List.take_replicate]
  congr 2
  omega⟩
theorem slots_after {m : DM} {C : Chg} {n ver : Nat} {p : Nat × List Fil} (hw : m.wt = []) (h33 : 33 ≤ m.bl.length) (hok : Okm n (ver + 1) p.1 p.2) (hf : m.fuse < 0) : Slots (afterD m C ver p).bl (ver + 1) p.1 p.2 :=
  slots_commit hw h33 hok (commit_free hf C p.2 (ver + 1) (manL (ver + 1) p.1 p.2)).1
end Go.Proofs.YtbfochdoeibofaaGreatDoor.Full

/- Layer 10: Append. -/
namespace Go.Proofs.YtbfochdoeibofaaGreatDoor.Full
open Go.RowKit Go.Deep Mem Crc Go.Maps Go.Proofs.YtbfochdoeibofaaGreatDoor.Dk Go.Proofs.YtbfochdoeibofaaGreatDoor.Mani Go.Proofs.YtbfochdoeibofaaGreatDoor.Read
open Go.Proofs.YtbfochdoeibofaaGreatDoor.Store (Chg none' nv Files setC)

attribute [local go_sem] Oper.semAt_some
set_option maxHeartbeats 400000 in
theorem append_gen {w : World} {st x : Value} {ad : Option Addr} {cp : Nat} {b r : List UInt8} {ek : Int} (hek : ek = 0 ∨ ek = 8) (hr : Calls Tryz.prog 12 #[st, x] w fun e w' => ∃ v, e = .returned (.tuple #[v, .int .i64 ek]) ∧ OwnB w' w.heap.size v r ∧ Below w.heap.size w w') (hb : Lies w ad (b.map bv)) (hm : r.length + b.length ≤ 100000000) (P : Int → World → Prop)
    (hw : ∀ a cp w2, Below w.heap.size w w2 → Lies w2 a ((r ++ b).map bv) → Calls Tryz.prog 11 #[st, x, .slice a (r ++ b).length cp] w2 fun e w' => ∃ k : Int, e = .returned (.int .i64 k) ∧ P k w') :
    Calls Tryz.prog 26 #[st, x, .slice ad b.length cp] w fun e w' => ∃ k : Int, e = .returned (.int .i64 k) ∧ P k w' := by
  have HR := Lib.hid hr
  have HB := Lib.hid hb
  have HW := Lib.hid hw
  have HM := Lib.hid hm
  obtain ⟨n, hn⟩ : ∃ n, n = b.length := ⟨_, rfl⟩
  rw [← hn]
  have HN := Lib.hid hn
  clear hr hb hw hm hn
  rcases hek with rfl | rfl
  all_goals
    go_enter Tryz.func26, Tryz.ntmps26
    go_wp2_with fail
    refine HR.out.mono ?_
    rintro e w1 ⟨v, rfl, hO, hB1⟩
    obtain ⟨va, vc, rfl, _, _, _, _⟩ := own_shape hO
    obtain ⟨v2, w2, hr2, hO2, hg2⟩ := run_append_bytes w1 22 _ _ hO ad cp b (HB.out.later hB1) HM.out hB1.size
    obtain ⟨a2, c2, rfl, _, hL2, _, _⟩ := own_shape hO2
    have hB2 : Below w.heap.size w w2 := hB1.grown hg2 hB1.size (fun q hq => (hO.lt q hq).1)
    have HWR := Lib.hid (HW.out a2 c2 w2 hB2 hL2)
    rw [← HN.out] at hr2
    obtain ⟨rl, hrl⟩ : ∃ n, n = r.length := ⟨_, rfl⟩
    obtain ⟨al, hal⟩ : ∃ n, n = (r ++ b).length := ⟨_, rfl⟩
    rw [← hrl, ← hal] at hr2
    rw [← hal] at HWR
    rw [← hrl]
    clear hO hO2 hg2 hB2 hL2 hrl hal
    go_wp2_with (first | (at_builtin; refine Lib.wpList_append_run _ rfl _ _ _ _ rfl _ _ rfl rfl _ _ hr2 ?_))
    refine HWR.out.mono ?_
    rintro e w3 ⟨k, rfl, hP⟩
    have HP := Lib.hid hP
    clear hP
    go_wp2_with fail
    go_ret
    exact ⟨k, rfl, HP.out⟩
variable {B s d g cm : Nat} {w : World} {Q : Nat → Prop} {m : DM} {ver next : Nat} {fs : List Fil} {C : Chg} {H : Files} {n : Nat}
theorem ansF_err (o : Option (List UInt8)) : (ansF o).2 = 0 ∨ (ansF o).2 = 8 := by
  cases o with
  | none => exact .inr rfl
  | some b => exact .inl rfl
theorem on_append (h : On B s d g cm w Q m ver next fs C H n) (hn : n ≤ 100000) (nm : List UInt8) (h1 : 1 ≤ nm.length) (h2 : nm.length ≤ 32) (ad : Option Addr) (cp : Nat) (b : List UInt8) (hb : Lies w ad (b.map bv)) (hb2 : (ansF (nowF C H nm)).1.length + b.length ≤ 1048576) :
    Calls Tryz.prog 26 #[.pointer (some ⟨s, 0, none⟩), nv nm, .slice ad b.length cp] w fun e w' => e = .returned (.int .i64 0) ∧ ∃ Q', On B s d g cm w' Q' m ver next fs (setC C nm (some (some ((ansF (nowF C H nm)).1 ++ b)))) H (n + 1) ∧ (∀ k, Q' k → Q k ∨ w.heap.size ≤ k) ∧ Upon Q w w' :=
  (append_gen (ansF_err _) (on_read h nm (by omega)) hb (by omega) (fun k w' => k = 0 ∧ ∃ Q', On B s d g cm w' Q' m ver next fs (setC C nm (some (some ((ansF (nowF C H nm)).1 ++ b)))) H (n + 1) ∧ (∀ k, Q' k → Q k ∨ w.heap.size ≤ k) ∧ Upon Q w w') (fun a cp w2 hB hL => (on_write (h.later hB) hn nm h1 h2 a cp _ hL (by rw [List.length_append]; exact hb2)).mono (fun e w' hh => by
    obtain ⟨he, Q', ho, hq, hu⟩ := hh
    exact ⟨0, he, rfl, Q', ho, fun k hk => (hq k hk).imp id (fun h8 => Nat.le_trans hB.size h8), (Upon.of_below hB).trans hu (fun _ hk => .inl hk)⟩))).mono (fun e w' hh => by
    obtain ⟨k, he, rfl, hr⟩ := hh
    exact ⟨he, hr⟩)
theorem on_append_name (h : On B s d g cm w Q m ver next fs C H n) (nm : List UInt8) (hnm : nm.length = 0 ∨ 32 < nm.length) (hl : nm.length ≤ 1000000) (ad : Option Addr) (cp : Nat) (b : List UInt8) (hb : Lies w ad (b.map bv)) (hb2 : (ansF (nowF C H nm)).1.length + b.length ≤ 1048576) :
    Calls Tryz.prog 26 #[.pointer (some ⟨s, 0, none⟩), nv nm, .slice ad b.length cp] w fun e w' => e = .returned (.int .i64 8) ∧ Below w.heap.size w w' :=
  (append_gen (ansF_err _) (on_read h nm hl) hb (by omega) (fun k w' => k = 8 ∧ Below w.heap.size w w') (fun a cp w2 hB hL => (on_write_name (h.later hB) nm hnm a _ cp).mono (fun e w' hh => by
    obtain ⟨he, rfl⟩ := hh
    exact ⟨8, he, rfl, hB⟩))).mono (fun e w' hh => by
    obtain ⟨k, he, rfl, hr⟩ := hh
    exact ⟨he, hr⟩)
end Go.Proofs.YtbfochdoeibofaaGreatDoor.Full

/- palmerref10: rows of files (F): Find, among. -/
namespace Go.Proofs.YtbfochdoeibofaaGreatDoor.RefF
open Go.RowKit Go.Deep Mem Crc
open Go.Proofs.YtbfochdoeibofaaGreatDoor.Store (nv)

/-- A file of the document: its name, its bytes. -/
abbrev FF := List UInt8 × List UInt8
def FF.vs (x : FF) : List Value := [nv x.1, nv x.2]
def flatP (l : List FF) : List Value := l.flatMap FF.vs
theorem flatP_len : ∀ l : List FF, (flatP l).length = l.length * 2
  | [] => rfl
  | x :: r => by
    unfold flatP
    rw [List.flatMap_cons, List.length_append, List.length_cons]
    have := flatP_len r
    unfold flatP at this
    rw [this]
    show 2 + _ = _
    omega
theorem flatP_at : ∀ {l : List FF} {k : Nat} {x : FF}, l[k]? = some x → ∀ {j : Nat} {u : Value}, (FF.vs x)[j]? = some u → (flatP l)[k * 2 + j]? = some u
  | [], k, x, hx, _, _, _ => by simp at hx
  | y :: r, 0, x, hx, j, u, hu => by
    simp at hx
    subst hx
    unfold flatP
    rw [List.flatMap_cons, List.getElem?_append_left (by have := (List.getElem?_eq_some_iff.1 hu).1; omega)]
    simpa using hu
  | y :: r, k + 1, x, hx, j, u, hu => by
    have := flatP_at (l := r) (k := k) (x := x) (by simpa using hx) hu
    have e : (FF.vs y).length = 2 := rfl
    unfold flatP at this ⊢
    rw [List.flatMap_cons, List.getElem?_append_right (by rw [e]; omega), ← this]
    congr 1
    rw [e]
    omega
theorem cells_at {w : World} {a : Option Addr} {l : List FF} (h : Lies w a (flatP l)) {k : Nat} {x : FF} (hx : l[k]? = some x) : ∃ g o, a = some ⟨g, o, none⟩ ∧ w.cell? ⟨g, o + k * 2, none⟩ = some (nv x.1) ∧ w.cell? ⟨g, o + k * 2 + 1, none⟩ = some (nv x.2) := by
  rcases h with h | ⟨g, o, rfl, _, hc⟩
  · have := congrArg List.length h
    rw [flatP_len] at this
    have h2 := (List.getElem?_eq_some_iff.1 hx).1
    simp at this
    omega
  · exact ⟨g, o, rfl, hc _ _ (flatP_at hx (j := 0) rfl), by rw [Nat.add_assoc]; exact hc _ _ (flatP_at hx (j := 1) rfl)⟩
theorem str_beq {x y : List UInt8} {sx sy : ByteArray} (hx : nv x = .string sx) (hy : nv y = .string sy) : (sx.toList == sy.toList) = (x == y) := by
  unfold Store.nv at hx hy
  injection hx with hx
  injection hy with hy
  subst hx hy
  rw [Lib.toList_data, Lib.toList_data]
/-- The place of the first file of a name; its number; was there one? -/
def findP (l : List FF) (nm : List UInt8) : Nat := l.findIdx (fun x => x.1 == nm)
theorem findP_eq {l : List FF} {nm : List UInt8} {k : Nat} {x : FF} (hx : l[k]? = some x) (he : x.1 = nm) (hp : ∀ j, j < k → ∀ y, l[j]? = some y → y.1 ≠ nm) : findP l nm = k := by
  obtain ⟨hk, hxe⟩ := List.getElem?_eq_some_iff.1 hx
  unfold findP
  rw [List.findIdx_eq hk]
  refine ⟨by rw [hxe]; simpa using he, fun j hj => ?_⟩
  have := hp j hj _ (List.getElem?_eq_getElem (by omega))
  simpa using this
theorem findP_none {l : List FF} {nm : List UInt8} (hp : ∀ j, j < l.length → ∀ y, l[j]? = some y → y.1 ≠ nm) : findP l nm = l.length := by
  unfold findP
  rw [List.findIdx_eq_length]
  intro x hx
  obtain ⟨j, hj⟩ := List.mem_iff_getElem?.1 hx
  have := hp j (List.getElem?_eq_some_iff.1 hj).1 x hj
  simpa using this
theorem eql_str (t : TypeId) (a b : ByteArray) : binOp .eql t (.string a) (.string b) = pure (.bool (a.toList == b.toList)) := by simp [binOp, Op.stringOp]
attribute [local go_sem] eql_str
attribute [local go_sem] Oper.semAt_some
set_option maxHeartbeats 400000 in
theorem find_any (a : Option Addr) (cp : Nat) (l : List FF) (nm : List UInt8) (w : World) (h : Lies w a (flatP l)) (hn : l.length ≤ 1000000) :
    Calls Tryz.prog 46 #[.slice a l.length cp, nv nm] w fun e w' => e = .returned (.tuple #[.int .i64 (if findP l nm < l.length then (findP l nm : Int) else 0), .bool (decide (findP l nm < l.length))]) ∧ w' = w := by
  obtain ⟨rv, hrv⟩ : ∃ v, v = Value.tuple #[.int .i64 (if findP l nm < l.length then (findP l nm : Int) else 0), .bool (decide (findP l nm < l.length))] := ⟨_, rfl⟩
  rw [← hrv]
  have HRV := Lib.hid hrv
  clear hrv
  obtain ⟨n, hnn⟩ : ∃ n, n = l.length := ⟨_, rfl⟩
  obtain ⟨sn, hsn⟩ : ∃ b : ByteArray, nv nm = .string b := ⟨_, rfl⟩
  rw [← hnn] at hn ⊢
  rw [hsn]
  have H := Lib.hid h
  have HN := Lib.hid hnn
  have HSN := Lib.hid hsn
  clear h hnn hsn
  go_enter Tryz.func46, Tryz.ntmps46
  go_wp2_with fail
  go_loopw [9] (fun i wr => ∃ k : Nat, k ≤ n ∧ i = .int .i64 (k : Int) ∧ wr = w ∧ Hid (∀ j, j < k → ∀ x, l[j]? = some x → x.1 ≠ nm)) (fun i _ => n - (intOf i).toNat)
  case atStart => exact ⟨0, Nat.zero_le _, rfl, rfl, Lib.hid (fun j hj => absurd hj (Nat.not_lt_zero _))⟩
  case round =>
    obtain ⟨k, hk, rfl, rfl, hp⟩ := hrel
    by_cases hkn : k < n
    · have hkd : decide ((k : Int) < (n : Int)) = true := decide_eq_true (by omega)
      obtain ⟨x, hx⟩ : ∃ x, l[k]? = some x := ⟨l[k]'(by rw [← HN.out]; exact hkn), List.getElem?_eq_getElem _⟩
      obtain ⟨g, o, rfl, c0, _⟩ := cells_at H.out hx
      obtain ⟨sx, hsx⟩ : ∃ b : ByteArray, nv x.1 = .string b := ⟨_, rfl⟩
      rw [hsx] at c0
      obtain ⟨q, hq⟩ : ∃ b : Bool, (sx.toList == sn.toList) = b := ⟨_, rfl⟩
      have HX := Lib.hid hx
      have HSX := Lib.hid hsx
      have HQ := Lib.hid hq
      clear hx hsx
      cases q
      · go_wp2_with fail
        have hne : x.1 ≠ nm := fun e => by
          have h1 := HQ.out
          rw [str_beq HSX.out HSN.out, e] at h1
          simp at h1
        exact ⟨⟨k + 1, hkn, by simp, by first | rfl | trivial, Lib.hid (fun j hj y hy => by
          rcases Nat.lt_or_eq_of_le (Nat.le_of_lt_succ hj) with h1 | h1
          · exact hp.out j h1 y hy
          · subst h1
            rw [HX.out] at hy
            cases hy
            exact hne)⟩, by simp [intOf]; omega⟩
      · go_wp2_with fail
        go_ret2
        have he : x.1 = nm := by
          have h1 := HQ.out
          rw [str_beq HSX.out HSN.out] at h1
          simpa using h1
        have hf := findP_eq HX.out he hp.out
        refine ⟨?_, rfl⟩
        have h2 : k < l.length := by rw [← HN.out]; exact hkn
        rw [HRV.out, hf, if_pos h2, decide_eq_true h2]
        rfl
    · obtain rfl : n = k := by omega
      have hkd : decide ((n : Int) < (n : Int)) = false := decide_eq_false (by omega)
      have hf : findP l nm = l.length := findP_none (fun j hj => hp.out j (by rw [HN.out]; exact hj))
      have HF := Lib.hid hf
      clear hf
      go_wp2_with fail
      go_ret2
      refine ⟨?_, rfl⟩
      rw [HRV.out, HF.out, if_neg (Nat.lt_irrefl _), decide_eq_false (Nat.lt_irrefl _)]
      rfl
set_option maxHeartbeats 400000 in
/-- among: is a text among some? -/
theorem among_any (a : Option Addr) (cp : Nat) (l : List (List UInt8)) (nm : List UInt8) (w : World) (h : Lies w a (l.map nv)) (hn : l.length ≤ 1000000) :
    Calls Tryz.prog 127 #[nv nm, .slice a l.length cp] w fun e w' => e = .returned (.bool (decide (nm ∈ l))) ∧ w' = w := by
  obtain ⟨rv, hrv⟩ : ∃ v, v = decide (nm ∈ l) := ⟨_, rfl⟩
  rw [← hrv]
  have HRV := Lib.hid hrv
  clear hrv
  obtain ⟨n, hnn⟩ : ∃ n, n = l.length := ⟨_, rfl⟩
  obtain ⟨sn, hsn⟩ : ∃ b : ByteArray, nv nm = .string b := ⟨_, rfl⟩
  rw [← hnn] at hn ⊢
  rw [hsn]
  have H := Lib.hid h
  have HN := Lib.hid hnn
  have HSN := Lib.hid hsn
  clear h hnn hsn
  go_enter Tryz.func127, Tryz.ntmps127
  go_wp2_with fail
  go_loopw [8] (fun i wr => ∃ k : Nat, k ≤ n ∧ i = .int .i64 (k : Int) ∧ wr = w ∧ Hid (∀ j, j < k → ∀ x, l[j]? = some x → x ≠ nm)) (fun i _ => n - (intOf i).toNat)
  case atStart => exact ⟨0, Nat.zero_le _, rfl, rfl, Lib.hid (fun j hj => absurd hj (Nat.not_lt_zero _))⟩
  case round =>
    obtain ⟨k, hk, rfl, rfl, hp⟩ := hrel
    by_cases hkn : k < n
    · have hkd : decide ((k : Int) < (n : Int)) = true := decide_eq_true (by omega)
      obtain ⟨x, hx⟩ : ∃ x, l[k]? = some x := ⟨l[k]'(by rw [← HN.out]; exact hkn), List.getElem?_eq_getElem _⟩
      obtain ⟨g, o, rfl, _, hcs⟩ := H.out.resolve_left (fun e => by rw [List.map_eq_nil_iff.1 e] at hx; simp at hx)
      have c0 : wr.cell? ⟨g, o + k, none⟩ = some (nv x) := hcs k _ (by rw [List.getElem?_map, hx]; rfl)
      obtain ⟨sx, hsx⟩ : ∃ b : ByteArray, nv x = .string b := ⟨_, rfl⟩
      rw [hsx] at c0
      obtain ⟨q, hq⟩ : ∃ b : Bool, (sx.toList == sn.toList) = b := ⟨_, rfl⟩
      have HX := Lib.hid hx
      have HSX := Lib.hid hsx
      have HQ := Lib.hid hq
      clear hx hsx hcs
      cases q
      · go_wp2_with fail
        have hne : x ≠ nm := fun e => by
          have h1 := HQ.out
          rw [str_beq HSX.out HSN.out, e] at h1
          simp at h1
        exact ⟨⟨k + 1, hkn, by simp, by first | rfl | trivial, Lib.hid (fun j hj y hy => by
          rcases Nat.lt_or_eq_of_le (Nat.le_of_lt_succ hj) with h1 | h1
          · exact hp.out j h1 y hy
          · subst h1
            rw [HX.out] at hy
            cases hy
            exact hne)⟩, by simp [intOf]; omega⟩
      · go_wp2_with fail
        go_ret
        have he : x = nm := by
          have h1 := HQ.out
          rw [str_beq HSX.out HSN.out] at h1
          simpa using h1
        refine ⟨?_, rfl⟩
        rw [HRV.out, decide_eq_true (by rw [← he]; exact List.mem_of_getElem? HX.out)]
        rfl
    · obtain rfl : n = k := by omega
      have hkd : decide ((n : Int) < (n : Int)) = false := decide_eq_false (by omega)
      have hf : decide (nm ∈ l) = false := decide_eq_false (fun hm => by
        obtain ⟨j, hj⟩ := List.mem_iff_getElem?.1 hm
        exact hp.out j (by rw [HN.out]; exact (List.getElem?_eq_some_iff.1 hj).1) nm hj rfl)
      have HF := Lib.hid hf
      clear hf
      go_wp2_with fail
      go_ret
      refine ⟨?_, rfl⟩
      rw [HRV.out, HF.out]
      rfl
end Go.Proofs.YtbfochdoeibofaaGreatDoor.RefF

/- palmerref10: Without, Put. -/
namespace Go.Proofs.YtbfochdoeibofaaGreatDoor.RefF
open Go.RowKit Go.Deep Mem Crc
open Go.Proofs.YtbfochdoeibofaaGreatDoor.Store (nv)

theorem infoP : (Tryz.prog.info? 69).map (fun i => (i.zero, i.size, i.bytes)) = some (some (.agg #[.string ⟨#[]⟩, .string ⟨#[]⟩]), 2, 32) := by kernel_rfl
/-- append(l, f) onto a row of one's own. -/
theorem append_F {base : Nat} (w : World) (ty : TypeId) (v : Value) (l : List FF) (h : w.ownsRow base 69 2 v l.length (flatP l)) (x : FF) (hm : l.length ≤ 1000000) (hb : base ≤ w.heap.size) :
    ∃ v' w', (Builtin.append_ #[35, 35] ty #[v, .slice (some ⟨w.heap.size, 0, none⟩) 1 1]).run Tryz.prog (w.alloc (.cells #[nv x.1, nv x.2] 69)) = .ok v' w' ∧ w'.ownsRow base 69 2 v' (l ++ [x]).length (flatP (l ++ [x])) ∧ w.grownBy w' v.ownBlock := by
  obtain ⟨i, hi, hz, h1, h2⟩ := info_parts infoP
  have hB : Below w.heap.size w (w.alloc (.cells #[nv x.1, nv x.2] 69)) := (Below.refl _ w).alloc (Nat.le_refl _) _
  obtain ⟨v', w', hr, ho, hg, _⟩ := run_append_own (P := Tryz.prog) (w.alloc (.cells #[nv x.1, nv x.2] 69)) base 35 ty 69 i (.agg #[.string ⟨#[]⟩, .string ⟨#[]⟩]) 2 32 Tryz.underlying35 hi hz h1 h2 rfl (by decide) v l.length (flatP l) (own_later h hB) ⟨w.heap.size, 0, none⟩ 1 1 (FF.vs x) rfl (fun j u hu => by
    have := lies_add (new_lies w 69 #[nv x.1, nv x.2]) j u (by simpa [FF.vs] using hu)
    exact this) (fun u hu => by
    unfold FF.vs at hu
    simp only [List.mem_cons, List.not_mem_nil, or_false] at hu
    rcases hu with rfl | rfl <;> rfl) (by unfold maxLen; omega) (by omega) (Nat.le_trans hb hB.size)
  refine ⟨v', w', hr, ?_, grown_later hB hg⟩
  have e : flatP (l ++ [x]) = flatP l ++ FF.vs x := by unfold flatP; rw [List.flatMap_append]; simp
  rw [List.length_append, e]
  exact ho
def withoutP (l : List FF) (nm : List UInt8) : List FF := l.filter (fun x => !(x.1 == nm))
theorem neq_str (t : TypeId) (a b : ByteArray) : binOp .neq t (.string a) (.string b) = pure (.bool (!(a.toList == b.toList))) := by simp [binOp, Op.stringOp, bne]
theorem take_len {l : List FF} {nm : List UInt8} (k : Nat) : (withoutP (l.take k) nm).length ≤ l.length := Nat.le_trans (List.length_filter_le _ _) (by rw [List.length_take]; omega)
attribute [local go_sem] eql_str neq_str
attribute [local go_sem] Oper.semAt_some
set_option maxHeartbeats 1000000 in
set_option maxRecDepth 100000 in
theorem without_any (a : Option Addr) (cp : Nat) (l : List FF) (nm : List UInt8) (w : World) (h : Lies w a (flatP l)) (hn : l.length ≤ 1000000) :
    Calls Tryz.prog 80 #[.slice a l.length cp, nv nm] w fun e w' => ∃ v, e = .returned v ∧ w'.ownsRow w.heap.size 69 2 v (withoutP l nm).length (flatP (withoutP l nm)) ∧ Below w.heap.size w w' := by
  obtain ⟨n, hnn⟩ : ∃ n, n = l.length := ⟨_, rfl⟩
  obtain ⟨sn, hsn⟩ : ∃ b : ByteArray, nv nm = .string b := ⟨_, rfl⟩
  rw [← hnn] at hn ⊢
  rw [hsn]
  have H := Lib.hid h
  have HN := Lib.hid hnn
  have HSN := Lib.hid hsn
  clear h hnn hsn
  go_enter Tryz.func80, Tryz.ntmps80
  go_wp2_with fail
  go_loopw [5, 10] (fun o i wr => ∃ k : Nat, k ≤ n ∧ i = .int .i64 (k : Int) ∧ Hid (Below w.heap.size w wr) ∧ Hid (wr.ownsRow w.heap.size 69 2 o (withoutP (l.take k) nm).length (flatP (withoutP (l.take k) nm)))) (fun _ i _ => n - (intOf i).toNat)
  case atStart => exact ⟨0, Nat.zero_le _, rfl, Lib.hid ((Below.refl _ w).alloc (Nat.le_refl _) _), Lib.hid (World.ownsRow_lit w #[] 0 (Nat.le_refl _) (by decide) rfl)⟩
  case round =>
    obtain ⟨k, hk, rfl, hB, hO⟩ := hrel
    by_cases hkn : k < n
    · have hkd : decide ((k : Int) < (n : Int)) = true := decide_eq_true (by omega)
      obtain ⟨x, hx⟩ : ∃ x, l[k]? = some x := ⟨l[k]'(by rw [← HN.out]; exact hkn), List.getElem?_eq_getElem _⟩
      obtain ⟨g, o, rfl, c0, c1⟩ := cells_at (H.out.later hB.out) hx
      obtain ⟨sx, hsx⟩ : ∃ b : ByteArray, nv x.1 = .string b := ⟨_, rfl⟩
      obtain ⟨sy, hsy⟩ : ∃ b : ByteArray, nv x.2 = .string b := ⟨_, rfl⟩
      have hst : withoutP (l.take (k + 1)) nm = withoutP (l.take k) nm ++ (if (x.1 == nm) = true then [] else [x]) := by
        unfold withoutP
        rw [List.take_add_one, hx, List.filter_append]
        congr 1
        by_cases e : x.1 = nm <;> simp [e]
      rw [← str_beq hsx HSN.out] at hst
      have hsz := hB.out.size
      obtain ⟨q, hq⟩ : ∃ b : Bool, (sx.toList == sn.toList) = b := ⟨_, rfl⟩
      rw [hq] at hst
      cases q
      · have hst : withoutP (l.take (k + 1)) nm = withoutP (l.take k) nm ++ [x] := hst
        obtain ⟨ov, ow, hr, ho, hg⟩ := append_F wr 35 _ _ hO.out x (Nat.le_trans (take_len k) (by rw [← HN.out]; omega)) hsz
        have hB2 : Below w.heap.size w ow := hB.out.grown hg hsz (fun y hy => (hO.out.lt y hy).1)
        obtain ⟨oa, oc, rfl, _, _, _, _⟩ := own_shape hO.out
        obtain ⟨ol, hol⟩ : ∃ y, y = (withoutP (l.take k) nm).length := ⟨_, rfl⟩
        rw [← hol] at hr ⊢
        rw [hsx, hsy] at hr
        rw [hsx] at c0
        rw [hsy] at c1
        rw [← hst] at ho
        have HO2 := Lib.hid ho
        have HB2 := Lib.hid hB2
        clear hst ho hg hB2 hx hsx hsy hB hO hol
        go_wp2_with (first | (at_builtin; refine Lib.wpList_append_run _ rfl _ _ _ _ rfl _ _ rfl rfl _ _ hr ?_))
        exact ⟨⟨k + 1, hkn, by simp, HB2, HO2⟩, by simp [intOf]; omega⟩
      · have hst : withoutP (l.take (k + 1)) nm = withoutP (l.take k) nm := by rw [hst]; simp
        rw [hsx] at c0
        rw [hsy] at c1
        have hO2 := hO.out
        rw [← hst] at hO2
        have HO2 := Lib.hid hO2
        clear hst hO2 hx hsx hsy hO
        go_wp2_with fail
        exact ⟨⟨k + 1, hkn, by simp, hB, HO2⟩, by simp [intOf]; omega⟩
    · obtain rfl : n = k := by omega
      have hkd : decide ((n : Int) < (n : Int)) = false := decide_eq_false (by omega)
      have hO2 := hO.out
      rw [List.take_of_length_le (by rw [HN.out]; exact Nat.le_refl _)] at hO2
      have HO2 := Lib.hid hO2
      clear hO hO2
      go_wp2_with fail
      go_ret
      exact ⟨_, rfl, HO2.out, hB.out⟩
end Go.Proofs.YtbfochdoeibofaaGreatDoor.RefF

/- palmerref10: Put. -/
namespace Go.Proofs.YtbfochdoeibofaaGreatDoor.RefF
open Go.RowKit Go.Deep Mem Crc
open Go.Proofs.YtbfochdoeibofaaGreatDoor.Store (nv)

/-- A round of Put. -/
def stepP (nm b : List UInt8) (s : List FF × Bool) (x : FF) : List FF × Bool :=
  if (x.1 == nm) = true then s else if s.2 = false ∧ nm < x.1 then (s.1 ++ [(nm, b), x], true) else (s.1 ++ [x], s.2)
def foldP (nm b : List UInt8) (l : List FF) : List FF × Bool := l.foldl (stepP nm b) ([], false)
def putP (l : List FF) (nm b : List UInt8) : List FF := if (foldP nm b l).2 then (foldP nm b l).1 else (foldP nm b l).1 ++ [(nm, b)]
theorem foldP_succ {nm b : List UInt8} {l : List FF} {k : Nat} {x : FF} (h : l[k]? = some x) : foldP nm b (l.take (k + 1)) = stepP nm b (foldP nm b (l.take k)) x := by
  unfold foldP
  rw [List.take_add_one, h, List.foldl_append]
  rfl
theorem foldP_len (nm b : List UInt8) (l : List FF) : (foldP nm b l).1.length ≤ l.length + 1 := by
  have h : ∀ (l : List FF) (s : List FF × Bool), (l.foldl (stepP nm b) s).1.length + (if (l.foldl (stepP nm b) s).2 then 0 else 1) ≤ s.1.length + (if s.2 then 0 else 1) + l.length := by
    intro l
    induction l with
    | nil => intro s; exact Nat.le_refl _
    | cons x r ih =>
      intro s
      have h1 := ih (stepP nm b s x)
      have h2 : (stepP nm b s x).1.length + (if (stepP nm b s x).2 then 0 else 1) ≤ s.1.length + (if s.2 then 0 else 1) + 1 := by
        unfold stepP
        split
        · omega
        · split
          · rename_i h3 h4
            rw [h4.1]
            simp
          · dsimp only
            rw [List.length_append, List.length_singleton]
            omega
      rw [List.foldl_cons, List.length_cons]
      omega
  have := h l ([], false)
  simp at this
  unfold foldP
  omega
theorem gtr_lt {x y : List UInt8} {sx sy : ByteArray} (hx : nv x = .string sx) (hy : nv y = .string sy) : (!Op.bytesLess sx.toList sy.toList && !(sx.toList == sy.toList)) = decide (y < x) := by
  unfold Store.nv at hx hy
  injection hx with hx
  injection hy with hy
  subst hx hy
  rw [Lib.toList_data, Lib.toList_data, bytesLess_eq]
  show (!decide (x < y) && !(x == y)) = decide (y < x)
  rw [Bool.eq_iff_iff]
  simp only [Bool.and_eq_true, Bool.not_eq_true', decide_eq_false_iff_not, beq_eq_false_iff_ne, decide_eq_true_eq]
  constructor
  · rintro ⟨h1, h2⟩
    rcases List.le_iff_lt_or_eq.1 (List.not_lt.1 h1) with h3 | h3
    · exact h3
    · exact absurd h3.symm h2
  · intro h
    exact ⟨List.lt_asymm h, fun e => by subst e; exact List.lt_irrefl _ h⟩
theorem gtr_str' (t : TypeId) (a b : ByteArray) : binOp .gtr t (.string a) (.string b) = pure (.bool (!Op.bytesLess a.toList b.toList && !(a.toList == b.toList))) := by simp [binOp, Op.stringOp]
attribute [local go_sem] eql_str gtr_str'
attribute [local go_sem] Oper.semAt_some
set_option maxHeartbeats 1000000 in
set_option maxRecDepth 100000 in
theorem put_any (a : Option Addr) (cp : Nat) (l : List FF) (nm b : List UInt8) (w : World) (h : Lies w a (flatP l)) (hn : l.length ≤ 100000) :
    Calls Tryz.prog 79 #[.slice a l.length cp, nv nm, nv b] w fun e w' => ∃ v, e = .returned v ∧ w'.ownsRow w.heap.size 69 2 v (putP l nm b).length (flatP (putP l nm b)) ∧ Below w.heap.size w w' := by
  obtain ⟨n, hnn⟩ : ∃ n, n = l.length := ⟨_, rfl⟩
  obtain ⟨sn, hsn⟩ : ∃ b : ByteArray, nv nm = .string b := ⟨_, rfl⟩
  obtain ⟨sb, hsb⟩ : ∃ x : ByteArray, nv b = .string x := ⟨_, rfl⟩
  rw [← hnn] at hn ⊢
  rw [hsn, hsb]
  have H := Lib.hid h
  have HN := Lib.hid hnn
  have HSN := Lib.hid hsn
  have HSB := Lib.hid hsb
  clear h hnn hsn hsb
  go_enter Tryz.func79, Tryz.ntmps79
  go_wp2_with fail
  go_loopw [7, 8, 13] (fun o dn i wr => ∃ (k : Nat) (L : List FF) (D : Bool), k ≤ n ∧ i = .int .i64 (k : Int) ∧ dn = .bool D ∧ L.length ≤ 100001 ∧ Hid (foldP nm b (l.take k) = (L, D)) ∧ Hid (Below w.heap.size w wr) ∧ Hid (wr.ownsRow w.heap.size 69 2 o L.length (flatP L))) (fun _ _ i _ => n - (intOf i).toNat)
  case atStart => exact ⟨0, [], false, Nat.zero_le _, rfl, rfl, Nat.zero_le _, Lib.hid rfl, Lib.hid ((Below.refl _ w).alloc (Nat.le_refl _) _), Lib.hid (World.ownsRow_lit w #[] 0 (Nat.le_refl _) (by decide) rfl)⟩
  case round =>
    obtain ⟨k, L, D, hk, rfl, rfl, hLn, hF, hB, hO⟩ := hrel
    by_cases hkn : k < n
    · have hkd : decide ((k : Int) < (n : Int)) = true := decide_eq_true (by omega)
      obtain ⟨x, hx⟩ : ∃ x, l[k]? = some x := ⟨l[k]'(by rw [← HN.out]; exact hkn), List.getElem?_eq_getElem _⟩
      have HX := Lib.hid hx
      obtain ⟨g, o, rfl, c0, c1⟩ := cells_at (H.out.later hB.out) hx
      obtain ⟨sx, hsx⟩ : ∃ b : ByteArray, nv x.1 = .string b := ⟨_, rfl⟩
      obtain ⟨sy, hsy⟩ : ∃ b : ByteArray, nv x.2 = .string b := ⟨_, rfl⟩
      have hst : foldP nm b (l.take (k + 1)) = stepP nm b (L, D) x := by rw [foldP_succ hx, hF.out]
      have hbd : (foldP nm b (l.take (k + 1))).1.length ≤ 100001 := Nat.le_trans (foldP_len nm b _) (by rw [List.length_take]; omega)
      have hsz := hB.out.size
      obtain ⟨q, hq⟩ : ∃ b : Bool, (sx.toList == sn.toList) = b := ⟨_, rfl⟩
      obtain ⟨lv, hlv⟩ : ∃ b : Bool, Op.bytesLess sx.toList sn.toList = b := ⟨_, rfl⟩
      have hq2 : (x.1 == nm) = q := by rw [← str_beq hsx HSN.out]; exact hq
      have hg2 : decide (nm < x.1) = (!lv && !q) := by rw [← gtr_lt hsx HSN.out, hlv, hq]
      have HSX := Lib.hid hsx
      have HSY := Lib.hid hsy
      rw [hsx] at c0
      rw [hsy] at c1
      cases q
      · have hone : (D = true ∨ lv = true) → foldP nm b (l.take (k + 1)) = (L ++ [x], D) := fun hh => by
          rw [hst]
          unfold stepP
          rw [if_neg (by rw [hq2]; exact Bool.false_ne_true), if_neg (fun hc => by
            rcases hh with h1 | h1
            · rw [h1] at hc; exact Bool.noConfusion hc.1
            · rw [h1] at hg2; exact (of_decide_eq_false hg2) hc.2)]
        have htwo : (D = false ∧ lv = false) → foldP nm b (l.take (k + 1)) = (L ++ [(nm, b), x], true) := fun hh => by
          rw [hst]
          unfold stepP
          rw [if_neg (by rw [hq2]; exact Bool.false_ne_true), if_pos ⟨hh.1, of_decide_eq_true (by rw [hg2, hh.2]; rfl)⟩]
        obtain ⟨ov, ow, hr, ho, hg⟩ := append_F wr 35 _ _ hO.out x (by omega) hsz
        have hB2 : Below w.heap.size w ow := hB.out.grown hg hsz (fun y hy => (hO.out.lt y hy).1)
        obtain ⟨pv, pw, hrp, hop, hgp⟩ := append_F wr 35 _ _ hO.out (nm, b) (by omega) hsz
        have hBp : Below w.heap.size w pw := hB.out.grown hgp hsz (fun y hy => (hO.out.lt y hy).1)
        obtain ⟨rv, rw_, hrr, hor, hgr⟩ := append_F pw 35 _ _ hop x (by rw [List.length_append, List.length_singleton]; omega) hBp.size
        have hBr : Below w.heap.size w rw_ := hBp.grown hgr hBp.size (fun y hy => (hop.lt y hy).1)
        obtain ⟨g', o', e', d0, d1⟩ := cells_at (H.out.later hBp) hx
        cases e'
        obtain ⟨oa, oc, rfl, _, _, _, _⟩ := own_shape hO.out
        obtain ⟨pa, pc, rfl, _, _, _, _⟩ := own_shape hop
        have eL : L ++ [(nm, b), x] = L ++ [(nm, b)] ++ [x] := by rw [List.append_assoc]; rfl
        obtain ⟨ol, hol⟩ : ∃ y, y = L.length := ⟨_, rfl⟩
        obtain ⟨pl, hpl⟩ : ∃ y, y = (L ++ [(nm, b)]).length := ⟨_, rfl⟩
        rw [← hol] at hr hrp ⊢
        rw [← hpl] at hrp hrr
        rw [HSX.out, HSY.out] at hr hrr
        rw [HSN.out, HSB.out] at hrp
        rw [hsx] at d0
        rw [hsy] at d1
        have HO2 := Lib.hid ho
        have HB2 := Lib.hid hB2
        have HO3 := Lib.hid hor
        have HB3 := Lib.hid hBr
        have HONE := Lib.hid hone
        have HTWO := Lib.hid htwo
        have HBD := Lib.hid hbd
        clear hst ho hg hB2 hx hsx hsy hB hO hol hpl hop hgp hBp hor hgr hBr hone htwo hbd hq2 hg2 hF
        cases D
        · cases lv
          rotate_left
          · go_wp2_with (first | (at_builtin; refine Lib.wpList_append_run _ rfl _ _ _ _ rfl _ _ rfl rfl _ _ hr ?_))
            have h1 := HONE.out (by simp)
            have h2 := HBD.out
            rw [h1] at h2
            exact ⟨⟨k + 1, L ++ [x], false, hkn, by simp, rfl, h2, Lib.hid h1, HB2, HO2⟩, by simp [intOf]; omega⟩
          · go_wp2_with (first | (at_builtin; refine Lib.wpList_append_run _ rfl _ _ _ _ rfl _ _ rfl rfl _ _ hrp ?_) | (at_builtin; refine Lib.wpList_append_run _ rfl _ _ _ _ rfl _ _ rfl rfl _ _ hrr ?_))
            have h1 := HTWO.out (by simp)
            have h2 := HBD.out
            rw [h1] at h2
            exact ⟨⟨k + 1, L ++ [(nm, b), x], true, hkn, by simp, rfl, h2, Lib.hid h1, HB3, Lib.hid (by rw [eL]; exact HO3.out)⟩, by simp [intOf]; omega⟩
        · go_wp2_with (first | (at_builtin; refine Lib.wpList_append_run _ rfl _ _ _ _ rfl _ _ rfl rfl _ _ hr ?_))
          have h1 := HONE.out (by simp)
          have h2 := HBD.out
          rw [h1] at h2
          exact ⟨⟨k + 1, L ++ [x], true, hkn, by simp, rfl, h2, Lib.hid h1, HB2, HO2⟩, by simp [intOf]; omega⟩
      · have h1 : foldP nm b (l.take (k + 1)) = (L, D) := by
          rw [hst]
          unfold stepP
          rw [if_pos hq2]
        have H1 := Lib.hid h1
        clear hst h1 hbd hx hsx hsy hq2 hg2 hF
        go_wp2_with fail
        exact ⟨⟨k + 1, L, D, hkn, by simp, rfl, hLn, H1, hB, hO⟩, by simp [intOf]; omega⟩
    · obtain rfl : n = k := by omega
      have hkd : decide ((n : Int) < (n : Int)) = false := decide_eq_false (by omega)
      have hF2 := hF.out
      rw [List.take_of_length_le (by rw [HN.out]; exact Nat.le_refl _)] at hF2
      have hsz := hB.out.size
      have hput : putP l nm b = if D then L else L ++ [(nm, b)] := by unfold putP; rw [hF2]
      obtain ⟨pv, pw, hrp, hop, hgp⟩ := append_F wr 35 _ _ hO.out (nm, b) (by omega) hsz
      have hBp : Below w.heap.size w pw := hB.out.grown hgp hsz (fun y hy => (hO.out.lt y hy).1)
      obtain ⟨oa, oc, rfl, _, _, _, _⟩ := own_shape hO.out
      obtain ⟨ol, hol⟩ : ∃ y, y = L.length := ⟨_, rfl⟩
      rw [← hol] at hrp ⊢
      rw [HSN.out, HSB.out] at hrp
      have HOP := Lib.hid hop
      have HBP := Lib.hid hBp
      have HPUT := Lib.hid hput
      have HOL := Lib.hid hol
      clear hF hF2 hop hBp hgp hput hol
      cases D
      · go_wp2_with (first | (at_builtin; refine Lib.wpList_append_run _ rfl _ _ _ _ rfl _ _ rfl rfl _ _ hrp ?_))
        go_ret
        rw [HPUT.out]
        exact ⟨_, rfl, HOP.out, HBP.out⟩
      · go_wp2_with fail
        go_ret
        rw [HPUT.out]
        exact ⟨_, rfl, by rw [HOL.out]; exact hO.out, hB.out⟩
end Go.Proofs.YtbfochdoeibofaaGreatDoor.RefF

/- palmerref10: Pages, Same. -/
namespace Go.Proofs.YtbfochdoeibofaaGreatDoor.RefF
open Go.RowKit Go.Deep Mem Crc
open Go.Proofs.YtbfochdoeibofaaGreatDoor.Store (nv)

def pagesP (l : List FF) : Nat := (l.map (fun x => (x.2.length + 111) / 112)).sum
theorem pagesP_succ {l : List FF} {k : Nat} {x : FF} (h : l[k]? = some x) : pagesP (l.take (k + 1)) = pagesP (l.take k) + (x.2.length + 111) / 112 := by
  unfold pagesP
  rw [List.take_add_one, h, List.map_append, List.sum_append]
  simp
theorem str_size {x : List UInt8} {sx : ByteArray} (hx : nv x = .string sx) : sx.size = x.length := by
  unfold Store.nv at hx
  injection hx with hx
  subst hx
  simp [ByteArray.size]
theorem pagesP_le {l : List FF} (hb : ∀ x ∈ l, x.2.length ≤ 1000000) : ∀ k, pagesP (l.take k) ≤ k * 10000 := by
  intro k
  induction k with
  | zero => exact Nat.zero_le _
  | succ k ih =>
    cases hx : l[k]? with
    | none =>
      rw [List.take_of_length_le (by have := List.getElem?_eq_none_iff.1 hx; omega)]
      rw [List.take_of_length_le (by have := List.getElem?_eq_none_iff.1 hx; omega)] at ih
      exact Nat.le_trans ih (Nat.mul_le_mul_right _ (Nat.le_succ k))
    | some x =>
      have h1 := hb x (List.mem_of_getElem? hx)
      have h2 : (x.2.length + 111) / 112 ≤ 10000 := by omega
      rw [pagesP_succ hx, Nat.succ_mul]
      exact Nat.add_le_add ih h2
attribute [local go_sem] Oper.semAt_some
set_option maxHeartbeats 400000 in
theorem pages_any (a : Option Addr) (cp : Nat) (l : List FF) (w : World) (h : Lies w a (flatP l)) (hn : l.length ≤ 100000) (hb : ∀ x ∈ l, x.2.length ≤ 1000000) :
    Calls Tryz.prog 128 #[.slice a l.length cp] w fun e w' => e = .returned (.int .i64 (pagesP l : Int)) ∧ w' = w := by
  obtain ⟨rv, hrv⟩ : ∃ v, v = pagesP l := ⟨_, rfl⟩
  rw [← hrv]
  have HRV := Lib.hid hrv
  clear hrv
  obtain ⟨n, hnn⟩ : ∃ n, n = l.length := ⟨_, rfl⟩
  rw [← hnn] at hn ⊢
  have H := Lib.hid h
  have HN := Lib.hid hnn
  have HL := Lib.hid hb
  clear h hnn hb
  go_enter Tryz.func128, Tryz.ntmps128
  go_wp2_with fail
  go_loopw [3, 7] (fun s i wr => ∃ (k t : Nat), k ≤ n ∧ i = .int .i64 (k : Int) ∧ s = .int .i64 (t : Int) ∧ t ≤ k * 10000 ∧ wr = w ∧ Hid (t = pagesP (l.take k))) (fun _ i _ => n - (intOf i).toNat)
  case atStart => exact ⟨0, 0, Nat.zero_le _, rfl, rfl, Nat.zero_le _, rfl, Lib.hid rfl⟩
  case round =>
    obtain ⟨k, t, hk, rfl, rfl, ht, rfl, hp⟩ := hrel
    by_cases hkn : k < n
    · have hkd : decide ((k : Int) < (n : Int)) = true := decide_eq_true (by omega)
      obtain ⟨x, hx⟩ : ∃ x, l[k]? = some x := ⟨l[k]'(by rw [← HN.out]; exact hkn), List.getElem?_eq_getElem _⟩
      obtain ⟨g, o, rfl, c0, c1⟩ := cells_at H.out hx
      obtain ⟨sy, hsy⟩ : ∃ b : ByteArray, nv x.2 = .string b := ⟨_, rfl⟩
      rw [hsy] at c1
      have hxl := HL.out x (List.mem_of_getElem? hx)
      obtain ⟨xl, hxe⟩ : ∃ y, y = x.2.length := ⟨_, rfl⟩
      have hsz : sy.size = xl := by rw [hxe]; exact str_size hsy
      have h2 : t + (xl + 111) / 112 = pagesP (l.take (k + 1)) := by rw [pagesP_succ hx, ← hp.out, hxe]
      have hle := pagesP_le HL.out (k + 1)
      rw [← h2] at hle
      rw [← hxe] at hxl
      have H2 := Lib.hid h2
      have w1 : IntKind.i64.wrap ((xl : Int) + 111) = (xl : Int) + 111 := by rw [IntKind.wrap_i64]; omega
      have w2 : ((xl : Int) + 111).tdiv 112 = (((xl + 111) / 112 : Nat) : Int) := by
        rw [Int.tdiv_eq_ediv_of_nonneg (by omega)]
        omega
      obtain ⟨pg, hpg⟩ : ∃ y, y = (xl + 111) / 112 := ⟨_, rfl⟩
      rw [← hpg] at w2 hle
      have HPG := Lib.hid hpg
      clear hx hsy hxe h2 hpg hp
      go_wp2_with fail
      exact ⟨⟨k + 1, t + pg, hkn, by simp, by simp, hle, by first | rfl | trivial, Lib.hid (by rw [HPG.out]; exact H2.out)⟩, by simp [intOf]; omega⟩
    · obtain rfl : n = k := by omega
      have hkd : decide ((n : Int) < (n : Int)) = false := decide_eq_false (by omega)
      have hf : t = rv := by rw [hp.out, HRV.out, List.take_of_length_le (by rw [HN.out]; exact Nat.le_refl _)]
      subst hf
      go_wp2_with fail
      go_ret
      exact ⟨rfl, rfl⟩
end Go.Proofs.YtbfochdoeibofaaGreatDoor.RefF

/- palmerref10: Same. -/
namespace Go.Proofs.YtbfochdoeibofaaGreatDoor.RefF
open Go.RowKit Go.Deep Mem Crc
open Go.Proofs.YtbfochdoeibofaaGreatDoor.Store (nv)

theorem eqIn_F (w : World) (x1 x2 y1 y2 : ByteArray) : (Op.equalIn 10000 69 (.agg #[.string x1, .string x2]) (.agg #[.string y1, .string y2])).run Tryz.prog w = .ok (x1.toList == y1.toList && x2.toList == y2.toList) w := by
  have hf : (Tryz.prog.fieldsOf 69).toList.map (fun f => (f.name, f.type, f.offset)) = [("Name", 9, 0), ("B", 9, 1)] := by kernel_rfl
  rw [show (10000 : Nat) = 9999 + 1 from rfl, run_equalIn_struct w 9999 69 _ _ (by kernel_rfl) (by kernel_rfl)]
  revert hf
  generalize (Tryz.prog.fieldsOf 69).toList = L
  intro hf
  rcases L with _ | ⟨f, _ | ⟨g, _ | ⟨k, r⟩⟩⟩
  · simp at hf
  · simp at hf
  · simp only [List.map_cons, List.map_nil, List.cons.injEq, Prod.mk.injEq, and_true] at hf
    obtain ⟨⟨a1, a2, a3⟩, b1, b2, b3⟩ := hf
    have e1 := run_equalIn_string (P := Tryz.prog) w 9998 9 x1 y1 Tryz.underlying9
    have e2 := run_equalIn_string (P := Tryz.prog) w 9998 9 x2 y2 Tryz.underlying9
    simp [Op.eqFields, a1, a2, a3, b1, b2, b3, go_sem, e1, e2]
    by_cases h1 : x1.toList = y1.toList <;> by_cases h2 : x2.toList = y2.toList <;> simp [h1, h2]
  · simp at hf
theorem neq_F (w : World) (x1 x2 y1 y2 : ByteArray) : (binOp .neq 69 (.agg #[.string x1, .string x2]) (.agg #[.string y1, .string y2])).run Tryz.prog w = .ok (.bool (!(x1.toList == y1.toList && x2.toList == y2.toList))) w := by
  rw [run_neq_struct, eqIn_F]
  rfl
theorem drewN_below {B : Nat} {w w' : World} (h : Below B w w') (n : Nat) : Below B w (w'.drewN n) := ⟨h.os, h.tape, h.output, h.size, h.block⟩
theorem guard_F (w : World) (x y : Operand) (xs ys : Array Value) : (eqGuard .neq 69 x y (.agg xs) (.agg ys)).run Tryz.prog w = .ok () w := run_eqGuard_agg w .neq 69 x y xs ys (by kernel_rfl)
attribute [local go_sem] eqIn_F neq_F guard_F
attribute [local go_sem] Oper.semAt_some
end Go.Proofs.YtbfochdoeibofaaGreatDoor.RefF

/- Layer 10, plain: rising rows of files as functions from names to bytes. -/
namespace Go.Proofs.YtbfochdoeibofaaGreatDoor.RefF
open Go.RowKit
open Go.Proofs.YtbfochdoeibofaaGreatDoor.Store (Files)

/-- The row l, rising by names, has just the files of F. -/
structure IsRow (l : List FF) (F : Files) : Prop where
  rise : l.Pairwise (fun x y => x.1 < y.1)
  mem : ∀ nm b, (nm, b) ∈ l ↔ F nm = some b
theorem IsRow.uniq {l l2 : List FF} {F : Files} (h : IsRow l F) (h2 : IsRow l2 F) : l = l2 := by
  have hm : ∀ x, x ∈ l ↔ x ∈ l2 := fun x => (h.mem x.1 x.2).trans (h2.mem x.1 x.2).symm
  have key : ∀ (l l2 : List FF), l.Pairwise (fun x y => x.1 < y.1) → l2.Pairwise (fun x y => x.1 < y.1) → (∀ x, x ∈ l ↔ x ∈ l2) → l = l2 := by
    intro l
    induction l with
    | nil =>
      intro l2 _ _ hm
      cases l2 with
      | nil => rfl
      | cons y r => exact absurd ((hm y).2 (by simp)) (List.not_mem_nil)
    | cons x r ih =>
      intro l2 p1 p2 hm
      cases l2 with
      | nil => exact absurd ((hm x).1 (by simp)) (List.not_mem_nil)
      | cons y r2 =>
        obtain ⟨a1, a2⟩ := List.pairwise_cons.1 p1
        obtain ⟨b1, b2⟩ := List.pairwise_cons.1 p2
        have hxy : x = y := by
          rcases List.mem_cons.1 ((hm x).1 (by simp)) with e | e
          · exact e
          · rcases List.mem_cons.1 ((hm y).2 (by simp)) with e2 | e2
            · exact e2.symm
            · exact absurd (b1 x e) (List.lt_asymm (a1 y e2))
        subst hxy
        refine congrArg _ (ih r2 a2 b2 (fun z => ?_))
        constructor
        · intro hz
          rcases List.mem_cons.1 ((hm z).1 (List.mem_cons_of_mem _ hz)) with e | e
          · subst e; exact absurd (a1 z hz) (List.lt_irrefl _)
          · exact e
        · intro hz
          rcases List.mem_cons.1 ((hm z).2 (List.mem_cons_of_mem _ hz)) with e | e
          · subst e; exact absurd (b1 z hz) (List.lt_irrefl _)
          · exact e
  exact key l l2 h.rise h2.rise hm
theorem IsRow.none_ {l : List FF} {F : Files} (h : IsRow l F) (nm : List UInt8) : F nm = none ↔ ∀ x ∈ l, x.1 ≠ nm := by
  constructor
  · intro hf x hx e
    have := (h.mem x.1 x.2).1 hx
    rw [e, hf] at this
    cases this
  · intro hx
    cases hf : F nm with
    | none => rfl
    | some b => exact absurd rfl (hx (nm, b) ((h.mem nm b).2 hf))
theorem isRow_none : IsRow [] (fun _ => none) := ⟨List.Pairwise.nil, fun nm b => by simp⟩
theorem IsRow.without {l : List FF} {F : Files} (h : IsRow l F) (nm : List UInt8) : IsRow (withoutP l nm) (fun x => if x = nm then none else F x) := by
  refine ⟨h.rise.sublist List.filter_sublist, fun x b => ?_⟩
  unfold withoutP
  rw [List.mem_filter, h.mem]
  by_cases e : x = nm
  · subst e
    simp
  · simp [e]
theorem IsRow.find {l : List FF} {F : Files} (h : IsRow l F) (nm : List UInt8) : (findP l nm < l.length ↔ F nm ≠ none) ∧ ∀ b, F nm = some b → l[findP l nm]? = some (nm, b) := by
  cases hf : F nm with
  | none =>
    have h1 := (h.none_ nm).1 hf
    have h2 : findP l nm = l.length := findP_none (fun j hj y hy => h1 y (List.mem_of_getElem? hy))
    rw [h2]
    simp
  | some b =>
    have hm := (h.mem nm b).2 hf
    obtain ⟨j, hj⟩ := List.mem_iff_getElem?.1 hm
    have hjl := (List.getElem?_eq_some_iff.1 hj)
    have hp : findP l nm = j := findP_eq hj rfl (fun i hi y hy e => by
      have hyl := List.getElem?_eq_some_iff.1 hy
      have := List.pairwise_iff_getElem.1 h.rise i j hyl.1 hjl.1 hi
      rw [hyl.2, hjl.2, e] at this
      exact List.lt_irrefl _ this)
    rw [hp]
    exact ⟨⟨fun _ => by simp, fun _ => hjl.1⟩, fun b' e => by cases e; exact hj⟩
end Go.Proofs.YtbfochdoeibofaaGreatDoor.RefF

/- Layer 10, plain: Put, as a function from names to bytes. -/
namespace Go.Proofs.YtbfochdoeibofaaGreatDoor.RefF
open Go.RowKit
open Go.Proofs.YtbfochdoeibofaaGreatDoor.Store (Files)

theorem fold_on (nm b : List UInt8) : ∀ (l acc : List FF), (∀ x ∈ l, nm < x.1) → l.foldl (stepP nm b) (acc, true) = (acc ++ l, true)
  | [], acc, _ => by simp
  | x :: r, acc, h => by
    have hx := h x (by simp)
    have hne : (x.1 == nm) = false := by
      rw [beq_eq_false_iff_ne]
      intro e
      rw [e] at hx
      exact List.lt_irrefl _ hx
    have e : stepP nm b (acc, true) x = (acc ++ [x], true) := by
      unfold stepP
      rw [hne, if_neg Bool.false_ne_true, if_neg (fun hc => Bool.noConfusion hc.1)]
    rw [List.foldl_cons, e, fold_on nm b r (acc ++ [x]) (fun y hy => h y (by simp [hy])), List.append_assoc]
    rfl
def endP (nm b : List UInt8) (s : List FF × Bool) : List FF := if s.2 then s.1 else s.1 ++ [(nm, b)]
theorem fold_put (nm b : List UInt8) : ∀ (l acc : List FF), l.Pairwise (fun x y => x.1 < y.1) → endP nm b (l.foldl (stepP nm b) (acc, false)) = acc ++ (l.filter (fun x => decide (x.1 < nm)) ++ (nm, b) :: l.filter (fun x => decide (nm < x.1)))
  | [], acc, _ => by simp [endP]
  | x :: r, acc, hp => by
    obtain ⟨h1, h2⟩ := List.pairwise_cons.1 hp
    rw [List.foldl_cons]
    by_cases e : x.1 = nm
    · have hs : stepP nm b (acc, false) x = (acc, false) := by
        unfold stepP
        rw [if_pos (by simpa using e)]
      have e1 : decide (x.1 < nm) = false := decide_eq_false (by rw [e]; exact List.lt_irrefl _)
      have e2 : decide (nm < x.1) = false := decide_eq_false (by rw [e]; exact List.lt_irrefl _)
      rw [hs, fold_put nm b r acc h2, List.filter_cons, List.filter_cons, e1, e2]
      rfl
    · have hne : (x.1 == nm) = false := by rw [beq_eq_false_iff_ne]; exact e
      by_cases hlt : nm < x.1
      · have hs : stepP nm b (acc, false) x = (acc ++ [(nm, b), x], true) := by
          unfold stepP
          rw [hne, if_neg Bool.false_ne_true, if_pos ⟨rfl, hlt⟩]
        have hr : ∀ y ∈ r, nm < y.1 := fun y hy => List.lt_trans hlt (h1 y hy)
        have hlo : (x :: r).filter (fun x => decide (x.1 < nm)) = [] := List.filter_eq_nil_iff.2 (fun y hy => by
          have : nm < y.1 := by
            rcases List.mem_cons.1 hy with rfl | hy
            · exact hlt
            · exact hr y hy
          simpa using List.lt_asymm this)
        have hhi : (x :: r).filter (fun x => decide (nm < x.1)) = x :: r := List.filter_eq_self.2 (fun y hy => by
          have : nm < y.1 := by
            rcases List.mem_cons.1 hy with rfl | hy
            · exact hlt
            · exact hr y hy
          exact decide_eq_true this)
        rw [hs, fold_on nm b r _ hr, hlo, hhi]
        unfold endP
        rw [if_pos rfl]
        simp
      · have hlt2 : x.1 < nm := by
          rcases List.le_iff_lt_or_eq.1 (List.not_lt.1 hlt) with h3 | h3
          · exact h3
          · exact absurd h3 e
        have hs : stepP nm b (acc, false) x = (acc ++ [x], false) := by
          unfold stepP
          rw [hne, if_neg Bool.false_ne_true, if_neg (fun hc => hlt hc.2)]
        have e1 : decide (x.1 < nm) = true := decide_eq_true hlt2
        have e2 : decide (nm < x.1) = false := decide_eq_false hlt
        rw [hs, fold_put nm b r (acc ++ [x]) h2, List.filter_cons, List.filter_cons, e1, e2, List.append_assoc]
        rfl
theorem putP_eq {l : List FF} (h : l.Pairwise (fun x y => x.1 < y.1)) (nm b : List UInt8) : putP l nm b = l.filter (fun x => decide (x.1 < nm)) ++ (nm, b) :: l.filter (fun x => decide (nm < x.1)) := by
  have := fold_put nm b l [] h
  rw [List.nil_append] at this
  exact this
theorem IsRow.put {l : List FF} {F : Files} (h : IsRow l F) (nm b : List UInt8) : IsRow (putP l nm b) (fun x => if x = nm then some b else F x) := by
  rw [putP_eq h.rise]
  refine ⟨List.pairwise_append.2 ⟨h.rise.sublist List.filter_sublist, List.pairwise_cons.2 ⟨fun y hy => ?_, h.rise.sublist List.filter_sublist⟩, fun x hx y hy => ?_⟩, fun x c => ?_⟩
  · exact of_decide_eq_true (List.mem_filter.1 hy).2
  · have hx2 : x.1 < nm := of_decide_eq_true (List.mem_filter.1 hx).2
    rcases List.mem_cons.1 hy with rfl | hy
    · exact hx2
    · exact List.lt_trans hx2 (of_decide_eq_true (List.mem_filter.1 hy).2)
  · rw [List.mem_append, List.mem_cons, List.mem_filter, List.mem_filter, h.mem, decide_eq_true_eq, decide_eq_true_eq]
    by_cases e : x = nm
    · subst e
      rw [if_pos rfl]
      constructor
      · rintro (⟨_, h2⟩ | h2 | ⟨_, h2⟩)
        · exact absurd h2 (List.lt_irrefl _)
        · cases h2; rfl
        · exact absurd h2 (List.lt_irrefl _)
      · intro h2
        cases h2
        exact .inr (.inl rfl)
    · rw [if_neg e]
      constructor
      · rintro (⟨h1, _⟩ | h2 | ⟨h1, _⟩)
        · exact h1
        · cases h2; exact absurd rfl e
        · exact h1
      · intro h1
        by_cases hlt : x < nm
        · exact .inl ⟨h1, hlt⟩
        · rcases List.le_iff_lt_or_eq.1 (List.not_lt.1 hlt) with h3 | h3
          · exact .inr (.inr ⟨h1, h3⟩)
          · exact absurd h3.symm e
end Go.Proofs.YtbfochdoeibofaaGreatDoor.RefF

/- Layer 10, plain: the files with the changes, as rows. -/
namespace Go.Proofs.YtbfochdoeibofaaGreatDoor.RefF
open Go.RowKit Go.Proofs.YtbfochdoeibofaaGreatDoor.Full
open Go.Proofs.YtbfochdoeibofaaGreatDoor.Store (Chg none' nv Files setC setC_same setC_other)

theorem nowF_set (C : Chg) (H : Files) (nm : List UInt8) (o : Option (List UInt8)) : nowF (setC C nm (some o)) H = fun x => if x = nm then o else nowF C H x := by
  funext x
  by_cases e : x = nm
  · subst e
    rw [if_pos rfl]
    unfold nowF
    rw [setC_same]
  · rw [if_neg e]
    unfold nowF
    rw [setC_other _ e]
theorem IsRow.write {l : List FF} {C : Chg} {H : Files} (h : IsRow l (nowF C H)) (nm b : List UInt8) : IsRow (putP l nm b) (nowF (setC C nm (some (some b))) H) := by
  rw [nowF_set]
  exact h.put nm b
theorem IsRow.remove {l : List FF} {C : Chg} {H : Files} (h : IsRow l (nowF C H)) (nm : List UInt8) : IsRow (withoutP l nm) (nowF (setC C nm (some none)) H) := by
  rw [nowF_set]
  exact h.without nm
/-- What Append puts behind: the bytes that stand. -/
theorem IsRow.was {l : List FF} {C : Chg} {H : Files} (h : IsRow l (nowF C H)) (nm : List UInt8) : (ansF (nowF C H nm)).1 = if findP l nm < l.length then (l.getD (findP l nm) ([], [])).2 else [] := by
  obtain ⟨h1, h2⟩ := h.find nm
  cases hf : nowF C H nm with
  | none => rw [if_neg (fun hc => h1.1 hc hf)]; rfl
  | some b =>
    rw [if_pos (h1.2 (by rw [hf]; exact fun e => by cases e)), List.getD_eq_getElem?_getD, h2 b hf]
    rfl
/-- Names' rows: rising, with just the files' names. -/
theorem IsRow.names {l : List FF} {F : Files} (h : IsRow l F) {ss : List (List UInt8)} (hp : ss.Pairwise (· < ·)) (hm : ∀ nm, nm ∈ ss ↔ F nm ≠ none) : l.map Prod.fst = ss := by
  have h2 : IsRow (ss.map fun nm => (nm, (F nm).getD [])) F := by
    refine ⟨List.pairwise_map.2 (hp.imp (fun h => h)), fun nm b => ?_⟩
    rw [List.mem_map]
    constructor
    · rintro ⟨x, hx, e⟩
      cases e
      have := (hm nm).1 hx
      cases hf : F nm with
      | none => exact absurd hf this
      | some c => rfl
    · intro hf
      exact ⟨nm, (hm nm).2 (by rw [hf]; exact fun e => by cases e), by rw [hf]; rfl⟩
  rw [h.uniq h2, List.map_map]
  exact List.map_id _
end Go.Proofs.YtbfochdoeibofaaGreatDoor.RefF

/- palmerref09: among. -/
namespace Go.Proofs.YtbfochdoeibofaaGreatDoor.RefF
open Go.RowKit Go.Deep Mem Crc
open Go.Proofs.YtbfochdoeibofaaGreatDoor.Mani (iv)

set_option maxHeartbeats 400000 in
theorem among09_any (a : Option Addr) (cp : Nat) (l : List Nat) (m : Nat) (w : World) (h : Lies w a (l.map iv)) (hn : l.length ≤ 1000000) :
    Calls Tryz.prog 161 #[.int .i64 (m : Int), .slice a l.length cp] w fun e w' => e = .returned (.bool (decide (m ∈ l))) ∧ w' = w := by
  obtain ⟨rv, hrv⟩ : ∃ v, v = decide (m ∈ l) := ⟨_, rfl⟩
  rw [← hrv]
  have HRV := Lib.hid hrv
  clear hrv
  obtain ⟨n, hnn⟩ : ∃ n, n = l.length := ⟨_, rfl⟩
  rw [← hnn] at hn ⊢
  have H := Lib.hid h
  have HN := Lib.hid hnn
  clear h hnn
  go_enter Tryz.func161, Tryz.ntmps161
  go_wp2_with fail
  go_loopw [8] (fun i wr => ∃ k : Nat, k ≤ n ∧ i = .int .i64 (k : Int) ∧ wr = w ∧ Hid (∀ j, j < k → ∀ x, l[j]? = some x → x ≠ m)) (fun i _ => n - (intOf i).toNat)
  case atStart => exact ⟨0, Nat.zero_le _, rfl, rfl, Lib.hid (fun j hj => absurd hj (Nat.not_lt_zero _))⟩
  case round =>
    obtain ⟨k, hk, rfl, rfl, hp⟩ := hrel
    by_cases hkn : k < n
    · have hkd : decide ((k : Int) < (n : Int)) = true := decide_eq_true (by omega)
      obtain ⟨x, hx⟩ : ∃ x, l[k]? = some x := ⟨l[k]'(by rw [← HN.out]; exact hkn), List.getElem?_eq_getElem _⟩
      obtain ⟨g, o, rfl, _, hcs⟩ := H.out.resolve_left (fun e => by rw [List.map_eq_nil_iff.1 e] at hx; simp at hx)
      have c0 : wr.cell? ⟨g, o + k, none⟩ = some (.int .i64 (x : Int)) := hcs k _ (by rw [List.getElem?_map, hx]; rfl)
      have HX := Lib.hid hx
      clear hx hcs
      by_cases he : x = m
      · subst he
        go_wp2_with fail
        go_ret
        refine ⟨?_, rfl⟩
        rw [HRV.out, decide_eq_true (List.mem_of_getElem? HX.out)]
        rfl
      · have hq : ((x : Int) == (m : Int)) = false := by rw [beq_eq_false_iff_ne]; omega
        have HE := Lib.hid he
        clear he
        go_wp2_with fail
        exact ⟨⟨k + 1, hkn, by simp, by first | rfl | trivial, Lib.hid (fun j hj y hy => by
          rcases Nat.lt_or_eq_of_le (Nat.le_of_lt_succ hj) with h1 | h1
          · exact hp.out j h1 y hy
          · subst h1
            rw [HX.out] at hy
            cases hy
            exact HE.out)⟩, by simp [intOf]; omega⟩
    · obtain rfl : n = k := by omega
      have hkd : decide ((n : Int) < (n : Int)) = false := decide_eq_false (by omega)
      have hf : decide (m ∈ l) = false := decide_eq_false (fun hm => by
        obtain ⟨j, hj⟩ := List.mem_iff_getElem?.1 hm
        exact hp.out j (by rw [HN.out]; exact (List.getElem?_eq_some_iff.1 hj).1) m hj rfl)
      have HF := Lib.hid hf
      clear hf
      go_wp2_with fail
      go_ret
      refine ⟨?_, rfl⟩
      rw [HRV.out, HF.out]
      rfl
end Go.Proofs.YtbfochdoeibofaaGreatDoor.RefF

/- palmerref08: Many. -/
namespace Go.Proofs.YtbfochdoeibofaaGreatDoor.RefF
open Go.RowKit Go.Deep Mem Crc

theorem many08_any (n : Nat) (hn : n ≤ 1000000000) (w : World) :
    Calls Tryz.prog 102 #[.int .i64 (n : Int)] w fun e w' => e = .returned (.int .i64 (Mani.many n : Int)) ∧ w' = w := by
  obtain ⟨rv, hrv⟩ : ∃ v, v = Mani.many n := ⟨_, rfl⟩
  rw [← hrv]
  have w1 : (n : Int).tdiv 112 = ((n / 112 : Nat) : Int) := by
    rw [Int.tdiv_eq_ediv_of_nonneg (by omega)]
    omega
  have w2 : (n : Int).tmod 112 = ((n % 112 : Nat) : Int) := by
    rw [Int.tmod_eq_emod_of_nonneg (by omega)]
    omega
  obtain ⟨d, hd⟩ : ∃ d, d = n / 112 := ⟨_, rfl⟩
  obtain ⟨m, hm⟩ : ∃ m, m = n % 112 := ⟨_, rfl⟩
  rw [← hd] at w1
  rw [← hm] at w2
  have hdl : d ≤ 1000000000 := by omega
  by_cases h0 : n = 0
  · subst h0
    have hr0 : rv = 0 := by rw [hrv]; rfl
    subst hr0
    clear hrv hd hm
    go_enter Tryz.func102, Tryz.ntmps102
    go_wp2_with fail
    go_ret
    exact ⟨rfl, rfl⟩
  · have hp : decide (0 < n) = true := decide_eq_true (by omega)
    have hrd : rv = if 0 < m then d + 1 else d := by
      rw [hrv, hm, hd]
      unfold Mani.many
      split <;> split <;> omega
    have HRD := Lib.hid hrd
    clear hrv hd hm hrd
    by_cases hm0 : 0 < m
    · have hmd : decide (0 < m) = true := decide_eq_true hm0
      go_enter Tryz.func102, Tryz.ntmps102
      go_wp2_with fail
      go_ret
      exact ⟨by rw [HRD.out, if_pos hm0]; simp, rfl⟩
    · have hmd : decide (0 < m) = false := decide_eq_false hm0
      go_enter Tryz.func102, Tryz.ntmps102
      go_wp2_with fail
      go_ret
      exact ⟨by rw [HRD.out, if_neg hm0]; rfl, rfl⟩
end Go.Proofs.YtbfochdoeibofaaGreatDoor.RefF

/- palmerref03: Num. -/
namespace Go.Proofs.YtbfochdoeibofaaGreatDoor.RefF
open Go.RowKit Go.Deep Mem Crc Go.Proofs.YtbfochdoeibofaaGreatDoor.Varint

attribute [local go_sem] Oper.semAt_some
set_option maxHeartbeats 400000 in
set_option maxRecDepth 100000 in
theorem num03_any : ∀ (n : Nat), n < 18446744073709551616 → ∀ w : World,
    Calls Tryz.prog 159 #[.int .u64 (n : Int)] w fun e w' => ∃ v, e = .returned v ∧ OwnB w' w.heap.size v (vput n) ∧ Below w.heap.size w w' := by
  intro n
  induction n using Nat.strongRecOn with
  | ind n ih =>
    intro hn w
    by_cases hl : n < 128
    · have hld : decide ((n : Int) < 128) = true := decide_eq_true (by omega)
      have w1 : IntKind.u8.wrap (n : Int) = (n : Int) := by rw [IntKind.wrap_u8]; omega
      have hv : (vput n).map bv = [.int .u8 (n : Int)] := by
        rw [vput_low hl]
        show [bv (UInt8.ofNat n)] = _
        unfold bv
        rw [show (UInt8.ofNat n).toNat = n by simp; omega]
      have ho : OwnB (w.alloc (.cells #[.int .u8 (n : Int)] 5)) w.heap.size (.slice (some ⟨w.heap.size, 0, none⟩) 1 1) (vput n) := by
        unfold Crc.OwnB
        rw [hv, vput_low hl]
        exact World.ownsRow_lit w #[.int .u8 (n : Int)] 1 (Nat.le_refl _) (by decide) rfl
      have HO := Lib.hid ho
      clear ho hv ih
      go_enter Tryz.func159, Tryz.ntmps159
      go_wp2_with fail
      go_ret
      exact ⟨_, rfl, HO.out, (Below.refl _ w).alloc (Nat.le_refl _) _⟩
    · have hld : decide ((n : Int) < 128) = false := decide_eq_false (by omega)
      obtain ⟨r, hr⟩ : ∃ r, r = n % 128 := ⟨_, rfl⟩
      obtain ⟨d, hd⟩ : ∃ d, d = n / 128 := ⟨_, rfl⟩
      have hrl : r < 128 := by rw [hr]; exact Nat.mod_lt _ (by decide)
      have w1 : IntKind.u8.wrap (r : Int) = (r : Int) := by rw [IntKind.wrap_u8]; omega
      have w2 : IntKind.u8.wrap ((r : Int) + 128) = (r : Int) + 128 := by rw [IntKind.wrap_u8]; omega
      have w3 : (n : Int).tmod 128 = (r : Int) := by rw [hr, Int.tmod_eq_emod_of_nonneg (by omega)]; omega
      have w4 : (n : Int).tdiv 128 = (d : Int) := by rw [hd, Int.tdiv_eq_ediv_of_nonneg (by omega)]; omega
      have w5 : IntKind.u64.wrap (d : Int) = (d : Int) := by rw [IntKind.wrap_u64]; omega
      have hv1 : ([UInt8.ofNat (r + 128)] : List UInt8).map bv = [.int .u8 ((r : Int) + 128)] := by
        show [bv (UInt8.ofNat (r + 128))] = _
        unfold bv
        rw [show (UInt8.ofNat (r + 128)).toNat = r + 128 by simp; omega]
        rfl
      have ho : OwnB (w.alloc (.cells #[.int .u8 ((r : Int) + 128)] 5)) w.heap.size (.slice (some ⟨w.heap.size, 0, none⟩) 1 1) [UInt8.ofNat (r + 128)] := by
        unfold Crc.OwnB
        rw [hv1]
        exact World.ownsRow_lit w #[.int .u8 ((r : Int) + 128)] 1 (Nat.le_refl _) (by decide) rfl
      have hput : vput n = [UInt8.ofNat (r + 128)] ++ vput d := by rw [vput_high (by omega), hr, hd]; rfl
      have hlen : (vput d).length ≤ 10 := vput_length 9 d (by omega)
      have hal := (Below.refl w.heap.size w).alloc (Nat.le_refl _) (Obj.cells #[.int .u8 ((r : Int) + 128)] 5)
      have HN := Lib.hid (ih d (by omega) (by omega) (w.alloc (.cells #[.int .u8 ((r : Int) + 128)] 5)))
      have HO := Lib.hid ho
      have HP := Lib.hid hput
      have HAL := Lib.hid hal
      clear ih ho hput hal hr hd hv1
      go_enter Tryz.func159, Tryz.ntmps159
      go_wp2_with fail
      refine HN.out.mono ?_
      rintro e w2 ⟨v, rfl, hO2, hB2⟩
      obtain ⟨a2, c2, rfl, _, hL2, _, _⟩ := own_shape hO2
      have hB02 := HAL.out.trans (hB2.mono HAL.out.size)
      obtain ⟨v3, w3, hr3, hO3, hg3⟩ := run_append_bytes w2 22 _ _ (own_later HO.out hB2) a2 c2 (vput d) hL2 (by rw [List.length_singleton]; omega) hB02.size
      have hB03 := hB02.grown hg3 hB02.size (fun q hq => ((own_later HO.out hB2).lt q hq).1)
      rw [← HP.out] at hO3
      obtain ⟨ln, hln⟩ : ∃ y, y = (vput d).length := ⟨_, rfl⟩
      rw [← hln] at hr3 ⊢
      have HO3 := Lib.hid hO3
      have HB3 := Lib.hid hB03
      clear hO2 hB2 hL2 hB02 hO3 hg3 hB03 hln
      go_wp2_with (first | (at_builtin; refine Lib.wpList_append_run _ rfl _ _ _ _ rfl _ _ rfl rfl _ _ hr3 ?_))
      go_ret
      exact ⟨_, rfl, HO3.out, HB3.out⟩
end Go.Proofs.YtbfochdoeibofaaGreatDoor.RefF

/- palmerref10.Plan, plain: it comes to what a commit comes to. -/
namespace Go.Proofs.YtbfochdoeibofaaGreatDoor.RefF
open Go.RowKit Go.Proofs.YtbfochdoeibofaaGreatDoor.Full Go.Proofs.YtbfochdoeibofaaGreatDoor.Mani Go.Proofs.YtbfochdoeibofaaGreatDoor.Varint
open Go.Proofs.YtbfochdoeibofaaGreatDoor.Store (Chg none' nv Files)
open Go.Proofs.YtbfochdoeibofaaGreatDoor.Ext (takeL takeK freeN freeL)

/-- What is under way: the free blocks, the next number, the files. -/
structure RP where
  free : List Nat
  next : Nat
  out : List Fil
def rnew (s : RP) (x : FF) : Fil := ⟨x.1, s.next, x.2.length, s.free.take (many x.2.length)⟩
def rstep (fs : List Fil) (ch : List (List UInt8)) (x : FF) (s : RP) : Option RP :=
  if x.1 ∈ ch then (if s.free.length < many x.2.length then none else some ⟨s.free.drop (many x.2.length), s.next + 1, s.out ++ [rnew s x]⟩)
  else some ⟨s.free, s.next, s.out ++ fs.filter (fun f => decide (f.name = x.1))⟩
def rplan (fs : List Fil) (ch : List (List UInt8)) (l : List FF) (s : RP) : Option RP := l.foldl (fun o x => o.bind (rstep fs ch x)) (some s)
theorem rfold_none (fs : List Fil) (ch : List (List UInt8)) : ∀ l : List FF, l.foldl (fun (o : Option RP) x => o.bind (rstep fs ch x)) none = none
  | [] => rfl
  | _ :: r => rfold_none fs ch r
theorem rplan_cons (fs : List Fil) (ch : List (List UInt8)) (x : FF) (l : List FF) (s : RP) : rplan fs ch (x :: l) s = (rstep fs ch x s).bind (rplan fs ch l) := by
  unfold rplan
  rw [List.foldl_cons]
  show l.foldl _ (rstep fs ch x s) = _
  cases rstep fs ch x s with
  | none => exact rfold_none fs ch l
  | some t => rfl
theorem rplan_snoc (fs : List Fil) (ch : List (List UInt8)) {l : List FF} {k : Nat} {x : FF} (h : l[k]? = some x) (s : RP) : rplan fs ch (l.take (k + 1)) s = (rplan fs ch (l.take k) s).bind (rstep fs ch x) := by
  unfold rplan
  rw [List.take_add_one, h, List.foldl_append]
  rfl
theorem rplan_none (fs : List Fil) (ch : List (List UInt8)) {l : List FF} {k : Nat} {s : RP} (h : rplan fs ch (l.take k) s = none) : rplan fs ch l s = none := by
  unfold rplan at h ⊢
  rw [← List.take_append_drop k l, List.foldl_append, h]
  exact rfold_none fs ch _
theorem planF_cons (C : Chg) (nm : List UInt8) (ss : List (List UInt8)) (p : PL) : planF C (nm :: ss) p = (stepF C nm p).bind (planF C ss) := by
  unfold planF
  rw [List.foldl_cons]
  show ss.foldl _ (stepF C nm p) = _
  cases stepF C nm p with
  | none => exact foldl_none C ss
  | some t => rfl
/-- Is a name written? -/
def isW (C : Chg) (nm : List UInt8) : Bool := match C nm with
  | some (some _) => true
  | _ => false
theorem isW_iff {C : Chg} {nm : List UInt8} : isW C nm = true ↔ ∃ b, C nm = some (some b) := by
  unfold isW
  cases hC : C nm with
  | none => simp
  | some o => cases o <;> simp
/-- Names that are not written change nothing. -/
theorem planF_skip (C : Chg) : ∀ (ss : List (List UInt8)) (p : PL), planF C ss p = planF C (ss.filter (isW C)) p
  | [], _ => rfl
  | nm :: ss, p => by
    by_cases hw : isW C nm = true
    · rw [List.filter_cons_of_pos hw, planF_cons, planF_cons]
      congr 1
      funext q
      exact planF_skip C ss q
    · rw [List.filter_cons_of_neg hw, planF_cons]
      have e : stepF C nm p = some p := by
        unfold stepF
        cases hC : C nm with
        | none => rfl
        | some o =>
          cases o with
          | none => rfl
          | some b => exact absurd (isW_iff.2 ⟨b, hC⟩) hw
      rw [e]
      exact planF_skip C ss p
theorem filter_one : ∀ {fs : List Fil}, rises fs → ∀ {f : Fil}, f ∈ fs → fs.filter (fun g => decide (g.name = f.name)) = [f]
  | x :: r, hr, f, hf => by
    obtain ⟨h1, h2⟩ := List.pairwise_cons.1 hr
    have hnot : ∀ y ∈ r, x.name ≠ y.name := fun y hy e => by
      have := h1 y hy
      rw [e] at this
      exact List.lt_irrefl _ this
    rcases List.mem_cons.1 hf with rfl | hf
    · rw [List.filter_cons_of_pos (by simp), List.filter_eq_nil_iff.2 (fun y hy => by
        have := hnot y hy
        simp
        exact fun e => this e.symm)]
    · rw [List.filter_cons_of_neg (by simpa using hnot f hf), filter_one h2 hf]
/-- Both plans side by side. -/
theorem plan_side (C : Chg) (ch : List (List UInt8)) (n : Nat) (fs : List Fil) (hr : rises fs) : ∀ (l : List FF) (p : PL) (s : RP) (q : Nat → Bool) (R K : List Fil), p.k = mapK n q → p.fs = R ++ K → s.free = (List.range n).filter (fun i => !q i) → s.next = p.next → s.out = R → l.Pairwise (fun x y => x.1 < y.1) → (∀ f ∈ R, ∀ x ∈ l, f.name < x.1) → K.map Fil.name = (l.filter (fun x => !decide (x.1 ∈ ch))).map Prod.fst → (∀ f ∈ K, f ∈ fs) → p.next + l.length < 4294967296 → (∀ x ∈ l, x.1 ∈ ch → C x.1 = some (some x.2)) →
    (planF C ((l.filter (fun x => decide (x.1 ∈ ch))).map Prod.fst) p).map (fun p => (p.next, p.fs)) = (rplan fs ch l s).map (fun s => (s.next, s.out))
  | [], p, s, q, R, K, hk, hf, _, hn, ho, _, _, hK, _, _, _ => by
    have : K = [] := by simpa using hK
    subst this
    show some (p.next, p.fs) = some (s.next, s.out)
    rw [hn, ho, hf, List.append_nil]
  | x :: l, p, s, q, R, K, hk, hf, hfr, hn, ho, hl, hR, hK, hKf, hb, hc => by
    obtain ⟨l1, l2⟩ := List.pairwise_cons.1 hl
    rw [rplan_cons]
    by_cases hx : x.1 ∈ ch
    · have hC := hc x (by simp) hx
      rw [List.filter_cons_of_neg (by simpa using hx)] at hK
      rw [List.filter_cons_of_pos (by simpa using hx), List.map_cons, planF_cons]
      have hfn : freeN p.k = s.free.length := by rw [hk, freeN_mapK, hfr]
      unfold stepF rstep
      rw [hC, if_pos hx]
      dsimp only
      rw [hfn]
      by_cases hrm : s.free.length < many x.2.length
      · rw [if_pos hrm, if_pos hrm]
        rfl
      · rw [if_neg hrm, if_neg hrm]
        have hle : many x.2.length ≤ ((List.range n).filter (fun i => !q i)).length := by rw [← hfr]; omega
        have enew : newF x.1 x.2 p = rnew s x := by
          unfold newF rnew
          rw [hk, takeL_mapK n q hle, hn, hfr]
        have hKgt : ∀ f ∈ K, x.1 < f.name := fun f hf => by
          have hm : f.name ∈ K.map Fil.name := List.mem_map.2 ⟨f, hf, rfl⟩
          rw [hK] at hm
          obtain ⟨y, hy, e⟩ := List.mem_map.1 hm
          rw [← e]
          exact l1 y (List.mem_filter.1 hy).1
        have hins : insAt x.1 (R ++ K) = R.length := insAt_eq x.1 (R ++ K) R.length (by simp) (fun k y hkk hy => by
            rw [List.getElem?_append_left hkk] at hy
            exact hR y (List.mem_of_getElem? hy) x (by simp)) (fun k y hkk hy => by
            rw [List.getElem?_append_right hkk] at hy
            exact List.lt_asymm (hKgt y (List.mem_of_getElem? hy)))
        have efs : insF (newF x.1 x.2 p) p.fs = (R ++ [rnew s x]) ++ K := by
          have en : (newF x.1 x.2 p).name = x.1 := rfl
          unfold insF
          rw [en, hf, hins, enew]
          simp
        have hne : (p.next + 1) % 4294967296 = p.next + 1 := Nat.mod_eq_of_lt (by rw [List.length_cons] at hb; omega)
        refine plan_side C ch n fs hr l _ _ (fun j => q j || decide (j ∈ ((List.range n).filter (fun i => !q i)).take (many x.2.length))) (R ++ [rnew s x]) K (by dsimp only; rw [hk, takeK_mapK n q hle]) efs (by dsimp only; rw [free_rest, hfr]) (by dsimp only; rw [hne, hn]) (by dsimp only; rw [ho]) l2 (fun f hf y hy => ?_) hK hKf (by dsimp only; rw [hne]; rw [List.length_cons] at hb; omega) (fun y hy => hc y (by simp [hy]))
        rcases List.mem_append.1 hf with hf | hf
        · exact hR f hf y (by simp [hy])
        · rw [List.mem_singleton.1 hf]
          exact l1 y hy
    · rw [List.filter_cons_of_pos (by simpa using hx), List.map_cons] at hK
      rw [List.filter_cons_of_neg (by simpa using hx)]
      cases K with
      | nil => cases hK
      | cons f K =>
        rw [List.map_cons] at hK
        injection hK with e1 e2
        have hone : fs.filter (fun g => decide (g.name = x.1)) = [f] := by
          rw [← e1]
          exact filter_one hr (hKf f (by simp))
        unfold rstep
        rw [if_neg hx, hone]
        refine plan_side C ch n fs hr l p _ q (R ++ [f]) K hk (by rw [hf]; simp) hfr hn (by dsimp only; rw [ho]) l2 (fun g hg y hy => ?_) e2 (fun g hg => hKf g (by simp [hg])) (by rw [List.length_cons] at hb; omega) (fun y hy => hc y (by simp [hy]))
        rcases List.mem_append.1 hg with hg | hg
        · exact hR g hg y (by simp [hy])
        · rw [List.mem_singleton.1 hg, e1]
          exact l1 y hy
/-- What stands of the files under way: nothing but their length may bar them. -/
structure RInv (n : Nat) (fs : List Fil) (next : Nat) (l : List FF) (s : RP) : Prop where
  each : ∀ f ∈ s.out, FOk s.next f
  rise : rises s.out
  ahead : ∀ f ∈ s.out, ∀ x ∈ l, f.name < x.1
  old : ∀ f ∈ s.out, f ∈ fs ∨ (next ≤ f.id ∧ ∀ i ∈ f.blocks, i ∉ bksL fs)
  ids : (s.out.map Fil.id).Nodup
  bks : (bksL s.out).Nodup
  free : s.free.Nodup ∧ ∀ i ∈ s.free, 32 ≤ i ∧ i < n ∧ i ∉ bksL fs ∧ i ∉ bksL s.out
  next : next ≤ s.next
theorem bksL_snoc (l : List Fil) (f : Fil) : bksL (l ++ [f]) = bksL l ++ f.blocks := by
  unfold bksL
  rw [List.flatMap_append]
  simp
theorem many_take {b : List UInt8} {free : List Nat} (h : ¬ free.length < many b.length) : many b.length = (free.take (many b.length)).length := by
  rw [List.length_take]
  omega
theorem ids_ne : ∀ {fs : List Fil}, (fs.map Fil.id).Nodup → ∀ {g f : Fil}, g ∈ fs → f ∈ fs → g ≠ f → g.id ≠ f.id
  | x :: r, hn, g, f, hg, hf, hne => by
    rw [List.map_cons] at hn
    obtain ⟨n1, n2⟩ := List.nodup_cons.1 hn
    rcases List.mem_cons.1 hg with eg | hg2
    · rcases List.mem_cons.1 hf with ef | hf2
      · exact absurd (eg.trans ef.symm) hne
      · exact fun e => n1 (List.mem_map.2 ⟨f, hf2, by rw [← eg]; exact e.symm⟩)
    · rcases List.mem_cons.1 hf with ef | hf2
      · exact fun e => n1 (List.mem_map.2 ⟨g, hg2, by rw [← ef]; exact e⟩)
      · exact ids_ne n2 hg2 hf2 hne
theorem RInv.step {n ver next : Nat} {fs : List Fil} {ch : List (List UInt8)} {l : List FF} {x : FF} {s s' : RP} (hok : Okm n ver next fs) (hn : n ≤ 65536) (h : RInv n fs next (x :: l) s) (hl : (x :: l).Pairwise (fun x y => x.1 < y.1)) (hx : 1 ≤ x.1.length ∧ x.1.length ≤ 32) (hu : x.1 ∈ ch ∨ ∃ f ∈ fs, f.name = x.1) (hs : rstep fs ch x s = some s') : RInv n fs next l s' := by
  obtain ⟨l1, l2⟩ := List.pairwise_cons.1 hl
  have hlast : ∀ (f : Fil), f.name = x.1 → rises (s.out ++ [f]) ∧ ∀ g ∈ s.out ++ [f], ∀ y ∈ l, g.name < y.1 := fun f hf => ⟨List.pairwise_append.2 ⟨h.rise, List.pairwise_singleton _ _, fun a ha b hb => by
    rw [List.mem_singleton.1 hb, hf]
    exact h.ahead a ha x (by simp)⟩, fun g hg y hy => by
    rcases List.mem_append.1 hg with hg | hg
    · exact h.ahead g hg y (by simp [hy])
    · rw [List.mem_singleton.1 hg, hf]
      exact l1 y hy⟩
  unfold rstep at hs
  by_cases hc : x.1 ∈ ch
  · rw [if_pos hc] at hs
    by_cases hr : s.free.length < many x.2.length
    · rw [if_pos hr] at hs; cases hs
    · rw [if_neg hr] at hs
      have hs := Option.some.inj hs
      subst hs
      obtain ⟨r1, r2⟩ := hlast (rnew s x) rfl
      have hsub : ∀ i ∈ (rnew s x).blocks, i ∈ s.free := fun i hi => List.mem_of_mem_take hi
      refine ⟨fun f hf => ?_, r1, r2, fun f hf => ?_, ?_, ?_, ⟨h.free.1.sublist (List.drop_sublist _ _), fun i hi => ?_⟩, by dsimp only; have := h.next; omega⟩
      · rcases List.mem_append.1 hf with hf | hf
        · have := h.each f hf
          exact ⟨this.n1, this.n2, by have := this.id; dsimp only; omega, this.many, this.blocks⟩
        · rw [List.mem_singleton.1 hf]
          exact ⟨hx.1, hx.2, Nat.lt_succ_self _, many_take hr, fun i hi => by have := h.free.2 i (hsub i hi); omega⟩
      · rcases List.mem_append.1 hf with hf | hf
        · exact h.old f hf
        · rw [List.mem_singleton.1 hf]
          exact .inr ⟨h.next, fun i hi => (h.free.2 i (hsub i hi)).2.2.1⟩
      · rw [List.map_append]
        refine List.nodup_append.2 ⟨h.ids, by simp, fun a ha b hb => ?_⟩
        obtain ⟨g, hg, e⟩ := List.mem_map.1 ha
        have hb : b = s.next := by simpa [rnew] using hb
        have := (h.each g hg).id
        omega
      · rw [bksL_snoc]
        refine List.nodup_append.2 ⟨h.bks, h.free.1.sublist (List.take_sublist _ _), fun a ha b hb => ?_⟩
        rintro rfl
        exact (h.free.2 a (hsub a hb)).2.2.2 ha
      · have hi2 := List.mem_of_mem_drop hi
        obtain ⟨f1, f2, f3, f4⟩ := h.free.2 i hi2
        refine ⟨f1, f2, f3, fun hm => ?_⟩
        rw [bksL_snoc] at hm
        rcases List.mem_append.1 hm with hm | hm
        · exact f4 hm
        · have hnd := h.free.1
          rw [← List.take_append_drop (many x.2.length) s.free] at hnd
          exact (List.nodup_append.1 hnd).2.2 i hm i hi rfl
  · rw [if_neg hc] at hs
    have hs := Option.some.inj hs
    subst hs
    obtain ⟨f, hf, hnm⟩ := hu.resolve_left hc
    rw [← hnm, filter_one hok.ok.rise hf]
    obtain ⟨r1, r2⟩ := hlast f hnm
    have hfo := hok.ok.each f hf
    have hlt : ∀ g ∈ s.out, g ≠ f := fun g hg e => by
      have := h.ahead g hg x (by simp)
      rw [e, hnm] at this
      exact List.lt_irrefl _ this
    refine ⟨fun g hg => ?_, r1, r2, fun g hg => ?_, ?_, ?_, ⟨h.free.1, fun i hi => ?_⟩, h.next⟩
    · rcases List.mem_append.1 hg with hg | hg
      · exact h.each g hg
      · rw [List.mem_singleton.1 hg]
        exact ⟨hfo.n1, hfo.n2, by have := hfo.id; have := h.next; dsimp only; omega, hfo.many, hfo.blocks⟩
    · rcases List.mem_append.1 hg with hg | hg
      · exact h.old g hg
      · rw [List.mem_singleton.1 hg]
        exact .inl hf
    · rw [List.map_append]
      refine List.nodup_append.2 ⟨h.ids, by simp, fun a ha b hb => ?_⟩
      obtain ⟨g, hg, e⟩ := List.mem_map.1 ha
      have hb : b = f.id := by simpa using hb
      rcases h.old g hg with hgf | hgn
      · intro hab
        have hnd := hok.ok.ids.1
        have : g = f := by
          by_cases hgf2 : g = f
          · exact hgf2
          · exact absurd (by omega : g.id = f.id) (ids_ne hnd hgf hf hgf2)
        exact hlt g hg this
      · have := hfo.id
        omega
    · rw [bksL_snoc]
      have hfb : f.blocks.Nodup := List.Nodup.sublist (l₂ := bksL fs) (by
        obtain ⟨a, b, e⟩ := List.append_of_mem hf
        rw [e]
        unfold bksL
        rw [List.flatMap_append, List.flatMap_cons]
        exact (List.sublist_append_left _ _).trans (List.sublist_append_right _ _)) hok.ok.bks.1
      refine List.nodup_append.2 ⟨h.bks, hfb, fun a ha b hb => ?_⟩
      rintro rfl
      obtain ⟨g, hg, hga⟩ := List.mem_flatMap.1 ha
      rcases h.old g hg with hgf | hgn
      · exact hlt g hg (bks_apart hok.ok.bks.1 hgf hf hga hb)
      · exact hgn.2 a hga (List.mem_flatMap.2 ⟨f, hf, hb⟩)
    · obtain ⟨f1, f2, f3, f4⟩ := h.free.2 i hi
      refine ⟨f1, f2, f3, fun hm => ?_⟩
      rw [bksL_snoc] at hm
      rcases List.mem_append.1 hm with hm | hm
      · exact f4 hm
      · exact f3 (List.mem_flatMap.2 ⟨f, hf, hm⟩)
theorem RInv.run {n ver next : Nat} {fs : List Fil} {ch : List (List UInt8)} (hok : Okm n ver next fs) (hn : n ≤ 65536) : ∀ {l : List FF} {s s' : RP}, RInv n fs next l s → l.Pairwise (fun x y => x.1 < y.1) → (∀ x ∈ l, (1 ≤ x.1.length ∧ x.1.length ≤ 32) ∧ (x.1 ∈ ch ∨ ∃ f ∈ fs, f.name = x.1)) → rplan fs ch l s = some s' → RInv n fs next [] s'
  | [], s, s', h, _, _, hs => by
    have hs : some s = some s' := hs
    cases hs
    exact h
  | x :: l, s, s', h, hl, hx, hs => by
    rw [rplan_cons] at hs
    cases ht : rstep fs ch x s with
    | none => rw [ht] at hs; cases hs
    | some t =>
      rw [ht] at hs
      exact RInv.run hok hn (h.step hok hn hl (hx x (by simp)).1 (hx x (by simp)).2 ht) (List.pairwise_cons.1 hl).2 (fun y hy => hx y (by simp [hy])) hs
theorem free_nums {n : Nat} {fs : List Fil} {i : Nat} : i ∈ freeB n fs ↔ i < n ∧ 32 ≤ i ∧ i ∉ bksL fs := by
  unfold Full.freeB Full.tkn
  rw [List.mem_filter, List.mem_range]
  simp
theorem rinv_start (n next : Nat) (fs : List Fil) (l : List FF) : RInv n fs next l ⟨freeB n fs, next, []⟩ :=
  ⟨fun f hf => (by cases hf), List.Pairwise.nil, fun f hf => (by cases hf), fun f hf => (by cases hf), List.nodup_nil, List.nodup_nil, ⟨List.nodup_range.filter _, fun i hi => by
    have := free_nums.1 hi
    exact ⟨this.2.1, this.1, this.2.2, fun hm => by cases hm⟩⟩, Nat.le_refl _⟩
theorem RInv.mok {n : Nat} {fs : List Fil} {next : Nat} {l : List FF} {s : RP} (h : RInv n fs next l s) : MOk s.next none [] [] s.out :=
  ⟨h.rise, fun p hp => (by cases hp), h.each, ⟨h.ids, fun f _ => List.not_mem_nil⟩, ⟨h.bks, fun i _ => List.not_mem_nil⟩⟩
/-- The other way round of allB_true. -/
theorem blkB_of : ∀ {l bks : List Nat}, l.Nodup → (∀ i ∈ l, i ∉ bks ∧ 32 ≤ i ∧ i < 65536) → blkB bks l = true
  | [], _, _, _ => rfl
  | i :: r, bks, h1, h2 => by
    obtain ⟨n1, n2⟩ := List.nodup_cons.1 h1
    obtain ⟨a, b, c⟩ := h2 i (by simp)
    unfold Mani.blkB
    rw [blkB_of n2 (fun j hj => ⟨fun hm => (List.mem_cons.1 hm).elim (fun e => n1 (by rw [← e]; exact hj)) (h2 j (by simp [hj])).1, (h2 j (by simp [hj])).2⟩)]
    have : bks.contains i = false := by
      cases hq : bks.contains i with
      | false => rfl
      | true => exact absurd (List.contains_iff_mem.1 hq) a
    rw [this, decide_eq_true b, decide_eq_true c]
    rfl
theorem allB_of {next : Nat} : ∀ {fs : List Fil} {prev : Option (List UInt8)} {ids bks : List Nat}, MOk next prev ids bks fs → allB next prev ids bks fs = true
  | [], _, _, _, _ => rfl
  | f :: r, prev, ids, bks, h => by
    have hf := h.each f (by simp)
    obtain ⟨r1, r2⟩ := List.pairwise_cons.1 h.rise
    have hid := h.ids.1
    rw [List.map_cons] at hid
    obtain ⟨i1, i2⟩ := List.nodup_cons.1 hid
    have eb : bksL (f :: r) = f.blocks ++ bksL r := by unfold bksL; rw [List.flatMap_cons]
    have hb := h.bks
    rw [eb] at hb
    obtain ⟨b1, b2, b3⟩ := List.nodup_append.1 hb.1
    have ih := allB_of (fs := r) (next := next) (prev := some f.name) (ids := f.id :: ids) (bks := f.blocks.reverse ++ bks) ⟨r2, fun p hp g hg => by cases hp; exact r1 g hg, fun g hg => h.each g (by simp [hg]), ⟨i2, fun g hg hm => by
        rcases List.mem_cons.1 hm with e | e
        · exact i1 (List.mem_map.2 ⟨g, hg, e⟩)
        · exact h.ids.2 g (by simp [hg]) e⟩, ⟨b2, fun i hi hm => by
        rcases List.mem_append.1 hm with e | e
        · exact b3 i (by simpa using e) i hi rfl
        · exact hb.2 i (by simp [hi]) e⟩⟩
    unfold Mani.allB
    rw [ih, Bool.and_true, Bool.and_eq_true]
    constructor
    · cases prev with
      | none => rfl
      | some p => simpa using h.prev p rfl f (by simp)
    · unfold Mani.rightB Mani.headB
      rw [blkB_of b1 (fun i hi => ⟨hb.2 i (by simp [hi]), hf.blocks i hi⟩), decide_eq_true hf.n1, decide_eq_true hf.n2, decide_eq_true hf.id, decide_eq_true hf.many]
      have : ids.contains f.id = false := by
        cases hq : ids.contains f.id with
        | false => rfl
        | true => exact absurd (List.contains_iff_mem.1 hq) (h.ids.2 f (by simp))
      rw [this]
      rfl
/-- The names that were written since: what Plan is told. -/
structure ChOk (C : Chg) (ch : List (List UInt8)) : Prop where
  some_ : ∀ x ∈ ch, C x ≠ none
  all_ : ∀ x b, C x = some (some b) → x ∈ ch
theorem row_ch {C : Chg} {H : Files} {ch : List (List UInt8)} {l : List FF} (hl : IsRow l (nowF C H)) (hc : ChOk C ch) : ∀ x ∈ l, (x.1 ∈ ch → C x.1 = some (some x.2)) ∧ (x.1 ∉ ch → C x.1 = none) := by
  intro x hx
  have hn := (hl.mem x.1 x.2).1 hx
  unfold nowF at hn
  cases hC : C x.1 with
  | none => exact ⟨fun h => absurd hC (hc.some_ _ h), fun _ => rfl⟩
  | some o =>
    rw [hC] at hn
    dsimp only at hn
    subst hn
    exact ⟨fun _ => rfl, fun h => absurd (hc.all_ _ _ hC) h⟩
theorem plan_ref {C : Chg} {H : Files} {ch ss : List (List UInt8)} {l : List FF} {bl : List (List UInt8)} {n ver next : Nat} {fs : List Fil} (hok : Okm n ver next fs) (hn : n ≤ 65536) (h32 : 32 ≤ n) (hd : OnDisk bl fs H) (hl : IsRow l (nowF C H)) (hc : ChOk C ch) (hK : Keys C ss) (hnx : next + l.length < 4294967296) (hv : ver < 18446744073709551615) (hx : ∀ x ∈ l, 1 ≤ x.1.length ∧ x.1.length ≤ 32) :
    planM C ss n ver next fs = (match rplan fs ch l ⟨freeB n fs, next, []⟩ with
      | none => none
      | some s => if (bodyL (ver + 1) s.next s.out).length ≤ 2035 then some (s.next, s.out) else none) ∧ ∀ s, rplan fs ch l ⟨freeB n fs, next, []⟩ = some s → RInv n fs next [] s := by
  have hrow := row_ch hl hc
  have hfs : ∀ nm, nm ∈ fs.map Fil.name ↔ H nm ≠ none := fun nm => by
    constructor
    · intro hm
      obtain ⟨f, hf, rfl⟩ := List.mem_map.1 hm
      obtain ⟨b, hb, _⟩ := hd.there f hf
      rw [hb]
      simp
    · intro hH
      by_cases hm : nm ∈ fs.map Fil.name
      · exact hm
      · exact absurd (hd.none_ nm hm) hH
  have hrise : (l.map Prod.fst).Pairwise (· < ·) := List.pairwise_map.2 hl.rise
  have hnow : ∀ nm, nm ∈ l.map Prod.fst ↔ nowF C H nm ≠ none := fun nm => by
    have := hl.none_ nm
    constructor
    · intro hm hne
      obtain ⟨x, hx, e⟩ := List.mem_map.1 hm
      exact (this.1 hne) x hx e
    · intro hne
      cases hq : nowF C H nm with
      | none => exact absurd hq hne
      | some b => exact List.mem_map.2 ⟨(nm, b), (hl.mem nm b).2 hq, rfl⟩
  have e1 : ss.filter (isW C) = (l.filter (fun x => decide (x.1 ∈ ch))).map Prod.fst := by
    refine rising_same (hK.rise.sublist List.filter_sublist) (hrise.sublist (List.filter_sublist.map _)) (fun nm => ?_)
    rw [List.mem_filter, List.mem_map]
    constructor
    · rintro ⟨_, hw⟩
      obtain ⟨b, hb⟩ := isW_iff.1 hw
      refine ⟨(nm, b), List.mem_filter.2 ⟨(hl.mem nm b).2 (by unfold nowF; rw [hb]), by simpa using hc.all_ nm b hb⟩, rfl⟩
    · rintro ⟨x, hxm, rfl⟩
      obtain ⟨h1, h2⟩ := List.mem_filter.1 hxm
      have h3 := (hrow x h1).1 (by simpa using h2)
      exact ⟨(hK.mem _).2 (by rw [h3]; simp), isW_iff.2 ⟨x.2, h3⟩⟩
  have e2 : (keepF C fs).map Fil.name = (l.filter (fun x => !decide (x.1 ∈ ch))).map Prod.fst := by
    have hr : (fs.map Fil.name).Pairwise (· < ·) := List.pairwise_map.2 hok.ok.rise
    refine rising_same (hr.sublist (List.filter_sublist.map _)) (hrise.sublist (List.filter_sublist.map _)) (fun nm => ?_)
    unfold keepF
    rw [List.mem_map, List.mem_map]
    constructor
    · rintro ⟨f, hfm, rfl⟩
      obtain ⟨h1, h2⟩ := List.mem_filter.1 hfm
      have hC : C f.name = none := by simpa using h2
      have hH := (hfs f.name).1 (List.mem_map.2 ⟨f, h1, rfl⟩)
      have hN : nowF C H f.name ≠ none := by unfold nowF; rw [hC]; exact hH
      obtain ⟨x, hxm, e⟩ := List.mem_map.1 ((hnow f.name).2 hN)
      refine ⟨x, List.mem_filter.2 ⟨hxm, ?_⟩, e⟩
      have : x.1 ∉ ch := fun hm => hc.some_ _ hm (by rw [e]; exact hC)
      simpa using this
    · rintro ⟨x, hxm, rfl⟩
      obtain ⟨h1, h2⟩ := List.mem_filter.1 hxm
      have hC := (hrow x h1).2 (by simpa using h2)
      have hN := (hnow x.1).1 (List.mem_map.2 ⟨x, h1, rfl⟩)
      have hH : H x.1 ≠ none := by unfold nowF at hN; rw [hC] at hN; exact hN
      obtain ⟨f, hf, e⟩ := List.mem_map.1 ((hfs x.1).2 hH)
      exact ⟨f, List.mem_filter.2 ⟨hf, by rw [e, hC]; rfl⟩, e⟩
  have hside := plan_side C ch n fs hok.ok.rise l (startF C n next fs) ⟨freeB n fs, next, []⟩ (tkn fs) [] (keepF C fs) (freeK_mapK hok h32) rfl rfl rfl rfl hl.rise (fun f hf => by cases hf) e2 (fun f hf => (List.mem_filter.1 hf).1) hnx (fun x hx => (hrow x hx).1)
  rw [← e1, ← planF_skip] at hside
  have hinv : ∀ s, rplan fs ch l ⟨freeB n fs, next, []⟩ = some s → RInv n fs next [] s := fun s hs => RInv.run hok hn (rinv_start n next fs l) hl.rise (fun x hxm => ⟨hx x hxm, by
    by_cases hm : x.1 ∈ ch
    · exact .inl hm
    · refine .inr ?_
      have hC := (hrow x hxm).2 hm
      have hN := (hnow x.1).1 (List.mem_map.2 ⟨x, hxm, rfl⟩)
      have hH : H x.1 ≠ none := by unfold nowF at hN; rw [hC] at hN; exact hN
      obtain ⟨f, hf, e⟩ := List.mem_map.1 ((hfs x.1).2 hH)
      exact ⟨f, hf, e⟩⟩) hs
  refine ⟨?_, hinv⟩
  unfold planM
  rw [if_neg (by omega)]
  cases hs : rplan fs ch l ⟨freeB n fs, next, []⟩ with
  | none =>
    rw [hs] at hside
    cases hp : planF C ss (startF C n next fs) with
    | none => rfl
    | some p => rw [hp] at hside; cases hside
  | some s =>
    rw [hs] at hside
    cases hp : planF C ss (startF C n next fs) with
    | none => rw [hp] at hside; cases hside
    | some p =>
      rw [hp] at hside
      injection hside with hside
      injection hside with q1 q2
      dsimp only
      rw [q1, q2]
      have hall := allB_of (hinv s hs).mok
      unfold Mani.mayB
      rw [hall, Bool.true_and]
      by_cases hb : (bodyL (ver + 1) s.next s.out).length ≤ 2035
      · rw [if_pos hb, if_pos (by simpa using hb)]
      · rw [if_neg hb, if_neg (by simpa using hb)]
end Go.Proofs.YtbfochdoeibofaaGreatDoor.RefF
