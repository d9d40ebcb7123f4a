/- Layer 10: Names of a store of which nothing was committed. -/
import Derived.Test.YtfgjnpbffppocaaGreatStoreR
import Derived.Test.YtfgjnpbffppocaaGreatIter
import Derived.Maps.RangeWalk
import Derived.Outline
namespace Go.Proofs.YtfgjnpbffppocaaGreat.Store
open Go.RowKit Go.Deep Mem Crc Disk Man Go.Maps

def unit' : Value := .agg #[]
/-- Is there such a file? -/
def isFile (C : Chg) (nm : List UInt8) : Bool :=
  match C nm with
  | some (some _) => true
  | _ => false
/-- The names met so far: those that are no longer to come and not gone. -/
def Seen (C : Chg) (left : Lit → Bool) (fm : Lit → Option Value) : Prop := (∀ x, fm x ≠ none → ∃ nm, x = .string nm) ∧ ∀ nm, fm (.string nm) = if !left (.string nm) && isFile C nm then some unit' else none
theorem seen_step {C : Chg} {left : Lit → Bool} {fm : Lit → Option Value} (h : Seen C left fm) (nm : List UInt8) (u : Option Value) (hu : u = if isFile C nm then some unit' else none) : Seen C (fun z => left z && !z.sameKey (.string nm)) (setK fm (.string nm) u) := by
  refine ⟨fun x hx => ?_, fun x => ?_⟩
  · by_cases e : x = .string nm
    · exact ⟨nm, e⟩
    · rw [setK_other _ e] at hx
      exact h.1 x hx
  · by_cases e : x = nm
    · subst e
      rw [setK_same, hu]
      have : (Lit.string x).sameKey (.string x) = true := WideAt.sameKey_self trivial
      simp [this]
    · rw [setK_other _ (fun h => e (by injection h)), h.2 x]
      have : (Lit.string x).sameKey (.string nm) = false := Maps.sameKey_ne (fun h => e (by injection h))
      simp [this]
theorem setK_twice (f : Lit → Option Value) (k : Lit) (u v : Option Value) : setK (setK f k u) k v = setK f k v := by
  funext x
  by_cases e : x = k
  · subst e; rw [setK_same, setK_same]
  · rw [setK_other _ e, setK_other _ e, setK_other _ e]
theorem seen_start {w : World} {Q : Nat → Prop} {C : Chg} {D : DataW Value} {f : Lit → Option Value} (hd : Desc D f) (hf : ∀ nm, isChg w Q f C nm) : Seen C (Maps.has D) (fun _ => none) := ⟨fun x h => absurd rfl h, fun nm => by
  have := hf nm
  unfold isChg at this
  unfold isFile
  rw [(hd _).1]
  cases hc : C nm with
  | none => simp
  | some c =>
    rw [hc] at this
    obtain ⟨v, hv, _⟩ := this
    rw [hv]
    simp⟩
theorem support {L : List (List UInt8)} {C : Chg} {left : Lit → Bool} {fm : Lit → Option Value} (hL : ∀ x, C x ≠ none → x ∈ L) (h : Seen C left fm) : ∀ x, fm x ≠ none → x ∈ L.map Lit.string := fun x hx => by
  obtain ⟨nm, rfl⟩ := h.1 x hx
  refine List.mem_map.2 ⟨nm, hL nm (fun hc => hx ?_), rfl⟩
  rw [h.2 nm]
  unfold isFile
  rw [hc]
  simp
theorem strKeys_mem {D : DataW Value} {fm : Lit → Option Value} (hd : Desc D fm) (hs : ∀ x, fm x ≠ none → ∃ nm, x = .string nm) (hD : ∃ es, D = .map es ∧ es.Pairwise (fun p q => p.1 ≠ q.1) ∧ ∀ p ∈ es, WideAt.IsKeyLit p.1) (nm : List UInt8) : nm ∈ strKeys D ↔ fm (.string nm) ≠ none := by
  obtain ⟨es, rfl, _, hk⟩ := hD
  constructor
  · intro h
    obtain ⟨p, hp, rfl⟩ := List.mem_map.1 h
    have h1 : Maps.has (.map es) p.1 = true := List.any_eq_true.2 ⟨p, hp, WideAt.sameKey_self (hk p hp)⟩
    rw [(hd p.1).1] at h1
    have h2 : fm p.1 ≠ none := fun h => by rw [h] at h1; cases h1
    obtain ⟨m, hm⟩ := hs p.1 h2
    rw [hm] at h2 ⊢
    exact h2
  · intro h
    have h1 : Maps.has (.map es) (.string nm) = true := by
      rw [(hd _).1]
      exact Option.isSome_iff_ne_none.2 h
    obtain ⟨p, hp, hpk⟩ := List.any_eq_true.1 h1
    refine List.mem_map.2 ⟨p, hp, ?_⟩
    rw [WideAt.sameKey_eq hpk]
    rfl
theorem chg_shape {w : World} {Q : Nat → Prop} {C : Chg} {nm : List UInt8} {c : Option (List UInt8)} {v : Value} (hc : C nm = some c) (h : chgV w Q c v) : ∃ a n cp gn, v = .agg #[.slice a n cp, .bool gn] ∧ isFile C nm = !gn := by
  cases c with
  | none => exact ⟨none, 0, 0, true, h, by unfold isFile; rw [hc]; rfl⟩
  | some b =>
    obtain ⟨a, cp, e, _⟩ := h
    exact ⟨a, b.length, cp, false, e, by unfold isFile; rw [hc]; rfl⟩
theorem strKeys_length {D : DataW Value} (hD : ∃ es, D = .map es ∧ es.Pairwise (fun p q => p.1 ≠ q.1) ∧ ∀ p ∈ es, WideAt.IsKeyLit p.1) : (strKeys D).length = Maps.size D := by
  obtain ⟨es, rfl, _, _⟩ := hD
  simp [strKeys, Maps.size]
/-- What a step of the range meets. -/
theorem met {w : World} {Q : Nat → Prop} {C : Chg} {D : DataW Value} {f : Lit → Option Value} (hd : Desc D f) (hf : ∀ nm, isChg w Q f C nm) (hk : ∀ x, f x ≠ none → ∃ nm, x = .string nm) (hb : ∀ nm, C nm ≠ none → nm.length ≤ 1000000)
    {key v : Value} {kl : Lit} {y : DataW Value × List MemPlace} (hkey : keyOf Tryz.prog 9 key = some kl) (hv : anyR v = some y) (hat : ∀ zd, D.atKey kl zd = y.1) : ∃ nm c, kl = .string nm ∧ key = nv nm ∧ C nm = some c ∧ chgV w Q c v := by
  have h1 := Maps.has_true_of_atKey hat
  rw [(hd kl).1] at h1
  obtain ⟨u, hu⟩ := Option.isSome_iff_exists.1 h1
  obtain ⟨nm, rfl⟩ := hk kl (by rw [hu]; exact fun h => by cases h)
  have h2 := hf nm
  unfold isChg at h2
  cases hc : C nm with
  | none => rw [hc] at h2; rw [h2] at hu; cases hu
  | some c =>
    rw [hc] at h2
    obtain ⟨v2, h3, h4⟩ := h2
    have e1 : v = u := by
      have e := (hat (.held u)).symm.trans ((hd _).2 u hu (.held u))
      have e3 : y = (.held v, []) := (Option.some.inj hv).symm
      rw [e3] at e
      exact DataW.held.inj e
    have e2 : v2 = u := Option.some.inj (h3.symm.trans hu)
    refine ⟨nm, c, rfl, strKeyed.inj hkey (nv_key (hb nm (by rw [hc]; exact fun h => by cases h))), hc, ?_⟩
    rw [e1, ← e2]
    exact h4
set_option maxHeartbeats 400000 in
set_option maxRecDepth 100000 in
theorem names_any {w : World} {Q : Nat → Prop} {s d g N cm : Nat} {off : Bool} {C : Chg} (h : St w Q s d g N cm off C) (L : List (List UInt8)) (hL : ∀ x, C x ≠ none → x ∈ L) (hn : L.length ≤ 1000000) (hLn : ∀ x ∈ L, x.length ≤ 1000000) :
    Calls Tryz.prog 15 #[.pointer (some ⟨s, 0, none⟩)] w fun e w' => ∃ (v : Value) (ss : List (List UInt8)), e = .returned v ∧ w'.ownsRow w.heap.size 9 1 v ss.length (ss.map encStr) ∧ (∀ nm, nm ∈ ss ↔ isFile C nm = true) ∧ ss.length ≤ L.length ∧ Below w.heap.size w w' := by
  have c3 := h.store.cell 3
  have c4 := h.store.cell 4
  simp at c3 c4
  have H := Lib.hid h
  have hmk := run_makeMap (P := Tryz.prog) 65 w
  have ha := h.store.alloc (.map #[] 0)
  have k3 := ha.cell 3
  have k4 := ha.cell 4
  simp at k3 k4
  clear h ha
  go_enter Tryz.func15, Tryz.ntmps15
  go_wp2_with fail
  obtain ⟨W, hW⟩ : ∃ W, W = w.alloc (.map #[] 0) := ⟨_, rfl⟩
  have hM0 : MapIs W 9 w.heap.size (fun _ => none) := by rw [hW]; exact MapIs.made w _
  have hBW : Below w.heap.size w W := by rw [hW]; exact (Below.refl _ w).alloc (Nat.le_refl _) _
  rw [← hW] at k3 k4 ⊢
  have HM0 := Lib.hid hM0
  have HBW := Lib.hid hBW
  clear hM0 hBW hW hmk c3 c4
  go_loopw [17] (fun i wr => i = .int .i64 0 ∧ wr = W) (fun _ _ => 0)
  case atStart => exact ⟨rfl, rfl⟩
  case round =>
    obtain ⟨rfl, rfl⟩ := hrel
    obtain ⟨f, ⟨D, n, hown, hd⟩, hk, hf⟩ := (H.out.later HBW.out).map
    obtain ⟨W2, hrun, hrg, hgr, hsz⟩ := hown.range strKeyed Tryz.underlying70
    have hcm := H.out.lt cm H.out.qm
    have hW2 : Below wr.heap.size wr W2 := ⟨hgr.os, hgr.tape, hgr.output, hgr.size, fun k hk => hgr.block k hk (by simp)⟩
    have HR := Lib.hid hrg
    have HW2 := Lib.hid hW2
    have HF := Lib.hid hf
    have HD := Lib.hid hd
    have HK := Lib.hid hk
    have hn2 := HM0.out.lt
    have hM1 := HM0.out.keep (hW2.block w.heap.size hn2)
    have HM1 := Lib.hid hM1
    have hS : Seen C (Maps.has D) (fun _ => none) := seen_start hd hf
    have HS := Lib.hid hS
    have HBW2 := Lib.hid (HBW.out.trans (hW2.mono HBW.out.size))
    clear hrg hgr hW2 hf hd hk hM1 hS hown
    go_wp2_with fail
    obtain ⟨r, hr⟩ : ∃ r, r = wr.heap.size := ⟨_, rfl⟩
    rw [← hr] at HR ⊢
    have hrw : w.heap.size < r := by rw [hr]; exact HM0.out.lt
    have HRR := Lib.hid hr
    clear hr hrun
    go_loopw [] (fun wq => ∃ left cnt fm, Hid (wq.ranges Tryz.prog 9 anyR cm r n D left cnt) ∧ Hid (MapIs wq 9 w.heap.size fm) ∧ Hid (Seen C left fm) ∧ Hid (Below w.heap.size w wq)) (fun wq => wq.rangeLeft cm r)
    case atStart => exact ⟨_, _, _, HR, HM1, HS, HBW2⟩
    case round =>
      obtain ⟨left, cnt, fm, hR, hM, hS, hB⟩ := hrel
      have hsz := hB.out.size
      rcases hR.out.next strKeyed 0 with ⟨h0, hl, hrun⟩ | ⟨key, v, kl, y, w5, cnt', hkey, hlk, hv, hat, hrun, hR5, hlt, hg5, hs5, hen⟩
      · have HL := Lib.hid hl
        clear hl h0
        obtain ⟨D2, hown2, hd2⟩ := hM.out.bounded strKeyed (L.map Lit.string) (support hL hS.out)
        have hle := hown2.size_le
        rw [List.length_map] at hle
        have hKeys := callsIn_wide.1 (Tryz.maps_Keys_28 (some w.heap.size) wr)
        have hSort := callsIn_wide.1 (Tryz.slices_Sorted_keys_27_28 w.heap.size _ D2 anyR wr hown2 (by unfold maxLen; omega) (by omega))
        have HKY := Lib.hid hKeys
        have HST := Lib.hid hSort
        have HD2 := Lib.hid hd2
        have HO2 := Lib.hid hown2
        clear hown2 hd2 hKeys hSort
        go_wp2_with fail
        refine HKY.out.mono ?_
        rintro e w6 ⟨rfl, rfl⟩
        go_wp2_with fail
        refine HST.out.mono ?_
        rintro e w7 ⟨v, ss, rfl, hperm, hown7, _, hB7⟩
        have HO7 := Lib.hid hown7
        have HB7 := Lib.hid hB7
        have HP := Lib.hid hperm
        clear hown7 hB7 hperm
        go_wp2_with fail
        go_ret
        refine ⟨v, ss.mergeSort (fun x y => decide (x ≤ y)), rfl, ?_, fun nm => ?_, ?_, ?_⟩
        · rw [List.length_mergeSort]
          exact own_mono HO7.out (by simp; omega)
        · rw [List.mem_mergeSort, HP.out.mem_iff, strKeys_mem HD2.out hS.out.1 (HO2.out.entries strKeyed), hS.out.2 nm, HL.out]
          cases isFile C nm <;> simp
        · rw [List.length_mergeSort, HP.out.length_eq, strKeys_length (HO2.out.entries strKeyed)]
          exact hle
        · exact (hB.out.alloc hsz _).trans (HB7.out.mono (by simp; omega))
      · obtain ⟨nm, c, rfl, rfl, hc, hch⟩ := met HD.out HF.out HK.out (fun nm h => hLn nm (hL nm h)) hkey hv hat
        obtain ⟨a0, n0, cp0, gn, rfl, hgn⟩ := chg_shape hc hch
        have hlen : nm.length ≤ 1000000 := hLn nm (hL nm (by rw [hc]; exact fun h => by cases h))
        have hnr : w.heap.size ≠ r := by omega
        have hncm : w.heap.size ≠ cm := by have := H.out.lt cm H.out.qm; omega
        have hM5 := hM.out.keep (hg5.block w.heap.size hM.out.lt (fun e => hnr (by injection e)))
        obtain ⟨W3, hW3⟩ : ∃ W3, W3 = w5.alloc (.cells #[.slice a0 n0 cp0, .bool gn] 78) := ⟨_, rfl⟩
        have hM3 : MapIs W3 9 w.heap.size fm := by rw [hW3]; exact hM5.keep (Below.heap_alloc _ _ _ hM5.lt)
        have hR3 := hR5.alloc (.cells #[.slice a0 n0 cp0, .bool gn] 78)
        have hb3 := Blk.new w5 78 #[.slice a0 n0 cp0, .bool gn]
        have hB5 : Below w.heap.size w w5 := hB.out.grown hg5 (by omega) (fun q e => by cases e; omega)
        have hB3 : Below w.heap.size w W3 := by rw [hW3]; exact hB5.alloc (by omega) _
        rw [← hW3] at hR3 hb3
        have hs3 : W3.heap.size = w5.heap.size + 1 := by rw [hW3]; simp
        obtain ⟨W4, hU, hM4, hg4, hs4⟩ := hM3.update strKeyed Tryz.underlying65 (L.map Lit.string) (support hL hS.out) (by rw [List.length_map]; unfold maxLen; omega) hkey unit'
        have hB4 : Below w.heap.size w W4 := hB3.grown hg4 (by omega) (fun q e => by cases e; exact Nat.le_refl _)
        have hR4 := hR3.kept hg4 (fun e => hncm (by injection e with e; exact e.symm)) (fun e => hnr (by injection e with e; exact e.symm))
        have hb4 : Blk W4 w5.heap.size 78 #[.slice a0 n0 cp0, .bool gn] := (hg4.block w5.heap.size hb3.lt (fun e => by injection e with e; have := hM.out.lt; omega)).trans hb3
        obtain ⟨W6, hDl, hM6, hg6, hs6⟩ := hM4.drop strKeyed Tryz.underlying65 hkey 0
        have hB6 : Below w.heap.size w W6 := hB4.grown hg6 (by omega) (fun q e => by cases e; exact Nat.le_refl _)
        have hR6 := hR4.kept hg6 (fun e => hncm (by injection e with e; exact e.symm)) (fun e => hnr (by injection e with e; exact e.symm))
        rw [setK_twice] at hM6
        have b1 := hb4.cell 1
        simp at b1
        have hfile : isFile C nm = !gn := hgn
        have hS4 := seen_step hS.out nm (if isFile C nm then some unit' else none) rfl
        rw [hfile] at hS4
        obtain ⟨x, hx⟩ : ∃ x, x = nv nm := ⟨_, rfl⟩
        have hml : wr.rangeLeft cm r = cnt := hR.out.left_eq
        rw [← hx] at hrun hen hU hDl
        have HW3 := Lib.hid hW3
        have HR4 := Lib.hid hR4
        have HR6 := Lib.hid hR6
        have HM4 := Lib.hid hM4
        have HM6 := Lib.hid hM6
        have HS4 := Lib.hid hS4
        have HB4 := Lib.hid hB4
        have HB6 := Lib.hid hB6
        have HML := Lib.hid hml
        rw [hW3] at hU
        unfold unit' at hU
        clear hR4 hR6 hM4 hM6 hS4 hB4 hB6 hM5 hM3 hR3 hb3 hB3 hB5 hb4 hg4 hg5 hg6 hR5 hch hat hv hkey hx hS hM hR hml hW3 hs3 hs4 hs5 hs6 hlk hc hfile hgn
        cases gn
        · go_wp2_with fail
          exact ⟨⟨_, cnt', _, HR4, HM4, Lib.hid (by have := HS4.out; simpa using this), HB4⟩, by rw [HR4.out.left_eq, HML.out]; exact hlt⟩
        · go_wp2_with fail
          exact ⟨⟨_, cnt', _, HR6, HM6, Lib.hid (by have := HS4.out; simpa using this), HB6⟩, by rw [HR6.out.left_eq, HML.out]; exact hlt⟩
end Go.Proofs.YtfgjnpbffppocaaGreat.Store
