/- Layer 10: Write and Read of a store of which nothing was committed. -/
import Derived.Test.YtfgjnpbffppocaaGreatStore
import Derived.Test.YtfgjnpbffppocaaGreatMark
import Derived.Deep.RegionHeld3
namespace Go.Proofs.YtfgjnpbffppocaaGreat.Store
open Go.RowKit Go.Deep Mem Crc Disk Man Go.Maps

noncomputable def setC (C : Chg) (nm : List UInt8) (c : Option (Option (List UInt8))) : Chg := fun x => open Classical in if x = nm then c else C x
theorem setC_same (C : Chg) (nm : List UInt8) (c : Option (Option (List UInt8))) : setC C nm c nm = c := by unfold setC; rw [if_pos rfl]
theorem setC_other {C : Chg} {nm x : List UInt8} (c : Option (Option (List UInt8))) (h : x ≠ nm) : setC C nm c x = C x := by unfold setC; rw [if_neg h]
/-- A name as a value. -/
def nv (nm : List UInt8) : Value := .string ⟨nm.toArray⟩
theorem nv_key {nm : List UInt8} (h : nm.length ≤ 1000000) : keyOf Tryz.prog 9 (nv nm) = some (.string nm) := by
  have := Go.WideMaps.keyOf_string_mk (P := Tryz.prog) (k := 9) Tryz.underlying9 (s := ⟨nm.toArray⟩) (by show nm.toArray.size ≤ maxLen; unfold maxLen; simp; omega)
  simpa [nv] using this
theorem strKeyed : Go.Maps.Keyed Tryz.prog 9 := string_keyed Tryz.underlying9
/-- Behind a store into the changes' map. -/
theorem St.changed {w w1 : World} {Q : Nat → Prop} {s d g N cm : Nat} {off : Bool} {C : Chg} (h : St w Q s d g N cm off C) (hB : Below w.heap.size w w1) (L : List (List UInt8)) (hL : ∀ x, C x ≠ none → x ∈ L) (hn : L.length ≤ 1000000)
    (nm : List UInt8) (hnm : nm.length ≤ 1000000) (c : Option (List UInt8)) (v : Value) (hv : chgV w1 (fun k => w.heap.size ≤ k ∧ k < w1.heap.size) c v) :
    ∃ w2, (Instr.mapUpdate 70 (.map (some cm)) (nv nm) v).run Tryz.prog w1 = .ok () w2 ∧ St w2 (fun k => Q k ∨ (w.heap.size ≤ k ∧ k < w1.heap.size)) s d g N cm off (setC C nm (some c)) ∧ Only [cm] w w2 ∧ w2.heap.size = w1.heap.size := by
  have h1 := h.later hB
  obtain ⟨f, hm, hk, hf⟩ := h1.map
  obtain ⟨w2, hrun, hm2, hg, hs⟩ := hm.update strKeyed Tryz.underlying70 (L.map Lit.string) (fun x hx => by
    obtain ⟨y, rfl⟩ := hk x hx
    refine List.mem_map.2 ⟨y, hL y (fun hc => ?_), rfl⟩
    have := hf y
    unfold isChg at this
    rw [hc] at this
    exact hx this) (by rw [List.length_map]; unfold maxLen; omega) (nv_key hnm) v
  have ho : Only [cm] w1 w2 := Only.of_grown hg (fun g hg => by cases hg; exact .inl (by simp))
  have hdm : d ≠ cm := fun e => by
    have := hm.lt
    obtain ⟨D, n, ⟨es, cl, hb, _⟩, _⟩ := hm
    have hd := h1.disk.disk
    unfold Blk at hd
    rw [e, hb] at hd
    cases hd
  have hgm : g ≠ cm := fun e => by
    obtain ⟨D, n, ⟨es, cl, hb, _⟩, _⟩ := hm
    have hd := h1.disk.row
    unfold Blk at hd
    rw [e, hb] at hd
    cases hd
  have hsm : s ≠ cm := fun e => by
    obtain ⟨D, n, ⟨es, cl, hb, _⟩, _⟩ := hm
    have hd := h1.store
    unfold Blk at hd
    rw [e, hb] at hd
    cases hd
  have hcm := h.lt cm h.qm
  have hsz := hB.size
  have hkk : ∀ k, k < w1.heap.size → k ≠ cm → w2.heap[k]? = w1.heap[k]? := fun k hk hne => ho.block k hk (by simpa using hne)
  refine ⟨w2, hrun, ⟨(hkk s h1.store.lt hsm).trans h1.store, h1.disk.keep (hkk d h1.disk.disk.lt hdm) (hkk g h1.disk.row.lt hgm), ⟨_, hm2, fun x hx => ?_, fun x => ?_⟩, .inl h.qs, .inl h.qd, .inl h.qg, .inl h.qm, fun k hq => ?_⟩, (Only.of_below (bs := [cm]) hB).trans ho, hs⟩
  · by_cases e : x = .string nm
    · exact ⟨nm, e⟩
    · rw [setK_other _ e] at hx
      exact hk x hx
  · by_cases e : x = nm
    · subst e
      unfold isChg
      rw [setC_same, setK_same]
      exact ⟨v, rfl, hv.keep ho.size (fun k hq => hkk k hq.2 (by omega)) (fun k hq => ⟨.inr hq, by omega⟩)⟩
    · have h3 := hf x
      unfold isChg at h3 ⊢
      rw [setC_other _ e, setK_other _ (fun h => e (by injection h))]
      cases hc : C x with
      | none => rw [hc] at h3; exact h3
      | some c' =>
        rw [hc] at h3
        obtain ⟨u, hu, h4⟩ := h3
        exact ⟨u, hu, h4.keep ho.size (fun k hq => hkk k (h1.lt k hq.1) hq.2) (fun k hq => ⟨.inl hq.1, hq.2⟩)⟩
  · rw [hs]
    rcases hq with hq | hq
    · exact h1.lt k hq
    · exact hq.2
theorem len_name (nm : List UInt8) (w : World) : (Builtin.len_ #[9] 3 #[nv nm]).run Tryz.prog w = .ok (.int .i64 (nm.length : Int)) w := by
  simp [Builtin.len_, run_underlying Tryz.underlying9, nv, goInt, Result.andThen]
  rfl
set_option maxHeartbeats 400000 in
set_option maxRecDepth 100000 in
theorem write_any {w : World} {Q : Nat → Prop} {s d g N cm : Nat} {C : Chg} (h : St w Q s d g N cm false C) (L : List (List UInt8)) (hL : ∀ x, C x ≠ none → x ∈ L) (hn : L.length ≤ 1000000)
    (nm : List UInt8) (hn1 : 1 ≤ nm.length) (hn2 : nm.length ≤ 32) (a : Option Addr) (cp : Nat) (b : List UInt8) (hb : Lies w a (b.map bv)) (hb2 : b.length ≤ 1048576) :
    Calls Tryz.prog 44 #[.pointer (some ⟨s, 0, none⟩), nv nm, .slice a b.length cp] w fun e w' => e = .returned (.int .i64 0) ∧ ∃ Q', St w' Q' s d g N cm false (setC C nm (some (some b))) ∧ (∀ k, Q' k → Q k ∨ w.heap.size ≤ k) ∧ (∀ k, Q k → Q' k) ∧ Only [cm] w w' := by
  have HD := Lib.hid (down_any h)
  have HC := Lib.hid (clone_any a cp b w.drew hb (by omega))
  have H := Lib.hid h
  have c4 := h.store.cell 4
  have HLS := Lib.hid h.store.lt
  have HDR := Lib.hid ((Below.refl w.heap.size w).drew)
  simp at c4
  clear h hb
  have h0 : ((nm.length : Int) == 0) = false := by
    have : ¬ (nm.length : Int) = 0 := by omega
    simpa using this
  have h1 : decide (32 < (nm.length : Int)) = false := by
    have : ¬ 32 < (nm.length : Int) := by omega
    simpa using this
  have h2 : decide (1048576 < (b.length : Int)) = false := by
    have : ¬ 1048576 < (b.length : Int) := by omega
    simpa using this
  have hlen := len_name nm
  obtain ⟨x, hx⟩ : ∃ x, x = nv nm := ⟨_, rfl⟩
  obtain ⟨ln, hln⟩ : ∃ ln, ln = nm.length := ⟨_, rfl⟩
  rw [← hx, ← hln] at hlen
  rw [← hln] at h0 h1
  rw [← hx]
  have HX := Lib.hid hx
  clear hx hln
  go_enter Tryz.func44, Tryz.ntmps44
  go_wp2_with fail
  refine HD.out.mono ?_
  rintro e w1 ⟨rfl, rfl⟩
  go_wp2_with fail
  go_region_held3 (fun w' => w'.cell? ⟨s, 4, none⟩ = some (.map (some cm))) (first | exact c4 | exact hk2 | exact hk3) ((go_at_call 60; refine HC.out.mono ?_; rintro e w2 ⟨v, rfl, hO, hB2⟩; obtain ⟨va, vc, rfl, hvc, hvl, hvb, _⟩ := own_shape hO; obtain ⟨w3, hrun, hst3, ho3, hs3⟩ := H.out.changed (w1 := w2) (HDR.out.trans hB2) L hL hn nm (by omega) (some b) (.agg #[.slice va b.length vc, .bool false]) ⟨va, vc, rfl, hvc, hvl, hvb⟩; rw [← HX.out] at hrun; have hk2 := (hB2.cell (p := ⟨s, 4, none⟩) HLS.out).trans c4; have hk3 := hst3.store.cell 4; simp at hk3; dsimp only))
  go_wp2_with fail
  go_ret
  exact ⟨rfl, _, hst3, fun k hk => hk.imp id And.left, fun k hk => .inl hk, ho3⟩
end Go.Proofs.YtfgjnpbffppocaaGreat.Store
