/- FuNames, FuRemove, PagesLaw, FreeLaw, Begin, OneLaw, On, in one text. -/
import Derived.Test.YtbfochdoeibofaaGreatDoorG25
import Derived.Test.YtbfochdoeibofaaGreatDoorG27
/- Layer 10: Names of a store, whatever was committed. -/
namespace Go.Proofs.YtbfochdoeibofaaGreatDoor.Full
open Go.RowKit Go.Deep Mem Crc Go.Maps Go.Proofs.YtbfochdoeibofaaGreatDoor.Dk Go.Proofs.YtbfochdoeibofaaGreatDoor.Mani
open Go.Proofs.YtbfochdoeibofaaGreatDoor.Store (Chg chgV isChg none' nv nv_key strKeyed zero_chg unit' isFile chg_shape met strKeys_mem strKeys_length setK_twice)
variable {w : World} {Q : Nat → Prop} {s d g cm : Nat} {wv : Value} {m : DM} {ver next : Nat} {a : Option Addr} {c : Nat} {l : List FR} {bad : Bool} {C : Chg}
/-- The names so far: those of base, and what the changes that were met make of them. -/
def Seen2 (base : List (List UInt8)) (C : Chg) (left : Lit → Bool) (fm : Lit → Option Value) : Prop := (∀ x, fm x ≠ none → ∃ nm, x = .string nm) ∧ ∀ nm, fm (.string nm) = if (!left (.string nm) && (C nm).isSome) = true then (if isFile C nm = true then some unit' else none) else (if nm ∈ base then some unit' else none)
theorem seen2_step {base : List (List UInt8)} {left : Lit → Bool} {fm : Lit → Option Value} (h : Seen2 base C left fm) (nm : List UInt8) (hc : (C nm).isSome = true) (u : Option Value) (hu : u = if isFile C nm = true then some unit' else none) : Seen2 base C (fun z => left z && !z.sameKey (.string nm)) (setK fm (.string nm) u) := by
  refine ⟨fun x hx => ?_, fun x => ?_⟩
  · by_cases e : x = .string nm
    · exact ⟨nm, e⟩
    · rw [setK_other _ e] at hx
      exact h.1 x hx
  · by_cases e : x = nm
    · subst e
      rw [setK_same, hu]
      have : (Lit.string x).sameKey (.string x) = true := WideAt.sameKey_self trivial
      simp [this, hc]
    · rw [setK_other _ (fun h => e (by injection h)), h.2 x]
      have : (Lit.string x).sameKey (.string nm) = false := Maps.sameKey_ne (fun h => e (by injection h))
      simp [this]
theorem seen2_start {Q' : Nat → Prop} {base : List (List UInt8)} {D : DataW Value} {f fm : Lit → Option Value} (hd : Desc D f) (hf : ∀ nm, isChg w Q' f C nm) (h1 : ∀ x, fm x ≠ none → ∃ nm, x = .string nm) (h2 : ∀ nm, fm (.string nm) = if nm ∈ base then some unit' else none) : Seen2 base C (Maps.has D) fm := ⟨h1, fun nm => by
  have := hf nm
  unfold isChg at this
  rw [h2 nm]
  cases hC : C nm with
  | none => simp
  | some y =>
    rw [hC] at this
    obtain ⟨v, hv, _⟩ := this
    have e : Maps.has D (.string nm) = true := by rw [(hd _).1, hv]; rfl
    simp [e]⟩
theorem seen2_support {base L : List (List UInt8)} {left : Lit → Bool} {fm : Lit → Option Value} (hL : ∀ x, C x ≠ none → x ∈ L) (h : Seen2 base C left fm) : ∀ x, fm x ≠ none → x ∈ (base ++ L).map Lit.string := fun x hx => by
  obtain ⟨nm, rfl⟩ := h.1 x hx
  refine List.mem_map.2 ⟨nm, ?_, rfl⟩
  rw [h.2 nm] at hx
  by_cases hb : (!left (.string nm) && (C nm).isSome) = true
  · refine List.mem_append.2 (.inr (hL nm (fun e => ?_)))
    rw [e] at hb
    simp at hb
  · rw [if_neg hb] at hx
    by_cases hm : nm ∈ base
    · exact List.mem_append.2 (.inl hm)
    · rw [if_neg hm] at hx
      exact absurd rfl hx
/-- Is there such a file? -/
def hasF (C : Chg) (fs : List Fil) (nm : List UInt8) : Prop :=
  match C nm with
  | some (some _) => True
  | some none => False
  | none => nm ∈ fs.map Fil.name
theorem seen2_end {fs : List Fil} {left : Lit → Bool} {fm : Lit → Option Value} (h : Seen2 (fs.map Fil.name) C left fm) (hl : ∀ z, left z = false) (nm : List UInt8) : fm (.string nm) ≠ none ↔ hasF C fs nm := by
  rw [h.2 nm, hl]
  unfold hasF Store.isFile
  cases hC : C nm with
  | none => by_cases hm : nm ∈ fs.map Fil.name <;> simp [hm]
  | some y => cases y <;> simp
/-- The names of some files, as a map's keys. -/
structure BaseIs (base : List (List UInt8)) (fm : Lit → Option Value) : Prop where
  str : ∀ x, fm x ≠ none → ∃ nm, x = .string nm
  mem : ∀ nm, fm (.string nm) = if nm ∈ base then some unit' else none
theorem BaseIs.step {base : List (List UInt8)} {fm : Lit → Option Value} (h : BaseIs base fm) (nm : List UInt8) : BaseIs (base ++ [nm]) (setK fm (.string nm) (some unit')) := by
  refine ⟨fun x hx => ?_, fun x => ?_⟩
  · by_cases e : x = .string nm
    · exact ⟨nm, e⟩
    · rw [setK_other _ e] at hx
      exact h.str x hx
  · by_cases e : x = nm
    · subst e
      rw [setK_same]
      simp
    · rw [setK_other _ (fun h => e (by injection h)), h.mem x]
      simp [e]
theorem BaseIs.support {base : List (List UInt8)} {fm : Lit → Option Value} (h : BaseIs base fm) : ∀ x, fm x ≠ none → x ∈ base.map Lit.string := fun x hx => by
  obtain ⟨nm, rfl⟩ := h.str x hx
  refine List.mem_map.2 ⟨nm, ?_, rfl⟩
  rw [h.mem nm] at hx
  by_cases hm : nm ∈ base
  · exact hm
  · rw [if_neg hm] at hx
    exact absurd rfl hx
attribute [local go_sem] Oper.semAt_some
set_option maxHeartbeats 2000000 in
set_option maxRecDepth 100000 in
theorem fnames_any (h : Fu w Q s d g cm wv m ver next a c l bad C) (L : List (List UInt8)) (hL : ∀ x, C x ≠ none → x ∈ L) (hn : L.length ≤ 100000) (hLn : ∀ x ∈ L, x.length ≤ 1000000) (hl : l.length ≤ 100000) (hls : ∀ x ∈ l, x.f.name.length ≤ 32) :
    Calls Tryz.prog 28 #[.pointer (some ⟨s, 0, none⟩)] w fun e w' => ∃ (v : Value) (ss : List (List UInt8)), e = .returned v ∧ w'.ownsRow w.heap.size 9 1 v ss.length (ss.map encStr) ∧ (∀ nm, nm ∈ ss ↔ hasF C (l.map FR.f) nm) ∧ ss.Pairwise (· < ·) ∧ ss.length ≤ l.length + L.length ∧ Below w.heap.size w w' := by
  obtain ⟨_, _, _, c3, c4, _⟩ := h.cells
  have H := Lib.hid h
  have HLS := Lib.hid hls
  have hmk := run_makeMap (P := Tryz.prog) 118 w
  obtain ⟨N, hN⟩ : ∃ N, N = l.length := ⟨_, rfl⟩
  rw [← hN] at c3
  have ha := h.store.alloc (.map #[] 0)
  have k3 := ha.cell 3
  have k4 := ha.cell 4
  simp at k3 k4
  rw [← hN] at k3 hl ⊢
  have HN := Lib.hid hN
  have HL := Lib.hid hL
  have HLN := Lib.hid hLn
  clear h ha hN hls hL hLn
  go_enter Tryz.func28, Tryz.ntmps28
  go_wp2_with fail
  obtain ⟨W, hW⟩ : ∃ W, W = w.alloc (.map #[] 0) := ⟨_, rfl⟩
  obtain ⟨nb, hnb⟩ : ∃ b, b = w.heap.size := ⟨_, rfl⟩
  have hM0 : MapIs W 9 nb (fun _ => none) := by rw [hW, hnb]; exact MapIs.made w _
  have hBW : Below w.heap.size w W := by rw [hW]; exact (Below.refl _ w).alloc (Nat.le_refl _) _
  rw [← hW] at k3 k4 ⊢
  rw [← hnb]
  have HM0 := Lib.hid hM0
  have HBW := Lib.hid hBW
  have HNB := Lib.hid hnb
  clear hM0 hBW hW hmk c3 c4 hnb
  go_loopw [17] (fun i wr => ∃ (j : Nat) (fm : Lit → Option Value), j ≤ N ∧ i = .int .i64 j ∧ Hid (MapIs wr 9 nb fm) ∧ Hid (BaseIs ((l.take j).map (fun x => x.f.name)) fm) ∧ Hid (Below w.heap.size w wr)) (fun i _ => N - (intOf i).toNat)
  case atStart => exact ⟨0, _, Nat.zero_le _, rfl, HM0, Lib.hid ⟨fun x hx => absurd rfl hx, fun nm => by simp⟩, HBW⟩
  case round =>
    obtain ⟨j, fm0, hj, rfl, hM, hBI, hB⟩ := hrel
    by_cases hlt : j < N
    · have hjd : decide ((j : Int) < (N : Int)) = true := decide_eq_true (by omega)
      obtain ⟨x, hx⟩ : ∃ x, l[j]? = some x := ⟨l[j]'(by rw [← HN.out]; exact hlt), List.getElem?_eq_getElem _⟩
      have hxm := List.mem_of_getElem? hx
      have hFr := H.out.later hB.out
      obtain ⟨ga, oa, rfl, f0, f1, f2, f3⟩ := hFr.files.cells hx
      obtain ⟨sb, hnm⟩ : ∃ sb : ByteArray, sv x.f.name = .string sb := ⟨_, rfl⟩
      have hnm2 : nv x.f.name = .string sb := hnm
      obtain ⟨sz, hsz⟩ : ∃ v, v = x.f.size := ⟨_, rfl⟩
      obtain ⟨id, hid⟩ : ∃ v, v = x.f.id := ⟨_, rfl⟩
      obtain ⟨bn, hbn⟩ : ∃ v, v = x.f.blocks.length := ⟨_, rfl⟩
      unfold iv at f2
      rw [hnm] at f0
      rw [← hid] at f1
      rw [← hsz] at f2
      rw [← hbn] at f3
      obtain ⟨W5, hW5⟩ : ∃ W, W = wr.alloc (.cells #[.string sb, .int .u32 (id : Int), .int .i64 (sz : Int), .slice x.a bn x.c] 96) := ⟨_, rfl⟩
      have hB5 : Below wr.heap.size wr W5 := by rw [hW5]; exact (Below.refl _ wr).alloc (Nat.le_refl _) _
      have hM5 : MapIs W5 9 nb fm0 := hM.out.keep (hB5.block nb hM.out.lt)
      obtain ⟨W6, hU, hM6, hg6, hs6⟩ := hM5.update strKeyed Tryz.underlying118 (((l.take j).map (fun x => x.f.name)).map Lit.string) hBI.out.support (by rw [List.length_map, List.length_map, List.length_take]; unfold maxLen; omega) (nv_key (nm := x.f.name) (by have := HLS.out x hxm; omega)) unit'
      have hBI6 := hBI.out.step x.f.name
      have htk : (l.take j).map (fun x => x.f.name) ++ [x.f.name] = (l.take (j + 1)).map (fun x => x.f.name) := by rw [List.take_add_one, hx]; simp
      rw [htk] at hBI6
      have hB6 : Below w.heap.size w W6 := (hB.out.trans (hB5.mono hB.out.size)).grown hg6 (Nat.le_trans hB.out.size hB5.size) (fun q e => by cases e; rw [HNB.out]; exact Nat.le_refl _)
      rw [hnm2] at hU
      unfold unit' at hU
      rw [hW5] at hU
      have HM6 := Lib.hid hM6
      have HBI6 := Lib.hid hBI6
      have HB6 := Lib.hid hB6
      clear hM5 hM6 hg6 hs6 hBI6 hB6 hB5 hW5 hFr hnm hnm2 hsz hid hbn hx hxm htk hM hBI hB
      go_wp2_with fail
      exact ⟨⟨j + 1, _, by omega, by simp, HM6, HBI6, HB6⟩, by simp [intOf]; omega⟩
    · obtain rfl : j = N := by omega
      have hjd : decide ((j : Int) < (j : Int)) = false := decide_eq_false (by omega)
      have htk : (l.take j).map (fun x => x.f.name) = (l.map FR.f).map Fil.name := by rw [List.take_of_length_le (by rw [HN.out]; exact Nat.le_refl _), List.map_map]; rfl
      have hbi := hBI.out
      rw [htk] at hbi
      have hlen0 : ((l.map FR.f).map Fil.name).length = j := by rw [List.length_map, List.length_map, HN.out]
      obtain ⟨f, ⟨D, n, hown, hd⟩, hk, hf⟩ := (H.out.later hB.out).map
      obtain ⟨W2, hrun, hrg, hgr, hsz⟩ := hown.range strKeyed Tryz.underlying88
      have hcm := H.out.lt cm H.out.qm
      have hW2 : Below wr.heap.size wr W2 := ⟨hgr.os, hgr.tape, hgr.output, hgr.size, fun k hk => hgr.block k hk (by simp)⟩
      have r4 := (hB.out.cell (p := ⟨s, 4, none⟩) H.out.store.lt).trans H.out.cells.2.2.2.2.1
      have HR := Lib.hid hrg
      have HW2 := Lib.hid hW2
      have HF := Lib.hid hf
      have HD := Lib.hid hd
      have HK := Lib.hid hk
      have hn2 := hM.out.lt
      have hM1 := hM.out.keep (hW2.block nb hn2)
      have HM1 := Lib.hid hM1
      have HS := Lib.hid (seen2_start hd hf hbi.str hbi.mem)
      have HBW2 := Lib.hid (hB.out.trans (hW2.mono hB.out.size))
      have HL0 := Lib.hid hlen0
      have hnr0 : nb ≠ wr.heap.size := by omega
      clear hrg hgr hW2 hf hd hk hM1 hown k3 k4 hbi htk hlen0
      go_wp2_with fail
      obtain ⟨r, hr⟩ : ∃ r, r = wr.heap.size := ⟨_, rfl⟩
      rw [← hr] at HR ⊢
      have hrw : nb < r := by rw [hr]; exact hn2
      have HRR := Lib.hid hr
      clear hr hrun
      go_loopw [] (fun wq => ∃ left cnt fm, Hid (wq.ranges Tryz.prog 9 anyR cm r n D left cnt) ∧ Hid (MapIs wq 9 nb fm) ∧ Hid (Seen2 ((l.map FR.f).map Fil.name) C left fm) ∧ Hid (Below w.heap.size w wq)) (fun wq => wq.rangeLeft cm r)
      case atStart => exact ⟨_, _, _, HR, HM1, HS, HBW2⟩
      case round =>
        obtain ⟨left, cnt, fm, hR, hM, hS, hB⟩ := hrel
        have hnbe := HNB.out
        have hsz := hB.out.size
        rcases hR.out.next strKeyed 0 with ⟨h0, hl, hrun⟩ | ⟨key, v, kl, y, w5, cnt', hkey, hlk, hv, hat, hrun, hR5, hlt, hg5, hs5, hen⟩
        · have HLF := Lib.hid hl
          clear hl h0
          obtain ⟨D2, hown2, hd2⟩ := hM.out.bounded strKeyed _ (seen2_support HL.out hS.out)
          have hle := hown2.size_le
          rw [List.length_map, List.length_append, HL0.out] at hle
          have hKeys := callsIn_wide.1 (Tryz.maps_Keys_59 (some nb) wr)
          have hSort := callsIn_wide.1 (Tryz.slices_Sorted_keys_58_59 nb _ D2 anyR wr hown2 (by unfold maxLen; omega) (by omega))
          have HKY := Lib.hid hKeys
          have HST := Lib.hid hSort
          have HD2 := Lib.hid hd2
          have HO2 := Lib.hid hown2
          clear hown2 hd2 hKeys hSort hnbe
          go_wp2_with fail
          refine HKY.out.mono ?_
          rintro e w6 ⟨rfl, rfl⟩
          go_wp2_with fail
          refine HST.out.mono ?_
          rintro e w7 ⟨v, ss, rfl, hperm, hown7, _, hB7⟩
          have HO7 := Lib.hid hown7
          have HB7 := Lib.hid hB7
          have HP := Lib.hid hperm
          clear hown7 hB7 hperm
          go_wp2_with fail
          go_ret
          refine ⟨v, ss.mergeSort (fun x y => decide (x ≤ y)), rfl, ?_, fun nm => ?_, sorted_names HP.out (strKeys_nodup HD2.out hS.out.1 (HO2.out.entries strKeyed)), ?_, ?_⟩
          · rw [List.length_mergeSort]
            exact own_mono HO7.out (by have := HNB.out; simp; omega)
          · rw [List.mem_mergeSort, HP.out.mem_iff, strKeys_mem HD2.out hS.out.1 (HO2.out.entries strKeyed)]
            exact seen2_end hS.out HLF.out nm
          · rw [List.length_mergeSort, HP.out.length_eq, strKeys_length (HO2.out.entries strKeyed)]
            omega
          · exact (hB.out.alloc hsz _).trans (HB7.out.mono (by have := HNB.out; simp; omega))
        · obtain ⟨nm, cc, rfl, rfl, hc, hch⟩ := met HD.out HF.out HK.out (fun nm h => HLN.out nm (HL.out nm h)) hkey hv hat
          obtain ⟨a0, n0, cp0, gn, rfl, hgn⟩ := chg_shape hc hch
          have hlen : nm.length ≤ 1000000 := HLN.out nm (HL.out nm (by rw [hc]; exact fun h => by cases h))
          have hnr : nb ≠ r := by omega
          have hncm : nb ≠ cm := by omega
          have hM5 := hM.out.keep (hg5.block nb hM.out.lt (fun e => hnr (by injection e)))
          obtain ⟨W3, hW3⟩ : ∃ W3, W3 = w5.alloc (.cells #[.slice a0 n0 cp0, .bool gn] 87) := ⟨_, rfl⟩
          have hM3 : MapIs W3 9 nb fm := by rw [hW3]; exact hM5.keep (Below.heap_alloc _ _ _ hM5.lt)
          have hR3 := hR5.alloc (.cells #[.slice a0 n0 cp0, .bool gn] 87)
          have hb3 := Blk.new w5 87 #[.slice a0 n0 cp0, .bool gn]
          have hB5 : Below w.heap.size w w5 := hB.out.grown hg5 (by omega) (fun q e => by cases e; omega)
          have hB3 : Below w.heap.size w W3 := by rw [hW3]; exact hB5.alloc (by omega) _
          rw [← hW3] at hR3 hb3
          have hs3 : W3.heap.size = w5.heap.size + 1 := by rw [hW3]; simp
          obtain ⟨W4, hU, hM4, hg4, hs4⟩ := hM3.update strKeyed Tryz.underlying118 _ (seen2_support HL.out hS.out) (by rw [List.length_map, List.length_append, HL0.out]; unfold maxLen; omega) hkey unit'
          have hB4 : Below w.heap.size w W4 := hB3.grown hg4 (by omega) (fun q e => by cases e; omega)
          have hR4 := hR3.kept hg4 (fun e => hncm (by injection e with e; exact e.symm)) (fun e => hnr (by injection e with e; exact e.symm))
          have hb4 : Blk W4 w5.heap.size 87 #[.slice a0 n0 cp0, .bool gn] := (hg4.block w5.heap.size hb3.lt (fun e => by injection e with e; have := hM.out.lt; omega)).trans hb3
          obtain ⟨W6, hDl, hM6, hg6, hs6⟩ := hM4.drop strKeyed Tryz.underlying118 hkey 0
          have hB6 : Below w.heap.size w W6 := hB4.grown hg6 (by omega) (fun q e => by cases e; omega)
          have hR6 := hR4.kept hg6 (fun e => hncm (by injection e with e; exact e.symm)) (fun e => hnr (by injection e with e; exact e.symm))
          rw [setK_twice] at hM6
          have b1 := hb4.cell 1
          simp at b1
          have hfile : isFile C nm = !gn := hgn
          have hS4 := seen2_step hS.out nm (by rw [hc]; rfl) (if isFile C nm = true then some unit' else none) rfl
          rw [hfile] at hS4
          obtain ⟨x, hx⟩ : ∃ x, x = nv nm := ⟨_, rfl⟩
          have hml : wr.rangeLeft cm r = cnt := hR.out.left_eq
          rw [← hx] at hrun hen hU hDl
          have HW3 := Lib.hid hW3
          have HR4 := Lib.hid hR4
          have HR6 := Lib.hid hR6
          have HM4 := Lib.hid hM4
          have HM6 := Lib.hid hM6
          have HS4 := Lib.hid hS4
          have HB4 := Lib.hid hB4
          have HB6 := Lib.hid hB6
          have HML := Lib.hid hml
          rw [hW3] at hU
          unfold unit' at hU
          clear hR4 hR6 hM4 hM6 hS4 hB4 hB6 hM5 hM3 hR3 hb3 hB3 hB5 hb4 hg4 hg5 hg6 hR5 hch hat hv hkey hx hS hM hR hml hW3 hs3 hs4 hs5 hs6 hlk hc hfile hgn hnbe
          cases gn
          · go_wp2_with fail
            exact ⟨⟨_, cnt', _, HR4, HM4, Lib.hid (by have := HS4.out; simpa using this), HB4⟩, by rw [HR4.out.left_eq, HML.out]; exact hlt⟩
          · go_wp2_with fail
            exact ⟨⟨_, cnt', _, HR6, HM6, Lib.hid (by have := HS4.out; simpa using this), HB6⟩, by rw [HR6.out.left_eq, HML.out]; exact hlt⟩
end Go.Proofs.YtbfochdoeibofaaGreatDoor.Full

/- Layer 10: Remove and Append of a store, whatever was committed. -/
namespace Go.Proofs.YtbfochdoeibofaaGreatDoor.Full
open Go.RowKit Go.Deep Mem Crc Go.Maps Go.Proofs.YtbfochdoeibofaaGreatDoor.Dk Go.Proofs.YtbfochdoeibofaaGreatDoor.Mani
open Go.Proofs.YtbfochdoeibofaaGreatDoor.Store (Chg chgV isChg none' nv nv_key strKeyed zero_chg setC setC_same setC_other)
variable {w : World} {Q : Nat → Prop} {s d g cm : Nat} {wv : Value} {m : DM} {ver next : Nat} {a : Option Addr} {c : Nat} {l : List FR} {bad : Bool} {C : Chg}
/-- Contains, on a row of names. -/
theorem contains_any (v : Value) (B : Nat) (ss : List (List UInt8)) (nm : List UInt8) (w : World) (h : w.ownsRow B 9 1 v ss.length (ss.map encStr)) (hm : ss.length ≤ 1000000) :
    Calls Tryz.prog 57 #[v, nv nm] w fun e w' => e = .returned (.bool (decide (nm ∈ ss))) ∧ w' = w := by
  obtain ⟨a, cap, rfl, hc, hL, _, _⟩ := own_shape h
  rcases hL with he | ⟨g, off, rfl, _, hcs⟩
  · have e0 : ss = [] := List.map_eq_nil_iff.1 he
    subst e0
    exact Tryz.slices_Contains_string_empty a cap ⟨nm.toArray⟩ w
  · have := Tryz.slices_Contains_string g off ss.length cap (ss.map fun l => (⟨l.toArray⟩ : ByteArray)) ⟨nm.toArray⟩ w (by simp) (by omega) (fun j hj => by
      rw [List.length_map] at hj
      have := hcs j (encStr ss[j]) (by simp [hj])
      rw [this]
      simp [hj])
    have hci : Lib.containsS ((ss.map fun l => (⟨l.toArray⟩ : ByteArray)).take ss.length) ⟨nm.toArray⟩ = decide (nm ∈ ss) := by
      refine Bool.eq_iff_iff.2 ?_
      rw [Lib.containsS_iff, List.take_of_length_le (by simp), decide_eq_true_eq]
      constructor
      · intro h
        obtain ⟨x, hx, e⟩ := List.mem_map.1 h
        injection e with e
        have e2 : x = nm := by
          have := congrArg Array.toList e
          simpa using this
        exact e2 ▸ hx
      · exact fun h => List.mem_map.2 ⟨nm, h, rfl⟩
    rw [hci] at this
    exact this
theorem fremove_off (h : Fu w Q s d g cm wv m ver next a c l bad C) (hb : (bad || m.off) = true) (x : Value) :
    Calls Tryz.prog 27 #[.pointer (some ⟨s, 0, none⟩), x] w fun e w' => e = .returned (.int .i64 6) ∧ w' = w := by
  have HD := Lib.hid (down_no h hb)
  clear h hb
  go_enter Tryz.func27, Tryz.ntmps27
  go_wp2_with fail
  refine HD.out.mono ?_
  rintro e w1 ⟨rfl, rfl⟩
  go_wp2_with fail
  go_ret
  exact ⟨rfl, rfl⟩
set_option maxHeartbeats 400000 in
set_option maxRecDepth 100000 in
theorem fremove_none (h : Fu w Q s d g cm wv m ver next a c l bad C) (hbad : (bad || m.off) = false) (L : List (List UInt8)) (hL : ∀ x, C x ≠ none → x ∈ L) (hn : L.length ≤ 100000) (hLn : ∀ x ∈ L, x.length ≤ 1000000) (hl : l.length ≤ 100000) (hls : ∀ x ∈ l, x.f.name.length ≤ 32) (nm : List UInt8) (hf : ¬ hasF C (l.map FR.f) nm) :
    Calls Tryz.prog 27 #[.pointer (some ⟨s, 0, none⟩), nv nm] w fun e w' => e = .returned (.int .i64 8) ∧ Below w.heap.size w w' := by
  have HD := Lib.hid (down_yes h hbad)
  have HN := Lib.hid (fnames_any h L hL hn hLn hl hls)
  have HNF := Lib.hid hf
  clear h hls hL hLn hf
  obtain ⟨x, hx⟩ : ∃ x, x = nv nm := ⟨_, rfl⟩
  rw [← hx]
  have HX := Lib.hid hx
  clear hx
  go_enter Tryz.func27, Tryz.ntmps27
  go_wp2_with fail
  refine HD.out.mono ?_
  rintro e w1 ⟨rfl, rfl⟩
  go_wp2_with fail
  refine HN.out.mono ?_
  rintro e w2 ⟨v, ss, rfl, hO, hmem, _, hle, hB2⟩
  have hC := contains_any v _ ss nm w2 hO (by omega)
  rw [decide_eq_false (fun h => HNF.out ((hmem nm).1 h)), ← HX.out] at hC
  have HC := Lib.hid hC
  have HB2 := Lib.hid hB2
  clear hO hmem hB2 hC
  go_wp2_with fail
  refine HC.out.mono ?_
  rintro e w4 ⟨rfl, rfl⟩
  go_wp2_with fail
  go_ret
  exact ⟨rfl, HB2.out⟩
set_option maxHeartbeats 400000 in
set_option maxRecDepth 100000 in
theorem fremove_any (h : Fu w Q s d g cm wv m ver next a c l bad C) (hbad : (bad || m.off) = false) (L : List (List UInt8)) (hL : ∀ x, C x ≠ none → x ∈ L) (hn : L.length ≤ 100000) (hLn : ∀ x ∈ L, x.length ≤ 1000000) (hl : l.length ≤ 100000) (hls : ∀ x ∈ l, x.f.name.length ≤ 32) (nm : List UInt8) (hnm : nm.length ≤ 1000000) (hf : hasF C (l.map FR.f) nm) :
    Calls Tryz.prog 27 #[.pointer (some ⟨s, 0, none⟩), nv nm] w fun e w' => e = .returned (.int .i64 0) ∧ ∃ Q', Fu w' Q' s d g cm wv m ver next a c l bad (setC C nm (some none)) ∧ (∀ k, Q' k → Q k ∨ w.heap.size ≤ k) ∧ (∀ k, Q k → Q' k) ∧ Only [cm] w w' := by
  have HD := Lib.hid (down_yes h hbad)
  have HN := Lib.hid (fnames_any h L hL hn hLn hl hls)
  have H := Lib.hid h
  have HLS := Lib.hid h.store.lt
  have HNF := Lib.hid hf
  have HL := Lib.hid hL
  have HLN := Lib.hid hLn
  clear h hls hL hLn hf
  obtain ⟨x, hx⟩ : ∃ x, x = nv nm := ⟨_, rfl⟩
  rw [← hx]
  have HX := Lib.hid hx
  clear hx
  go_enter Tryz.func27, Tryz.ntmps27
  go_wp2_with fail
  refine HD.out.mono ?_
  rintro e w1 ⟨rfl, rfl⟩
  go_wp2_with fail
  refine HN.out.mono ?_
  rintro e w2 ⟨v, ss, rfl, hO, hmem, _, hle, hB2⟩
  have hC := contains_any v _ ss nm w2 hO (by omega)
  rw [decide_eq_true ((hmem nm).2 HNF.out), ← HX.out] at hC
  have HC := Lib.hid hC
  obtain ⟨w3, hrun, hst3, ho3, hs3⟩ := H.out.changed (w1 := w2) hB2 L HL.out (by omega) nm hnm none (.agg #[.slice none 0 0, .bool true]) rfl
  rw [← HX.out] at hrun
  have c4 := (hB2.cell (p := ⟨s, 4, none⟩) HLS.out).trans H.out.cells.2.2.2.2.1
  have HST3 := Lib.hid hst3
  have HO3 := Lib.hid ho3
  clear hO hmem hB2 hst3 ho3 hs3 hC
  go_wp2_with fail
  refine HC.out.mono ?_
  rintro e w4 ⟨rfl, rfl⟩
  go_wp2_with fail
  go_ret
  exact ⟨rfl, _, HST3.out, fun k hk => hk.imp id And.left, fun k hk => .inl hk, HO3.out⟩
end Go.Proofs.YtbfochdoeibofaaGreatDoor.Full

/- Layer 10: what is on the disk behind a commit, plain: each file's pages. -/
namespace Go.Proofs.YtbfochdoeibofaaGreatDoor.Full
open Go.RowKit Go.Proofs.YtbfochdoeibofaaGreatDoor.Mani Go.Proofs.YtbfochdoeibofaaGreatDoor.Dk Go.Proofs.YtbfochdoeibofaaGreatDoor.Mem Go.Proofs.YtbfochdoeibofaaGreatDoor.Crc
open Go.Proofs.YtbfochdoeibofaaGreatDoor.Store (Chg Files)
open Go.Proofs.YtbfochdoeibofaaGreatDoor.Page (pageL pageB pageE pageN pageL_length)
open Go.Proofs.YtbfochdoeibofaaGreatDoor.Pages (pagesW)

theorem page_shape (file place : Nat) (b : List UInt8) : ∃ r, pageL file place b = four file ++ (four place ++ (four b.length ++ (b ++ r))) := by
  refine ⟨List.replicate (112 - b.length) 0 ++ four (sumF (four file ++ (four place ++ (four b.length ++ (b ++ List.replicate (112 - b.length) 0))))), ?_⟩
  unfold Page.pageL Crc.marked
  simp only [List.append_assoc]
theorem pageN_page (file place : Nat) {b : List UInt8} (h : b.length ≤ 112) : pageN (pageL file place b) = b.length := by
  obtain ⟨r, hr⟩ := page_shape file place b
  have e : (pageL file place b).getD 8 0 = UInt8.ofNat b.length := by rw [hr]; rfl
  unfold Page.pageN
  rw [e]
  have : (UInt8.ofNat b.length).toNat = b.length := by simp; omega
  omega
theorem pageB_page (file place : Nat) {b : List UInt8} (h : b.length ≤ 112) : pageB (pageL file place b) = b := by
  obtain ⟨r, hr⟩ := page_shape file place b
  unfold Page.pageB
  rw [pageN_page file place h]
  have e : (pageL file place b).drop 12 = b ++ r := by rw [hr]; rfl
  rw [e]
  exact List.take_left
theorem pageE_page (file place : Nat) {b : List UInt8} (h : b.length ≤ 112) : pageE (pageL file place b) file place = 0 := by
  unfold Page.pageE
  rw [pageB_page file place h, if_pos rfl]
/-- A file's pages lie on the disk. -/
structure PagesAt (bl : List (List UInt8)) (f : Fil) (b : List UInt8) : Prop where
  size : f.size = b.length
  many : Mani.many b.length = f.blocks.length
  at_ : ∀ k i, f.blocks[k]? = some i → bl[i]? = some (pageL f.id k ((b.drop (k * 112)).take 112))
theorem loadG_pages (bl : List (List UInt8)) (id : Nat) (b : List UInt8) : ∀ (rest : List Nat) (n : Nat), (∀ k i, rest[k]? = some i → bl[i]? = some (pageL id (n + k) ((b.drop ((n + k) * 112)).take 112))) → n + rest.length = Mani.many b.length → loadG bl id b.length n (b.take (n * 112)) rest = (b, 0)
  | [], n, _, hn => by
    have h := (many_cover (n := b.length)).1
    rw [List.length_nil, Nat.add_zero] at hn
    rw [← hn] at h
    show (b.take (n * 112), (0 : Int)) = _
    rw [List.take_of_length_le h]
  | i :: r, n, h, hn => by
    have h0 := h 0 i rfl
    rw [Nat.add_zero] at h0
    have hlt : n * 112 < b.length := (many_cover (n := b.length)).2 n (by rw [← hn, List.length_cons]; omega)
    have hg : bl.getD i [] = pageL id n ((b.drop (n * 112)).take 112) := by rw [List.getD_eq_getElem?_getD, h0]; rfl
    have hl : ((b.drop (n * 112)).take 112).length ≤ 112 := by rw [List.length_take]; omega
    unfold loadG
    rw [hg, pageE_page id n hl, pageB_page id n hl, if_pos ⟨rfl, by
      rw [List.length_take, List.length_drop, List.length_take]
      omega⟩]
    have e : b.take (n * 112) ++ (b.drop (n * 112)).take 112 = b.take ((n + 1) * 112) := by
      rw [Nat.succ_mul, List.take_add]
    rw [e]
    exact loadG_pages bl id b r (n + 1) (fun k j hk => by
      have := h (k + 1) j (by simpa using hk)
      rw [show n + 1 + k = n + (k + 1) by omega]
      exact this) (by rw [List.length_cons] at hn; omega)
theorem loadF_pages {bl : List (List UInt8)} {f : Fil} {b : List UInt8} (h : PagesAt bl f b) : loadF bl f = (b, 0) := by
  unfold loadF
  rw [h.size]
  have := loadG_pages bl f.id b f.blocks 0 (fun k i hk => by rw [Nat.zero_add]; exact h.at_ k i hk) (by rw [h.many, Nat.zero_add])
  rwa [Nat.zero_mul, List.take_zero] at this
theorem puts_other : ∀ (ws : List (Nat × List UInt8)) (bl : List (List UInt8)) (i : Nat), i ∉ ws.map Prod.fst → (puts bl ws)[i]? = bl[i]?
  | [], _, _, _ => rfl
  | x :: r, bl, i, h => by
    rw [List.map_cons, List.mem_cons] at h
    have h1 := puts_other r (bl.set x.1 x.2) i (fun hm => h (.inr hm))
    show (puts (bl.set x.1 x.2) r)[i]? = _
    rw [h1, List.getElem?_set_ne (fun e => h (.inl e.symm))]
theorem puts_at : ∀ (ws : List (Nat × List UInt8)) (bl : List (List UInt8)) (i : Nat) (x : List UInt8), (ws.map Prod.fst).Nodup → (i, x) ∈ ws → i < bl.length → (puts bl ws)[i]? = some x
  | y :: r, bl, i, x, hn, hm, hi => by
    rw [List.map_cons] at hn
    obtain ⟨h1, h2⟩ := List.nodup_cons.1 hn
    show (puts (bl.set y.1 y.2) r)[i]? = _
    rcases List.mem_cons.1 hm with rfl | hm
    · rw [puts_other r _ i h1, List.getElem?_set_self hi]
    · exact puts_at r _ i x h2 hm (by rw [List.length_set]; exact hi)
theorem pagesW_keys (id : Nat) (bl : List Nat) (b : List UInt8) : (pagesW id bl b).map Prod.fst = bl := by
  unfold Pages.pagesW
  rw [List.map_map]
  refine List.ext_getElem (by simp) (fun k h1 h2 => ?_)
  simp
  rw [List.getElem?_eq_getElem (by simpa using h2)]
  rfl
theorem fileW_keys (C : Chg) (f : Fil) : ((fileW C f).map Prod.fst).Sublist f.blocks := by
  unfold fileW
  split
  · rw [pagesW_keys]; exact List.Sublist.refl _
  · exact List.nil_sublist _
theorem chW_keys (C : Chg) : ∀ fs : List Fil, ((chW C fs).map Prod.fst).Sublist (bksL fs)
  | [] => List.Sublist.refl _
  | f :: r => by
    have h1 := fileW_keys C f
    have h2 := chW_keys C r
    unfold chW bksL at h2 ⊢
    rw [List.flatMap_cons, List.flatMap_cons, List.map_append]
    exact h1.append h2
theorem bks_apart : ∀ {fs : List Fil}, (bksL fs).Nodup → ∀ {f g : Fil}, f ∈ fs → g ∈ fs → ∀ {i : Nat}, i ∈ f.blocks → i ∈ g.blocks → f = g
  | x :: r, hn, f, g, hf, hg, i, h1, h2 => by
    unfold bksL at hn
    rw [List.flatMap_cons] at hn
    obtain ⟨n1, n2, n3⟩ := List.nodup_append.1 hn
    have hmem : ∀ {y : Fil}, y ∈ r → i ∈ y.blocks → i ∈ r.flatMap Fil.blocks := fun hy hi => List.mem_flatMap.2 ⟨_, hy, hi⟩
    rcases List.mem_cons.1 hf with rfl | hf2
    · rcases List.mem_cons.1 hg with rfl | hg2
      · rfl
      · exact absurd rfl (n3 i h1 i (hmem hg2 h2))
    · rcases List.mem_cons.1 hg with rfl | hg2
      · exact absurd rfl (n3 i h2 i (hmem hf2 h1))
      · exact bks_apart n2 hf2 hg2 h1 h2
theorem slotW_keys {at_ : Nat} {b : List UInt8} {i : Nat} (h : i ∈ (slotW at_ b).map Prod.fst) : at_ ≤ i ∧ i < at_ + 16 := by
  unfold Dk.slotW at h
  rw [List.map_map] at h
  obtain ⟨k, hk, rfl⟩ := List.mem_map.1 h
  have := List.mem_range.1 hk
  show at_ ≤ at_ + k ∧ at_ + k < at_ + 16
  omega
/-- A slot that was written: the disk. -/
theorem slot_bl {m : DM} {at_ : Nat} {b : List UInt8} (hw : m.wt = []) (h : (m.slot at_ b).2 = 0) : (m.slot at_ b).1.bl = puts m.bl (slotW at_ b) ∧ (m.slot at_ b).1.off = m.off ∧ (m.slot at_ b).1.wt = [] := by
  unfold DM.slot at h ⊢
  by_cases h0 : (m.writes (slotW at_ b)).2 = 0
  · rw [if_pos h0] at h ⊢
    obtain ⟨w1, w2, w3⟩ := writes_ok h0
    obtain ⟨s1, s2, s3⟩ := sync_ok h
    refine ⟨?_, s1.trans w2, s3⟩
    rw [s2, w1, w3, hw, List.nil_append]
  · rw [if_neg h0] at h
    exact absurd h h0
theorem mani_bl {m : DM} {ver : Nat} {b : List UInt8} (hw : m.wt = []) (h : (m.mani ver b).2 = 0) : (m.mani ver b).1.bl = puts (puts m.bl (slotW (ver % 2 * 16) b)) (slotW ((ver + 1) % 2 * 16) b) ∧ (m.mani ver b).1.off = m.off ∧ (m.mani ver b).1.wt = [] := by
  unfold DM.mani at h ⊢
  by_cases h0 : (m.slot (ver % 2 * 16) b).2 = 0
  · rw [if_pos h0] at h ⊢
    obtain ⟨a1, a2, a3⟩ := slot_bl hw h0
    obtain ⟨b1, b2, b3⟩ := slot_bl a3 h
    exact ⟨by rw [b1, a1], b2.trans a2, b3⟩
  · rw [if_neg h0] at h
    exact absurd h h0
/-- .. behind a commit. -/
theorem commit_bl {m : DM} {C : Chg} {fs : List Fil} {ver : Nat} {b : List UInt8} (hw : m.wt = []) (h : (commitD m C fs ver b).2 = 0) : (commitD m C fs ver b).1.bl = puts (puts (puts m.bl (chW C fs)) (slotW (ver % 2 * 16) b)) (slotW ((ver + 1) % 2 * 16) b) ∧ (commitD m C fs ver b).1.off = m.off ∧ (commitD m C fs ver b).1.wt = [] := by
  unfold commitD at h ⊢
  by_cases h0 : (m.writes (chW C fs)).2 = 0
  · rw [if_pos h0] at h ⊢
    by_cases h1 : (m.writes (chW C fs)).1.sync.2 = 0
    · rw [if_pos h1] at h ⊢
      obtain ⟨w1, w2, w3⟩ := writes_ok h0
      obtain ⟨s1, s2, s3⟩ := sync_ok h1
      obtain ⟨b1, b2, b3⟩ := mani_bl s3 h
      refine ⟨?_, b2.trans (s1.trans w2), b3⟩
      rw [b1, s2, w1, w3, hw, List.nil_append]
    · rw [if_neg h1] at h
      exact absurd h h1
  · rw [if_neg h0] at h
    exact absurd h h0
theorem commit_len {m : DM} {C : Chg} {fs : List Fil} {ver : Nat} {b : List UInt8} (hw : m.wt = []) (h : (commitD m C fs ver b).2 = 0) : (commitD m C fs ver b).1.bl.length = m.bl.length := by
  rw [(commit_bl hw h).1, puts_length, puts_length, puts_length]
theorem commit_at {m : DM} {C : Chg} {fs : List Fil} {ver : Nat} {b : List UInt8} (hw : m.wt = []) (h : (commitD m C fs ver b).2 = 0) {i : Nat} (hi : 32 ≤ i) : (commitD m C fs ver b).1.bl[i]? = (puts m.bl (chW C fs))[i]? := by
  rw [(commit_bl hw h).1]
  have hlt : ∀ v, i ∉ (slotW (v % 2 * 16) b).map Prod.fst := fun v hm => by
    have := slotW_keys hm
    have := Nat.mod_lt v (show 0 < 2 by decide)
    omega
  rw [puts_other _ _ _ (hlt _), puts_other _ _ _ (hlt _)]
/-- The files on a disk: their names, their bytes. -/
structure OnDisk (bl : List (List UInt8)) (fs : List Fil) (H : Files) : Prop where
  there : ∀ f ∈ fs, ∃ b, H f.name = some b ∧ PagesAt bl f b
  none_ : ∀ nm, nm ∉ fs.map Fil.name → H nm = none
/-- The files as they are with the changes. -/
def nowF (C : Chg) (H : Files) : Files := fun nm =>
  match C nm with
  | some o => o
  | none => H nm
/-- Which names the next manifest has. -/
theorem plan_names (C : Chg) : ∀ (ss : List (List UInt8)) (p p' : PL), planF C ss p = some p' → ∀ nm, nm ∈ p'.fs.map Fil.name ↔ nm ∈ p.fs.map Fil.name ∨ (nm ∈ ss ∧ ∃ b, C nm = some (some b))
  | [], p, p', h, nm => by
    have h : some p = some p' := h
    cases h
    simp
  | x :: r, p, p', h, nm => by
    unfold planF at h
    rw [List.foldl_cons] at h
    cases hs : stepF C x p with
    | none =>
      rw [show (some p : Option PL).bind (stepF C x) = none from hs, foldl_none] at h
      cases h
    | some q =>
      rw [show (some p : Option PL).bind (stepF C x) = some q from hs] at h
      rw [plan_names C r q p' h nm]
      have hq : nm ∈ q.fs.map Fil.name ↔ nm ∈ p.fs.map Fil.name ∨ (nm = x ∧ ∃ b, C nm = some (some b)) := by
        unfold stepF at hs
        cases hC : C x with
        | none =>
          rw [hC] at hs
          have hs := Option.some.inj hs
          subst hs
          refine ⟨.inl, fun h => h.elim id ?_⟩
          rintro ⟨rfl, b, hb⟩
          rw [hC] at hb
          cases hb
        | some o =>
          rw [hC] at hs
          cases o with
          | none =>
            have hs := Option.some.inj hs
            subst hs
            refine ⟨.inl, fun h => h.elim id ?_⟩
            rintro ⟨rfl, b, hb⟩
            rw [hC] at hb
            cases hb
          | some b =>
            dsimp only at hs
            split at hs
            · cases hs
            · have hs := Option.some.inj hs
              subst hs
              constructor
              · intro h
                obtain ⟨f, hf, rfl⟩ := List.mem_map.1 h
                rcases mem_ins.1 hf with rfl | hf
                · exact .inr ⟨rfl, b, hC⟩
                · exact .inl (List.mem_map.2 ⟨f, hf, rfl⟩)
              · rintro (h | ⟨rfl, _⟩)
                · obtain ⟨f, hf, rfl⟩ := List.mem_map.1 h
                  exact List.mem_map.2 ⟨f, mem_ins.2 (.inr hf), rfl⟩
                · exact List.mem_map.2 ⟨newF nm b p, mem_ins.2 (.inl rfl), rfl⟩
      rw [hq]
      constructor
      · rintro ((h | ⟨rfl, h⟩) | ⟨h1, h2⟩)
        · exact .inl h
        · exact .inr ⟨by simp, h⟩
        · exact .inr ⟨by simp [h1], h2⟩
      · rintro (h | ⟨h1, h2⟩)
        · exact .inl (.inl h)
        · rcases List.mem_cons.1 h1 with rfl | h1
          · exact .inl (.inr ⟨rfl, h2⟩)
          · exact .inr ⟨h1, h2⟩
/-- The files that were kept were there. -/
theorem plan_kept (C : Chg) : ∀ (ss : List (List UInt8)) (p p' : PL), (∀ nm ∈ ss, C nm ≠ none) → planF C ss p = some p' → ∀ f ∈ p'.fs, C f.name = none → f ∈ p.fs
  | [], p, p', _, h, f, hf, _ => by
    have h : some p = some p' := h
    cases h
    exact hf
  | x :: r, p, p', hss, h, f, hf, hc => by
    unfold planF at h
    rw [List.foldl_cons] at h
    cases hs : stepF C x p with
    | none =>
      rw [show (some p : Option PL).bind (stepF C x) = none from hs, foldl_none] at h
      cases h
    | some q =>
      rw [show (some p : Option PL).bind (stepF C x) = some q from hs] at h
      have h1 := plan_kept C r q p' (fun nm hnm => hss nm (by simp [hnm])) h f hf hc
      unfold stepF at hs
      split at hs
      · split at hs
        · cases hs
        · have hs := Option.some.inj hs
          subst hs
          rcases mem_ins.1 h1 with rfl | h1
          · exact absurd hc (hss x (by simp))
          · exact h1
      · have hs := Option.some.inj hs
        subst hs
        exact h1
/-- Behind a commit the files are those with the changes. -/
theorem commit_on {m : DM} {C : Chg} {ss : List (List UInt8)} {n ver next nx : Nat} {fs fs' : List Fil} {H : Files} (hn : n = m.bl.length) (hn2 : n ≤ 65536) (h : OnDisk m.bl fs H) (hok : Okm n ver next fs) (hC : ∀ nm b, C nm = some (some b) → b.length ≤ 1048576) (hK : Keys C ss) (hs : ∀ nm ∈ ss, nm.length ≤ 32) (hp : planM C ss n ver next fs = some (nx, fs')) (hw : m.wt = []) (b : List UInt8) (hz : (commitD m C fs' (ver + 1) b).2 = 0) : OnDisk (commitD m C fs' (ver + 1) b).1.bl fs' (nowF C H) := by
  obtain ⟨hok', hnew⟩ := plan_okm hok hn2 hC hK hs hp
  unfold planM at hp
  by_cases hv : ver = 18446744073709551615
  · rw [if_pos hv] at hp; cases hp
  rw [if_neg hv] at hp
  cases hF : planF C ss (startF C n next fs) with
  | none => rw [hF] at hp; cases hp
  | some p =>
    rw [hF] at hp
    dsimp only at hp
    by_cases hm : mayB (ver + 1) p.next p.fs = true
    · rw [if_pos hm] at hp
      have hp := Option.some.inj hp
      have e2 : p.fs = fs' := congrArg Prod.snd hp
      subst e2
      have hkn := (hok'.ok.bks).1
      have hkd : ((chW C p.fs).map Prod.fst).Nodup := (chW_keys C p.fs).nodup hkn
      refine ⟨fun f hf => ?_, fun nm hnm => ?_⟩
      · have hfo := hok'.ok.each f hf
        rcases hnew f hf with hc | ⟨b0, hc, hN⟩
        · have hf0 : f ∈ fs := (List.mem_filter.1 (plan_kept C ss _ p (fun nm hnm => (hK.mem nm).1 hnm) hF f hf hc)).1
          obtain ⟨b0, hb0, hP⟩ := h.there f hf0
          refine ⟨b0, by unfold nowF; rw [hc]; exact hb0, hP.size, hP.many, fun k i hk => ?_⟩
          have him := List.mem_of_getElem? hk
          rw [commit_at hw hz (hfo.blocks i him).1, puts_other, hP.at_ k i hk]
          intro hmk
          obtain ⟨w, hw2, rfl⟩ := List.mem_map.1 hmk
          obtain ⟨f', hf', hwf⟩ := List.mem_flatMap.1 hw2
          have hi' : w.1 ∈ f'.blocks := (fileW_keys C f').subset (List.mem_map.2 ⟨w, hwf, rfl⟩)
          have e : f = f' := bks_apart hkn hf hf' him hi'
          subst e
          unfold fileW at hwf
          rw [hc] at hwf
          cases hwf
        · refine ⟨b0, by unfold nowF; rw [hc], hN.size, hN.many.symm, fun k i hk => ?_⟩
          have him := List.mem_of_getElem? hk
          have hkl := (List.getElem?_eq_some_iff.1 hk).1
          rw [commit_at hw hz (hfo.blocks i him).1]
          refine puts_at _ _ _ _ hkd ?_ (by rw [← hn]; exact hN.in_ i him)
          refine List.mem_flatMap.2 ⟨f, hf, ?_⟩
          unfold fileW
          rw [hc]
          refine List.mem_map.2 ⟨k, List.mem_range.2 hkl, ?_⟩
          rw [List.getD_eq_getElem?_getD, hk]
          rfl
      · rw [plan_names C ss _ p hF nm] at hnm
        have h1 : nm ∉ (startF C n next fs).fs.map Fil.name := fun h => hnm (.inl h)
        have h2 : ¬ ∃ b, C nm = some (some b) := fun h => hnm (.inr ⟨(hK.mem nm).2 (by obtain ⟨b, hb⟩ := h; rw [hb]; exact fun h => by cases h), h⟩)
        unfold nowF
        cases hc : C nm with
        | none =>
          refine h.none_ nm (fun hm2 => h1 ?_)
          obtain ⟨f, hf, rfl⟩ := List.mem_map.1 hm2
          exact List.mem_map.2 ⟨f, List.mem_filter.2 ⟨hf, by rw [hc]; rfl⟩, rfl⟩
        | some o =>
          cases o with
          | none => rfl
          | some b0 => exact absurd ⟨b0, hc⟩ h2
    · rw [if_neg hm] at hp
      cases hp
/-- What Read tells. -/
theorem readF_now {bl : List (List UInt8)} {fs : List Fil} {H : Files} {C : Chg} (h : OnDisk bl fs H) (hr : rises fs) (nm : List UInt8) : readF bl C fs nm = match nowF C H nm with
  | some b => (b, 0)
  | none => ([], 8) := by
  unfold readF nowF
  cases hc : C nm with
  | some o => cases o <;> rfl
  | none =>
    dsimp only
    unfold heldF
    by_cases hm : nm ∈ fs.map Fil.name
    · obtain ⟨f, hf, rfl⟩ := List.mem_map.1 hm
      obtain ⟨b, hb, hP⟩ := h.there f hf
      rw [find_named hr hf, hb]
      exact loadF_pages hP
    · rw [find_none_named (fun f hf e => hm (List.mem_map.2 ⟨f, hf, e⟩)), h.none_ nm hm]
theorem hasF_now {bl : List (List UInt8)} {fs : List Fil} {H : Files} {C : Chg} (h : OnDisk bl fs H) (nm : List UInt8) : hasF C fs nm ↔ nowF C H nm ≠ none := by
  unfold hasF nowF
  cases hc : C nm with
  | some o => cases o <;> simp
  | none =>
    dsimp only
    constructor
    · intro hm
      obtain ⟨f, hf, rfl⟩ := List.mem_map.1 hm
      obtain ⟨b, hb, _⟩ := h.there f hf
      rw [hb]
      exact fun h => by cases h
    · intro hn
      exact Classical.byContradiction fun hm => hn (h.none_ nm hm)
/-- No fuse: nothing falls. -/
theorem deed_free {m : DM} (h : m.fuse < 0) : m.deed = (m, 0) := by
  unfold DM.deed
  rw [if_neg (by omega), if_neg (by omega)]
theorem write_free {m : DM} (h : m.fuse < 0) (i : Nat) (b : List UInt8) : (m.write i b).2 = 0 ∧ (m.write i b).1.fuse = m.fuse := by
  unfold DM.write
  rw [if_neg (by omega), deed_free h]
  exact ⟨rfl, rfl⟩
theorem writes_free : ∀ (l : List (Nat × List UInt8)) {m : DM}, m.fuse < 0 → (m.writes l).2 = 0 ∧ (m.writes l).1.fuse = m.fuse
  | [], _, _ => ⟨rfl, rfl⟩
  | x :: r, m, h => by
    obtain ⟨h1, h2⟩ := write_free h x.1 x.2
    obtain ⟨h3, h4⟩ := writes_free r (m := (m.write x.1 x.2).1) (by omega)
    unfold DM.writes
    rw [if_pos h1]
    exact ⟨h3, h4.trans h2⟩
theorem sync_free {m : DM} (h : m.fuse < 0) : m.sync.2 = 0 ∧ m.sync.1.fuse = m.fuse := by
  unfold DM.sync
  rw [if_neg (by omega), deed_free h]
  exact ⟨rfl, rfl⟩
theorem slot_free {m : DM} (h : m.fuse < 0) (at_ : Nat) (b : List UInt8) : (m.slot at_ b).2 = 0 ∧ (m.slot at_ b).1.fuse = m.fuse := by
  obtain ⟨h1, h2⟩ := writes_free (slotW at_ b) h
  obtain ⟨h3, h4⟩ := sync_free (m := (m.writes (slotW at_ b)).1) (by omega)
  unfold DM.slot
  rw [if_pos h1]
  exact ⟨h3, h4.trans h2⟩
theorem commit_free {m : DM} (h : m.fuse < 0) (C : Chg) (fs : List Fil) (ver : Nat) (b : List UInt8) : (commitD m C fs ver b).2 = 0 ∧ (commitD m C fs ver b).1.fuse = m.fuse := by
  obtain ⟨h1, h2⟩ := writes_free (chW C fs) h
  obtain ⟨h3, h4⟩ := sync_free (m := (m.writes (chW C fs)).1) (by omega)
  obtain ⟨h5, h6⟩ := slot_free (m := (m.writes (chW C fs)).1.sync.1) (by omega) (ver % 2 * 16) b
  obtain ⟨h7, h8⟩ := slot_free (m := ((m.writes (chW C fs)).1.sync.1.slot (ver % 2 * 16) b).1) (by omega) ((ver + 1) % 2 * 16) b
  unfold commitD
  rw [if_pos h1, if_pos h3]
  unfold DM.mani
  rw [if_pos h5]
  exact ⟨h7, by omega⟩
end Go.Proofs.YtbfochdoeibofaaGreatDoor.Full

/- Layer 10: which blocks are free, plain. -/
namespace Go.Proofs.YtbfochdoeibofaaGreatDoor.Full
open Go.RowKit Go.Proofs.YtbfochdoeibofaaGreatDoor.Mani Go.Proofs.YtbfochdoeibofaaGreatDoor.Dk
open Go.Proofs.YtbfochdoeibofaaGreatDoor.Store (Chg)
open Go.Proofs.YtbfochdoeibofaaGreatDoor.Ext (takeL takeK freeN freeL frees flips flipK flipK_at fits outs turnK tak freeL_length)

/-- A map of blocks by what it tells of each. -/
def mapK (n : Nat) (p : Nat → Bool) : List Bool := (List.range n).map p
theorem mapK_length (n : Nat) (p : Nat → Bool) : (mapK n p).length = n := by unfold mapK; simp
theorem mapK_at {n : Nat} {p : Nat → Bool} {i : Nat} (h : i < n) : (mapK n p)[i]? = some (p i) := by unfold mapK; simp [h]
theorem mapK_get {n : Nat} {p : Nat → Bool} {i : Nat} (h : i < n) (d : Bool) : (mapK n p).getD i d = p i := by rw [List.getD_eq_getElem?_getD, mapK_at h]; rfl
theorem mapK_ext {n : Nat} {p q : Nat → Bool} (h : ∀ i, i < n → p i = q i) : mapK n p = mapK n q := by
  unfold mapK
  exact List.map_congr_left (fun i hi => h i (List.mem_range.1 hi))
theorem flip_mapK {n : Nat} {p : Nat → Bool} {i : Nat} (h : i < n) : flipK (mapK n p) i = mapK n (fun j => if j = i then !p j else p j) := by
  apply List.ext_getElem?
  intro j
  rw [flipK_at]
  by_cases hj : j < n
  · rw [mapK_at hj, mapK_at hj]
    by_cases e : i = j
    · rw [if_pos e, if_pos e.symm]; rfl
    · rw [if_neg e, if_neg (fun h => e h.symm)]
  · have h1 : (mapK n p)[j]? = none := List.getElem?_eq_none (by rw [mapK_length]; omega)
    rw [h1, List.getElem?_eq_none (by rw [mapK_length]; omega), if_neg (by omega)]
theorem fits_mapK {n : Nat} : ∀ {l : List Nat} {p : Nat → Bool}, l.Nodup → (∀ i ∈ l, i < n ∧ p i = false) → fits false (mapK n p) (ints l) = true ∧ flips (mapK n p) (ints l) = mapK n (fun j => p j || decide (j ∈ l))
  | [], p, _, _ => ⟨rfl, mapK_ext (fun i _ => by simp)⟩
  | i :: r, p, hn, h => by
    obtain ⟨n1, n2⟩ := List.nodup_cons.1 hn
    obtain ⟨h1, h2⟩ := h i (by simp)
    have hi : ((i : Nat) : Int).toNat = i := by simp
    have hr : ∀ j ∈ r, j < n ∧ (fun j => if j = i then !p j else p j) j = false := fun j hj => by
      obtain ⟨a1, a2⟩ := h j (by simp [hj])
      refine ⟨a1, ?_⟩
      dsimp only
      have hne : ¬ j = i := fun e => n1 (by rw [← e]; exact hj)
      rw [if_neg hne]
      exact a2
    obtain ⟨f1, f2⟩ := fits_mapK n2 hr
    have e : ints (i :: r) = (i : Int) :: ints r := rfl
    constructor
    · rw [e]
      unfold Ext.fits
      rw [hi, mapK_get h1, h2, flip_mapK h1, f1]
      rfl
    · rw [e]
      show flips (flipK (mapK n p) ((i : Int).toNat)) (ints r) = _
      rw [hi, flip_mapK h1, f2]
      refine mapK_ext (fun j hj => ?_)
      by_cases ej : j = i
      · subst ej
        simp [h2]
      · simp [ej]
theorem turn_mapK {n : Nat} {l : List Nat} {p : Nat → Bool} (hn : l.Nodup) (h : ∀ i ∈ l, i < n ∧ p i = false) : turnK (mapK n p) (ints l) false = mapK n (fun j => p j || decide (j ∈ l)) := by
  obtain ⟨f1, f2⟩ := fits_mapK hn h
  have ho : (ints l).any (outs (mapK n p).length) = false := by
    rw [mapK_length]
    refine List.any_eq_false.2 (fun x hx => ?_)
    obtain ⟨i, hi, rfl⟩ := List.mem_map.1 hx
    have := (h i hi).1
    unfold Ext.outs
    simp
    omega
  unfold Ext.turnK
  rw [ho, f1, if_neg (by decide), if_pos rfl, f2]
theorem slots_mapK {n : Nat} : ∀ {j : Nat}, j ≤ n → slotsK n j = mapK n (fun i => decide (i < j))
  | 0, _ => by
    unfold slotsK mapK
    rw [List.range_zero, List.foldl_nil]
    refine List.ext_getElem (by simp) (fun i h1 h2 => by simp)
  | j + 1, h => by
    rw [slotsK_succ, slots_mapK (j := j) (by omega)]
    have := turn_mapK (n := n) (l := [j]) (p := fun i => decide (i < j)) (by simp) (fun i hi => by
      rw [List.mem_singleton.1 hi]
      exact ⟨by omega, by simp⟩)
    rw [show ([(j : Int)] : List Int) = ints [j] from rfl, this]
    refine mapK_ext (fun i _ => ?_)
    rw [Bool.eq_iff_iff]
    simp
    omega
/-- Which blocks are taken. -/
def tkn (fs : List Fil) (i : Nat) : Bool := decide (i < 32) || decide (i ∈ bksL fs)
theorem files_mapK {n : Nat} : ∀ {fs : List Fil} {p : Nat → Bool}, (bksL fs).Nodup → (∀ i ∈ bksL fs, i < n ∧ p i = false) → filesK (mapK n p) fs = mapK n (fun j => p j || decide (j ∈ bksL fs))
  | [], p, _, _ => by
    show mapK n p = _
    exact mapK_ext (fun i _ => by simp [bksL])
  | f :: r, p, hn, h => by
    have e : bksL (f :: r) = f.blocks ++ bksL r := by unfold bksL; rw [List.flatMap_cons]
    rw [e] at hn h
    obtain ⟨n1, n2, n3⟩ := List.nodup_append.1 hn
    show filesK (turnK (mapK n p) (ints f.blocks) false) r = _
    rw [turn_mapK n1 (fun i hi => h i (by simp [hi])), files_mapK n2 (fun i hi => ?_)]
    · refine mapK_ext (fun i _ => ?_)
      rw [e]
      simp [Bool.or_assoc]
    · obtain ⟨h1, h2⟩ := h i (by simp [hi])
      refine ⟨h1, ?_⟩
      have : i ∉ f.blocks := fun hm => n3 i hm i hi rfl
      simp [h2, this]
theorem freeK_mapK {n ver next : Nat} {fs : List Fil} (h : Okm n ver next fs) (hn : 32 ≤ n) : freeK n fs = mapK n (tkn fs) := by
  unfold freeK
  rw [slots_mapK hn, files_mapK h.ok.bks.1 (fun i hi => ?_)]
  · rfl
  · obtain ⟨f, hf, hif⟩ := List.mem_flatMap.1 hi
    have h1 := (h.ok.each f hf).blocks i hif
    exact ⟨h.in_ f hf i hif, by simp; omega⟩
/-- The blocks that are free, by number. -/
def freeB (n : Nat) (fs : List Fil) : List Nat := (List.range n).filter (fun i => !tkn fs i)
theorem freeL_mapK (n : Nat) (p : Nat → Bool) : freeL (mapK n p) = ints ((List.range n).filter (fun i => !p i)) := by
  unfold Ext.freeL Ext.frees ints
  rw [mapK_length]
  congr 1
  refine List.filter_congr (fun i hi => ?_)
  dsimp only
  rw [mapK_get (List.mem_range.1 hi)]
theorem freeN_mapK (n : Nat) (p : Nat → Bool) : freeN (mapK n p) = ((List.range n).filter (fun i => !p i)).length := by
  rw [← freeL_length, freeL_mapK]
  unfold ints
  exact List.length_map _
theorem free_okm {n ver next : Nat} {fs : List Fil} (h : Okm n ver next fs) (hn : 32 ≤ n) : freeN (freeK n fs) = (freeB n fs).length := by
  rw [freeK_mapK h hn, freeN_mapK]
  rfl
theorem takeL_mapK (n : Nat) (p : Nat → Bool) {N : Nat} (h : N ≤ ((List.range n).filter (fun i => !p i)).length) : (takeL (mapK n p) (N : Int)).map Int.toNat = ((List.range n).filter (fun i => !p i)).take N := by
  unfold Ext.takeL
  rw [if_neg (by rw [freeN_mapK]; omega), freeL_mapK]
  unfold ints
  rw [show (N : Int).toNat = N by simp, ← List.map_take, List.map_map]
  exact (List.map_congr_left (fun a _ => rfl)).trans (List.map_id _)
/-- .. taken: the first ones. -/
theorem takeK_mapK (n : Nat) (p : Nat → Bool) {N : Nat} (h : N ≤ ((List.range n).filter (fun i => !p i)).length) : takeK (mapK n p) (N : Int) = mapK n (fun j => p j || decide (j ∈ ((List.range n).filter (fun i => !p i)).take N)) := by
  have hl : takeL (mapK n p) (N : Int) = ints (((List.range n).filter (fun i => !p i)).take N) := by
    unfold Ext.takeL
    rw [if_neg (by rw [freeN_mapK]; omega), freeL_mapK]
    unfold ints
    rw [show (N : Int).toNat = N by simp, ← List.map_take]
  unfold Ext.takeK
  rw [hl]
  refine (fits_mapK ((List.nodup_range.filter _).sublist (List.take_sublist _ _)) (fun i hi => ?_)).2
  have h1 := List.mem_filter.1 (List.mem_of_mem_take hi)
  exact ⟨List.mem_range.1 h1.1, by simpa using h1.2⟩
/-- The free ones behind: those that were not the first. -/
theorem free_rest (n : Nat) (p : Nat → Bool) (N : Nat) : (List.range n).filter (fun i => !(p i || decide (i ∈ ((List.range n).filter (fun i => !p i)).take N))) = ((List.range n).filter (fun i => !p i)).drop N := by
  obtain ⟨l, hl⟩ : ∃ l, l = (List.range n).filter (fun i => !p i) := ⟨_, rfl⟩
  have hnd : l.Nodup := by rw [hl]; exact List.nodup_range.filter _
  have e : (List.range n).filter (fun i => !(p i || decide (i ∈ l.take N))) = l.filter (fun i => !decide (i ∈ l.take N)) := by
    rw [hl, List.filter_filter]
    refine List.filter_congr (fun i _ => ?_)
    simp [Bool.and_comm]
  rw [← hl, e]
  have h2 : ∀ (a b : List Nat), (a ++ b).Nodup → (a ++ b).filter (fun i => !decide (i ∈ a)) = b := by
    intro a b hab
    obtain ⟨n1, n2, n3⟩ := List.nodup_append.1 hab
    rw [List.filter_append]
    have ha : a.filter (fun i => !decide (i ∈ a)) = [] := List.filter_eq_nil_iff.2 (fun i hi => by simp [hi])
    have hb : b.filter (fun i => !decide (i ∈ a)) = b := List.filter_eq_self.2 (fun i hi => by
      have : i ∉ a := fun hm => n3 i hm i hi rfl
      simp [this])
    rw [ha, hb, List.nil_append]
  have := h2 (l.take N) (l.drop N) (by rw [List.take_append_drop]; exact hnd)
  rwa [List.take_append_drop] at this
end Go.Proofs.YtbfochdoeibofaaGreatDoor.Full

/- palmerlaw10: begin. A store that was just opened, as one over any manifest. -/
namespace Go.Proofs.YtbfochdoeibofaaGreatDoor.Full
open Go.RowKit Go.Deep Mem Crc Go.Maps Go.Proofs.YtbfochdoeibofaaGreatDoor.Dk Go.Proofs.YtbfochdoeibofaaGreatDoor.Mani
open Go.Proofs.YtbfochdoeibofaaGreatDoor.Store (Chg chgV isChg none' nv Files St)
open Go.Proofs.YtbfochdoeibofaaGreatDoor.Disk (Blank zs)
open Go.Proofs.YtbfochdoeibofaaGreatDoor.Page (pageL)

/-- A new disk. -/
def D0 (N : Nat) : DM := ⟨List.replicate N (List.replicate 128 0), [], false, -1⟩
theorem blC_zeros (N : Nat) : blC (List.replicate N (List.replicate 128 0)) = List.replicate (N * 128) (.int .u8 0) := by
  induction N with
  | zero => rfl
  | succ n ih =>
    unfold Dk.blC at ih ⊢
    rw [List.replicate_succ, List.flatMap_cons, ih, List.map_replicate, Nat.succ_mul, Nat.add_comm, ← List.replicate_append_replicate]
    rfl
theorem blank_dk {w : World} {d g N : Nat} (h : Blank w d g N false) (hN : N ≤ 65536) : Dk w d g (.slice none 0 0) (D0 N) := by
  refine ⟨?_, ?_, World.ownsRow_nil _ _ _ _, ?_, ?_, (by show (-9223372036854775808 : Int) ≤ -1; decide), (by show (-1 : Int) ≤ 9223372036854775807; decide), ?_, fun _ => rfl⟩
  · have e : (D0 N).bl.length = N := by unfold D0; exact List.length_replicate
    rw [e]
    exact h.disk
  · have e : (blC (D0 N).bl).toArray = zs (N * 128) := by
      unfold D0
      rw [blC_zeros]
      unfold Disk.zs
      simp
    rw [e]
    exact h.row
  · intro b hb
    have := List.eq_of_mem_replicate hb
    rw [this]
    exact List.length_replicate
  · intro x hx
    cases hx
  · unfold D0
    rw [List.length_replicate]
    exact hN
theorem _root_.Go.Proofs.YtbfochdoeibofaaGreatDoor.Store.St.full {w : World} {Q : Nat → Prop} {s d g N cm : Nat} (h : St w Q s d g N cm false none') (hN : N ≤ 65536) : Fu w Q s d g cm (.slice none 0 0) (D0 N) 0 0 none 0 [] false none' := by
  obtain ⟨f, h1, h2, h3⟩ := h.map
  refine ⟨h.store, blank_dk h.disk hN, ⟨.inl rfl, fun x hx => (by cases hx)⟩, fun k e => (by cases e), fun x hx => (by cases hx), ⟨f, h1, h2, fun nm => h3 nm⟩, h.qs, h.qm, fun k hk => ?_, h.lt⟩
  rcases hk with rfl | rfl | e
  · exact h.qd
  · exact h.qg
  · cases e
theorem on_none (N : Nat) : OnDisk (D0 N).bl [] (fun _ => none) := ⟨fun f hf => (by cases hf), fun _ _ => rfl⟩
attribute [local go_sem] Oper.semAt_some
set_option maxHeartbeats 400000 in
theorem begin_any (N : Nat) (hN : 33 ≤ N) (hN2 : N ≤ 2000) (w : World) :
    Calls Tryz.prog 10 #[.int .i64 (N : Int)] w fun e w' => ∃ p s d g cm Q, e = .returned (.tuple #[.pointer (some ⟨p, 0, none⟩), .bool true]) ∧ Blk w' p 38 #[.pointer (some ⟨s, 0, none⟩), .pointer (some ⟨d, 0, none⟩), .int .u64 0, .int .u32 0, .slice none 0 0, .slice none 0 0, .slice none 0 0, .slice none 0 0, .bool false] ∧ Fu w' Q s d g cm (.slice none 0 0) (D0 N) 0 0 none 0 [] false none' ∧ ¬ Q p ∧ (∀ k, Q k → w.heap.size ≤ k) ∧ w.heap.size ≤ p ∧ Below w.heap.size w w' := by
  have HN : Hid (Calls Tryz.prog 29 #[.int .i64 (N : Int)] w fun e w' => ∃ d g, e = .returned (.tuple #[.pointer (some ⟨d, 0, none⟩), .int .i64 0]) ∧ Blank w' d g N false ∧ w.heap.size ≤ d ∧ w.heap.size ≤ g ∧ Below w.heap.size w w') := Lib.hid (Go.Proofs.YtbfochdoeibofaaGreatDoor.Disk.new_any N w (by omega) hN2)
  go_enter Tryz.func10, Tryz.ntmps10
  go_wp2_with fail
  refine HN.out.mono ?_
  rintro e w1 ⟨d, g, rfl, hD, hd, hg, hB1⟩
  have HO := Lib.hid (Go.Proofs.YtbfochdoeibofaaGreatDoor.Store.open_any (N := N) hN hD)
  have HB1 := Lib.hid hB1
  clear hD hB1
  go_wp2_with fail
  refine HO.out.mono ?_
  rintro e w2 ⟨s, cm, rfl, hst, hs, hcm, hB2⟩
  have HST := Lib.hid hst
  have HB2 := Lib.hid hB2
  clear hst hB2
  go_wp2_with fail
  have hz1 := HB1.out.size
  have hz2 := HB2.out.size
  have hq : ∀ k, (k = s ∨ k = d ∨ k = g ∨ k = cm) → w.heap.size ≤ k := fun k hk => by
    rcases hk with rfl | rfl | rfl | rfl <;> omega
  refine bodyPost_ret (v := .tuple #[.pointer (some ⟨w2.heap.size, 0, none⟩), .bool true]) (by simp [results, Tryz.results10, go_sem]) rfl ⟨w2.heap.size, s, d, g, cm, _, rfl, Blk.new w2 _ _, (HST.out.full (by omega)).later ((Below.refl _ w2).alloc (Nat.le_refl _) _), fun hk => ?_, hq, by omega, ((HB1.out.trans (HB2.out.mono hz1)).alloc (by omega) _)⟩
  have := HST.out.lt _ hk
  omega
end Go.Proofs.YtbfochdoeibofaaGreatDoor.Full

/- Layer 10: one file on a new disk, plain. -/
namespace Go.Proofs.YtbfochdoeibofaaGreatDoor.Full
open Go.RowKit Go.Proofs.YtbfochdoeibofaaGreatDoor.Mani Go.Proofs.YtbfochdoeibofaaGreatDoor.Dk Go.Proofs.YtbfochdoeibofaaGreatDoor.Varint
open Go.Proofs.YtbfochdoeibofaaGreatDoor.Store (Chg none' setC setC_same setC_other Files)
open Go.Proofs.YtbfochdoeibofaaGreatDoor.Ext (takeL takeK freeN)

/-- Blocks, each once, where they may be. -/
theorem blkB_of : ∀ {l bks : List Nat}, l.Nodup → (∀ i ∈ l, i ∉ bks ∧ 32 ≤ i ∧ i < 65536) → blkB bks l = true
  | [], _, _, _ => rfl
  | i :: r, bks, hn, h => by
    obtain ⟨n1, n2⟩ := List.nodup_cons.1 hn
    obtain ⟨h1, h2, h3⟩ := h i (by simp)
    unfold Mani.blkB
    have hc : bks.contains i = false := by
      cases hb : bks.contains i with
      | false => rfl
      | true => exact absurd (List.contains_iff_mem.1 hb) h1
    rw [hc, decide_eq_true h2, decide_eq_true h3, blkB_of n2 (fun j hj => ?_)]
    · rfl
    · obtain ⟨a1, a2⟩ := h j (by simp [hj])
      refine ⟨fun hm => ?_, a2⟩
      rcases List.mem_cons.1 hm with rfl | hm
      · exact n1 hj
      · exact a1 hm
/-- The changes: one file. -/
noncomputable def oneC (nm b : List UInt8) : Chg := setC none' nm (some (some b))
theorem oneC_same (nm b : List UInt8) : oneC nm b nm = some (some b) := setC_same _ _ _
theorem oneC_other {nm b x : List UInt8} (h : x ≠ nm) : oneC nm b x = none := setC_other _ h
theorem oneC_keys (nm b : List UInt8) : Keys (oneC nm b) [nm] := ⟨by simp, fun x => by
  rw [List.mem_singleton]
  by_cases e : x = nm
  · subst e
    rw [oneC_same]
    simp
  · rw [oneC_other e]
    simp [e]⟩
theorem oneC_in (nm b : List UInt8) : ∀ x, oneC nm b x ≠ none → x ∈ [nm] := fun x hx => ((oneC_keys nm b).mem x).2 hx
/-- The file. -/
def oneF (nm b : List UInt8) (N : Nat) : Fil := ⟨nm, 0, b.length, (freeB N []).take (Mani.many b.length)⟩
theorem freeB_mem {N : Nat} {fs : List Fil} {i : Nat} (h : i ∈ freeB N fs) : 32 ≤ i ∧ i < N ∧ i ∉ bksL fs := by
  obtain ⟨h1, h2⟩ := List.mem_filter.1 h
  have h3 := List.mem_range.1 h1
  unfold tkn at h2
  simp at h2
  exact ⟨h2.1, h3, h2.2⟩
theorem freeB_nodup (N : Nat) (fs : List Fil) : (freeB N fs).Nodup := List.nodup_range.filter _
theorem one_may {nm b : List UInt8} {N : Nat} (hN : N ≤ 65536) (h1 : 1 ≤ nm.length) (h2 : nm.length ≤ 32) (hb : b.length ≤ 10000) (hf : Mani.many b.length ≤ (freeB N []).length) : mayB 1 1 [oneF nm b N] = true := by
  have hl : (oneF nm b N).blocks.length = Mani.many b.length := by
    show ((freeB N []).take (Mani.many b.length)).length = _
    rw [List.length_take]
    omega
  have hbk : ∀ i ∈ (oneF nm b N).blocks, 32 ≤ i ∧ i < N := fun i hi => by
    have := freeB_mem (List.mem_of_mem_take hi)
    exact ⟨this.1, this.2.1⟩
  have hm : Mani.many b.length ≤ 100 := by
    unfold Mani.many
    split <;> omega
  have hR : rightB (oneF nm b N) 1 [] [] = true := by
    unfold Mani.rightB Mani.headB
    have hbb : blkB [] (oneF nm b N).blocks = true := blkB_of ((freeB_nodup N []).sublist (List.take_sublist _ _)) (fun i hi => ⟨List.not_mem_nil, (hbk i hi).1, by have := (hbk i hi).2; omega⟩)
    rw [hbb]
    have e1 : decide (1 ≤ (oneF nm b N).name.length) = true := decide_eq_true h1
    have e2 : decide ((oneF nm b N).name.length ≤ 32) = true := decide_eq_true h2
    have e3 : decide ((oneF nm b N).id < 1) = true := decide_eq_true (show 0 < 1 by decide)
    have e4 : decide (Mani.many (oneF nm b N).size = (oneF nm b N).blocks.length) = true := decide_eq_true hl.symm
    rw [e1, e2, e3, e4]
    rfl
  have hB : (bodyL 1 1 [oneF nm b N]).length ≤ 2035 := by
    have a1 := vput_length 0 1 (by decide)
    have a4 := filL_le (f := oneF nm b N) h2 ⟨by show (0 : Nat) < _; decide, by show b.length < _; omega, fun i hi => by have := (hbk i hi).2; omega⟩ (fun i hi => by have := (hbk i hi).2; omega)
    rw [hl] at a4
    unfold Mani.bodyL
    rw [List.flatMap_cons, List.flatMap_nil, List.append_nil]
    simp only [List.length_append, List.length_cons, List.length_nil, Nat.zero_add]
    omega
  unfold Mani.mayB Mani.allB
  rw [hR, decide_eq_true hB]
  rfl
theorem one_plan {nm b : List UInt8} {N : Nat} (hN1 : 32 ≤ N) (hN : N ≤ 65536) (h1 : 1 ≤ nm.length) (h2 : nm.length ≤ 32) (hb : b.length ≤ 10000) (hf : Mani.many b.length ≤ (freeB N []).length) : planM (oneC nm b) [nm] N 0 0 [] = some (1, [oneF nm b N]) := by
  have hk := freeK_mapK (okm_none N) hN1
  have hst : planF (oneC nm b) [nm] (startF (oneC nm b) N 0 []) = stepF (oneC nm b) nm (startF (oneC nm b) N 0 []) := by
    unfold planF
    rw [List.foldl_cons, List.foldl_nil]
    exact Option.bind_some _ _
  have hfn : ¬ freeN (freeK N []) < Mani.many b.length := by rw [free_okm (okm_none N) hN1]; omega
  have hstep : stepF (oneC nm b) nm (startF (oneC nm b) N 0 []) = some ⟨takeK (freeK N []) (Mani.many b.length : Nat), 1, [oneF nm b N]⟩ := by
    unfold stepF
    rw [oneC_same]
    dsimp only
    have e0 : (startF (oneC nm b) N 0 []).k = freeK N [] := by simp only [startF]
    rw [e0, if_neg hfn]
    have e1 : newF nm b (startF (oneC nm b) N 0 []) = oneF nm b N := by
      unfold newF oneF
      rw [e0, hk, takeL_mapK N (tkn []) hf]
      rfl
    rw [e1]
    rfl
  unfold planM
  rw [if_neg (by decide), hst, hstep]
  dsimp only
  rw [if_pos (one_may hN h1 h2 hb hf)]
set_option maxRecDepth 100000 in
theorem free40 : (freeB 40 []).length = 8 := by decide
set_option maxRecDepth 100000 in
theorem free60 : (freeB 60 []).length = 28 := by decide
set_option maxRecDepth 100000 in
theorem one40 (nm : List UInt8) : oneF nm [99] 40 = ⟨nm, 0, 1, [32]⟩ := by
  unfold oneF
  have : (freeB 40 []).take (Mani.many ([99] : List UInt8).length) = [32] := by decide
  rw [this]
  rfl
set_option maxRecDepth 100000 in
theorem free40' (nm : List UInt8) : (freeB 40 [⟨nm, 0, 1, [32]⟩]).length = 7 := by
  have e : freeB 40 [⟨nm, 0, 1, [32]⟩] = (List.range 40).filter (fun i => !(decide (i < 32) || decide (i ∈ [32]))) := rfl
  rw [e]
  decide
end Go.Proofs.YtbfochdoeibofaaGreatDoor.Full

/- Layer 10: a store on a disk that is on and has no fuse: what each call does. -/
namespace Go.Proofs.YtbfochdoeibofaaGreatDoor.Full
open Go.RowKit Go.Deep Mem Crc Go.Maps Go.Proofs.YtbfochdoeibofaaGreatDoor.Dk Go.Proofs.YtbfochdoeibofaaGreatDoor.Mani
open Go.Proofs.YtbfochdoeibofaaGreatDoor.Store (Chg chgV isChg none' nv Files setC setC_same setC_other)
open Go.Proofs.YtbfochdoeibofaaGreatDoor.Ext (Tab freeN)

/-- The changes are few, their names short, their bytes few. -/
def Few (C : Chg) (n : Nat) : Prop := ∃ L : List (List UInt8), (∀ x, C x ≠ none → x ∈ L) ∧ L.length ≤ n ∧ (∀ x ∈ L, x.length ≤ 32) ∧ ∀ nm b, C nm = some (some b) → b.length ≤ 1048576
theorem few_none (n : Nat) : Few none' n := ⟨[], fun x h => absurd rfl h, Nat.zero_le _, fun x hx => (by cases hx), fun nm b h => by cases h⟩
theorem Few.set {C : Chg} {n : Nat} (h : Few C n) (nm : List UInt8) (hn : nm.length ≤ 32) (o : Option (List UInt8)) (ho : ∀ b, o = some b → b.length ≤ 1048576) : Few (setC C nm (some o)) (n + 1) := by
  obtain ⟨L, h1, h2, h3, h4⟩ := h
  refine ⟨nm :: L, fun x hx => ?_, by simp; omega, fun x hx => ?_, fun x b hx => ?_⟩
  · by_cases e : x = nm
    · rw [e]; simp
    · rw [setC_other _ e] at hx
      exact List.mem_cons_of_mem _ (h1 x hx)
  · rcases List.mem_cons.1 hx with rfl | hx
    · exact hn
    · exact h3 x hx
  · by_cases e : x = nm
    · subst e
      rw [setC_same] at hx
      exact ho b (Option.some.inj hx)
    · rw [setC_other _ e] at hx
      exact h4 x b hx
theorem Few.mono {C : Chg} {n k : Nat} (h : Few C n) (hk : n ≤ k) : Few C k := by
  obtain ⟨L, h1, h2, h3⟩ := h
  exact ⟨L, h1, by omega, h3⟩
theorem dedup_of (p : List UInt8 → Prop) : ∀ L : List (List UInt8), (∀ x, p x → x ∈ L) → ∃ K : List (List UInt8), K.Nodup ∧ ∀ x, x ∈ K ↔ p x := by
  intro L hL
  have h : ∀ M : List (List UInt8), ∃ K : List (List UInt8), K.Nodup ∧ ∀ x, x ∈ K ↔ x ∈ M ∧ p x := by
    intro M
    induction M with
    | nil => exact ⟨[], List.nodup_nil, fun x => by simp⟩
    | cons a r ih =>
      obtain ⟨K, h1, h2⟩ := ih
      rcases Classical.em (a ∈ K ∨ ¬ p a) with h3 | h3
      · refine ⟨K, h1, fun x => ?_⟩
        rw [h2 x, List.mem_cons]
        constructor
        · exact fun h => ⟨.inr h.1, h.2⟩
        · rintro ⟨rfl | h4, h5⟩
          · rcases h3 with h3 | h3
            · exact (h2 x).1 h3
            · exact absurd h5 h3
          · exact ⟨h4, h5⟩
      · have h4 : a ∉ K := fun h => h3 (.inl h)
        have h5 : p a := Classical.byContradiction fun h => h3 (.inr h)
        refine ⟨a :: K, List.nodup_cons.2 ⟨h4, h1⟩, fun x => ?_⟩
        rw [List.mem_cons, h2 x, List.mem_cons]
        constructor
        · rintro (rfl | h)
          · exact ⟨.inl rfl, h5⟩
          · exact ⟨.inr h.1, h.2⟩
        · rintro ⟨rfl | h6, h7⟩
          · exact .inl rfl
          · exact .inr ⟨h6, h7⟩
  obtain ⟨K, h1, h2⟩ := h L
  exact ⟨K, h1, fun x => (h2 x).trans ⟨fun h => h.2, fun h => ⟨hL x h, h⟩⟩⟩
theorem keys_exist {C : Chg} {n : Nat} (h : Few C n) : ∃ ss, Keys C ss := by
  obtain ⟨L, h1, _⟩ := h
  obtain ⟨K, h2, h3⟩ := dedup_of (fun x => C x ≠ none) L h1
  exact ⟨_, sorted_names (List.Perm.refl K) h2, fun nm => by rw [List.mem_mergeSort]; exact h3 nm⟩
/-- All that stands. -/
structure On (B s d g cm : Nat) (w : World) (Q : Nat → Prop) (m : DM) (ver next : Nat) (fs : List Fil) (C : Chg) (H : Files) (n : Nat) : Prop where
  fu : ∃ wv a c l, Fu w Q s d g cm wv m ver next a c l false C ∧ l.map FR.f = fs
  off : m.off = false
  fuse : m.fuse < 0
  wt : m.wt = []
  big : 33 ≤ m.bl.length
  on : OnDisk m.bl fs H
  ok : Okm m.bl.length ver next fs
  few : Few C n
  base : ∀ k, Q k → B ≤ k
  tab : Tab w
  pos : 0 < B
  low : B ≤ w.heap.size
variable {B s d g cm : Nat} {w : World} {Q : Nat → Prop} {m : DM} {ver next : Nat} {fs : List Fil} {C : Chg} {H : Files} {n : Nat}
theorem On.small (h : On B s d g cm w Q m ver next fs C H n) : m.bl.length ≤ 65536 := by
  obtain ⟨wv, a, c, l, hf, _⟩ := h.fu
  exact hf.disk.small
theorem On.lt (h : On B s d g cm w Q m ver next fs C H n) : ∀ k, Q k → k < w.heap.size := by
  obtain ⟨wv, a, c, l, hf, _⟩ := h.fu
  exact hf.lt
theorem On.keep {w' : World} {X : Nat → Prop} (h : On B s d g cm w Q m ver next fs C H n) (hB : Upon X w w') (hX : ∀ k, X k → ¬ Q k ∧ k ≠ 0) : On B s d g cm w' Q m ver next fs C H n := by
  obtain ⟨wv, a, c, l, hf, hl⟩ := h.fu
  exact ⟨⟨wv, a, c, l, hf.upon hB (fun k hk => (hX k hk).1), hl⟩, h.off, h.fuse, h.wt, h.big, h.on, h.ok, h.few, h.base, fun j hj => (World.cell?_of_block (hB.block 0 h.tab.lt (fun e => (hX 0 e).2 rfl))).trans (h.tab j hj), h.pos, Nat.le_trans h.low hB.size⟩
theorem On.later {w' : World} (h : On B s d g cm w Q m ver next fs C H n) (hB : Below w.heap.size w w') : On B s d g cm w' Q m ver next fs C H n :=
  h.keep (X := fun _ => False) (Upon.of_below hB) (fun _ hf => hf.elim)
theorem On.mono {k : Nat} (h : On B s d g cm w Q m ver next fs C H n) (hk : n ≤ k) : On B s d g cm w Q m ver next fs C H k := ⟨h.fu, h.off, h.fuse, h.wt, h.big, h.on, h.ok, h.few.mono hk, h.base, h.tab, h.pos, h.low⟩
theorem On.up (h : On B s d g cm w Q m ver next fs C H n) {w' : World} (hu : Upon Q w w') : Below B w w' := hu.below h.low h.base
/-- The rest of what stands, behind a call that may have written the store alone. -/
theorem On.then {w' : World} {Q' : Nat → Prop} {m' : DM} {ver' next' : Nat} {fs' : List Fil} {C' : Chg} {H' : Files} {n' : Nat} (h : On B s d g cm w Q m ver next fs C H n) (hu : Upon Q w w') (hq : ∀ k, Q' k → Q k ∨ w.heap.size ≤ k) (hf : ∃ wv a c l, Fu w' Q' s d g cm wv m' ver' next' a c l false C' ∧ l.map FR.f = fs') (h1 : m'.off = false) (h2 : m'.fuse < 0) (h3 : m'.wt = []) (h4 : 33 ≤ m'.bl.length) (h5 : OnDisk m'.bl fs' H') (h6 : Okm m'.bl.length ver' next' fs') (h7 : Few C' n') : On B s d g cm w' Q' m' ver' next' fs' C' H' n' :=
  ⟨hf, h1, h2, h3, h4, h5, h6, h7, fun k hk => (hq k hk).elim (h.base k) (fun h8 => Nat.le_trans h.low h8), h.tab.below (h.up hu) h.pos, h.pos, Nat.le_trans h.low hu.size⟩
theorem on_write (h : On B s d g cm w Q m ver next fs C H n) (hn : n ≤ 100000) (nm : List UInt8) (h1 : 1 ≤ nm.length) (h2 : nm.length ≤ 32) (ad : Option Addr) (cp : Nat) (b : List UInt8) (hb : Lies w ad (b.map bv)) (hb2 : b.length ≤ 1048576) :
    Calls Tryz.prog 11 #[.pointer (some ⟨s, 0, none⟩), nv nm, .slice ad b.length cp] w fun e w' => e = .returned (.int .i64 0) ∧ ∃ Q', On B s d g cm w' Q' m ver next fs (setC C nm (some (some b))) H (n + 1) ∧ (∀ k, Q' k → Q k ∨ w.heap.size ≤ k) ∧ Upon Q w w' := by
  obtain ⟨wv, a, c, l, hf, hl⟩ := h.fu
  obtain ⟨L, l1, l2, l3, l4⟩ := h.few
  refine (fwrite_any hf (by rw [h.off]; rfl) L l1 (by omega) nm h1 h2 ad cp b hb hb2).mono ?_
  rintro e w' ⟨rfl, Q', hf', hq, _, ho⟩
  have hu : Upon Q w w' := Upon.of_only ho (fun k hk => .inl (by rw [List.mem_singleton.1 hk]; exact hf.qm))
  exact ⟨rfl, Q', h.then hu hq ⟨wv, a, c, l, hf', hl⟩ h.off h.fuse h.wt h.big h.on h.ok (h.few.set nm h2 (some b) (fun b' e => by cases e; exact hb2)), hq, hu⟩
theorem on_write_name (h : On B s d g cm w Q m ver next fs C H n) (nm : List UInt8) (hn : nm.length = 0 ∨ 32 < nm.length) (ad : Option Addr) (k cp : Nat) :
    Calls Tryz.prog 11 #[.pointer (some ⟨s, 0, none⟩), nv nm, .slice ad k cp] w fun e w' => e = .returned (.int .i64 8) ∧ w' = w := by
  obtain ⟨wv, a, c, l, hf, hl⟩ := h.fu
  exact fwrite_name hf (by rw [h.off]; rfl) nm hn ad k cp
theorem on_forget (h : On B s d g cm w Q m ver next fs C H n) :
    Calls Tryz.prog 24 #[.pointer (some ⟨s, 0, none⟩)] w fun e w' => e = .returned (.tuple #[]) ∧ On B s d g cm w' Q m ver next fs none' H 0 ∧ Upon Q w w' := by
  obtain ⟨wv, a, c, l, hf, hl⟩ := h.fu
  refine (forget_any hf).mono ?_
  rintro e w' ⟨rfl, hf', ho⟩
  have hu : Upon Q w w' := Upon.of_only ho (fun k hk => .inl (by rw [List.mem_singleton.1 hk]; exact hf.qm))
  exact ⟨rfl, h.then hu (fun k hk => .inl hk) ⟨wv, a, c, l, hf', hl⟩ h.off h.fuse h.wt h.big h.on h.ok (few_none 0), hu⟩
theorem on_names (h : On B s d g cm w Q m ver next fs C H n) (hn : n ≤ 90000) :
    Calls Tryz.prog 28 #[.pointer (some ⟨s, 0, none⟩)] w fun e w' => ∃ (v : Value) (ss : List (List UInt8)), e = .returned v ∧ w'.ownsRow w.heap.size 9 1 v ss.length (ss.map encStr) ∧ (∀ nm, nm ∈ ss ↔ nowF C H nm ≠ none) ∧ ss.Pairwise (· < ·) ∧ ss.length ≤ 2035 + n ∧ Below w.heap.size w w' := by
  obtain ⟨wv, a, c, l, hf, hl⟩ := h.fu
  obtain ⟨L, l1, l2, l3, l4⟩ := h.few
  have hfew := h.ok.few
  rw [← hl, List.length_map] at hfew
  refine (fnames_any hf L l1 (by omega) (fun x hx => by have := l3 x hx; omega) (by omega) (fun x hx => (h.ok.ok.each x.f (by rw [← hl]; exact List.mem_map.2 ⟨x, hx, rfl⟩)).n2)).mono ?_
  rintro e w' ⟨v, ss, rfl, h1, h2, h3, h4, h5⟩
  refine ⟨v, ss, rfl, h1, fun nm => ?_, h3, by omega, h5⟩
  rw [h2 nm, hl]
  exact hasF_now h.on nm
/-- What Read hands back. -/
def ansF (o : Option (List UInt8)) : List UInt8 × Int :=
  match o with
  | some b => (b, 0)
  | none => ([], 8)
theorem on_read (h : On B s d g cm w Q m ver next fs C H n) (nm : List UInt8) (hn : nm.length ≤ 1000000) :
    Calls Tryz.prog 12 #[.pointer (some ⟨s, 0, none⟩), nv nm] w fun e w' => ∃ v, e = .returned (.tuple #[v, .int .i64 (ansF (nowF C H nm)).2]) ∧ OwnB w' w.heap.size v (ansF (nowF C H nm)).1 ∧ Below w.heap.size w w' := by
  obtain ⟨wv, a, c, l, hf, hl⟩ := h.fu
  obtain ⟨L, l1, l2, l3, l4⟩ := h.few
  have hr : readF m.bl C fs nm = ansF (nowF C H nm) := readF_now h.on h.ok.ok.rise nm
  have := fread_any hf (by rw [hl]; exact h.ok) (by rw [h.off]; rfl) h.wt nm hn (fun b hb => by have := l4 nm b hb; omega)
  rw [hl, hr] at this
  exact this
theorem on_version (h : On B s d g cm w Q m ver next fs C H n) :
    Calls Tryz.prog 16 #[.pointer (some ⟨s, 0, none⟩)] w fun e w' => e = .returned (.int .u64 (ver : Int)) ∧ w' = w := by
  obtain ⟨wv, a, c, l, hf, hl⟩ := h.fu
  exact version_any hf
theorem on_free (h : On B s d g cm w Q m ver next fs C H n) :
    Calls Tryz.prog 17 #[.pointer (some ⟨s, 0, none⟩)] w fun e w' => e = .returned (.int .i64 ((freeB m.bl.length fs).length : Int)) ∧ Below w.heap.size w w' := by
  obtain ⟨wv, a, c, l, hf, hl⟩ := h.fu
  have hfew := h.ok.few
  have hl2 : l.length = fs.length := by rw [← hl, List.length_map]
  have := frees_any hf (by omega) (fun x hx => by
    have := bksL_mem (l := fs) (f := x.f) (by rw [← hl]; exact List.mem_map.2 ⟨x, hx, rfl⟩)
    omega)
  have hb := h.big
  rw [hl, free_okm h.ok (by omega)] at this
  exact this
theorem on_remove (h : On B s d g cm w Q m ver next fs C H n) (hn : n ≤ 90000) (nm : List UInt8) (hnm : nm.length ≤ 32) (hf : nowF C H nm ≠ none) :
    Calls Tryz.prog 27 #[.pointer (some ⟨s, 0, none⟩), nv nm] w fun e w' => e = .returned (.int .i64 0) ∧ ∃ Q', On B s d g cm w' Q' m ver next fs (setC C nm (some none)) H (n + 1) ∧ (∀ k, Q' k → Q k ∨ w.heap.size ≤ k) ∧ Upon Q w w' := by
  obtain ⟨wv, a, c, l, hfu, hl⟩ := h.fu
  obtain ⟨L, l1, l2, l3, l4⟩ := h.few
  have hfew := h.ok.few
  rw [← hl, List.length_map] at hfew
  refine (fremove_any hfu (by rw [h.off]; rfl) L l1 (by omega) (fun x hx => by have := l3 x hx; omega) (by omega) (fun x hx => (h.ok.ok.each x.f (by rw [← hl]; exact List.mem_map.2 ⟨x, hx, rfl⟩)).n2) nm (by omega) (by rw [hl]; exact (hasF_now h.on nm).2 hf)).mono ?_
  rintro e w' ⟨rfl, Q', hf', hq, _, ho⟩
  have hu : Upon Q w w' := Upon.of_only ho (fun k hk => .inl (by rw [List.mem_singleton.1 hk]; exact hfu.qm))
  exact ⟨rfl, Q', h.then hu hq ⟨wv, a, c, l, hf', hl⟩ h.off h.fuse h.wt h.big h.on h.ok (h.few.set nm hnm none (fun b' e => by cases e)), hq, hu⟩
theorem on_remove_none (h : On B s d g cm w Q m ver next fs C H n) (hn : n ≤ 90000) (nm : List UInt8) (hf : nowF C H nm = none) :
    Calls Tryz.prog 27 #[.pointer (some ⟨s, 0, none⟩), nv nm] w fun e w' => e = .returned (.int .i64 8) ∧ Below w.heap.size w w' := by
  obtain ⟨wv, a, c, l, hfu, hl⟩ := h.fu
  obtain ⟨L, l1, l2, l3, l4⟩ := h.few
  have hfew := h.ok.few
  rw [← hl, List.length_map] at hfew
  exact fremove_none hfu (by rw [h.off]; rfl) L l1 (by omega) (fun x hx => by have := l3 x hx; omega) (by omega) (fun x hx => (h.ok.ok.each x.f (by rw [← hl]; exact List.mem_map.2 ⟨x, hx, rfl⟩)).n2) nm (by rw [hl, hasF_now h.on nm, hf]; simp)
/-- A commit where nothing was changed. -/
theorem on_commit_none (h : On B s d g cm w Q m ver next fs C H n) (hC : ∀ nm, C nm = none) :
    Calls Tryz.prog 13 #[.pointer (some ⟨s, 0, none⟩)] w fun e w' => e = .returned (.int .i64 0) ∧ w' = w := by
  obtain ⟨wv, a, c, l, hfu, hl⟩ := h.fu
  exact commit_none hfu (by rw [h.off]; rfl) hC
/-- The disk behind a commit. -/
def afterD (m : DM) (C : Chg) (ver : Nat) (p : Nat × List Fil) : DM := (commitD m C p.2 (ver + 1) (manL (ver + 1) p.1 p.2)).1
/-- A commit of changes. -/
theorem on_commit (h : On B s d g cm w Q m ver next fs C H n) (hn : n ≤ 9000) {ss : List (List UInt8)} (hK : Keys C ss) (hC : ¬ ∀ nm, C nm = none) :
    Calls Tryz.prog 13 #[.pointer (some ⟨s, 0, none⟩)] w fun e w' =>
      match planM C ss m.bl.length ver next fs with
      | none => e = .returned (.int .i64 7) ∧ Below w.heap.size w w'
      | some p => e = .returned (.int .i64 0) ∧ ∃ Q', On B s d g cm w' Q' (afterD m C ver p) (ver + 1) p.1 p.2 none' (nowF C H) 0 ∧ (∀ k, Q' k → Q k ∨ w.heap.size ≤ k) ∧ Upon Q w w' := by
  obtain ⟨wv, a, c, l, hfu, hl⟩ := h.fu
  obtain ⟨L, l1, l2, l3, l4⟩ := h.few
  have hs : ∀ nm ∈ ss, nm.length ≤ 32 := fun nm hnm => l3 nm (l1 nm ((hK.mem nm).1 hnm))
  refine (commit_any hfu h.tab L l1 (by omega) l3 l4 (by rw [hl]; exact h.ok) hK h.off (by rw [h.wt]; exact Nat.zero_le _) h.big hC).mono ?_
  intro e w' hc
  rw [hl] at hc
  cases hp : planM C ss m.bl.length ver next fs with
  | none => rw [hp] at hc; exact hc
  | some p =>
    rw [hp] at hc
    obtain ⟨he, hu, Q', wv', hq, hr⟩ := hc
    obtain ⟨z1, z2⟩ := commit_free h.fuse C p.2 (ver + 1) (manL (ver + 1) p.1 p.2)
    rw [if_pos z1] at hr
    obtain ⟨a', c', l', hl', hf'⟩ := hr
    obtain ⟨nx, fs'⟩ := p
    obtain ⟨g1, g2, g3⟩ := commit_bl h.wt z1
    have hbl := commit_len h.wt z1
    have hok := (plan_okm h.ok h.small l4 hK hs hp).1
    have hon := commit_on rfl h.small h.on h.ok l4 hK hs hp h.wt _ z1
    refine ⟨by rw [he, z1], Q', h.then hu hq ⟨wv', a', c', l', hf', hl'⟩ (g2.trans h.off) ?_ g3 ?_ hon ?_ (few_none 0), hq, hu⟩
    · show (commitD m C fs' (ver + 1) (manL (ver + 1) nx fs')).1.fuse < 0
      rw [z2]
      exact h.fuse
    · show 33 ≤ (commitD m C fs' (ver + 1) (manL (ver + 1) nx fs')).1.bl.length
      rw [hbl]
      exact h.big
    · show Okm (commitD m C fs' (ver + 1) (manL (ver + 1) nx fs')).1.bl.length (ver + 1) nx fs'
      rw [hbl]
      exact hok
end Go.Proofs.YtbfochdoeibofaaGreatDoor.Full
