/- Awake10, RefFree, RefBody, RefFile, RefMay, RefSame9, RefPlanM, RefPlanW, RefPlanB, Play0, Play1, Play2, Play3, Play4, in one text. -/
import Derived.Test.YtbfochdoeibofaaGreatDoorQ27
import Derived.Test.YtbfochdoeibofaaGreatDoorQ30
import Derived.Lib.SlBytesConst
import Derived.Deep.QuietTactic
import Derived.Deep.RegionHeld3
import Derived.Deep.RegionLaw
import Derived.BigRegion
import Derived.Maps.AppendAt
import Derived.StillTailTactics
import Derived.BigQuiet
/- palmerlaw10: awake. -/
namespace Go.Proofs.YtbfochdoeibofaaGreatDoor.Full
open Go.RowKit Go.Deep Mem Crc Go.Maps Go.Proofs.YtbfochdoeibofaaGreatDoor.Dk Go.Proofs.YtbfochdoeibofaaGreatDoor.Mani
open Go.Proofs.YtbfochdoeibofaaGreatDoor.Store (Chg none' nv Files setC setC_same setC_other)
open Go.Proofs.YtbfochdoeibofaaGreatDoor.Ext (Tab freeN)

theorem d0_len (N : Nat) : (D0 N).bl.length = N := by unfold D0; exact List.length_replicate
/-- begin, and what stands then. -/
theorem begin_on (N : Nat) (hN : 33 ≤ N) (hN2 : N ≤ 2000) (w : World) (hT : Tab w) :
    Calls Tryz.prog 10 #[.int .i64 (N : Int)] w fun e w' => ∃ p s d g cm Q, e = .returned (.tuple #[.pointer (some ⟨p, 0, none⟩), .bool true]) ∧ Blk w' p 38 #[.pointer (some ⟨s, 0, none⟩), .pointer (some ⟨d, 0, none⟩), .int .u64 0, .int .u32 0, .slice none 0 0, .slice none 0 0, .slice none 0 0, .slice none 0 0, .bool false] ∧ On w.heap.size s d g cm w' Q (D0 N) 0 0 [] none' (fun _ => none) 0 ∧ ¬ Q p ∧ w.heap.size ≤ p ∧ Below w.heap.size w w' := by
  have hp := hT.lt
  refine (begin_any N hN hN2 w).mono ?_
  rintro e w' ⟨p, s, d, g, cm, Q, rfl, hb, hf, hq, hqs, hp2, hB⟩
  exact ⟨p, s, d, g, cm, Q, rfl, hb, ⟨⟨_, _, _, _, hf, rfl⟩, rfl, by show (-1 : Int) < 0; decide, rfl, by rw [d0_len]; exact hN, on_none N, by rw [d0_len]; exact okm_none N, few_none 0, hqs, hT.below hB hp, hp, hB.size⟩, hq, hp2, hB⟩
theorem nowF_none (H : Files) : nowF none' H = H := rfl
theorem one_ne (nm b : List UInt8) : ¬ ∀ x, oneC nm b x = none := fun h => by
  have := h nm
  rw [oneC_same] at this
  cases this
attribute [local go_sem] Oper.semAt_some
/-- string(b). -/
theorem conv_any {va : Option Addr} {vc : Nat} {b : List UInt8} {w : World} (hL : Lies w va (b.map bv)) : (convert 22 9 (.slice va b.length vc)).run Tryz.prog w = .ok (nv b) w := by
  cases va with
  | none =>
    have e0 : b = [] := by
      rcases hL with h | ⟨g, o, h, _⟩
      · exact List.map_eq_nil_iff.1 h
      · cases h
    subst e0
    show (convert 22 9 (.slice none 0 vc)).run Tryz.prog w = .ok (.string ⟨#[]⟩) w
    kernel_rfl
  | some ad => exact run_convert_bytes_back w 22 9 5 _ vc _ Tryz.underlying22 Tryz.underlying5 Tryz.underlying9 (fun j hj => lies_add hL j _ (by simp [hj, bv]))
theorem new_lies2 (w : World) (t : TypeId) (cs : Array Value) (f : Nat × Nat) : Lies (w.alloc (.cells cs t f)) (some ⟨w.heap.size, 0, none⟩) cs.toList := .inr ⟨w.heap.size, 0, rfl, by simp, fun i u hu => by
  rw [Nat.zero_add, cell_of_row _ w.heap.size i cs t f (heap_alloc_new w _)]
  simpa using hu⟩
theorem after_len {B s d g cm : Nat} {w : World} {Q : Nat → Prop} {m : DM} {ver next : Nat} {fs : List Fil} {C : Chg} {H : Files} {n : Nat} (h : On B s d g cm w Q m ver next fs C H n) (C' : Chg) (v : Nat) (p : Nat × List Fil) : (afterD m C' v p).bl.length = m.bl.length := commit_len h.wt (commit_free h.fuse C' p.2 (v + 1) (manL (v + 1) p.1 p.2)).1
/-- A commit of one file on a new disk. -/
theorem commit_one {B s d g cm : Nat} {w : World} {Q : Nat → Prop} {N : Nat} {b : List UInt8} {n : Nat} (h : On B s d g cm w Q (D0 N) 0 0 [] (oneC [97] b) (fun _ => none) n) (hn : n ≤ 9000) (hb : b.length ≤ 10000) (hf : Mani.many b.length ≤ (freeB N []).length) :
    Calls Tryz.prog 13 #[.pointer (some ⟨s, 0, none⟩)] w fun e w' => e = .returned (.int .i64 0) ∧ ∃ Q' m', On B s d g cm w' Q' m' 1 1 [oneF [97] b N] none' (nowF (oneC [97] b) (fun _ => none)) 0 ∧ m'.bl.length = N ∧ (∀ k, Q' k → Q k ∨ w.heap.size ≤ k) ∧ Upon Q w w' := by
  have hbig := h.big
  have hsm := h.small
  rw [d0_len] at hbig hsm
  have hp := one_plan (nm := [97]) (b := b) (N := N) (by omega) hsm (by decide) (by decide) hb hf
  refine (on_commit h hn (oneC_keys [97] b) (one_ne [97] b)).mono ?_
  intro e w' hc
  rw [d0_len, hp] at hc
  obtain ⟨he, Q', h1, h2, h3⟩ := hc
  exact ⟨he, Q', _, h1, (after_len h _ _ _).trans (d0_len N), h2, h3⟩
/-- A constant text's byte, as the store takes it. -/
def wB (w : World) (x : UInt8) : World := w.alloc (.cells #[.int .u8 (x.toNat : Int)] 5 (1, 2))
theorem wB_below (w : World) (x : UInt8) : Below w.heap.size w (wB w x) := (Below.refl _ w).alloc (Nat.le_refl _) _
/-- Write of one byte. -/
theorem write_byte {B s d g cm : Nat} {w : World} {Q : Nat → Prop} {m : DM} {ver next : Nat} {fs : List Fil} {C : Chg} {H : Files} {n : Nat} (h : On B s d g cm w Q m ver next fs C H n) (hn : n ≤ 100000) (x : UInt8) :
    Calls Tryz.prog 11 #[.pointer (some ⟨s, 0, none⟩), .string ⟨#[97]⟩, .slice (some ⟨w.heap.size, 0, none⟩) 1 1] (wB w x) fun e w' => e = .returned (.int .i64 0) ∧ ∃ Q', On B s d g cm w' Q' m ver next fs (setC C [97] (some (some [x]))) H (n + 1) ∧ (∀ k, Q' k → Q k ∨ w.heap.size ≤ k) ∧ Upon Q w w' := by
  have hB := wB_below w x
  refine (on_write (h.later hB) hn [97] (by decide) (by decide) (some ⟨w.heap.size, 0, none⟩) 1 [x] (new_lies2 w 5 #[.int .u8 (x.toNat : Int)] (1, 2)) (by simp)).mono ?_
  rintro e w' ⟨rfl, Q', h1, h2, h3⟩
  exact ⟨rfl, Q', h1, fun k hk => (h2 k hk).imp id (fun h => Nat.le_trans hB.size h), (Upon.of_below hB).trans h3 (fun k hk => .inl hk)⟩
set_option maxHeartbeats 2000000 in
set_option maxRecDepth 100000 in
theorem awake_any (w : World) (hT : Tab w) : Calls Tryz.prog 9 #[] w fun e w' => e = .returned (.bool true) ∧ Below w.heap.size w w' := by
  have HB : Hid (Calls Tryz.prog 10 #[.int .i64 40] w fun e w' => ∃ p s d g cm Q, e = .returned (.tuple #[.pointer (some ⟨p, 0, none⟩), .bool true]) ∧ Blk w' p 38 #[.pointer (some ⟨s, 0, none⟩), .pointer (some ⟨d, 0, none⟩), .int .u64 0, .int .u32 0, .slice none 0 0, .slice none 0 0, .slice none 0 0, .slice none 0 0, .bool false] ∧ On w.heap.size s d g cm w' Q (D0 40) 0 0 [] none' (fun _ => none) 0 ∧ ¬ Q p ∧ w.heap.size ≤ p ∧ Below w.heap.size w w') := Lib.hid (begin_on 40 (by decide) (by decide) w hT)
  have kc := fun (w : World) (C : Array Value) (n c : Nat) => Lib.run_convert_bytes_const (P := Tryz.prog) w 22 5 C n c Tryz.underlying22 Tryz.underlying5
  clear hT
  go_enter Tryz.func9, Tryz.ntmps9
  go_wp2_with fail
  refine HB.out.mono ?_
  rintro e w1 ⟨p, s, d, g, cm, Q, rfl, hp, hon, hqp, hpl, hB1⟩
  have HW1 := Lib.hid (write_byte hon (by decide) 98)
  have p0 := hp.cell 0
  simp at p0
  have hpw := hp.lt
  have HP := Lib.hid hp
  have HQP := Lib.hid hqp
  have HPL := Lib.hid hpl
  have HB1 := Lib.hid hB1
  have HON := Lib.hid hon
  clear hp hon hqp hpl hB1 HB
  go_wp2_with fail
  refine HW1.out.mono ?_
  rintro e w2 ⟨rfl, Q2, hon2, hq2, hu2⟩
  have hp2 := HP.out.upon hu2 HQP.out
  have hqp2 : ¬ Q2 p := fun hk => (hq2 p hk).elim HQP.out (fun h => by omega)
  have p0 := hp2.cell 0
  simp at p0
  have HB2 := Lib.hid (HB1.out.trans (HON.out.up hu2))
  have HF := Lib.hid (on_forget hon2)
  have HP2 := Lib.hid hp2
  have HQP2 := Lib.hid hqp2
  have HON2 := Lib.hid hon2
  clear hp2 hqp2 hon2 hq2 hu2 HW1
  go_wp2_with fail
  refine HF.out.mono ?_
  rintro e w3 ⟨rfl, hon3, hu3⟩
  have hp3 := HP2.out.upon hu3 HQP2.out
  have p0 := hp3.cell 0
  simp at p0
  have HB3 := Lib.hid (HB2.out.trans (HON2.out.up hu3))
  have HN := Lib.hid (on_names hon3 (by decide))
  have HP3 := Lib.hid hp3
  have HON3 := Lib.hid hon3
  clear hp3 hon3 hu3 HF
  go_wp2_with fail
  refine HN.out.mono ?_
  rintro e w4 ⟨v4, ss, rfl, hO4, hm4, _, _, hB4⟩
  have hss : ss = [] := by
    refine List.eq_nil_iff_forall_not_mem.2 (fun x hx => ?_)
    exact (hm4 x).1 hx rfl
  subst hss
  obtain ⟨a4, c4, rfl, _, _, _, _⟩ := own_shape hO4
  have hon4 := HON3.out.later hB4
  have hp4 := HP3.out.below hB4 HP3.out.lt
  have p0 := hp4.cell 0
  simp at p0
  have HW2 := Lib.hid (write_byte hon4 (by decide) 99)
  have hpw4 := hp4.lt
  have HP4 := Lib.hid hp4
  have HON4 := Lib.hid hon4
  have HB4 := Lib.hid (HB3.out.trans (hB4.mono HB3.out.size))
  simp only [List.length_nil]
  clear hp4 hon4 hB4 hm4 hO4 HN
  go_wp2_with fail
  refine HW2.out.mono ?_
  rintro e w5 ⟨rfl, Q5, hon5, hq5, hu5⟩
  have hp5 := HP4.out.upon hu5 HQP2.out
  have hqp5 : ¬ Q5 p := fun hk => (hq5 p hk).elim HQP2.out (fun h => by omega)
  have p0 := hp5.cell 0
  simp at p0
  have HB5 := Lib.hid (HB4.out.trans (HON4.out.up hu5))
  have HC := Lib.hid (commit_one (b := [99]) hon5 (by decide) (by decide) (by rw [free40]; decide))
  have HP5 := Lib.hid hp5
  have HQP5 := Lib.hid hqp5
  have HON5 := Lib.hid hon5
  clear hp5 hqp5 hon5 hq5 hu5 HW2
  go_wp2_with fail
  refine HC.out.mono ?_
  rintro e w6 ⟨rfl, Q6, m6, hon6, hm6, hq6, hu6⟩
  have hp6 := HP5.out.upon hu6 HQP5.out
  have p0 := hp6.cell 0
  simp at p0
  have HB6 := Lib.hid (HB5.out.trans (HON5.out.up hu6))
  have hrd := on_read hon6 [97] (by decide)
  have hans : ansF (nowF none' (nowF (oneC [97] [99]) (fun _ => none)) [97]) = ([99], 0) := by
    rw [nowF_none]
    unfold nowF
    rw [oneC_same]
    rfl
  rw [hans] at hrd
  have HRD := Lib.hid hrd
  have HP6 := Lib.hid hp6
  have HON6 := Lib.hid hon6
  have HM6 := Lib.hid hm6
  clear hp6 hon6 hq6 hu6 hm6 hrd hans HC
  go_wp2_with fail
  refine HRD.out.mono ?_
  rintro e w7 ⟨v7, rfl, hO7, hB7⟩
  obtain ⟨a7, c7, rfl, _, hL7, _, _⟩ := own_shape hO7
  have hcv0 : (convert 22 9 (.slice a7 ([99] : List UInt8).length c7)).run Tryz.prog w7 = .ok (.string ⟨#[99]⟩) w7 := conv_any hL7
  have hp7 := HP6.out.below hB7 HP6.out.lt
  have p0 := hp7.cell 0
  simp at p0
  have hon7 := HON6.out.later hB7
  have HV := Lib.hid (on_version hon7)
  have HB7 := Lib.hid (HB6.out.trans (hB7.mono HB6.out.size))
  have hfr := on_free hon7
  rw [HM6.out, one40, free40'] at hfr
  have HFR := Lib.hid hfr
  simp only [List.length_cons, List.length_nil, Nat.zero_add] at hcv0 ⊢
  clear hO7 hL7 hB7 hp7 hon7 hfr HRD
  go_wp2_with fail
  refine HV.out.mono ?_
  rintro e w8 ⟨rfl, rfl⟩
  go_wp2_with fail
  refine HFR.out.mono ?_
  rintro e w9 ⟨rfl, hB9⟩
  have HB9 := Lib.hid (HB7.out.trans (hB9.mono HB7.out.size))
  clear hB9
  go_wp2_with fail
  go_ret
  exact ⟨rfl, HB9.out⟩
end Go.Proofs.YtbfochdoeibofaaGreatDoor.Full

/- palmerref10: Free. -/
namespace Go.Proofs.YtbfochdoeibofaaGreatDoor.RefF
open Go.RowKit Go.Deep Mem Crc Go.Proofs.YtbfochdoeibofaaGreatDoor.Mani Go.Proofs.YtbfochdoeibofaaGreatDoor.Full Go.Proofs.YtbfochdoeibofaaGreatDoor.Read

/-- A row of bools. -/
def boolRow (p : Nat → Bool) (n : Nat) : Array Value := ((List.range n).map (fun i => Value.bool (p i))).toArray
theorem boolRow_at {p : Nat → Bool} {n i : Nat} (h : i < n) : (boolRow p n)[i]? = some (.bool (p i)) := by
  unfold boolRow
  rw [List.getElem?_toArray, List.getElem?_map, List.getElem?_range h]
  rfl
theorem boolRow_size (p : Nat → Bool) (n : Nat) : (boolRow p n).size = n := by unfold boolRow; simp
theorem boolRow_ext {p q : Nat → Bool} {n : Nat} (h : ∀ i, i < n → p i = q i) : boolRow p n = boolRow q n := by
  unfold boolRow
  rw [List.map_congr_left (fun i hi => by rw [h i (List.mem_range.1 hi)])]
theorem boolRow_set {p q : Nat → Bool} {n j : Nat} (h : ∀ i, i < n → q i = (p i || decide (i = j))) : (boolRow p n).setIfInBounds j (.bool true) = boolRow q n := by
  apply Array.ext
  · rw [Array.size_setIfInBounds, boolRow_size, boolRow_size]
  · intro i h1 h2
    rw [boolRow_size] at h2
    apply Option.some.inj
    rw [← Array.getElem?_eq_getElem, ← Array.getElem?_eq_getElem, boolRow_at h2, Array.getElem?_setIfInBounds, h i h2]
    by_cases e : j = i
    · subst e
      rw [if_pos rfl, if_pos (by rw [boolRow_size]; exact h2)]
      simp
    · rw [if_neg e, boolRow_at h2]
      have : decide (i = j) = false := decide_eq_false (fun e2 => e e2.symm)
      rw [this, Bool.or_false]
theorem boolRow_new (n : Nat) : madeCells #[.bool false] n = boolRow (fun _ => false) n := by
  apply Array.ext
  · rw [boolRow_size]
    unfold madeCells
    simp
  · intro i h1 h2
    rw [boolRow_size] at h2
    apply Option.some.inj
    rw [← Array.getElem?_eq_getElem, ← Array.getElem?_eq_getElem, boolRow_at h2]
    unfold madeCells
    simp [h2, Nat.mod_one]
theorem infoBool : (Tryz.prog.info? 4).map (fun i => (i.zero, i.size, i.bytes)) = some (some (.bool false), 1, 1) := by kernel_rfl
/-- The free blocks below i. -/
def freeTo (fs : List Fil) (i : Nat) : List Nat := (List.range i).filter (fun j => !tkn fs j)
theorem freeTo_low (fs : List Fil) : freeTo fs 32 = [] := by
  unfold freeTo
  refine List.filter_eq_nil_iff.2 (fun j hj => ?_)
  have := List.mem_range.1 hj
  unfold Full.tkn
  simp [this]
theorem freeTo_succ (fs : List Fil) {i : Nat} (h : 32 ≤ i) : freeTo fs (i + 1) = freeTo fs i ++ (if decide (i ∈ bksL fs) = true then [] else [i]) := by
  unfold freeTo
  rw [List.range_succ, List.filter_append]
  congr 1
  unfold Full.tkn
  have : decide (i < 32) = false := decide_eq_false (by omega)
  by_cases e : i ∈ bksL fs <;> simp [this, e]
theorem freeTo_len (fs : List Fil) (i : Nat) : (freeTo fs i).length ≤ i := by
  unfold freeTo
  exact Nat.le_trans (List.length_filter_le _ _) (by simp)
theorem bksL_succ {l : List Fil} {k : Nat} {x : Fil} (h : l[k]? = some x) : bksL (l.take (k + 1)) = bksL (l.take k) ++ x.blocks := flat_snoc Fil.blocks h
attribute [local go_sem] Oper.semAt_some
set_option maxHeartbeats 1000000 in
set_option maxRecDepth 100000 in
theorem free10_any (ver next : Nat) (a : Option Addr) (c : Nat) (l : List FR) (cnt : Nat) (w : World) (h : FilesIn w a l) (hl : l.length ≤ 1000000) (hb : ∀ x ∈ l, x.f.blocks.length ≤ 1000000 ∧ ∀ i ∈ x.f.blocks, i < cnt) (hc : 32 ≤ cnt) (hc2 : cnt ≤ 65536) :
    Calls Tryz.prog 18 #[.agg #[.int .u64 (ver : Int), .int .u32 (next : Int), .slice a l.length c], .int .i64 (cnt : Int)] w fun e w' => ∃ v, e = .returned v ∧ w'.ownsRow w.heap.size 3 1 v (freeB cnt (l.map FR.f)).length ((freeB cnt (l.map FR.f)).map iv) ∧ Below w.heap.size w w' := by
  obtain ⟨n, hnl⟩ : ∃ n, n = l.length := ⟨_, rfl⟩
  obtain ⟨fs, hfs⟩ : ∃ fs, fs = l.map FR.f := ⟨_, rfl⟩
  rw [← hnl] at hl ⊢
  rw [← hfs]
  have hmk : ∀ w, (Instr.makeSlice 105 (.int .i64 (cnt : Int)) (.int .i64 (cnt : Int))).run Tryz.prog w = .ok (.slice (some ⟨w.heap.size, 0, none⟩) cnt cnt) (w.alloc (.cells (boolRow (fun _ => false) cnt) 4)) := fun w => by
    rw [← boolRow_new]
    exact run_make_row' 105 4 (.bool false) 1 Tryz.underlying105 infoBool rfl .i64 .i64 cnt (by omega) (by omega) w
  obtain ⟨W1, hW1⟩ : ∃ W1, W1 = w.alloc (.cells #[.int .u64 (ver : Int), .int .u32 (next : Int), .slice a n c] 34) := ⟨_, rfl⟩
  have hB1 : Below w.heap.size w W1 := by rw [hW1]; exact (Below.refl _ w).alloc (Nat.le_refl _) _
  have hbx1 : Blk W1 w.heap.size 34 #[.int .u64 (ver : Int), .int .u32 (next : Int), .slice a n c] := by rw [hW1]; exact Blk.new w _ _
  obtain ⟨xb, hxb⟩ : ∃ xb, xb = w.heap.size := ⟨_, rfl⟩
  rw [← hxb] at hbx1
  obtain ⟨W2, hW2⟩ : ∃ W2, W2 = W1.alloc (.cells (boolRow (fun _ => false) cnt) 4) := ⟨_, rfl⟩
  obtain ⟨tb, htb⟩ : ∃ tb, tb = w.heap.size + 1 := ⟨_, rfl⟩
  have hs1 : W1.heap.size = w.heap.size + 1 := by rw [hW1, World.size_alloc]
  have hbt2 : Blk W2 tb 4 (boolRow (fun i => decide (i ∈ bksL (fs.take 0))) cnt) := by
    rw [hW2, htb, ← hs1]
    have := Blk.new W1 4 (boolRow (fun _ => false) cnt)
    rwa [boolRow_ext (q := fun i => decide (i ∈ bksL (fs.take 0))) (fun i _ => by simp [Mani.bksL])] at this
  have hB2 : Below w.heap.size w W2 := by rw [hW2]; exact hB1.alloc hB1.size _
  have hbx2 : Blk W2 xb 34 #[.int .u64 (ver : Int), .int .u32 (next : Int), .slice a n c] := by rw [hW2]; exact hbx1.alloc _
  have htl : w.heap.size ≤ tb := by rw [htb]; exact Nat.le_succ _
  have m2 := hbx2.cell 2
  simp at m2
  have HF := Lib.hid h
  have HB := Lib.hid hb
  have HB2 := Lib.hid hB2
  have HBX2 := Lib.hid hbx2
  have HBT2 := Lib.hid hbt2
  have HNL := Lib.hid hnl
  have HFS := Lib.hid hfs
  have HTL := Lib.hid htl
  have hm2 : (W1.alloc (.cells (boolRow (fun _ => false) cnt) 4)).cell? ⟨xb, 2, none⟩ = some (.slice a n c) := by rw [← hW2]; exact m2
  have HXB := Lib.hid hxb
  clear h hb hB1 hbx1 hB2 hbx2 hbt2 hnl hfs htl m2 hs1
  go_enter Tryz.func18, Tryz.ntmps18
  go_wp2_with fail
  rw [← hW1, ← hW2, ← htb, ← hxb]
  clear hW1 htb hW2 hxb hmk hm2
  go_loopw [15] (fun i wr => ∃ k : Nat, k ≤ n ∧ i = .int .i64 (k : Int) ∧ Hid (Below w.heap.size w wr) ∧ Hid (Blk wr xb 34 #[.int .u64 (ver : Int), .int .u32 (next : Int), .slice a n c]) ∧ Hid (Blk wr tb 4 (boolRow (fun i => decide (i ∈ bksL (fs.take k))) cnt))) (fun i _ => n - (intOf i).toNat)
  case atStart => exact ⟨0, Nat.zero_le _, rfl, HB2, HBX2, HBT2⟩
  case round =>
    obtain ⟨k, hk, rfl, hBr, hXr, hTr⟩ := hrel
    by_cases hkn : k < n
    · have hkd : decide ((k : Int) < (n : Int)) = true := decide_eq_true (by omega)
      obtain ⟨x, hx⟩ : ∃ x, l[k]? = some x := ⟨l[k]'(by rw [← HNL.out]; exact hkn), List.getElem?_eq_getElem _⟩
      obtain ⟨g, o, rfl, c0, c1, c2, c3⟩ := (HF.out.later hBr.out).cells hx
      have hxm := List.mem_of_getElem? hx
      obtain ⟨hLb, hcb⟩ := HF.out.blocks x hxm
      obtain ⟨hbl, hbi⟩ := HB.out x hxm
      obtain ⟨⟨nm, id, sz, bl⟩, ba, bc⟩ := x
      dsimp only at c0 c1 c2 c3 hLb hcb hbl hbi
      have hst : bksL (fs.take (k + 1)) = bksL (fs.take k) ++ bl := bksL_succ (x := ⟨nm, id, sz, bl⟩) (by rw [HFS.out, List.getElem?_map, hx]; rfl)
      have hx2 := hXr.out.cell 2
      simp at hx2
      obtain ⟨bn, hbn⟩ : ∃ bn, bn = bl.length := ⟨_, rfl⟩
      rw [← hbn] at c3 hcb hbl
      have HST := Lib.hid hst
      have HLB := Lib.hid hLb
      have HBI := Lib.hid hbi
      have HBN := Lib.hid hbn
      have HX := Lib.hid hx
      have HC3 := Lib.hid c3
      clear hst hLb hbi hbn hx c0 c1 c2 hxm
      go_wp2_with fail
      go_loopw [25] (fun i wq => ∃ j : Nat, j ≤ bn ∧ i = .int .i64 (j : Int) ∧ Hid (Below w.heap.size w wq) ∧ Hid (Blk wq xb 34 #[.int .u64 (ver : Int), .int .u32 (next : Int), .slice (some ⟨g, o, none⟩) n c]) ∧ Hid (Blk wq tb 4 (boolRow (fun i => decide (i ∈ bksL (fs.take k) ++ bl.take j)) cnt))) (fun i _ => bn - (intOf i).toNat)
      case atStart => exact ⟨0, Nat.zero_le _, rfl, hBr, hXr, Lib.hid (by rw [boolRow_ext (q := fun i => decide (i ∈ bksL (fs.take k))) (fun i _ => by simp)]; exact hTr.out)⟩
      case round =>
        obtain ⟨j, hj, rfl, hBq, hXq, hTq⟩ := hrel
        by_cases hjn : j < bn
        · have hjd : decide ((j : Int) < (bn : Int)) = true := decide_eq_true (by omega)
          obtain ⟨y, hy⟩ : ∃ y, bl[j]? = some y := ⟨bl[j]'(by rw [← HBN.out]; exact hjn), List.getElem?_eq_getElem _⟩
          have hyl := HBI.out y (List.mem_of_getElem? hy)
          obtain ⟨g2, o2, rfl, d0⟩ := lies_at (HLB.out.later hBq.out) (k := j) (u := iv y) (by rw [List.getElem?_map, hy]; rfl)
          obtain ⟨g', o', e', _, _, _, d3⟩ := (HF.out.later hBq.out).cells HX.out
          cases e'
          dsimp only at d3
          rw [← HBN.out] at d3
          unfold Mani.iv at d0
          have q2 := hXq.out.cell 2
          simp at q2
          have hset := hTq.out.set y (.bool true)
          rw [boolRow_set (q := fun i => decide (i ∈ bksL (fs.take k) ++ bl.take (j + 1))) (fun i _ => by
            rw [List.take_add_one, hy]
            simp [Bool.or_assoc])] at hset
          have hfz := hTq.out.frozen y
          have hcy : ∃ v, (wr.cell? ⟨tb, y, none⟩) = some (.bool v) := ⟨_, (hTq.out.cell y).trans (boolRow_at hyl)⟩
          obtain ⟨tv, hcy⟩ := hcy
          have HSET := Lib.hid hset
          have hBn := hBq.out.setCell (p := ⟨tb, y, none⟩) HTL.out (.bool true)
          have hXn := hXq.out.far (p := ⟨tb, y, none⟩) (hXq.out.ne hTq.out (by decide)) (.bool true)
          have HBN2 := Lib.hid hBn
          have HXN := Lib.hid hXn
          clear hset hy hBn hXn
          go_wp2_with fail
          exact ⟨⟨j + 1, hjn, by simp, HBN2, HXN, HSET⟩, by simp [intOf]; omega⟩
        · obtain rfl : bn = j := by omega
          have hjd : decide ((bn : Int) < (bn : Int)) = false := decide_eq_false (by omega)
          go_wp2_with fail
          exact ⟨⟨k + 1, hkn, by simp, hBq, hXq, Lib.hid (by
            have := hTq.out
            rw [List.take_of_length_le (l := bl) (by rw [HBN.out]; exact Nat.le_refl _), ← HST.out] at this
            exact this)⟩, by simp [intOf]; omega⟩
    · obtain rfl : n = k := by omega
      have hkd : decide ((n : Int) < (n : Int)) = false := decide_eq_false (by omega)
      have hT := hTr.out
      rw [List.take_of_length_le (l := fs) (by rw [HFS.out, List.length_map, ← HNL.out]; exact Nat.le_refl _)] at hT
      have HT := Lib.hid (hT.alloc (.cells #[] 3))
      have HB3 := Lib.hid (hBr.out.alloc hBr.out.size (.cells #[] 3))
      have HO3 : Hid ((wr.alloc (.cells #[] 3)).ownsRow w.heap.size 3 1 (.slice (some ⟨wr.heap.size, 0, none⟩) 0 0) (freeTo fs 32).length ((freeTo fs 32).map iv)) := Lib.hid (by
        rw [freeTo_low]
        exact World.ownsRow_lit wr #[] 0 hBr.out.size (by decide) rfl)
      clear hT hBr hXr hTr
      go_wp2_with fail
      go_loopw [8, 9] (fun o i wr => ∃ k : Nat, 32 ≤ k ∧ k ≤ cnt ∧ i = .int .i64 (k : Int) ∧ Hid (Below w.heap.size w wr) ∧ Hid (Blk wr tb 4 (boolRow (fun i => decide (i ∈ bksL fs)) cnt)) ∧ Hid (wr.ownsRow w.heap.size 3 1 o (freeTo fs k).length ((freeTo fs k).map iv))) (fun _ i _ => cnt - (intOf i).toNat)
      case atStart => exact ⟨32, Nat.le_refl _, hc, rfl, HB3, HT, HO3⟩
      case round =>
        obtain ⟨k, hk32, hk, rfl, hBq, hTq, hOq⟩ := hrel
        by_cases hkn2 : k < cnt
        · have hkd : decide ((k : Int) < (cnt : Int)) = true := decide_eq_true (by omega)
          obtain ⟨tv, htv⟩ : ∃ b, b = decide (k ∈ bksL fs) := ⟨_, rfl⟩
          have hcy : wr.cell? ⟨tb, k, none⟩ = some (.bool tv) := by rw [htv]; exact (hTq.out.cell k).trans (boolRow_at hkn2)
          have hsucc := freeTo_succ fs hk32
          rw [← htv] at hsucc
          cases tv
          · obtain ⟨v', w', hr, ho, hg⟩ := append_int wr 51 _ _ hOq.out k (by have := freeTo_len fs k; omega) hBq.out.size
            have hB' : Below w.heap.size w w' := hBq.out.grown hg hBq.out.size (fun y hy => (hOq.out.lt y hy).1)
            have hT' := hTq.out.upon (Upon.of_grown hg (fun q hq => .inl hq)) (own_ne_blk hOq.out hTq.out (by decide))
            have hs2 : freeTo fs (k + 1) = freeTo fs k ++ [k] := hsucc
            rw [← hs2] at ho
            unfold Mani.iv at hr
            have HO' := Lib.hid ho
            have HB' := Lib.hid hB'
            have HT' := Lib.hid hT'
            clear hsucc hs2 ho hg hB' hT' htv
            go_wp2_with (first | (at_builtin; refine Lib.wpList_append_run _ rfl _ _ _ _ rfl _ _ rfl rfl _ _ hr ?_))
            exact ⟨⟨k + 1, by omega, hkn2, by simp, HB', HT', HO'⟩, by simp [intOf]; omega⟩
          · have hs2 : freeTo fs (k + 1) = freeTo fs k := by rw [hsucc]; simp
            have HS2 := Lib.hid hs2
            clear hsucc hs2 htv
            go_wp2_with fail
            exact ⟨⟨k + 1, by omega, hkn2, by simp, hBq, hTq, Lib.hid (by rw [HS2.out]; exact hOq.out)⟩, by simp [intOf]; omega⟩
        · obtain rfl : cnt = k := by omega
          have hkd : decide ((cnt : Int) < (cnt : Int)) = false := decide_eq_false (by omega)
          go_wp2_with fail
          go_ret
          exact ⟨_, rfl, hOq.out, hBq.out⟩
end Go.Proofs.YtbfochdoeibofaaGreatDoor.RefF

/- palmerref09: Body. -/
namespace Go.Proofs.YtbfochdoeibofaaGreatDoor.RefF
open Go.RowKit Go.Deep Mem Crc Go.Proofs.YtbfochdoeibofaaGreatDoor.Varint Go.Proofs.YtbfochdoeibofaaGreatDoor.Mani

/-- A row of bytes is put behind another. -/
theorem num_step {W w w2 : World} {v v2 : Value} {bs ys : List UInt8} (ty : TypeId) (h : Grow W v bs w) (ho : OwnB w2 w.heap.size v2 ys) (hb : Below w.heap.size w w2) (hs : bs.length ≤ 1000000 ∧ ys.length ≤ 1000000) :
    ∃ k a2 c2 v3 w3, v2 = .slice a2 k c2 ∧ (Builtin.append_ #[22, 22] ty #[v, .slice a2 k c2]).run Tryz.prog w2 = .ok v3 w3 ∧ Grow W v3 (bs ++ ys) w3 ∧ Upon (fun q => v.ownBlock = some q) w w3 := by
  obtain ⟨a2, c2, rfl, _, hL2, _, _⟩ := own_shape ho
  have hsz := h.below.size
  obtain ⟨v3, w3, hr3, hO3, hg3⟩ := run_append_bytes w2 ty v bs (own_later h.own hb) a2 c2 ys hL2 (by omega) (Nat.le_trans hsz hb.size)
  have hu3 : Upon (fun q => v.ownBlock = some q) w w3 := (Upon.of_below hb).trans (Upon.of_grown (P := fun q => v.ownBlock = some q) hg3 (fun q hq => .inl hq)) (fun q hq => .inl hq)
  exact ⟨_, a2, c2, v3, w3, rfl, hr3, h.step hO3 hu3, hu3⟩
/-- []byte(s) of a text. -/
theorem conv_name (nm : List UInt8) (s : ByteArray) (hs : sv nm = .string s) (w : World) : ∃ V cap, (convert 9 22 (.string s)).run Tryz.prog w = .ok (.slice (some ⟨w.heap.size, 0, none⟩) s.size cap) V ∧ Lies V (some ⟨w.heap.size, 0, none⟩) (nm.map bv) ∧ Below w.heap.size w V := by
  refine ⟨_, _, run_bytes_of_string w 9 22 5 s Tryz.underlying9 Tryz.underlying22 Tryz.underlying5, ?_, (Below.refl _ w).drew.alloc (Nat.le_refl _) _⟩
  unfold Mem.sv at hs
  injection hs with hs
  subst hs
  have hl := Full.new_lies2 w.drew 5 (bytesRow ⟨nm.toArray⟩ (grownCap w (ByteArray.size ⟨nm.toArray⟩) 0 5)) ((bytesRow ⟨nm.toArray⟩ (grownCap w (ByteArray.size ⟨nm.toArray⟩) 0 5)).size, (bytesRow ⟨nm.toArray⟩ (grownCap w (ByteArray.size ⟨nm.toArray⟩) 0 5)).size + 1)
  refine .inr ⟨w.heap.size, 0, rfl, by show w.heap.size < (w.heap.push _).size; simp, fun j u hu => ?_⟩
  obtain ⟨g, o, e, hc⟩ := lies_at hl (k := j) (u := u) (by
    have hj := (List.getElem?_eq_some_iff.1 hu).1
    unfold bytesRow
    rw [Array.toList_append, List.getElem?_append_left (by simpa using hj), ← hu, Array.toList_map]
    rfl)
  injection e with e
  injection e with e1 e2
  subst e2
  rw [show g = w.heap.size from e1.symm] at hc
  exact hc
attribute [local go_sem] Oper.semAt_some
set_option maxHeartbeats 1000000 in
set_option maxRecDepth 100000 in
theorem body09_any (ver next : Nat) (a : Option Addr) (c : Nat) (l : List FR) (w : World) (h : FilesIn w a l) (hv : ver < 18446744073709551616) (hn : next < 4294967296) (hf : ∀ x ∈ l, x.f.fits) (hm : (bodyL ver next (l.map FR.f)).length ≤ 900000) (hl : l.length ≤ 1000000) :
    Calls Tryz.prog 130 #[.agg #[.int .u64 (ver : Int), .int .u32 (next : Int), .slice a l.length c]] w fun e w' => ∃ v, e = .returned v ∧ OwnB w' w.heap.size v (bodyL ver next (l.map FR.f)) ∧ Below w.heap.size w w' := by
  obtain ⟨n, hnl⟩ : ∃ n, n = l.length := ⟨_, rfl⟩
  rw [← hnl] at hl ⊢
  obtain ⟨W, hW⟩ : ∃ W, W = w.alloc (.cells #[.int .u64 (ver : Int), .int .u32 (next : Int), .slice a n c] 34) := ⟨_, rfl⟩
  have hBW : Below w.heap.size w W := by rw [hW]; exact (Below.refl _ w).alloc (Nat.le_refl _) _
  have hbx : Blk W w.heap.size 34 #[.int .u64 (ver : Int), .int .u32 (next : Int), .slice a n c] := by rw [hW]; exact Blk.new w _ _
  obtain ⟨xb, hxb⟩ : ∃ xb, xb = w.heap.size := ⟨_, rfl⟩
  rw [← hxb] at hbx
  have HF := Lib.hid (h.later hBW)
  have HBX := Lib.hid hbx
  have HBW := Lib.hid hBW
  have HNL := Lib.hid hnl
  have HFIT := Lib.hid hf
  have HM := Lib.hid hm
  have HXB := Lib.hid hxb
  have hm0 := hbx.cell 0
  simp at hm0
  have hvl : (vput ver).length ≤ 10 := vput_length 9 ver (by omega)
  have hnl2 : (vput next).length ≤ 10 := vput_length 9 next (by omega)
  have HN1 := Lib.hid (num03_any ver hv W)
  clear h hbx hBW hnl hf hm
  go_enter Tryz.func130, Tryz.ntmps130
  go_wp2_with fail
  rw [← hW, ← hxb]
  clear hW hxb
  refine HN1.out.mono ?_
  rintro e w1 ⟨v1, rfl, hO1, hB1⟩
  have hbW1 : Below w.heap.size W w1 := hB1.mono HBW.out.size
  have hg1 : Grow W v1 (vput ver) w1 := ⟨hO1, hB1⟩
  have hb1 := HBX.out.below hB1 HBX.out.lt
  have m1 := hb1.cell 1
  simp at m1
  have HG1 := Lib.hid hg1
  have HB1 := Lib.hid hb1
  have HN2 := Lib.hid (num03_any next (by omega) w1)
  clear hO1 hB1 hbW1 hg1 hb1 hm0 HN1
  go_wp2_with fail
  refine HN2.out.mono ?_
  rintro e w2 ⟨v2, rfl, hO2, hB2⟩
  obtain ⟨k2, a2, c2, v3, w3, rfl, hr3, hg3, hu3⟩ := num_step 22 HG1.out hO2 hB2 ⟨by omega, by omega⟩
  have hb3 := HG1.out.box hu3 HB1.out (by decide)
  have m2 := hb3.cell 2
  simp at m2
  have HG3 := Lib.hid hg3
  have HB3 := Lib.hid hb3
  have HN3 := Lib.hid (num03_any n (by omega) w3)
  clear hO2 hB2 hg3 hu3 hb3 m1 HN2
  go_wp2_with (first | (at_builtin; refine Lib.wpList_append_run _ rfl _ _ _ _ rfl _ _ rfl rfl _ _ hr3 ?_))
  refine HN3.out.mono ?_
  rintro e w4 ⟨v4, rfl, hO4, hB4⟩
  obtain ⟨pre, hpre⟩ : ∃ pre, pre = vput ver ++ vput next ++ vput n := ⟨_, rfl⟩
  obtain ⟨k5, a5, c5, v5, w5, rfl, hr5, hg5, hu5⟩ := num_step 22 HG3.out hO4 hB4 ⟨by rw [List.length_append]; omega, by have := vput_length 9 n (by omega); omega⟩
  rw [← hpre] at hg5
  have hb5 := HG3.out.box hu5 HB3.out (by decide)
  have m5 := hb5.cell 2
  simp at m5
  have HG5 := Lib.hid hg5
  have htot : ∀ k, (pre ++ ((l.map FR.f).take k).flatMap filL).length ≤ 900000 := fun k => by
    have h1 := HM.out
    have h2 := flat_le filL (l.map FR.f) k
    have e : bodyL ver next (l.map FR.f) = pre ++ (l.map FR.f).flatMap filL := by rw [hpre, HNL.out]; unfold bodyL; simp
    rw [e, List.length_append] at h1
    rw [List.length_append]
    omega
  have HTOT := Lib.hid htot
  have HPRE := Lib.hid hpre
  clear hO4 hB4 hg5 hu5 hb5 m2 hpre htot HG1 HG3 HB1 HB3 HN3
  go_wp2_with (first | (at_builtin; refine Lib.wpList_append_run _ rfl _ _ _ _ rfl _ _ rfl rfl _ _ hr5 ?_))
  go_loopw [3, 26] (fun x i wr => ∃ k : Nat, k ≤ n ∧ i = .int .i64 (k : Int) ∧ Hid (Grow W x (pre ++ ((l.map FR.f).take k).flatMap filL) wr)) (fun _ i _ => n - (intOf i).toNat)
  case atStart => exact ⟨0, Nat.zero_le _, rfl, Lib.hid (by simpa using HG5.out)⟩
  case round =>
    clear hr5
    obtain ⟨k, hk, rfl, hg⟩ := hrel
    by_cases hlt : k < n
    · have hkd : decide ((k : Int) < (n : Int)) = true := decide_eq_true (by omega)
      obtain ⟨x, hx⟩ : ∃ x, l[k]? = some x := ⟨l[k]'(by rw [← HNL.out]; exact hlt), List.getElem?_eq_getElem _⟩
      obtain ⟨g, o, rfl, c0, c1, c2, c3⟩ := (HF.out.later hg.out.below).cells hx
      have hxm := List.mem_of_getElem? hx
      obtain ⟨hLb, hcb⟩ := HF.out.blocks x hxm
      have hfit := HFIT.out x hxm
      obtain ⟨⟨nm, id, sz, bl⟩, ba, bc⟩ := x
      dsimp only at c0 c1 c2 c3 hLb hcb hfit
      obtain ⟨cur, hcur⟩ : ∃ cur, cur = pre ++ ((l.map FR.f).take k).flatMap filL := ⟨_, rfl⟩
      have hnext : pre ++ ((l.map FR.f).take (k + 1)).flatMap filL = cur ++ filL ⟨nm, id, sz, bl⟩ := by
        rw [hcur, flat_snoc filL (x := ⟨nm, id, sz, bl⟩) (by simp [hx]), List.append_assoc]
      have htk := HTOT.out (k + 1)
      rw [hnext] at htk
      have hg := hg.out
      rw [← hcur] at hg
      have HNEXT := Lib.hid hnext
      have HG := Lib.hid hg
      have HLB := Lib.hid hLb
      obtain ⟨hid, hsz, hbl⟩ := hfit
      dsimp only at hid hsz hbl
      have HBL := Lib.hid hbl
      have hl3 : cur.length + (vput nm.length).length + nm.length + (vput id).length + (vput sz).length + (blocksL bl).length ≤ 900000 := by
        unfold filL at htk
        simp only [List.length_append] at htk
        omega
      have hbx2 := (HBX.out.below hg.below HBX.out.lt).cell 2
      simp at hbx2
      obtain ⟨bn, hbn⟩ : ∃ bn, bn = bl.length := ⟨_, rfl⟩
      rw [← hbn] at c3 hcb
      unfold iv at c2
      obtain ⟨sb, hsb⟩ : ∃ sb : ByteArray, sv nm = .string sb := ⟨_, rfl⟩
      have hsz2 : sb.size = nm.length := by
        have e : sb = ⟨nm.toArray⟩ := by unfold sv at hsb; injection hsb with hsb; exact hsb.symm
        rw [e]
        show nm.toArray.size = _
        simp
      rw [hsb] at c0
      have hsb9 : sb.size ≤ 1000000 := by omega
      have hbn9 : bn ≤ 1000000 := by have := blocksL_ge bl; omega
      have hw64 : IntKind.u64.wrap (sb.size : Int) = (sb.size : Int) := by rw [IntKind.wrap_u64]; omega
      have hws : IntKind.u64.wrap (sz : Int) = (sz : Int) := by rw [IntKind.wrap_u64]; omega
      obtain ⟨fb, hfb⟩ : ∃ fb, fb = wr.heap.size := ⟨_, rfl⟩
      obtain ⟨WB, hWB⟩ : ∃ WB, WB = wr.alloc (.cells #[.string sb, .int .u32 (id : Int), .int .i64 (sz : Int), .slice ba bn bc] 96) := ⟨_, rfl⟩
      have hbB : Blk WB fb 96 #[.string sb, .int .u32 (id : Int), .int .i64 (sz : Int), .slice ba bn bc] := by rw [hWB, hfb]; exact Blk.new wr _ _
      have hGB : Grow W u3 cur WB := by rw [hWB]; exact ⟨hg.own.alloc _, hg.below.alloc hg.below.size _⟩
      have f0 := hbB.cell 0
      simp at f0
      have HSB := Lib.hid hsb
      have HSZ := Lib.hid hsz2
      have HBN := Lib.hid hbn
      have HGB := Lib.hid hGB
      have HBB := Lib.hid hbB
      have HNA := Lib.hid (num03_any sb.size (by omega) WB)
      clear hnext hg hcur htk hx hxm hLb hbl hsb hsz2 hbn hGB hbB
      go_wp2_with fail
      rw [← hWB, ← hfb]
      clear hWB hfb c0 c1 c2 c3 hbx2
      go_wp2_with fail
      refine HNA.out.mono ?_
      rintro e w6 ⟨v6, rfl, hO6, hB6⟩
      obtain ⟨k7, a7, c7, v7, w7, rfl, hr7, hg7, hu7⟩ := num_step 22 HGB.out hO6 hB6 ⟨by omega, by rw [HSZ.out]; omega⟩
      have hb7 := HGB.out.box hu7 HBB.out (by decide)
      have f0 := hb7.cell 0
      simp at f0
      obtain ⟨V8, cap8, hcv, hL8, hB8⟩ := conv_name nm sb HSB.out w7
      have hg8 : Grow W v7 (cur ++ vput sb.size) V8 := ⟨own_later hg7.own hB8, hg7.below.trans (hB8.mono hg7.below.size)⟩
      obtain ⟨v9, w9, hr9, hO9, hgr9⟩ := run_append_bytes V8 22 _ _ hg8.own (some ⟨w7.heap.size, 0, none⟩) cap8 nm hL8 (by rw [List.length_append]; rw [HSZ.out] at *; omega) hg8.below.size
      rw [← HSZ.out] at hr9
      have hu9 : Upon (fun q => v7.ownBlock = some q) V8 w9 := Upon.of_grown hgr9 (fun q hq => .inl hq)
      have hg9 : Grow W v9 (cur ++ vput sb.size ++ nm) w9 := hg8.step hO9 hu9
      have hb8 := hb7.below hB8 hb7.lt
      have hb9 := hg8.box hu9 hb8 (by decide)
      have f1 := hb9.cell 1
      simp at f1
      have HG9 := Lib.hid hg9
      have HB9 := Lib.hid hb9
      have hlen9 : (cur ++ vput sb.size ++ nm).length ≤ 900000 := by rw [HSZ.out]; simp only [List.length_append]; omega
      have HNB := Lib.hid (num03_any id (by omega) w9)
      clear hO6 hB6 hg7 hu7 hb7 hL8 hB8 hg8 hO9 hgr9 hu9 hg9 hb8 hb9 HGB HBB HNA
      go_wp2_with (first | (at_builtin; refine Lib.wpList_append_run _ rfl _ _ _ _ rfl _ _ rfl rfl _ _ hr7 ?_) | (at_builtin; refine Lib.wpList_append_run _ rfl _ _ _ _ rfl _ _ rfl rfl _ _ hr9 ?_))
      refine HNB.out.mono ?_
      rintro e w10 ⟨v10, rfl, hO10, hB10⟩
      obtain ⟨k11, a11, c11, v11, w11, rfl, hr11, hg11, hu11⟩ := num_step 22 HG9.out hO10 hB10 ⟨by omega, by omega⟩
      have hb11 := HG9.out.box hu11 HB9.out (by decide)
      have f2 := hb11.cell 2
      simp at f2
      have HG11 := Lib.hid hg11
      have HB11 := Lib.hid hb11
      have hlen11 : (cur ++ vput sb.size ++ nm ++ vput id).length ≤ 900000 := by rw [HSZ.out]; simp only [List.length_append]; omega
      have HNC := Lib.hid (num03_any sz (by omega) w11)
      clear hO10 hB10 hg11 hu11 hb11 hr7 hr9 hcv HG9 HB9 HNB f1
      go_wp2_with (first | (at_builtin; refine Lib.wpList_append_run _ rfl _ _ _ _ rfl _ _ rfl rfl _ _ hr11 ?_))
      refine HNC.out.mono ?_
      rintro e w12 ⟨v12, rfl, hO12, hB12⟩
      obtain ⟨k13, a13, c13, v13, w13, rfl, hr13, hg13, hu13⟩ := num_step 22 HG11.out hO12 hB12 ⟨by omega, by omega⟩
      have hb13 := HG11.out.box hu13 HB11.out (by decide)
      have f3 := hb13.cell 3
      simp at f3
      obtain ⟨cur2, hcur2⟩ : ∃ cur2, cur2 = cur ++ vput sb.size ++ nm ++ vput id ++ vput sz := ⟨_, rfl⟩
      rw [← hcur2] at hg13
      have HG13 := Lib.hid hg13
      have HB13 := Lib.hid hb13
      have hlen13 : ∀ j, (cur2 ++ blocksL (bl.take j)).length ≤ 900000 := fun j => by
        have := flat_le vput bl j
        unfold blocksL
        rw [hcur2, HSZ.out]
        simp only [List.length_append]
        unfold blocksL at hl3
        omega
      have HLEN := Lib.hid hlen13
      have HCUR2 := Lib.hid hcur2
      clear hO12 hB12 hg13 hu13 hb13 hcur2 hlen13 hlen9 hlen11 HG11 HB11 HNC hl3 f2 hr11
      go_wp2_with (first | (at_builtin; refine Lib.wpList_append_run _ rfl _ _ _ _ rfl _ _ rfl rfl _ _ hr13 ?_))
      go_loopw [3, 61] (fun y i wr => ∃ j : Nat, j ≤ bn ∧ i = .int .i64 (j : Int) ∧ Hid (Grow W y (cur2 ++ blocksL (bl.take j)) wr) ∧ Hid (Blk wr fb 96 #[.string sb, .int .u32 (id : Int), .int .i64 (sz : Int), .slice ba bn bc])) (fun _ i _ => bn - (intOf i).toNat)
      case atStart => exact ⟨0, Nat.zero_le _, rfl, Lib.hid (by simpa [blocksL] using HG13.out), HB13⟩
      case round =>
        clear hr13 f3
        obtain ⟨j, hj, rfl, HGJ, HBJ⟩ := hrel
        by_cases hjlt : j < bn
        · have hjd : decide ((j : Int) < (bn : Int)) = true := decide_eq_true (by omega)
          obtain ⟨q, hq⟩ : ∃ q, bl[j]? = some q := ⟨bl[j]'(by rw [← HBN.out]; exact hjlt), List.getElem?_eq_getElem _⟩
          have hq32 := HBL.out q (List.mem_of_getElem? hq)
          obtain ⟨bg, bo, rfl, cq⟩ := lies_at (HLB.out.later HGJ.out.below) (k := j) (u := .int .i64 (q : Int)) (by simp [hq, iv])
          have hq1 := HLEN.out j
          have HNQ : Hid (cur2 ++ blocksL (bl.take (j + 1)) = (cur2 ++ blocksL (bl.take j)) ++ vput q) := Lib.hid (by unfold blocksL; rw [flat_snoc vput hq, List.append_assoc])
          have f3 := HBJ.out.cell 3
          simp at f3
          have hwq : IntKind.u64.wrap (q : Int) = (q : Int) := by rw [IntKind.wrap_u64]; omega
          have HNQQ := Lib.hid (num03_any q (by omega) wr)
          clear hq
          go_wp2_with fail
          refine HNQQ.out.mono ?_
          rintro e w14 ⟨v14, rfl, hO14, hB14⟩
          obtain ⟨k15, a15, c15, v15, w15, rfl, hr15, hg15, hu15⟩ := num_step 22 HGJ.out hO14 hB14 ⟨by omega, by have := vput_length 9 q (by omega); omega⟩
          have HB15 := Lib.hid (HGJ.out.box hu15 HBJ.out (by decide))
          have HG15 := Lib.hid hg15
          clear hO14 hB14 hg15 hu15 cq f3 hq1 HNQQ
          go_wp2_with (first | (at_builtin; refine Lib.wpList_append_run _ rfl _ _ _ _ rfl _ _ rfl rfl _ _ hr15 ?_))
          go_roundw
          case rel => exact ⟨j + 1, Nat.succ_le_of_lt hjlt, by simp, Lib.hid (by rw [HNQ.out]; exact HG15.out), HB15⟩
          case measure => simp [intOf]; omega
        · obtain rfl : j = bn := by omega
          have hjd : decide ((j : Int) < (j : Int)) = false := decide_eq_false (by omega)
          have htk : bl.take j = bl := by rw [HBN.out, List.take_length]
          have hfin : Grow W u3 (pre ++ ((l.map FR.f).take (k + 1)).flatMap filL) wr := by
            rw [HNEXT.out]
            have h1 := HGJ.out
            rw [htk, HCUR2.out, HSZ.out] at h1
            unfold filL
            simpa only [List.append_assoc] using h1
          have HFIN := Lib.hid hfin
          clear hfin htk hjlt hj
          go_wp2_with fail
          go_roundw
          case rel => exact ⟨k + 1, Nat.succ_le_of_lt hlt, by simp, HFIN⟩
          case measure => simp [intOf]; omega
    · obtain rfl : k = n := by omega
      have hkd : decide ((k : Int) < (k : Int)) = false := decide_eq_false (by omega)
      have hg := hg.out
      have htk : (l.map FR.f).take k = l.map FR.f := by rw [List.take_of_length_le (by rw [List.length_map, ← HNL.out]; exact Nat.le_refl _)]
      rw [htk] at hg
      have HG := Lib.hid hg
      clear hg htk hlt hk
      go_wp2_with fail
      go_ret
      refine ⟨_, rfl, ?_, HBW.out.trans (HG.out.below.mono HBW.out.size)⟩
      have h1 := own_mono HG.out.own HBW.out.size
      have e : bodyL ver next (l.map FR.f) = pre ++ (l.map FR.f).flatMap filL := by rw [HPRE.out, HNL.out]; unfold bodyL; simp
      unfold OwnB
      rw [e]
      exact h1
end Go.Proofs.YtbfochdoeibofaaGreatDoor.RefF

/- palmerref09: file, of a manifest that may be. -/
namespace Go.Proofs.YtbfochdoeibofaaGreatDoor.RefF
open Go.RowKit Go.Deep Mem Crc Go.Proofs.YtbfochdoeibofaaGreatDoor.Mani Go.Proofs.YtbfochdoeibofaaGreatDoor.Full
open Go.Proofs.YtbfochdoeibofaaGreatDoor.Store (nv)

theorem geq_str (t : TypeId) (a b : ByteArray) : binOp .geq t (.string a) (.string b) = pure (.bool (!Op.bytesLess a.toList b.toList)) := by simp [binOp, Op.stringOp]
theorem less_lt {x y : List UInt8} {sx sy : ByteArray} (hx : sv x = .string sx) (hy : sv y = .string sy) : Op.bytesLess sx.toList sy.toList = decide (x < y) := by
  unfold Mem.sv at hx hy
  injection hx with hx
  injection hy with hy
  subst hx hy
  rw [Lib.toList_data, Lib.toList_data, bytesLess_eq]
theorem size_sv {x : List UInt8} {sx : ByteArray} (hx : sv x = .string sx) : sx.size = x.length := by
  unfold Mem.sv at hx
  injection hx with hx
  subst hx
  show x.toArray.size = _
  simp
theorem slice_high (a : Option Addr) (len cap m : Nat) (h1 : m ≤ cap) (W : World) : (Instr.sliceAt 51 (.slice a len cap) none (some (.int .i64 (m : Int))) none).run Tryz.prog W = .ok (.slice a m cap) W := by
  have hel : Tryz.prog.elem 51 = 3 := by kernel_rfl
  have hu : Tryz.prog.underlying 51 = some (.slice (Tryz.prog.elem 51)) := by rw [hel]; exact Tryz.underlying51
  have hsz : ∀ W : World, (sizeOf 3).run Tryz.prog W = .ok 1 W := fun W => by kernel_rfl
  rw [run_sliceAt_slice W _ _ _ _ _ hu, run_slice_h W _ _ _ _ hu .i64 (m : Int) (by omega) (by omega), hel, hsz]
  cases a with
  | none => simp [Result.andThen, sliced]
  | some p =>
    have : p.add 0 = p := by unfold Addr.add; cases p; split <;> simp_all
    simp [Result.andThen, sliced, this]
attribute [local go_sem] geq_str
attribute [local go_sem] Oper.semAt_some
set_option maxHeartbeats 2000000 in
set_option maxRecDepth 100000 in
theorem file09_yes (ver next : Nat) (a : Option Addr) (c : Nat) (l : List FR) (i : Nat) (w : World) (h : FilesIn w a l) (hM : MOk next none [] [] (l.map FR.f)) (hi : i < l.length) (hl : l.length ≤ 1000000) (hb : ∀ x ∈ l, x.f.blocks.length ≤ 1000000 ∧ x.f.size ≤ 1000000000) :
    Calls Tryz.prog 135 #[.agg #[.int .u64 (ver : Int), .int .u32 (next : Int), .slice a l.length c], .int .i64 (i : Int)] w fun e w' => e = .returned (.bool true) ∧ Below w.heap.size w w' := by
  obtain ⟨n, hnl⟩ : ∃ n, n = l.length := ⟨_, rfl⟩
  obtain ⟨x, hx⟩ : ∃ x, l[i]? = some x := ⟨l[i]'hi, List.getElem?_eq_getElem _⟩
  rw [← hnl] at hl hi ⊢
  obtain ⟨fs, hfs⟩ : ∃ fs, fs = l.map FR.f := ⟨_, rfl⟩
  rw [← hfs] at hM
  have hxm := List.mem_of_getElem? hx
  have hxf : fs[i]? = some x.f := by rw [hfs, List.getElem?_map, hx]; rfl
  obtain ⟨n1, n2, hid, hmany, hblk⟩ := hM.each x.f (List.mem_of_getElem? hxf)
  obtain ⟨hLb, hcb⟩ := h.blocks x hxm
  obtain ⟨hbl, hsz⟩ := hb x hxm
  obtain ⟨W1, hW1⟩ : ∃ W1, W1 = w.alloc (.cells #[.int .u64 (ver : Int), .int .u32 (next : Int), .slice a n c] 34) := ⟨_, rfl⟩
  obtain ⟨xb, hxb⟩ : ∃ xb, xb = w.heap.size := ⟨_, rfl⟩
  have hB1 : Below w.heap.size w W1 := by rw [hW1]; exact (Below.refl _ w).alloc (Nat.le_refl _) _
  have hbx1 : Blk W1 xb 34 #[.int .u64 (ver : Int), .int .u32 (next : Int), .slice a n c] := by rw [hW1, hxb]; exact Blk.new w _ _
  have hLb1 := hLb.later hB1
  have hF1 := h.later hB1
  obtain ⟨g, o, rfl, c0, c1, c2, c3⟩ := hF1.cells hx
  obtain ⟨⟨nm, id, sz, bl⟩, ba, bc⟩ := x
  dsimp only at c0 c1 c2 c3 hLb1 hcb hbl hsz n1 n2 hid hmany hblk
  unfold iv at c2
  obtain ⟨bn, hbn⟩ : ∃ bn, bn = bl.length := ⟨_, rfl⟩
  obtain ⟨sb, hsb⟩ : ∃ sb : ByteArray, sv nm = .string sb := ⟨_, rfl⟩
  have hss := size_sv hsb
  rw [hsb] at c0
  rw [← hbn] at c3 hcb hbl hmany
  rw [← hss] at n1 n2
  obtain ⟨W2, hW2⟩ : ∃ W2, W2 = W1.alloc (.cells #[.string sb, .int .u32 (id : Int), .int .i64 (sz : Int), .slice ba bn bc] 96) := ⟨_, rfl⟩
  obtain ⟨fb, hfb⟩ : ∃ fb, fb = w.heap.size + 1 := ⟨_, rfl⟩
  have hs1 : W1.heap.size = w.heap.size + 1 := by rw [hW1, World.size_alloc]
  have hB2 : Below W1.heap.size W1 W2 := by rw [hW2]; exact (Below.refl _ W1).alloc (Nat.le_refl _) _
  have hbf2 : Blk W2 fb 96 #[.string sb, .int .u32 (id : Int), .int .i64 (sz : Int), .slice ba bn bc] := by rw [hW2, hfb, ← hs1]; exact Blk.new W1 _ _
  have hbx2 := hbx1.below hB2 hbx1.lt
  have hB02 : Below w.heap.size w W2 := hB1.trans (hB2.mono hB1.size)
  have m2 := hbx1.cell 2
  have x1 := hbx2.cell 1
  have f0 := hbf2.cell 0
  have f1 := hbf2.cell 1
  have f2 := hbf2.cell 2
  have f3 := hbf2.cell 3
  simp at m2 x1 f0 f1 f2 f3
  have d0 : decide ((sb.size : Int) < 1) = false := decide_eq_false (by omega)
  have d0b : decide (sb.size < 1) = false := decide_eq_false (by omega)
  have d0c : decide (sb.size = 0) = false := decide_eq_false (by omega)
  have d0d : decide ((sb.size : Int) ≤ 0) = false := decide_eq_false (by omega)
  have d1 : decide ((32 : Int) < (sb.size : Int)) = false := by simp; omega
  have d1b : decide (32 < sb.size) = false := by simp; omega
  have d2 : decide ((next : Int) ≤ (id : Int)) = false := by simp; omega
  have d2b : decide (next ≤ id) = false := by simp; omega
  have d3 : decide ((sz : Int) < 0) = false := by simp
  have d4 : ((many sz : Int) == (bn : Int)) = true := by simp; omega
  have d4b : (many sz == bn) = true := by simp; omega
  have d4c : ((many sz : Int) != (bn : Int)) = false := by simp; omega
  have hmm : ∀ x ∈ l, Mani.many x.f.size = x.f.blocks.length := fun x hx => (hM.each x.f (by rw [hfs]; exact List.mem_map.2 ⟨x, hx, rfl⟩)).many
  have HF1 := Lib.hid hF1
  have HM := Lib.hid hM
  have HX := Lib.hid hx
  have HXF := Lib.hid hxf
  have HNL := Lib.hid hnl
  have HFS := Lib.hid hfs
  have HBL := Lib.hid hblk
  have HLB := Lib.hid hLb1
  have HBN := Lib.hid hbn
  have HSB := Lib.hid hsb
  have HSS := Lib.hid hss
  have HB02 := Lib.hid hB02
  have HB2 := Lib.hid hB2
  have HBX := Lib.hid hbx2
  have HBF := Lib.hid hbf2
  have HB := Lib.hid hb
  have HMN := Lib.hid (fun n' => many08_any sz (by omega) (W2.drewN n'))
  clear h hB1 hbx1 hLb hLb1 hF1 hM hx hxf hxm hnl hfs hblk hbn hsb hss hB02 hB2 hbx2 hbf2 hb n1 n2 hmany hid
  clear hs1 m2
  rw [hW1] at c0 c1 c2 c3
  go_enter Tryz.func135, Tryz.ntmps135
  go_wp2_with fail
  rw [← hW1, ← hW2, ← hfb, ← hxb]
  clear hW2 hfb hxb
  go_quiet ((go_at_call 102; refine Calls.quiet_of_same (HMN.out _)))
  obtain ⟨V, hV⟩ : ∃ V, V = W2.drewN nq := ⟨_, rfl⟩
  have hBV : Below W2.heap.size W2 V := by rw [hV]; exact ⟨rfl, rfl, rfl, Nat.le_refl _, fun _ _ => rfl⟩
  rw [← hV]
  have HBV := Lib.hid hBV
  clear hV hBV
  clear c0 c1 c2 c3 hW1 x1 f0 f1 f2 f3 d0 d0b d0c d0d d1 d1b d2 d2b d3 d4 d4b hmm HMN
  go_wp2_with fail
  clear d4c
  go_loopw [6] (fun y wr => ∃ k : Nat, k ≤ i ∧ y = .int .i64 (k : Int) ∧ Hid (Below W2.heap.size W2 wr)) (fun y _ => i - (intOf y).toNat)
  case atStart => exact ⟨0, Nat.zero_le _, rfl, HBV⟩
  case round =>
    obtain ⟨k, hk, rfl, HK⟩ := hrel
    by_cases hki : k < i
    · have hkd : decide ((k : Int) < (i : Int)) = true := decide_eq_true (by omega)
      obtain ⟨z, hz⟩ : ∃ z, l[k]? = some z := ⟨l[k]'(by rw [← HNL.out]; omega), List.getElem?_eq_getElem _⟩
      have hzf : fs[k]? = some z.f := by rw [HFS.out, List.getElem?_map, hz]; rfl
      obtain ⟨g', o', e', z0, z1, z2, z3⟩ := (HF1.out.later (HB2.out.trans (HK.out.mono HB2.out.size))).cells hz
      cases e'
      obtain ⟨⟨znm, zid, zsz, zbl⟩, za, zc⟩ := z
      dsimp only at z0 z1 z2 z3 hzf
      obtain ⟨zb, hzb⟩ : ∃ sb : ByteArray, sv znm = .string sb := ⟨_, rfl⟩
      rw [hzb] at z0
      have hzl : znm < nm := by
        obtain ⟨k1, e1⟩ := List.getElem?_eq_some_iff.1 hzf
        obtain ⟨i1, e2⟩ := List.getElem?_eq_some_iff.1 HXF.out
        have := List.pairwise_iff_getElem.1 HM.out.rise k i k1 i1 hki
        rw [e1, e2] at this
        exact this
      have hzi : zid ≠ id := fun e => by
        have h1 := ids_ne HM.out.ids.1 (List.mem_of_getElem? hzf) (List.mem_of_getElem? HXF.out) (fun e => by
          injection e with e1
          rw [e1] at hzl
          exact List.lt_irrefl _ hzl)
        exact h1 e
      have t1 : ((zid : Int) == (id : Int)) = false := by rw [beq_eq_false_iff_ne]; omega
      have t1b : (zid == id) = false := by simpa using hzi
      have t2 : Op.bytesLess zb.toList sb.toList = true := by rw [less_lt hzb HSB.out]; exact decide_eq_true hzl
      have f0 := (HBF.out.below HK.out HBF.out.lt).cell 0
      have f1 := (HBF.out.below HK.out HBF.out.lt).cell 1
      have x2 := (HBX.out.below HK.out HBX.out.lt).cell 2
      simp at f0 f1 x2
      clear z2 z3 hz hzf hzb hzl hzi
      go_wp2_with fail
      go_quiet (fail)
      go_wp2_with fail
      go_roundw
      case rel => exact ⟨k + 1, hki, by simp, Lib.hid (drewN_below HK.out _)⟩
      case measure => simp [intOf]; omega
    · obtain rfl : i = k := by omega
      have hkd : decide ((i : Int) < (i : Int)) = false := decide_eq_false (by omega)
      have f3 := (HBF.out.below HK.out HBF.out.lt).cell 3
      simp at f3
      go_wp2_with fail
      go_loopw [73] (fun y wr => ∃ j : Nat, j ≤ bn ∧ y = .int .i64 (j : Int) ∧ Hid (Below W2.heap.size W2 wr)) (fun y _ => bn - (intOf y).toNat)
      case atStart => exact ⟨0, Nat.zero_le _, rfl, HK⟩
      case round =>
        clear f3 HK
        obtain ⟨j, hj, rfl, HJ⟩ := hrel
        by_cases hjn : j < bn
        · have hjd : decide ((j : Int) < (bn : Int)) = true := decide_eq_true (by omega)
          obtain ⟨q, hq⟩ : ∃ q, bl[j]? = some q := ⟨bl[j]'(by rw [← HBN.out]; exact hjn), List.getElem?_eq_getElem _⟩
          obtain ⟨q1, q2⟩ := HBL.out q (List.mem_of_getElem? hq)
          have hLj := HLB.out.later (HB2.out.trans (HJ.out.mono HB2.out.size))
          obtain ⟨bg, bo, rfl, cq⟩ := lies_at hLj (k := j) (u := iv q) (by rw [List.getElem?_map, hq]; rfl)
          unfold iv at cq
          have hbf := HBF.out.below HJ.out HBF.out.lt
          have f3 := hbf.cell 3
          simp at f3
          have hnd : bl.Nodup := List.Nodup.sublist (l₂ := bksL fs) (by
            obtain ⟨a, b, e⟩ := List.append_of_mem (List.mem_of_getElem? HXF.out)
            rw [e]
            unfold bksL
            rw [List.flatMap_append, List.flatMap_cons]
            exact (List.sublist_append_left _ _).trans (List.sublist_append_right _ _)) HM.out.bks.1
          have hnot : decide (q ∈ bl.take j) = false := decide_eq_false (fun hm => by
            obtain ⟨i1, hi1⟩ := List.mem_iff_getElem?.1 hm
            rw [List.getElem?_take] at hi1
            split at hi1
            · have hlt : i1 < j := by assumption
              obtain ⟨k1, e1⟩ := List.getElem?_eq_some_iff.1 hi1
              obtain ⟨k2, e2⟩ := List.getElem?_eq_some_iff.1 hq
              exact absurd (e1.trans e2.symm) (fun e => by
                have := (List.pairwise_iff_getElem.1 hnd) i1 j k1 k2 hlt
                exact this e)
            · cases hi1)
          have hsl := slice_high (some ⟨bg, bo, none⟩) bn bc j (by omega)
          have hlt : (bl.take j).length = j := by rw [List.length_take]; have := HBN.out; omega
          have ham : ∀ n', Calls Tryz.prog 161 #[.int .i64 (q : Int), .slice (some ⟨bg, bo, none⟩) j bc] (wr.drewN n') fun e w' => e = .returned (.bool false) ∧ w' = wr.drewN n' := fun n' => by
            have := among09_any (some ⟨bg, bo, none⟩) bc (bl.take j) q (wr.drewN n') (by rw [List.map_take]; exact (hLj.take j)) (by rw [hlt]; omega)
            rw [hlt, hnot] at this
            exact this
          have s0 : decide ((q : Int) < 32) = false := decide_eq_false (by omega)
          have s0b : decide (q < 32) = false := decide_eq_false (by omega)
          have s1 : decide ((65536 : Int) ≤ (q : Int)) = false := decide_eq_false (by omega)
          have s1b : decide (65536 ≤ q) = false := decide_eq_false (by omega)
          have HAM := Lib.hid ham
          have HQ := Lib.hid hq
          clear hLj hnd hnot hlt ham hq hbf
          go_wp2_with fail
          go_quiet ((go_at_call 161; refine Calls.quiet_of_same (HAM.out _)))
          obtain ⟨V3, hV3⟩ : ∃ V, V = wr.drewN nq := ⟨_, rfl⟩
          have hBV3 : Below W2.heap.size W2 V3 := by rw [hV3]; exact drewN_below HJ.out _
          rw [← hV3]
          have HBV3 := Lib.hid hBV3
          clear hV3 hBV3 HJ HAM hsl cq f3
          go_wp2_with fail
          clear s0 s0b s1 s1b
          go_loopw [8] (fun y wr => ∃ k : Nat, k ≤ i ∧ y = .int .i64 (k : Int) ∧ Hid (Below W2.heap.size W2 wr)) (fun y _ => i - (intOf y).toNat)
          case atStart => exact ⟨0, Nat.zero_le _, rfl, HBV3⟩
          case round =>
            clear HBV3
            obtain ⟨k, hk, rfl, HK⟩ := hrel
            by_cases hki : k < i
            · have hkd : decide ((k : Int) < (i : Int)) = true := decide_eq_true (by omega)
              obtain ⟨z, hz⟩ : ∃ z, l[k]? = some z := ⟨l[k]'(by rw [← HNL.out]; omega), List.getElem?_eq_getElem _⟩
              have hzf : fs[k]? = some z.f := by rw [HFS.out, List.getElem?_map, hz]; rfl
              have hFr := HF1.out.later (HB2.out.trans (HK.out.mono HB2.out.size))
              obtain ⟨g', o', e', _, _, _, z3⟩ := hFr.cells hz
              cases e'
              have hzb := (HB.out z (List.mem_of_getElem? hz)).1
              obtain ⟨hLz, hcz⟩ := hFr.blocks z (List.mem_of_getElem? hz)
              have hLj := HLB.out.later (HB2.out.trans (HK.out.mono HB2.out.size))
              obtain ⟨g2, o2, e2, cq⟩ := lies_at hLj (k := j) (u := iv q) (by rw [List.getElem?_map, HQ.out]; rfl)
              cases e2
              unfold iv at cq
              have f3 := (HBF.out.below HK.out HBF.out.lt).cell 3
              have x2 := (HBX.out.below HK.out HBX.out.lt).cell 2
              simp at f3 x2
              have hnot : decide (q ∈ z.f.blocks) = false := decide_eq_false (fun hm => by
                have e := bks_apart HM.out.bks.1 (List.mem_of_getElem? hzf) (List.mem_of_getElem? HXF.out) hm (List.mem_of_getElem? HQ.out)
                obtain ⟨k1, e1⟩ := List.getElem?_eq_some_iff.1 hzf
                obtain ⟨k2, e2⟩ := List.getElem?_eq_some_iff.1 HXF.out
                have := List.pairwise_iff_getElem.1 HM.out.rise k i k1 k2 hki
                rw [e1, e2, e] at this
                exact List.lt_irrefl _ this)
              obtain ⟨zn, hzn⟩ : ∃ n, n = z.f.blocks.length := ⟨_, rfl⟩
              have ham : ∀ n', Calls Tryz.prog 161 #[.int .i64 (q : Int), .slice z.a zn z.c] (wr.drewN n') fun e w' => e = .returned (.bool false) ∧ w' = wr.drewN n' := fun n' => by
                have := among09_any z.a z.c z.f.blocks q (wr.drewN n') hLz hzb
                rw [hnot, ← hzn] at this
                exact this
              rw [← hzn] at z3 hzb hcz
              have HAM := Lib.hid ham
              clear hz hzf hFr hLz hLj hnot hzn ham
              go_wp2_with fail
              go_quiet ((go_at_call 161; refine Calls.quiet_of_same (HAM.out _)))
              go_wp2_with fail
              go_roundw
              case rel => exact ⟨k + 1, hki, by simp, Lib.hid (drewN_below HK.out _)⟩
              case measure => simp [intOf]; omega
            · obtain rfl : i = k := by omega
              have hkd : decide ((i : Int) < (i : Int)) = false := decide_eq_false (by omega)
              go_wp2_with fail
              go_roundw
              case rel => exact ⟨j + 1, hjn, by simp, HK⟩
              case measure => simp [intOf]; omega
        · obtain rfl : j = bn := by omega
          have hjd : decide ((j : Int) < (j : Int)) = false := decide_eq_false (by omega)
          go_wp2_with fail
          go_ret
          exact ⟨rfl, HB02.out.trans (HJ.out.mono HB02.out.size)⟩
end Go.Proofs.YtbfochdoeibofaaGreatDoor.RefF

/- palmerref09: May, of a manifest whose files are right. -/
namespace Go.Proofs.YtbfochdoeibofaaGreatDoor.RefF
open Go.RowKit Go.Deep Mem Crc Go.Proofs.YtbfochdoeibofaaGreatDoor.Mani Go.Proofs.YtbfochdoeibofaaGreatDoor.Full

attribute [local go_sem] Oper.semAt_some
set_option maxHeartbeats 1000000 in
set_option maxRecDepth 100000 in
theorem may09_yes (ver next : Nat) (a : Option Addr) (c : Nat) (l : List FR) (w : World) (h : FilesIn w a l) (hM : MOk next none [] [] (l.map FR.f)) (hl : l.length ≤ 1000000) (hb : ∀ x ∈ l, x.f.blocks.length ≤ 1000000 ∧ x.f.size ≤ 1000000000) (hv : ver < 18446744073709551616) (hn : next < 4294967296) (hm : (bodyL ver next (l.map FR.f)).length ≤ 900000) :
    Calls Tryz.prog 104 #[.agg #[.int .u64 (ver : Int), .int .u32 (next : Int), .slice a l.length c]] w fun e w' => e = .returned (.bool (decide ((bodyL ver next (l.map FR.f)).length ≤ 2035))) ∧ Below w.heap.size w w' := by
  obtain ⟨n, hnl⟩ : ∃ n, n = l.length := ⟨_, rfl⟩
  rw [← hnl] at hl ⊢
  have hfile : ∀ (i : Nat) (V : World), i < n → FilesIn V a l → _ := fun i V hi hV => file09_yes ver next a c l i V hV hM (by omega) (by omega) hb
  rw [← hnl] at hfile
  have hbody : ∀ V : World, FilesIn V a l → _ := fun V hV => body09_any ver next a c l V hV hv hn (fun x hx => ⟨Nat.lt_trans (hM.each x.f (List.mem_map.2 ⟨x, hx, rfl⟩)).id hn, by have := (hb x hx).2; omega, fun i hi => by have := ((hM.each x.f (List.mem_map.2 ⟨x, hx, rfl⟩)).blocks i hi).2; omega⟩) hm (by omega)
  rw [← hnl] at hbody
  obtain ⟨rv, hrv⟩ : ∃ b, b = decide ((bodyL ver next (l.map FR.f)).length ≤ 2035) := ⟨_, rfl⟩
  obtain ⟨bn, hbn⟩ : ∃ k, k = (bodyL ver next (l.map FR.f)).length := ⟨_, rfl⟩
  rw [← hrv]
  rw [← hbn] at hrv hm
  have HBN := Lib.hid hbn
  obtain ⟨W1, hW1⟩ : ∃ W1, W1 = w.alloc (.cells #[.int .u64 (ver : Int), .int .u32 (next : Int), .slice a n c] 34) := ⟨_, rfl⟩
  obtain ⟨xb, hxb⟩ : ∃ xb, xb = w.heap.size := ⟨_, rfl⟩
  have hB1 : Below w.heap.size w W1 := by rw [hW1]; exact (Below.refl _ w).alloc (Nat.le_refl _) _
  have hbx1 : Blk W1 xb 34 #[.int .u64 (ver : Int), .int .u32 (next : Int), .slice a n c] := by rw [hW1, hxb]; exact Blk.new w _ _
  have HF1 := Lib.hid (h.later hB1)
  have HFL := Lib.hid hfile
  have HBD := Lib.hid hbody
  have HB1 := Lib.hid hB1
  have HBX := Lib.hid hbx1
  have HRV := Lib.hid hrv
  clear h hM hb hfile hbody hB1 hbx1 hnl hbn hrv
  go_enter Tryz.func104, Tryz.ntmps104
  go_wp2_with fail
  rw [← hW1, ← hxb]
  clear hW1 hxb
  go_loopw [7] (fun y wr => ∃ k : Nat, k ≤ n ∧ y = .int .i64 (k : Int) ∧ Hid (Below W1.heap.size W1 wr)) (fun y _ => n - (intOf y).toNat)
  case atStart => exact ⟨0, Nat.zero_le _, rfl, Lib.hid (Below.refl _ _)⟩
  case round =>
    obtain ⟨k, hk, rfl, HK⟩ := hrel
    have hbk := HBX.out.below HK.out HBX.out.lt
    have x0 := hbk.cell 0
    have x1 := hbk.cell 1
    have x2 := hbk.cell 2
    simp at x0 x1 x2
    by_cases hkn : k < n
    · have hkd : decide ((k : Int) < (n : Int)) = true := decide_eq_true (by omega)
      have HC := Lib.hid (HFL.out k wr hkn (HF1.out.later HK.out))
      clear hbk
      go_wp2_with fail
      refine HC.out.mono ?_
      rintro e w1 ⟨rfl, hB⟩
      have HN := Lib.hid (HK.out.trans (hB.mono HK.out.size))
      clear hB
      go_wp2_with fail
      go_roundw
      case rel => exact ⟨k + 1, hkn, by simp, HN⟩
      case measure => simp [intOf]; omega
    · obtain rfl : n = k := by omega
      have hkd : decide ((n : Int) < (n : Int)) = false := decide_eq_false (by omega)
      have HC := Lib.hid (HBD.out wr (HF1.out.later HK.out))
      clear hbk
      go_wp2_with fail
      refine HC.out.mono ?_
      rintro e w1 ⟨v, rfl, hO, hB⟩
      obtain ⟨va, vc, rfl, _, _, _, _⟩ := own_shape hO
      rw [← HBN.out]
      have HN := Lib.hid (HK.out.trans (hB.mono HK.out.size))
      have hrd : decide ((bn : Int) + 13 ≤ 2048) = rv := by
        rw [HRV.out]
        by_cases e : bn ≤ 2035
        · rw [decide_eq_true e, decide_eq_true (by omega)]
        · rw [decide_eq_false e, decide_eq_false (by omega)]
      clear hB hO
      go_wp2_with fail
      go_ret
      exact ⟨rfl, HB1.out.trans (HN.out.mono HB1.out.size)⟩
end Go.Proofs.YtbfochdoeibofaaGreatDoor.RefF

/- palmerref09: Same, of manifests that are the same. -/
namespace Go.Proofs.YtbfochdoeibofaaGreatDoor.RefF
open Go.RowKit Go.Deep Mem Crc Go.Proofs.YtbfochdoeibofaaGreatDoor.Mani

theorem neq_str9 (t : TypeId) (a : ByteArray) : binOp .neq t (.string a) (.string a) = pure (.bool false) := by simp [binOp, Op.stringOp, bne]
attribute [local go_sem] neq_str9
attribute [local go_sem] Oper.semAt_some
end Go.Proofs.YtbfochdoeibofaaGreatDoor.RefF

/- palmerref10.Plan: what is under way, as it lies in memory. -/
namespace Go.Proofs.YtbfochdoeibofaaGreatDoor.RefF
open Go.RowKit Go.Deep Mem Crc Go.Proofs.YtbfochdoeibofaaGreatDoor.Mani Go.Proofs.YtbfochdoeibofaaGreatDoor.Full

/-- A file's blocks lie in the row of what is free. -/
def InRow (W : World) (vF : Value) (y : FR) : Prop := Lies W y.a (y.f.blocks.map iv) ∧ y.f.blocks.length ≤ y.c ∧ ∀ b, Mem.blk y.a = some b → vF.ownBlock = some b
/-- x: the manifest handed in; r: the answer's cells; q: the manifest, whose files' row is u (v: the row as it is by now); vF: the row of what was free. -/
structure P10 (w : World) (l0 : List FR) (x r q : Nat) (cx : Array Value) (vF : Value) (F0 : List Nat) (ver next : Nat) (u v : Value) (l : List FR) (af : Option Addr) (cf : Nat) (fr : List Nat) (W : World) : Prop where
  below : Below w.heap.size w W
  par : Blk W x 34 cx
  res : Blk W r 34 #[.int .u64 0, .int .u32 0, .slice none 0 0]
  man : Blk W q 34 #[.int .u64 (ver : Int), .int .u32 (next : Int), u]
  row : W.ownsRow w.heap.size 96 4 v l.length (flatF l)
  own : W.ownsRow w.heap.size 3 1 vF F0.length (F0.map iv)
  free : Lies W af (fr.map iv)
  fa : ∀ b, Mem.blk af = some b → vF.ownBlock = some b
  fc : fr.length ≤ cf
  blocks : ∀ y ∈ l, y ∈ l0 ∨ InRow W vF y
  gq : w.heap.size ≤ q
  gr : w.heap.size ≤ r
  ne : q ≠ r
  nx : q ≠ x
variable {w W W' : World} {l0 l l' : List FR} {x r q : Nat} {cx : Array Value} {vF : Value} {F0 : List Nat} {ver next : Nat} {u v v' : Value} {af : Option Addr} {cf : Nat} {fr : List Nat}
theorem InRow.upon {y : FR} {P : Nat → Prop} (h : InRow W vF y) (hu : Upon P W W') (hn : ∀ b, vF.ownBlock = some b → ¬ P b) : InRow W' vF y := ⟨h.1.upon hu (fun b hb => hn b (h.2.2 b hb)), h.2⟩
theorem P10.move {P : Nat → Prop} (h : P10 w l0 x r q cx vF F0 ver next u v l af cf fr W) (hu : Upon P W W') (hb : Below w.heap.size w W') (h1 : ¬ P x) (h2 : ¬ P r) (h3 : ∀ b, vF.ownBlock = some b → ¬ P b) (hm : Blk W' q 34 #[.int .u64 (ver : Int), .int .u32 (next : Int), u]) (hr : W'.ownsRow w.heap.size 96 4 v l.length (flatF l)) : P10 w l0 x r q cx vF F0 ver next u v l af cf fr W' :=
  ⟨hb, h.par.upon hu h1, h.res.upon hu h2, hm, hr, own_upon h.own hu h3, h.free.upon hu (fun b hb => h3 b (h.fa b hb)), h.fa, h.fc, fun y hy => (h.blocks y hy).imp id (fun h4 => h4.upon hu h3), h.gq, h.gr, h.ne, h.nx⟩
theorem P10.later (h : P10 w l0 x r q cx vF F0 ver next u v l af cf fr W) (hB : Below W.heap.size W W') : P10 w l0 x r q cx vF F0 ver next u v l af cf fr W' :=
  h.move (P := fun _ => False) (Upon.of_below hB) (h.below.trans (hB.mono h.below.size)) id id (fun _ _ => id) (h.man.below hB h.man.lt) (own_later h.row hB)
theorem P10.rowed (h : P10 w l0 x r q cx vF F0 ver next u v l af cf fr W) (hg : W.grownBy W' v.ownBlock) (hrow : W'.ownsRow w.heap.size 96 4 v' l'.length (flatF l')) (hb : ∀ y ∈ l', y ∈ l ∨ y ∈ l0 ∨ InRow W vF y) : P10 w l0 x r q cx vF F0 ver next u v' l' af cf fr W' := by
  have hu : Upon (fun g => v.ownBlock = some g) W W' := Upon.of_grown hg (fun g hg => .inl hg)
  have h3 : ∀ b, vF.ownBlock = some b → ¬ v.ownBlock = some b := fun b hb e => own_ne_own h.row h.own (by decide) e hb
  refine ⟨h.below.trans (hu.below h.below.size (fun g hg => (h.row.lt g hg).1)), h.par.upon hu (own_ne_blk h.row h.par (by decide)), h.res.upon hu (own_ne_blk h.row h.res (by decide)), h.man.upon hu (own_ne_blk h.row h.man (by decide)), hrow, own_upon h.own hu h3, h.free.upon hu (fun b hb => h3 b (h.fa b hb)), h.fa, h.fc, fun y hy => ?_, h.gq, h.gr, h.ne, h.nx⟩
  rcases hb y hy with h1 | h1 | h1
  · exact (h.blocks y h1).imp id (fun h4 => h4.upon hu h3)
  · exact .inl h1
  · exact .inr (h1.upon hu h3)
theorem P10.store (h : P10 w l0 x r q cx vF F0 ver next u v l af cf fr W) (i : Nat) (z : Value) {ver' next' : Nat} {u' : Value} (he : (#[.int .u64 (ver : Int), .int .u32 (next : Int), u] : Array Value).setIfInBounds i z = #[.int .u64 (ver' : Int), .int .u32 (next' : Int), u']) : P10 w l0 x r q cx vF F0 ver' next' u' v l af cf fr (W.setCell ⟨q, i, none⟩ z) := by
  have hu : Upon (fun g => g = q) W (W.setCell ⟨q, i, none⟩ z) := Upon.set (P := fun g => g = q) (Upon.refl _ W) (p := ⟨q, i, none⟩) (.inl rfl) z
  have h3 : ∀ b, vF.ownBlock = some b → ¬ b = q := fun b hb e => own_ne_blk h.own h.man (by decide) (by rw [← e]; exact hb)
  have hm := h.man.set i z
  rw [he] at hm
  exact ⟨h.below.setCell h.gq z, h.par.upon hu (fun e => h.nx e.symm), h.res.upon hu (fun e => h.ne e.symm), hm, own_far h.row (own_ne_blk h.row h.man (by decide)) z, own_upon h.own hu h3, h.free.upon hu (fun b hb => h3 b (h.fa b hb)), h.fa, h.fc, fun y hy => (h.blocks y hy).imp id (fun h4 => h4.upon hu h3), h.gq, h.gr, h.ne, h.nx⟩
theorem P10.set (h : P10 w l0 x r q cx vF F0 ver next u v l af cf fr W) : P10 w l0 x r q cx vF F0 ver next v v l af cf fr (W.setCell ⟨q, 2, none⟩ v) := h.store 2 v rfl
theorem P10.nexts (h : P10 w l0 x r q cx vF F0 ver next u v l af cf fr W) (n : Nat) : P10 w l0 x r q cx vF F0 ver n u v l af cf fr (W.setCell ⟨q, 1, none⟩ (.int .u32 (n : Int))) := h.store 1 _ rfl
theorem P10.drop (h : P10 w l0 x r q cx vF F0 ver next u v l af cf fr W) {af' : Option Addr} {cf' : Nat} {fr' : List Nat} (hL : Lies W af' (fr'.map iv)) (ha : ∀ b, Mem.blk af' = some b → Mem.blk af = some b) (hc : fr'.length ≤ cf') : P10 w l0 x r q cx vF F0 ver next u v l af' cf' fr' W :=
  ⟨h.below, h.par, h.res, h.man, h.row, h.own, hL, fun b hb => h.fa b (ha b hb), hc, h.blocks, h.gq, h.gr, h.ne, h.nx⟩
theorem P10.files {a0 : Option Addr} (h : P10 w l0 x r q cx vF F0 ver next u v l af cf fr W) (hF : FilesIn w a0 l0) : ∃ a c, v = .slice a l.length c ∧ FilesIn W a l ∧ (∀ b, Mem.blk a = some b → w.heap.size ≤ b ∧ b < W.heap.size) ∧ ∀ y ∈ l, y ∈ l0 ∨ ∀ b, Mem.blk y.a = some b → w.heap.size ≤ b ∧ b < W.heap.size := by
  obtain ⟨a, c, rfl, _, hL, hg, _⟩ := own_shape h.row
  refine ⟨a, c, rfl, ⟨hL, fun y hy => ?_⟩, hg, fun y hy => (h.blocks y hy).imp id (fun h4 b hb => h.own.lt b (h4.2.2 b hb))⟩
  rcases h.blocks y hy with h1 | h1
  · exact ⟨(hF.blocks y h1).1.later h.below, (hF.blocks y h1).2⟩
  · exact ⟨h1.1, h1.2.1⟩
theorem P10.files9 {a0 : Option Addr} (h : P10 w l0 x r q cx vF F0 ver next u v l af cf fr W) (hF : FilesIn w a0 l0) (hu : Upon (fun g => g = r) W W') : ∃ a c, v = .slice a l.length c ∧ FilesIn W' a l := by
  have hrow := own_upon h.row hu (fun g hg e => own_ne_blk h.row h.res (by decide) (by rw [← e]; exact hg))
  obtain ⟨a, c, rfl, _, hL, hg, _⟩ := own_shape hrow
  have hB : Below w.heap.size w W' := h.below.trans (hu.below h.below.size (fun g hg => by rw [hg]; exact h.gr))
  refine ⟨a, c, rfl, ⟨hL, fun y hy => ?_⟩⟩
  rcases h.blocks y hy with h1 | h1
  · exact ⟨(hF.blocks y h1).1.later hB, (hF.blocks y h1).2⟩
  · have h2 := h1.upon hu (fun b hb e => own_ne_blk h.own h.res (by decide) (by rw [← e]; exact hb))
    exact ⟨h2.1, h2.2.1⟩
/-- Crude bounds of what is under way. -/
theorem rplan_len {fs : List Fil} {ch : List (List UInt8)} : ∀ {L : List FF} {s s' : RP}, rplan fs ch L s = some s' → s'.out.length ≤ s.out.length + L.length * (fs.length + 1) ∧ s'.next ≤ s.next + L.length ∧ s.next ≤ s'.next ∧ s'.free.length ≤ s.free.length
  | [], s, s', h => by
    have h : some s = some s' := h
    cases h
    exact ⟨by omega, by omega, by omega, by omega⟩
  | x :: r, s, s', h => by
    rw [rplan_cons] at h
    cases ht : rstep fs ch x s with
    | none => rw [ht] at h; cases h
    | some t =>
      rw [ht] at h
      obtain ⟨h1, h2, h3, h4⟩ := rplan_len (L := r) (s := t) h
      have hs : t.out.length ≤ s.out.length + (fs.length + 1) ∧ t.next ≤ s.next + 1 ∧ s.next ≤ t.next ∧ t.free.length ≤ s.free.length := by
        unfold rstep at ht
        split at ht
        · split at ht
          · cases ht
          · cases ht
            refine ⟨?_, ?_, ?_, ?_⟩ <;> simp <;> omega
        · cases ht
          have := List.length_filter_le (fun f => decide (f.name = x.1)) fs
          refine ⟨?_, ?_, ?_, ?_⟩ <;> simp <;> omega
      rw [List.length_cons, Nat.succ_mul]
      omega
end Go.Proofs.YtbfochdoeibofaaGreatDoor.RefF

/- palmerref10.Plan: the walk. -/
namespace Go.Proofs.YtbfochdoeibofaaGreatDoor.RefF
open Go.RowKit Go.Deep Mem Crc Go.Proofs.YtbfochdoeibofaaGreatDoor.Mani Go.Proofs.YtbfochdoeibofaaGreatDoor.Full Go.Proofs.YtbfochdoeibofaaGreatDoor.Read
open Go.Proofs.YtbfochdoeibofaaGreatDoor.Store (nv)

theorem slice_F (g o n nc k : Nat) (hk : k < n) (hn : n ≤ nc) (W : World) : (Instr.sliceAt 35 (.slice (some ⟨g, o, none⟩) n nc) (some (.int .i64 (k : Int))) (some (.int .i64 ((k : Int) + 1))) none).run Tryz.prog W = .ok (.slice (some ⟨g, o + k * 2, none⟩) 1 (nc - k)) W := by
  have hel : Tryz.prog.elem 35 = 69 := by kernel_rfl
  have hu : Tryz.prog.underlying 35 = some (.slice (Tryz.prog.elem 35)) := by rw [hel]; exact Tryz.underlying35
  have hsz : ∀ W : World, (sizeOf 69).run Tryz.prog W = .ok 2 W := fun W => by kernel_rfl
  rw [run_sliceAt_slice W _ _ _ _ _ hu, run_slice_lh W _ _ _ _ hu .i64 .i64 (k : Int) ((k : Int) + 1) (by omega) (by omega) (by omega), hel, hsz]
  have e1 : ((k : Int) + 1).toNat = k + 1 := by omega
  have e2 : (k : Int).toNat = k := by omega
  simp only [Result.andThen, sliced, e1, e2]
  have e3 : (⟨g, o, none⟩ : Addr).add (k * 2) = ⟨g, o + k * 2, none⟩ := by unfold Addr.add; split <;> simp_all
  have e4 : k + 1 - k = 1 := by omega
  rw [if_neg (by omega), e4, Option.map_some, e3]
theorem slice_hm (a : Option Addr) (len cap m : Nat) (h1 : m ≤ cap) (W : World) : (Instr.sliceAt 51 (.slice a len cap) none (some (.int .i64 (m : Int))) (some (.int .i64 (m : Int)))).run Tryz.prog W = .ok (.slice a m m) W := by
  have hel : Tryz.prog.elem 51 = 3 := by kernel_rfl
  have hu : Tryz.prog.underlying 51 = some (.slice (Tryz.prog.elem 51)) := by rw [hel]; exact Tryz.underlying51
  have hsz : ∀ W : World, (sizeOf 3).run Tryz.prog W = .ok 1 W := fun W => by kernel_rfl
  rw [run_sliceAt_slice W _ _ _ _ _ hu, run_slice_hm W _ _ _ _ hu .i64 .i64 (m : Int) (m : Int) (by omega) (by omega) (by omega), hel, hsz]
  cases a with
  | none => simp [Result.andThen, sliced]
  | some p =>
    have : p.add 0 = p := by unfold Addr.add; cases p; split <;> simp_all
    simp [Result.andThen, sliced, this]
theorem slice_l (a : Option Addr) (len cap m : Nat) (h1 : m ≤ len) : ∃ a', (∀ W : World, (Instr.sliceAt 51 (.slice a len cap) (some (.int .i64 (m : Int))) none none).run Tryz.prog W = .ok (.slice a' (len - m) (cap - m)) W) ∧ (∀ b, Mem.blk a' = some b → Mem.blk a = some b) ∧ ∀ (W : World) (l : List Nat), l.length = len → len ≤ cap → Lies W a (l.map iv) → Lies W a' ((l.drop m).map iv) := by
  have hel : Tryz.prog.elem 51 = 3 := by kernel_rfl
  have hu : Tryz.prog.underlying 51 = some (.slice (Tryz.prog.elem 51)) := by rw [hel]; exact Tryz.underlying51
  have hsz : ∀ W : World, (sizeOf 3).run Tryz.prog W = .ok 1 W := fun W => by kernel_rfl
  refine ⟨if cap = m then a else a.map (·.add (m * 1)), fun W => ?_, fun b hb => ?_, fun W l hl hc hL => ?_⟩
  · rw [run_sliceAt_slice W _ _ _ _ _ hu, run_slice_l W _ _ _ _ hu .i64 (m : Int) (by omega) (by omega), hel, hsz]
    simp [Result.andThen, sliced]
  · split at hb
    · exact hb
    · cases a with
      | none => exact hb
      | some p =>
        rw [← hb]
        unfold Mem.blk
        simp
        unfold Addr.add
        split <;> rfl
  · by_cases hm : m = len
    · rw [List.drop_of_length_le (by omega)]
      exact .inl rfl
    · rw [if_neg (by omega), List.map_drop]
      rcases hL with h0 | ⟨g, o, rfl, hg, hcs⟩
      · exact .inl (by rw [h0]; simp)
      · have := (Lies.drop (w := W) (g := g) (off := o) (xs := l.map iv) (.inr ⟨g, o, rfl, hg, hcs⟩) m)
        rw [Nat.mul_one]
        have e3 : (⟨g, o, none⟩ : Addr).add m = ⟨g, o + m, none⟩ := by unfold Addr.add; split <;> simp_all
        show Lies W (some (Addr.add ⟨g, o, none⟩ m)) _
        rw [e3]
        exact this
theorem many_pages (n : Nat) : (n + 111) / 112 = Mani.many n := by
  unfold Mani.many
  split <;> omega
theorem far_three {W : World} {g rb : Nat} {t : TypeId} {cs : Array Value} (h : Blk W g t cs) (hn : g ≠ rb) (v0 v1 v2 : Value) : Blk (((W.setCell ⟨rb, 0, none⟩ v0).setCell ⟨rb, 1, none⟩ v1).setCell ⟨rb, 2, none⟩ v2) g t cs := ((h.far (p := ⟨rb, 0, none⟩) hn v0).far (p := ⟨rb, 1, none⟩) hn v1).far (p := ⟨rb, 2, none⟩) hn v2
/-- What Plan answers. -/
def Planned (w : World) (l : List FR) (ver : Nat) (o : Option RP) (e : Ending) (w' : World) : Prop :=
  Below w.heap.size w w' ∧ match o with
    | none => e = .returned (.tuple #[.agg #[.int .u64 0, .int .u32 0, .slice none 0 0], .bool false])
    | some s => ∃ a' c' l', e = .returned (.tuple #[.agg #[.int .u64 ((ver + 1 : Nat) : Int), .int .u32 (s.next : Int), .slice a' (l' : List FR).length c'], .bool (decide ((bodyL (ver + 1) s.next s.out).length ≤ 2035))]) ∧ l'.map FR.f = s.out ∧ FilesIn w' a' l' ∧ (∀ b, Mem.blk a' = some b → w.heap.size ≤ b ∧ b < w'.heap.size) ∧ ∀ y ∈ l', y ∈ l ∨ ∀ b, Mem.blk y.a = some b → w.heap.size ≤ b ∧ b < w'.heap.size
attribute [local go_sem] eql_str
attribute [local go_sem] Oper.semAt_some
set_option maxHeartbeats 4000000 in
set_option maxRecDepth 100000 in
theorem plan10_any (ver next : Nat) (a : Option Addr) (c : Nat) (l : List FR) (cnt : Nat) (an : Option Addr) (nc : Nat) (L : List FF) (ac : Option Addr) (cc : Nat) (ch : List (List UInt8)) (w : World)
    (h : FilesIn w a l) (hN : Lies w an (flatP L)) (hC : Lies w ac (ch.map nv)) (hl : l.length ≤ 2100) (hb : ∀ x ∈ l, x.f.blocks.length ≤ 1000000 ∧ ∀ i ∈ x.f.blocks, i < cnt) (hc : 33 ≤ cnt) (hc2 : cnt ≤ 65536) (hL : L.length ≤ 100) (hLc : L.length ≤ nc) (hLb : ∀ x ∈ L, x.2.length ≤ 1000000) (hch : ch.length ≤ 1000000) (hv : ver < 18446744073709551615) (hnx : next + L.length < 4294967295)
    (hM : ∀ s, rplan (l.map FR.f) ch L ⟨freeB cnt (l.map FR.f), next, []⟩ = some s → MOk s.next none [] [] s.out ∧ (bodyL (ver + 1) s.next s.out).length ≤ 900000 ∧ ∀ f ∈ s.out, f.blocks.length ≤ 1000000 ∧ f.size ≤ 1000000000) :
    Calls Tryz.prog 94 #[.agg #[.int .u64 (ver : Int), .int .u32 (next : Int), .slice a l.length c], .int .i64 (cnt : Int), .slice an L.length nc, .slice ac ch.length cc] w fun e w' =>
      Planned w l ver (rplan (l.map FR.f) ch L ⟨freeB cnt (l.map FR.f), next, []⟩) e w' := by
  obtain ⟨nl, hnl⟩ : ∃ n, n = l.length := ⟨_, rfl⟩
  obtain ⟨n, hn⟩ : ∃ n, n = L.length := ⟨_, rfl⟩
  obtain ⟨nh, hnh⟩ : ∃ n, n = ch.length := ⟨_, rfl⟩
  obtain ⟨fs, hfs⟩ : ∃ fs, fs = l.map FR.f := ⟨_, rfl⟩
  obtain ⟨F0, hF0⟩ : ∃ F0, F0 = freeB cnt (l.map FR.f) := ⟨_, rfl⟩
  have hfl : F0.length ≤ 65536 := by
    rw [hF0]
    unfold Full.freeB
    exact Nat.le_trans (List.length_filter_le _ _) (by simp; omega)
  rw [← hF0] at hM ⊢
  rw [← hfs] at hM ⊢
  obtain ⟨st, hst⟩ : ∃ st, st = RP.mk F0 next [] := ⟨_, rfl⟩
  rw [← hst] at hM ⊢
  obtain ⟨W1, hW1⟩ : ∃ W1, W1 = w.alloc (.cells #[.int .u64 (ver : Int), .int .u32 (next : Int), .slice a nl c] 34) := ⟨_, rfl⟩
  obtain ⟨W2, hW2⟩ : ∃ W2, W2 = W1.alloc (.cells #[.int .u64 0, .int .u32 0, .slice none 0 0] 34) := ⟨_, rfl⟩
  obtain ⟨xb, hxb⟩ : ∃ xb, xb = w.heap.size := ⟨_, rfl⟩
  obtain ⟨rb, hrb⟩ : ∃ rb, rb = w.heap.size + 1 := ⟨_, rfl⟩
  have hs1 : W1.heap.size = w.heap.size + 1 := by rw [hW1, World.size_alloc]
  have hB1 : Below w.heap.size w W1 := by rw [hW1]; exact (Below.refl _ w).alloc (Nat.le_refl _) _
  have hB2 : Below w.heap.size w W2 := by rw [hW2]; exact hB1.alloc hB1.size _
  have hbx1 : Blk W1 xb 34 #[.int .u64 (ver : Int), .int .u32 (next : Int), .slice a nl c] := by rw [hW1, hxb]; exact Blk.new w _ _
  have hbx2 : Blk W2 xb 34 #[.int .u64 (ver : Int), .int .u32 (next : Int), .slice a nl c] := by rw [hW2]; exact hbx1.alloc _
  have hbr2 : Blk W2 rb 34 #[.int .u64 0, .int .u32 0, .slice none 0 0] := by rw [hW2, hrb, ← hs1]; exact Blk.new W1 _ _
  have hfree := free10_any ver next a c l cnt W2 (h.later hB2) (by omega) hb (by omega) hc2
  rw [← hF0, ← hnl] at hfree
  have hgx : w.heap.size ≤ xb ∧ w.heap.size ≤ rb ∧ xb ≠ rb := by omega
  have HF := Lib.hid h
  have HN := Lib.hid hN
  have HC := Lib.hid hC
  have HB := Lib.hid hb
  have HLB := Lib.hid hLb
  have HM := Lib.hid hM
  have HNL := Lib.hid hnl
  have HNN := Lib.hid hn
  have HNH := Lib.hid hnh
  have HFS := Lib.hid hfs
  have HFL := Lib.hid hfl
  have HST := Lib.hid hst
  have HB2 := Lib.hid hB2
  have HBX2 := Lib.hid hbx2
  have HBR2 := Lib.hid hbr2
  have HFREE := Lib.hid hfree
  have HGX := Lib.hid hgx
  rw [← hn] at hL hLc hnx
  rw [← hnh] at hch
  rw [← hnl] at hl
  rw [← hnl, ← hn, ← hnh]
  clear h hN hC hb hLb hM hnl hn hnh hfs hF0 hfl hst hB1 hB2 hbx1 hbx2 hbr2 hfree hs1 hgx
  go_enter Tryz.func94, Tryz.ntmps94
  go_wp2_with fail
  rw [← hW1, ← hW2, ← hrb, ← hxb]
  clear hW1 hW2 hxb hrb
  refine HFREE.out.mono ?_
  rintro e w3 ⟨vF, rfl, hOF, hB3⟩
  obtain ⟨af0, cf0, rfl, hcf0, hLF, hgF, _⟩ := own_shape hOF
  obtain ⟨W4, hW4⟩ : ∃ W4, W4 = w3.alloc (.cells #[.int .u64 ((ver : Int) + 1), .int .u32 (next : Int), .slice none 0 0] 34) := ⟨_, rfl⟩
  obtain ⟨q, hq⟩ : ∃ q, q = w3.heap.size := ⟨_, rfl⟩
  have hB34 : Below w3.heap.size w3 W4 := by rw [hW4]; exact (Below.refl _ w3).alloc (Nat.le_refl _) _
  have hB24 : Below W2.heap.size W2 W4 := hB3.trans (hB34.mono hB3.size)
  have hz2 := HB2.out.size
  have hz3 := hB3.size
  have hlx := HBX2.out.lt
  have hlr := HBR2.out.lt
  have hP0 : P10 w l xb rb q #[.int .u64 (ver : Int), .int .u32 (next : Int), .slice a nl c] (.slice af0 F0.length cf0) F0 (ver + 1) next (.slice none 0 0) (.slice none 0 0) [] af0 cf0 F0 W4 :=
    ⟨HB2.out.trans (hB24.mono hz2), HBX2.out.below hB24 hlx, HBR2.out.below hB24 hlr, by rw [hW4, hq]; exact Blk.new w3 _ _, World.ownsRow_nil _ _ _ _, own_mono (own_later hOF hB34) hz2, hLF.later hB34, fun b hb => by cases af0 <;> exact hb, hcf0, fun y hy => (by cases hy), by omega, HGX.out.2.1, by omega, by omega⟩
  have x0 := (HBX2.out.below hB3 hlx).cell 0
  have x1 := (HBX2.out.below hB3 hlx).cell 1
  simp at x0 x1
  have HP0 := Lib.hid hP0
  obtain ⟨vF, hvF⟩ : ∃ v, v = Value.slice af0 F0.length cf0 := ⟨_, rfl⟩
  rw [← hvF] at HP0
  obtain ⟨nf, hnf⟩ : ∃ k, k = F0.length := ⟨_, rfl⟩
  have HNF := Lib.hid hnf
  have HS0 : Hid (rplan fs ch (L.take 0) st = some st) := Lib.hid rfl
  rw [← hnf]
  clear hOF hB3 hcf0 hLF hgF hB34 hB24 hP0 hvF hnf hz2 hz3 hlx hlr HBX2 HBR2 HFREE
  go_wp2_with fail
  rw [← hW4, ← hq]
  clear hW4 hq x0 x1
  go_loopw [10, 26] (fun fv i wr => ∃ (k : Nat) (S : RP) (u : Value) (l' : List FR) (af : Option Addr) (cf nf : Nat), k ≤ n ∧ i = .int .i64 (k : Int) ∧ fv = .slice af nf cf ∧ nf ≤ 65536 ∧ nf ≤ cf ∧ Hid (nf = S.free.length) ∧ Hid (rplan fs ch (L.take k) st = some S) ∧ Hid (l'.map FR.f = S.out) ∧ Hid (P10 w l xb rb q #[.int .u64 (ver : Int), .int .u32 (next : Int), .slice a nl c] vF F0 (ver + 1) S.next u u l' af cf S.free wr)) (fun _ i _ => n - (intOf i).toNat)
  case atStart =>
    refine ⟨0, st, _, [], af0, cf0, nf, Nat.zero_le _, rfl, rfl, by rw [HNF.out]; exact HFL.out, ?_, Lib.hid (by rw [HST.out]; exact HNF.out), HS0, Lib.hid (by rw [HST.out]; rfl), Lib.hid (by rw [HST.out]; exact HP0.out)⟩
    rw [HNF.out]
    exact HP0.out.fc
  case round =>
    clear HP0 HS0
    obtain ⟨k, S, u, l', af, cf, nf, hk, rfl, rfl, hnf1, hnf2, HNF, HS, HL, HP⟩ := hrel
    by_cases hkn : k < n
    · have hkd : decide ((k : Int) < (n : Int)) = true := decide_eq_true (by omega)
      obtain ⟨x, hx⟩ : ∃ x, L[k]? = some x := ⟨L[k]'(by rw [← HNN.out]; exact hkn), List.getElem?_eq_getElem _⟩
      have hBr := HP.out.below
      obtain ⟨gn, on, rfl, c0, c1⟩ := cells_at (HN.out.later hBr) hx
      obtain ⟨sx, hsx⟩ : ∃ b : ByteArray, nv x.1 = .string b := ⟨_, rfl⟩
      obtain ⟨sy, hsy⟩ : ∃ b : ByteArray, nv x.2 = .string b := ⟨_, rfl⟩
      have ham := among_any ac cc ch x.1 wr (HC.out.later hBr) (by rw [← HNH.out]; exact hch)
      rw [hsx] at c0 ham
      rw [hsy] at c1
      rw [← HNH.out] at ham
      obtain ⟨tin, htin⟩ : ∃ b, b = decide (x.1 ∈ ch) := ⟨_, rfl⟩
      rw [← htin] at ham
      have hsn := rplan_snoc (fs := fs) (ch := ch) hx st
      rw [HS.out] at hsn
      have hsb : rplan fs ch (L.take (k + 1)) st = rstep fs ch x S := hsn
      obtain ⟨o1, o2, o3, o4⟩ := rplan_len HS.out
      have hfsl : fs.length = nl := by rw [HFS.out, List.length_map, ← HNL.out]
      rw [hfsl, HST.out] at o1
      rw [HST.out] at o2 o3
      dsimp only at o1 o2 o3
      have htk : (L.take k).length ≤ 100 := by rw [List.length_take]; omega
      have hol : l'.length ≤ 300000 := by
        rw [show l'.length = S.out.length by rw [← HL.out, List.length_map]]
        have : (L.take k).length * (nl + 1) ≤ 100 * 2101 := Nat.mul_le_mul htk (by omega)
        simp only [List.length_nil, Nat.zero_add] at o1
        omega
      have HAM := Lib.hid ham
      have HX := Lib.hid hx
      have HSX := Lib.hid hsx
      have HSY := Lib.hid hsy
      have HSB := Lib.hid hsb
      have HTI := Lib.hid htin
      have HOL := Lib.hid hol
      have htk2 : (L.take k).length ≤ k := by rw [List.length_take]; omega
      have HO2 := Lib.hid (And.intro (show S.next ≤ next + k by omega) o3)
      clear ham hx hsx hsy hsn hsb htin hol o1 o2 o3 o4 hfsl htk hBr
      go_wp2_with fail
      refine HAM.out.mono ?_
      rintro e w5 ⟨rfl, rfl⟩
      cases tin
      · have x2 := HP.out.par.cell 2
        simp at x2
        have hst : rplan fs ch (L.take (k + 1)) st = some ⟨S.free, S.next, S.out ++ fs.filter (fun f => decide (f.name = x.1))⟩ := by
          rw [HSB.out]
          unfold rstep
          rw [if_neg (of_decide_eq_false HTI.out.symm)]
        have HNS := Lib.hid hst
        have HP1 : Hid (∃ l2, l2.length ≤ 300000 + 0 ∧ l2.map FR.f = S.out ++ (fs.take 0).filter (fun f => decide (f.name = x.1)) ∧ P10 w l xb rb q #[.int .u64 (ver : Int), .int .u32 (next : Int), .slice a nl c] vF F0 (ver + 1) S.next u u l2 af cf S.free w5) := Lib.hid ⟨l', HOL.out, by rw [HL.out]; simp, HP.out⟩
        clear hst c0 c1
        go_wp2_with fail
        go_loopw [40] (fun i wr => ∃ j : Nat, j ≤ nl ∧ i = .int .i64 (j : Int) ∧ Hid (∃ u l2, l2.length ≤ 300000 + j ∧ l2.map FR.f = S.out ++ (fs.take j).filter (fun f => decide (f.name = x.1)) ∧ P10 w l xb rb q #[.int .u64 (ver : Int), .int .u32 (next : Int), .slice a nl c] vF F0 (ver + 1) S.next u u l2 af cf S.free wr)) (fun i _ => nl - (intOf i).toNat)
        case atStart => exact ⟨0, Nat.zero_le _, rfl, Lib.hid ⟨u, HP1.out⟩⟩
        case round =>
          clear HP1 x2
          obtain ⟨j, hj, rfl, HJ⟩ := hrel
          obtain ⟨u2, l2, hl2, hm2, hP2⟩ := HJ.out
          by_cases hjn : j < nl
          · have hjd : decide ((j : Int) < (nl : Int)) = true := decide_eq_true (by omega)
            obtain ⟨z, hz⟩ : ∃ z, l[j]? = some z := ⟨l[j]'(by rw [← HNL.out]; exact hjn), List.getElem?_eq_getElem _⟩
            have hBq := hP2.below
            obtain ⟨g', o', rfl, z0, z1, z2, z3⟩ := (HF.out.later hBq).cells hz
            obtain ⟨g2, o2, e2, c0, c1⟩ := cells_at (HN.out.later hBq) HX.out
            cases e2
            rw [HSX.out] at c0
            obtain ⟨sz, hsz⟩ : ∃ b : ByteArray, nv z.f.name = .string b := ⟨_, rfl⟩
            rw [show sv z.f.name = .string sz from hsz] at z0
            have hfz : fs[j]? = some z.f := by rw [HFS.out, List.getElem?_map, hz]; rfl
            have x2 := hP2.par.cell 2
            simp at x2
            have hnx2 : S.out ++ (fs.take (j + 1)).filter (fun f => decide (f.name = x.1)) = (S.out ++ (fs.take j).filter (fun f => decide (f.name = x.1))) ++ (if z.f.name = x.1 then [z.f] else []) := by
              rw [List.take_add_one, hfz, List.filter_append, List.append_assoc]
              congr 2
              by_cases e : z.f.name = x.1 <;> simp [e]
            obtain ⟨b, hb⟩ : ∃ b : Bool, (sz.toList == sx.toList) = b := ⟨_, rfl⟩
            have hbe : (z.f.name == x.1) = b := by rw [← str_beq hsz HSX.out]; exact hb
            have HP2 := Lib.hid hP2
            have HZ := Lib.hid hz
            have HNX2 := Lib.hid hnx2
            have HM2 := Lib.hid hm2
            have HL2 := Lib.hid hl2
            have HBE := Lib.hid hbe
            have HSZ := Lib.hid hsz
            clear hz hfz hP2 hBq hnx2 hm2 hl2 hbe hsz HJ
            cases b
            · go_wp2_with fail
              go_quiet (fail)
              go_wp2_with fail
              go_roundw
              case rel => exact ⟨j + 1, hjn, by simp, Lib.hid ⟨u2, l2, by have := HL2.out; omega, by rw [HNX2.out, HM2.out, if_neg (by have := HBE.out; simpa using this)]; simp, HP2.out.later (drewN_below (Below.refl _ _) _)⟩⟩
              case measure => simp [intOf]; omega
            · go_wp2_with fail
              go_quiet (fail)
              have hen : z.f.name = x.1 := by have := HBE.out; simpa using this
              obtain ⟨W5, hW5⟩ : ∃ W, W = wr.drewN nq := ⟨_, rfl⟩
              have hB5 : Below wr.heap.size wr W5 := by rw [hW5]; exact drewN_below (Below.refl _ _) _
              rw [← hW5]
              have hP5 := HP2.out.later hB5.drew
              have hsz5 := hP5.below.size
              obtain ⟨g3, o3, e3, z0, z1, z2, z3⟩ := (HF.out.later hP5.below).cells HZ.out
              cases e3
              rw [show sv z.f.name = .string sz from HSZ.out] at z0
              unfold iv at z2
              obtain ⟨zi, hzi⟩ : ∃ y, y = z.f.id := ⟨_, rfl⟩
              obtain ⟨zs, hzs⟩ : ∃ y, y = z.f.size := ⟨_, rfl⟩
              obtain ⟨zn, hzn⟩ : ∃ y, y = z.f.blocks.length := ⟨_, rfl⟩
              have hvs : z.vs = [.string sz, .int .u32 (zi : Int), .int .i64 (zs : Int), .slice z.a zn z.c] := by
                unfold FR.vs iv
                rw [show sv z.f.name = .string sz from HSZ.out, hzi, hzs, hzn]
              rw [← hzi] at z1
              rw [← hzs] at z2
              rw [← hzn] at z3
              have x2 := hP5.par.cell 2
              have q2 := hP5.man.cell 2
              simp only [List.getElem?_toArray, List.getElem?_cons_zero, List.getElem?_cons_succ] at x2 q2
              obtain ⟨v9, w9, hr9, hrow9, hg9⟩ := append_file W5.drew 32 u2 l2 hP5.row z (by have := HL2.out; omega) hsz5
              rw [hvs] at hr9
              have q2a : (W5.drew.alloc (.cells #[.string sz, .int .u32 (zi : Int), .int .i64 (zs : Int), .slice z.a zn z.c] 96)).cell? ⟨q, 2, none⟩ = some u2 := (((Below.refl _ W5.drew).alloc (Nat.le_refl _) _).cell (p := ⟨q, 2, none⟩) hP5.man.lt).trans q2
              have hP9 := hP5.rowed hg9 hrow9 (fun y hy => by
                rcases List.mem_append.1 hy with h1 | h1
                · exact .inl h1
                · exact .inr (.inl (by rw [List.mem_singleton.1 h1]; exact List.mem_of_getElem? HZ.out)))
              have q3 := hP9.man.cell 2
              have q3f := hP9.man.frozen 2
              simp only [List.getElem?_toArray, List.getElem?_cons_zero, List.getElem?_cons_succ] at q3
              have HPA := Lib.hid hP9.set
              obtain ⟨au, cu, rfl, _, _, _, _⟩ := own_shape hP5.row
              obtain ⟨a9, c9, rfl, _, _, _, _⟩ := own_shape hrow9
              obtain ⟨n9, hn9⟩ : ∃ y, y = (l2 ++ [z]).length := ⟨_, rfl⟩
              rw [← hn9] at hr9 HPA
              obtain ⟨n2, hn2⟩ : ∃ y, y = l2.length := ⟨_, rfl⟩
              rw [← hn2] at hr9 q2 q2a q3
              have q2b : (W5.alloc (.cells #[.string sz, .int .u32 (zi : Int), .int .i64 (zs : Int), .slice z.a zn z.c] 96)).cell? ⟨q, 2, none⟩ = some (.slice au n2 cu) := q2a
              have HN29 := Lib.hid (And.intro hn2 hn9)
              clear hn9 hn2
              have HHZ := Lib.hid (And.intro hzi (And.intro hzs hzn))
              have HEN := Lib.hid hen
              clear hW5 hB5 hP5 hzi hzs hzn hvs hrow9 hg9 hP9 hen
              go_wp2_with fail
              go_region_law ((first | (refine step_append_run rfl (.tmp 56) (.tmp 62) 32 32 rfl _ _ rfl rfl hr9 ?_)))
              all_goals go_wp2_with fail
              all_goals exact ⟨⟨j + 1, hjn, by simp, Lib.hid ⟨_, l2 ++ [z], by rw [List.length_append, List.length_singleton]; have := HL2.out; omega, by rw [HNX2.out, List.map_append, HM2.out, if_pos HEN.out]; rfl, HPA.out⟩⟩, by simp [intOf]; omega⟩
          · obtain rfl : nl = j := by omega
            have hjd : decide ((nl : Int) < (nl : Int)) = false := decide_eq_false (by omega)
            go_wp2_with fail
            go_roundw
            case rel => exact ⟨k + 1, ⟨S.free, S.next, S.out ++ fs.filter (fun f => decide (f.name = x.1))⟩, u2, l2, _, cf, nf, hkn, by simp, rfl, hnf1, hnf2, HNF, HNS, Lib.hid (by
              rw [hm2, List.take_of_length_le (by rw [HFS.out, List.length_map, ← HNL.out]; exact Nat.le_refl _)]), Lib.hid hP2⟩
            case measure => simp [intOf]; omega
      · have hxin : x.1 ∈ ch := of_decide_eq_true HTI.out.symm
        obtain ⟨mm, hmm⟩ : ∃ m, m = Mani.many x.2.length := ⟨_, rfl⟩
        have hsl := slice_F gn on n nc k hkn hLc
        have hone : Lies w5 (some ⟨gn, on + k * 2, none⟩) (flatP [x]) := by
          have hlt : (flatP L).length = L.length * 2 := flatP_len L
          rcases (HN.out.later HP.out.below) with h0 | ⟨g, o, e, hg, hcs⟩
          · have h5 := congrArg List.length h0
            rw [hlt, List.length_nil] at h5
            have := HNN.out
            omega
          · cases e
            refine .inr ⟨gn, on + k * 2, rfl, hg, fun i u hu => ?_⟩
            rw [Nat.add_assoc]
            refine hcs _ u (flatP_at HX.out ?_)
            unfold flatP at hu
            simpa using hu
        have hpg := pages_any (some ⟨gn, on + k * 2, none⟩) (nc - k) [x] w5 hone (by simp) (fun y hy => by rw [List.mem_singleton.1 hy]; exact HLB.out x (List.mem_of_getElem? HX.out))
        have hpe : pagesP [x] = mm := by rw [hmm, ← many_pages]; unfold pagesP; simp
        rw [hpe] at hpg
        have hml : mm ≤ 1000000 := by
          have := HLB.out x (List.mem_of_getElem? HX.out)
          rw [hmm, ← many_pages]
          omega
        have hrs : rplan fs ch (L.take (k + 1)) st = if S.free.length < mm then none else some ⟨S.free.drop mm, S.next + 1, S.out ++ [rnew S x]⟩ := by
          rw [HSB.out]
          unfold rstep
          rw [if_pos hxin, ← hmm]
        have HPG : Hid (Calls Tryz.prog 128 #[.slice (some ⟨gn, on + k * 2, none⟩) 1 (nc - k)] w5 fun e w' => e = .returned (.int .i64 (mm : Int)) ∧ w' = w5) := Lib.hid hpg
        have HRS := Lib.hid hrs
        have HMM := Lib.hid hmm
        clear hone hpg hpe hmm hrs hxin c0 c1
        go_wp2_with fail
        refine HPG.out.mono ?_
        rintro e w6 ⟨rfl, rfl⟩
        clear hsl HPG
        have q1 := HP.out.man.cell 1
        simp at q1
        by_cases hfm : nf < mm
        · have hd : decide ((nf : Int) < (mm : Int)) = true := decide_eq_true (by omega)
          have r0 := HP.out.res.frozen 0
          have r1 := HP.out.res.frozen 1
          have r2 := HP.out.res.frozen 2
          have s0 := HP.out.res.cell 0
          have s1 := HP.out.res.cell 1
          have s2 := HP.out.res.cell 2
          simp at s0 s1 s2
          have hnone : rplan fs ch L st = none := rplan_none fs ch (k := k + 1) (by rw [HRS.out, if_pos (by rw [← HNF.out]; exact hfm)])
          have HNONE := Lib.hid hnone
          clear hnone
          go_wp2_with fail
          have hf := ((HP.out.res.set 0 (.int .u64 0)).set 1 (.int .u32 0)).set 2 (.slice none 0 0)
          have y0 := hf.cell 0
          have y1 := hf.cell 1
          have y2 := hf.cell 2
          have hBf : Below w.heap.size w (((w6.setCell ⟨rb, 0, none⟩ (.int .u64 0)).setCell ⟨rb, 1, none⟩ (.int .u32 0)).setCell ⟨rb, 2, none⟩ (.slice none 0 0)) := ((HP.out.below.setCell HGX.out.2.1 _).setCell HGX.out.2.1 _).setCell HGX.out.2.1 _
          obtain ⟨Wf, hWf⟩ : ∃ Wf, Wf = (((w6.setCell ⟨rb, 0, none⟩ (.int .u64 0)).setCell ⟨rb, 1, none⟩ (.int .u32 0)).setCell ⟨rb, 2, none⟩ (.slice none 0 0)) := ⟨_, rfl⟩
          rw [← hWf] at y0 y1 y2 hBf ⊢
          simp at y0 y1 y2
          refine bodyPost_ret (v := .tuple #[.agg #[.int .u64 0, .int .u32 0, .slice none 0 0], .bool false]) (by simp [results, Tryz.f94, Tryz.results94, go_sem, y0, y1, y2]) rfl ?_
          unfold Planned
          rw [HNONE.out]
          exact ⟨hBf, rfl⟩
        · have hd : decide ((nf : Int) < (mm : Int)) = false := decide_eq_false (by omega)
          have hd2 : ((S.next : Int) == 4294967295) = false := by rw [beq_eq_false_iff_ne]; have := HO2.out; omega
          have hd3 : (S.next == 4294967295) = false := by rw [beq_eq_false_iff_ne]; have := HO2.out; omega
          obtain ⟨nxt, hnxt⟩ : ∃ y, y = S.next := ⟨_, rfl⟩
          rw [← hnxt] at q1 hd2 hd3
          have HNXT := Lib.hid hnxt
          clear hnxt
          go_wp2_with fail
          have hbw : Below w6.heap.size w6 w6.drew := (Below.refl _ w6).drew
          have hP6 := HP.out.later hbw
          have hnow := cells_at (HN.out.later hP6.below) HX.out
          obtain ⟨g3, o3, e3, c0, c1⟩ := hnow
          cases e3
          rw [HSX.out] at c0
          rw [HSY.out] at c1
          have hsyl : sy.size = x.2.length := size_sv (show sv x.2 = .string sy from HSY.out)
          obtain ⟨xl, hxl⟩ : ∃ y, y = x.2.length := ⟨_, rfl⟩
          obtain ⟨z, hz⟩ : ∃ z : FR, z = ⟨⟨x.1, nxt, sy.size, S.free.take mm⟩, af, mm⟩ := ⟨_, rfl⟩
          have htl : (S.free.take mm).length = mm := by rw [List.length_take, ← HNF.out]; omega
          have hvs : z.vs = [.string sx, .int .u32 (nxt : Int), .int .i64 (sy.size : Int), .slice af mm mm] := by
            rw [hz]
            unfold FR.vs iv
            dsimp only
            rw [show sv x.1 = .string sx from HSX.out, htl]
          have hzf : z.f = rnew S x := by
            rw [hz]
            unfold rnew
            dsimp only
            rw [hsyl, HNXT.out, HMM.out]
          have hzr : InRow w6.drew vF z := by
            rw [hz]
            refine ⟨?_, by dsimp only; rw [htl]; exact Nat.le_refl _, hP6.fa⟩
            dsimp only
            rw [List.map_take]
            exact hP6.free.take mm
          have q1' := hP6.man.cell 1
          have q2 := hP6.man.cell 2
          simp only [List.getElem?_toArray, List.getElem?_cons_zero, List.getElem?_cons_succ] at q1' q2
          rw [← HNXT.out] at q1'
          obtain ⟨v9, w9, hr9, hrow9, hg9⟩ := append_file w6.drew 32 u l' hP6.row z (by have := HOL.out; omega) hP6.below.size
          rw [hvs] at hr9
          have hP9 := hP6.rowed hg9 hrow9 (fun y hy => by
            rcases List.mem_append.1 hy with h1 | h1
            · exact .inl h1
            · exact .inr (.inr (by rw [List.mem_singleton.1 h1]; exact hzr)))
          obtain ⟨au, cu, rfl, _, _, _, _⟩ := own_shape hP6.row
          obtain ⟨a9, c9, rfl, _, _, _, _⟩ := own_shape hrow9
          obtain ⟨n9, hn9⟩ : ∃ y, y = (l' ++ [z]).length := ⟨_, rfl⟩
          obtain ⟨n2, hn2⟩ : ∃ y, y = l'.length := ⟨_, rfl⟩
          have hbn : nxt < 4294967295 := by have := HNXT.out; have := HO2.out; omega
          have hsm := slice_hm af nf cf mm (by omega)
          obtain ⟨af2, hsl2, haf2, hLf2⟩ := slice_l af nf cf mm (by omega)
          have q2a : (w6.alloc (.cells #[.string sx, .int .u32 (nxt : Int), .int .i64 (sy.size : Int), .slice af mm mm] 96)).cell? ⟨q, 2, none⟩ = some (.slice au l'.length cu) := (((Below.refl _ w6).alloc (Nat.le_refl _) _).cell (p := ⟨q, 2, none⟩) hP6.man.lt).trans q2
          have q1a : (w6.alloc (.cells #[.string sx, .int .u32 (nxt : Int), .int .i64 (sy.size : Int), .slice af mm mm] 96)).cell? ⟨q, 1, none⟩ = some (.int .u32 (nxt : Int)) := (((Below.refl _ w6).alloc (Nat.le_refl _) _).cell (p := ⟨q, 1, none⟩) hP6.man.lt).trans q1'
          have hPA := hP9.set
          have q4 := hPA.man.cell 1
          have q4f := hPA.man.frozen 1
          have q3 := hP9.man.cell 2
          have q3f := hP9.man.frozen 2
          simp only [List.getElem?_toArray, List.getElem?_cons_zero, List.getElem?_cons_succ] at q3 q4
          rw [← HNXT.out] at q4
          have hPB := hPA.nexts (nxt + 1)
          have hPC := hPB.drop (af' := af2) (cf' := cf - mm) (fr' := S.free.drop mm) (hLf2 _ S.free HNF.out.symm hnf2 hPB.free) haf2 (by rw [List.length_drop, ← HNF.out]; omega)
          have hNX : rplan fs ch (L.take (k + 1)) st = some ⟨S.free.drop mm, nxt + 1, S.out ++ [rnew S x]⟩ := by
            rw [HRS.out, if_neg (by rw [← HNF.out]; omega), HNXT.out]
          have hml : (l' ++ [z]).map FR.f = S.out ++ [rnew S x] := by rw [List.map_append, HL.out]; simp [hzf]
          have hnd : nf - mm = (S.free.drop mm).length := by rw [List.length_drop, ← HNF.out]
          rw [← hn9] at hr9 q4 q4f hPC
          rw [← hn2] at hr9 q2 q2a q3
          have HPC := Lib.hid hPC
          have HNX := Lib.hid hNX
          have HML := Lib.hid hml
          have HND := Lib.hid hnd
          clear hP6 hbw hz hvs hzf hzr hrow9 hg9 hP9 hPA hPB hPC hNX hml hnd htl hsyl hxl hn9 hn2 haf2 hLf2
          go_region_law ((first | (refine step_append_run rfl (.tmp 83) (.tmp 102) 32 32 rfl _ _ rfl rfl hr9 ?_)))
          all_goals go_wp2_with fail
          all_goals exact ⟨⟨k + 1, ⟨S.free.drop mm, nxt + 1, S.out ++ [rnew S x]⟩, _, l' ++ [z], _, _, _, hkn, by simp, rfl, by omega, by omega, HND, HNX, HML, HPC⟩, by simp [intOf]; omega⟩
    · obtain rfl : n = k := by omega
      have hkd : decide ((n : Int) < (n : Int)) = false := decide_eq_false (by omega)
      go_wp2_with fail
      have hPn := HP.out
      have hfull : rplan fs ch L st = some S := by
        have := HS.out
        rw [List.take_of_length_le (by rw [← HNN.out]; exact Nat.le_refl _)] at this
        exact this
      obtain ⟨hMO, hbo, hfb⟩ := HM.out S hfull
      obtain ⟨a9, c9, hu9, hF9, hg9, hx9⟩ := hPn.files HF.out
      rw [← HL.out] at hMO hbo hfb
      have hl9 : l'.length ≤ 300000 := by
        obtain ⟨o1, _, _, _⟩ := rplan_len hfull
        have hfsl : fs.length = nl := by rw [HFS.out, List.length_map, ← HNL.out]
        rw [hfsl, HST.out, ← HL.out, List.length_map, ← HNN.out] at o1
        have : n * (nl + 1) ≤ 100 * 2101 := Nat.mul_le_mul hL (by omega)
        simp only [List.length_nil, Nat.zero_add] at o1
        omega
      have hnx9 : S.next < 4294967296 := by
        obtain ⟨_, o2, _, _⟩ := rplan_len hfull
        rw [HST.out, ← HNN.out] at o2
        dsimp only at o2
        omega
      have hmay : ∀ V, Below wr.heap.size wr V → _ := fun V hV => may09_yes (ver + 1) S.next a9 c9 l' V (hF9.later hV) hMO (by omega) (fun y hy => hfb y.f (List.mem_map.2 ⟨y, hy, rfl⟩)) (by omega) hnx9 hbo
      obtain ⟨rv, hrv⟩ : ∃ b, b = decide ((bodyL (ver + 1) S.next (l'.map FR.f)).length ≤ 2035) := ⟨_, rfl⟩
      obtain ⟨nxt, hnxt⟩ : ∃ y, y = S.next := ⟨_, rfl⟩
      obtain ⟨n2, hn2⟩ : ∃ y, y = l'.length := ⟨_, rfl⟩
      rw [← hrv, ← hnxt, ← hn2] at hmay
      have hbw : Below wr.heap.size wr wr.drew := (Below.refl _ wr).drew
      have hP5 := hPn.later hbw
      rw [hu9, ← hnxt, ← hn2] at hP5
      have hgr := HGX.out.2.1
      have hS0 : wr.drew.cell? ⟨q, 0, none⟩ = some (.int .u64 ((ver : Int) + 1)) ∧ wr.drew.cell? ⟨q, 1, none⟩ = some (.int .u32 (nxt : Int)) ∧ wr.drew.cell? ⟨q, 2, none⟩ = some (.slice a9 n2 c9) ∧ wr.drew.cell? ⟨xb, 0, none⟩ = some (.int .u64 (ver : Int)) := ⟨hP5.man.cell 0, hP5.man.cell 1, hP5.man.cell 2, hP5.par.cell 0⟩
      have hlt : decide ((ver : Int) < 18446744073709551615) = true := decide_eq_true (by omega)
      have hlt2 : decide (ver < 18446744073709551615) = true := decide_eq_true (by omega)
      have HMAY := Lib.hid (hmay wr.drew hbw)
      have HP5 := Lib.hid hP5
      have HFIN : Hid (∀ (Wf : World), Below w.heap.size w Wf → FilesIn Wf a9 l' → wr.heap.size ≤ Wf.heap.size → Planned w l ver (rplan fs ch L st) (.returned (.tuple #[.agg #[.int .u64 ((ver + 1 : Nat) : Int), .int .u32 (nxt : Int), .slice a9 n2 c9], .bool rv])) Wf) := Lib.hid (fun Wf hBf hFf hsz => by
        unfold Planned
        rw [hfull]
        refine ⟨hBf, a9, c9, l', by rw [hn2, hnxt, hrv, HL.out], HL.out, hFf, fun b hb => ?_, fun y hy => (hx9 y hy).imp id (fun h4 b hb => ?_)⟩
        · have := hg9 b hb
          omega
        · have := h4 b hb
          omega)
      have HF9 := Lib.hid hF9
      have HG9 := Lib.hid (And.intro hg9 hx9)
      clear hPn hfull hMO hbo hfb hu9 hF9 hg9 hx9 hl9 hnx9 hmay hrv hnxt hn2 hbw hP5
      go_region_held3 (fun w' => w'.cell? ⟨q, 0, none⟩ = some (.int .u64 ((ver : Int) + 1)) ∧ w'.cell? ⟨q, 1, none⟩ = some (.int .u32 (nxt : Int)) ∧ w'.cell? ⟨q, 2, none⟩ = some (.slice a9 n2 c9) ∧ w'.cell? ⟨xb, 0, none⟩ = some (.int .u64 (ver : Int))) (first | exact hS0 | exact hS1 | exact hS2) (first | (go_at_call 104; refine HMAY.out.mono ?_; rintro e w10 ⟨rfl, hB10⟩; have hP10 := HP5.out.later hB10; have hS1 : w10.cell? ⟨q, 0, none⟩ = some (.int .u64 ((ver : Int) + 1)) ∧ w10.cell? ⟨q, 1, none⟩ = some (.int .u32 (nxt : Int)) ∧ w10.cell? ⟨q, 2, none⟩ = some (.slice a9 n2 c9) ∧ w10.cell? ⟨xb, 0, none⟩ = some (.int .u64 (ver : Int)) := ⟨hP10.man.cell 0, hP10.man.cell 1, hP10.man.cell 2, hP10.par.cell 0⟩; have r0 := hP10.res.frozen 0; have r1 := hP10.res.frozen 1; have r2 := hP10.res.frozen 2; have s0 := hP10.res.cell 0; have s1 := hP10.res.cell 1; have s2 := hP10.res.cell 2; simp only [List.getElem?_toArray, List.getElem?_cons_zero, List.getElem?_cons_succ] at s0 s1 s2; have hP12 := ((hP10.res.set 0 (.int .u64 ((ver : Int) + 1))).set 1 (.int .u32 (nxt : Int))).set 2 (.slice a9 n2 c9); have hm12 := far_three hP10.man hP10.ne (.int .u64 ((ver : Int) + 1)) (.int .u32 (nxt : Int)) (.slice a9 n2 c9); have hp12 := far_three hP10.par HGX.out.2.2 (.int .u64 ((ver : Int) + 1)) (.int .u32 (nxt : Int)) (.slice a9 n2 c9); obtain ⟨W12, hW12⟩ : ∃ W12, W12 = (((w10.setCell ⟨rb, 0, none⟩ (.int .u64 ((ver : Int) + 1))).setCell ⟨rb, 1, none⟩ (.int .u32 (nxt : Int))).setCell ⟨rb, 2, none⟩ (.slice a9 n2 c9)) := ⟨_, rfl⟩; have hS2 : (((w10.setCell ⟨rb, 0, none⟩ (.int .u64 ((ver : Int) + 1))).setCell ⟨rb, 1, none⟩ (.int .u32 (nxt : Int))).setCell ⟨rb, 2, none⟩ (.slice a9 n2 c9)).cell? ⟨q, 0, none⟩ = some (.int .u64 ((ver : Int) + 1)) ∧ (((w10.setCell ⟨rb, 0, none⟩ (.int .u64 ((ver : Int) + 1))).setCell ⟨rb, 1, none⟩ (.int .u32 (nxt : Int))).setCell ⟨rb, 2, none⟩ (.slice a9 n2 c9)).cell? ⟨q, 1, none⟩ = some (.int .u32 (nxt : Int)) ∧ (((w10.setCell ⟨rb, 0, none⟩ (.int .u64 ((ver : Int) + 1))).setCell ⟨rb, 1, none⟩ (.int .u32 (nxt : Int))).setCell ⟨rb, 2, none⟩ (.slice a9 n2 c9)).cell? ⟨q, 2, none⟩ = some (.slice a9 n2 c9) ∧ (((w10.setCell ⟨rb, 0, none⟩ (.int .u64 ((ver : Int) + 1))).setCell ⟨rb, 1, none⟩ (.int .u32 (nxt : Int))).setCell ⟨rb, 2, none⟩ (.slice a9 n2 c9)).cell? ⟨xb, 0, none⟩ = some (.int .u64 (ver : Int)) := ⟨hm12.cell 0, hm12.cell 1, hm12.cell 2, hp12.cell 0⟩; have y0 := hP12.cell 0; have y1 := hP12.cell 1; have y2 := hP12.cell 2; clear hW12 W12; dsimp only))
      have hBf : Below w.heap.size w (((w10.setCell ⟨rb, 0, none⟩ (.int .u64 ((ver : Int) + 1))).setCell ⟨rb, 1, none⟩ (.int .u32 (nxt : Int))).setCell ⟨rb, 2, none⟩ (.slice a9 n2 c9)) := ((hP10.below.setCell hgr _).setCell hgr _).setCell hgr _
      have hsz9 : wr.heap.size ≤ (((w10.setCell ⟨rb, 0, none⟩ (.int .u64 ((ver : Int) + 1))).setCell ⟨rb, 1, none⟩ (.int .u32 (nxt : Int))).setCell ⟨rb, 2, none⟩ (.slice a9 n2 c9)).heap.size := by
        have h5 := hB10.size
        have h6 : wr.heap.size ≤ w10.heap.size := h5
        simpa [World.setCell] using h6
      have hU : Upon (fun g => g = rb) w10 (((w10.setCell ⟨rb, 0, none⟩ (.int .u64 ((ver : Int) + 1))).setCell ⟨rb, 1, none⟩ (.int .u32 (nxt : Int))).setCell ⟨rb, 2, none⟩ (.slice a9 n2 c9)) := (((Upon.refl (fun g => g = rb) w10).set (p := ⟨rb, 0, none⟩) (.inl rfl) _).set (p := ⟨rb, 1, none⟩) (.inl rfl) _).set (p := ⟨rb, 2, none⟩) (.inl rfl) _
      obtain ⟨a8, c8, e8, hF8⟩ := hP10.files9 HF.out hU
      injection e8 with e8 _ _
      subst e8
      have hend := HFIN.out _ hBf hF8 hsz9
      have HEND := Lib.hid hend
      clear hend hF8 hU hsz9 hBf hm12 hp12 hP12 hS0 hS1 hS2 hP10 hB10
      obtain ⟨Wf, hWf⟩ : ∃ Wf, Wf = (((w10.setCell ⟨rb, 0, none⟩ (.int .u64 ((ver : Int) + 1))).setCell ⟨rb, 1, none⟩ (.int .u32 (nxt : Int))).setCell ⟨rb, 2, none⟩ (.slice a9 n2 c9)) := ⟨_, rfl⟩
      rw [← hWf] at y0 y1 y2 HEND ⊢
      simp at y0 y1 y2
      go_wp2_with fail
      refine bodyPost_ret (v := .tuple #[.agg #[.int .u64 ((ver : Int) + 1), .int .u32 (nxt : Int), .slice a9 n2 c9], .bool rv]) (by simp [results, Tryz.f94, Tryz.results94, go_sem, y0, y1, y2]) rfl ?_
      exact HEND.out
end Go.Proofs.YtbfochdoeibofaaGreatDoor.RefF

/- palmerref10.Plan beside a commit, plain: what it comes to, and bounds. -/
namespace Go.Proofs.YtbfochdoeibofaaGreatDoor.RefF
open Go.RowKit Go.Proofs.YtbfochdoeibofaaGreatDoor.Mani Go.Proofs.YtbfochdoeibofaaGreatDoor.Full Go.Proofs.YtbfochdoeibofaaGreatDoor.Varint
open Go.Proofs.YtbfochdoeibofaaGreatDoor.Store (Chg none' Files)

theorem filter_le_one {fs : List Fil} (hr : rises fs) (nm : List UInt8) : (fs.filter (fun f => decide (f.name = nm))).length ≤ 1 := by
  by_cases h : ∃ f ∈ fs, f.name = nm
  · obtain ⟨f, hf, rfl⟩ := h
    rw [filter_one hr hf]
    exact Nat.le_refl _
  · rw [List.filter_eq_nil_iff.2 (fun f hf => by
      simp
      exact fun e => h ⟨f, hf, e⟩)]
    exact Nat.zero_le _
theorem rplan_few {fs : List Fil} {ch : List (List UInt8)} (hr : rises fs) : ∀ {L : List FF} {s s' : RP}, rplan fs ch L s = some s' → s'.out.length ≤ s.out.length + L.length
  | [], s, s', h => by
    have h : some s = some s' := h
    cases h
    omega
  | x :: r, s, s', h => by
    rw [rplan_cons] at h
    cases ht : rstep fs ch x s with
    | none => rw [ht] at h; cases h
    | some t =>
      rw [ht] at h
      have h1 := rplan_few hr (L := r) (s := t) h
      have hs : t.out.length ≤ s.out.length + 1 := by
        unfold rstep at ht
        split at ht
        · split at ht
          · cases ht
          · cases ht
            simp
        · cases ht
          have := filter_le_one hr x.1
          rw [List.length_append]
          omega
      rw [List.length_cons]
      omega
theorem nodup_le : ∀ {l m : List Nat}, l.Nodup → (∀ i ∈ l, i ∈ m) → l.length ≤ m.length
  | [], _, _, _ => Nat.zero_le _
  | a :: r, m, h, hm => by
    obtain ⟨h1, h2⟩ := List.nodup_cons.1 h
    have ha := hm a (by simp)
    have := nodup_le (l := r) (m := m.erase a) h2 (fun i hi => by
      rw [List.mem_erase_of_ne (fun e => h1 (by rw [← e]; exact hi))]
      exact hm i (by simp [hi]))
    rw [List.length_erase_of_mem ha] at this
    have h3 := List.length_pos_of_mem ha
    rw [List.length_cons]
    omega
theorem vput_le {n : Nat} (h : n < 18446744073709551616) : (vput n).length ≤ 10 := vput_length 9 n (by omega)
theorem blocksL_le : ∀ {l : List Nat}, (∀ i ∈ l, i < 65536) → (blocksL l).length ≤ 10 * l.length
  | [], _ => Nat.le_refl _
  | a :: r, h => by
    have h1 := blocksL_le (l := r) (fun i hi => h i (by simp [hi]))
    have h2 := vput_le (n := a) (by have := h a (by simp); omega)
    unfold blocksL at h1 ⊢
    rw [List.flatMap_cons, List.length_append, List.length_cons]
    omega
theorem files_le {next : Nat} (hn : next ≤ 4294967296) : ∀ {l : List Fil}, (∀ f ∈ l, FOk next f ∧ f.size < 4294967296) → (l.flatMap filL).length ≤ 62 * l.length + 10 * (bksL l).length
  | [], _ => Nat.le_refl _
  | f :: r, h => by
    have h1 := files_le hn (l := r) (fun g hg => h g (by simp [hg]))
    obtain ⟨h2, h3⟩ := h f (by simp)
    have a1 := vput_le (n := f.name.length) (by have := h2.n2; omega)
    have a2 := vput_le (n := f.id) (by have := h2.id; omega)
    have a3 := vput_le (n := f.size) (by omega)
    have a4 := blocksL_le (l := f.blocks) (fun i hi => (h2.blocks i hi).2)
    have a5 := h2.n2
    have e : (bksL (f :: r)).length = f.blocks.length + (bksL r).length := by unfold bksL; rw [List.flatMap_cons, List.length_append]
    have e2 : (filL f).length = (vput f.name.length).length + (f.name.length + ((vput f.id).length + ((vput f.size).length + (blocksL f.blocks).length))) := by
      unfold filL
      simp only [List.length_append]
    rw [List.flatMap_cons, List.length_append, List.length_cons, e, e2]
    omega
theorem RInv.bounds {n next : Nat} {fs : List Fil} {s : RP} (h : RInv n fs next [] s) (hf : s.out.length ≤ 2000) (hn : s.next ≤ 4294967296) {ver : Nat} (hv : ver < 18446744073709551616) : (bodyL ver s.next s.out).length ≤ 900000 ∧ ∀ f ∈ s.out, f.blocks.length ≤ 1000000 ∧ f.size ≤ 1000000000 := by
  have hin : ∀ i ∈ bksL s.out, i < 65536 := fun i hi => by
    obtain ⟨f, hff, hi⟩ := List.mem_flatMap.1 hi
    exact ((h.each f hff).blocks i hi).2
  have hb : (bksL s.out).length ≤ 65536 := by
    have := nodup_le (m := List.range 65536) h.bks (fun i hi => List.mem_range.2 (hin i hi))
    rwa [List.length_range] at this
  have hs : ∀ f ∈ s.out, f.blocks.length ≤ 65536 ∧ f.size ≤ 65536 * 112 := fun f hff => by
    have h1 := bksL_mem (l := s.out) hff
    have h2 := many_le (h.each f hff).many
    refine ⟨by omega, ?_⟩
    have : f.blocks.length * 112 ≤ 65536 * 112 := Nat.mul_le_mul_right _ (by omega)
    omega
  refine ⟨?_, fun f hff => by have := hs f hff; omega⟩
  have hfl := files_le hn (l := s.out) (fun f hff => ⟨h.each f hff, by have := (hs f hff).2; omega⟩)
  have a1 := vput_le hv
  have a2 := vput_le (n := s.next) (by omega)
  have a3 := vput_le (n := s.out.length) (by omega)
  unfold bodyL
  simp only [List.length_append]
  omega
/-- What Plan is told of a store's state, and what it comes to. -/
theorem plan_facts {C : Chg} {H : Files} {ch ss : List (List UInt8)} {l : List FF} {bl : List (List UInt8)} {n ver next : Nat} {fs : List Fil} (hok : Okm n ver next fs) (hn : n ≤ 65536) (h32 : 32 ≤ n) (hd : OnDisk bl fs H) (hl : IsRow l (nowF C H)) (hc : ChOk C ch) (hK : Keys C ss) (hll : l.length ≤ 100) (hnx : next + l.length < 4294967295) (hv : ver < 18446744073709551615) (hx : ∀ x ∈ l, 1 ≤ x.1.length ∧ x.1.length ≤ 32) :
    (∀ s, rplan fs ch l ⟨freeB n fs, next, []⟩ = some s → MOk s.next none [] [] s.out ∧ (bodyL (ver + 1) s.next s.out).length ≤ 900000 ∧ ∀ f ∈ s.out, f.blocks.length ≤ 1000000 ∧ f.size ≤ 1000000000) ∧
    planM C ss n ver next fs = (match rplan fs ch l ⟨freeB n fs, next, []⟩ with
      | none => none
      | some s => if (bodyL (ver + 1) s.next s.out).length ≤ 2035 then some (s.next, s.out) else none) := by
  obtain ⟨h1, h2⟩ := plan_ref hok hn h32 hd hl hc hK (by omega) hv hx
  refine ⟨fun s hs => ?_, h1⟩
  have hI := h2 s hs
  have hfew := rplan_few hok.ok.rise hs
  obtain ⟨_, o2, _, _⟩ := rplan_len hs
  dsimp only at hfew o2
  rw [List.length_nil] at hfew
  obtain ⟨b1, b2⟩ := hI.bounds (by omega) (by omega) (ver := ver + 1) (by omega)
  exact ⟨hI.mok, b1, b2⟩
end Go.Proofs.YtbfochdoeibofaaGreatDoor.RefF

/- palmerlaw10: a play, as it lies in memory, and what stands of it. -/
namespace Go.Proofs.YtbfochdoeibofaaGreatDoor.Full
open Go.RowKit Go.Deep Mem Crc Go.Maps Go.Proofs.YtbfochdoeibofaaGreatDoor.Dk Go.Proofs.YtbfochdoeibofaaGreatDoor.Mani Go.Proofs.YtbfochdoeibofaaGreatDoor.RefF
open Go.Proofs.YtbfochdoeibofaaGreatDoor.Store (Chg none' nv Files setC setC_same setC_other)
open Go.Proofs.YtbfochdoeibofaaGreatDoor.Ext (Tab)

/-- All that a play's cells tell, and where it lies. -/
structure PD where
  s : Nat
  d : Nat
  g : Nat
  cm : Nat
  Q : Nat → Prop
  m : DM
  ver : Nat
  next : Nat
  fs : List Fil
  C : Chg
  H : Files
  LH : List FF
  L : List FF
  ch : List (List UInt8)
  wt : Bool
  a : Option Addr
  c : Nat
  l : List FR
  ah : Option Addr
  hc : Nat
  an : Option Addr
  nc : Nat
  vc : Value
/-- The blocks that an act may write. -/
def PD.D (S : PD) (p : Nat) : Nat → Prop := fun k => S.Q k ∨ k = p ∨ S.vc.ownBlock = some k
def PD.cells (S : PD) : Array Value := #[.pointer (some ⟨S.s, 0, none⟩), .pointer (some ⟨S.d, 0, none⟩), .int .u64 (S.ver : Int), .int .u32 (S.next : Int), .slice S.a S.l.length S.c, .slice S.ah S.LH.length S.hc, .slice S.an S.L.length S.nc, S.vc, .bool S.wt]
/-- A row that no act writes. -/
def Away (B : Nat) (D : Nat → Prop) (w : World) (a : Option Addr) : Prop := ∀ k, Mem.blk a = some k → ¬ D k ∧ B ≤ k ∧ k < w.heap.size
theorem Away.step {B : Nat} {D D' : Nat → Prop} {w w' : World} {a : Option Addr} (h : Away B D w a) (hs : w.heap.size ≤ w'.heap.size) (hd : ∀ k, D' k → D k ∨ w.heap.size ≤ k) : Away B D' w' a := fun k hk => by
  obtain ⟨h1, h2, h3⟩ := h k hk
  exact ⟨fun h4 => (hd k h4).elim h1 (fun h5 => by omega), h2, by omega⟩
theorem Away.none (B : Nat) (D : Nat → Prop) (w : World) : Away B D w none := fun k hk => by cases hk
theorem Away.lies {B : Nat} {D : Nat → Prop} {w w' : World} {a : Option Addr} {xs : List Value} (h : Away B D w a) (hL : Lies w a xs) (hu : Upon D w w') : Lies w' a xs := hL.upon hu (fun k hk => (h k hk).1)
structure Play (B p cnt i : Nat) (w : World) (S : PD) : Prop where
  on : On B S.s S.d S.g S.cm w S.Q S.m S.ver S.next S.fs S.C S.H i
  slots : Slots S.m.bl S.ver S.next S.fs
  len : S.m.bl.length = cnt
  blk : Blk w p 38 S.cells
  pq : ¬ S.Q p
  pb : B ≤ p
  chq : ∀ k, S.vc.ownBlock = some k → ¬ S.Q k
  own : w.ownsRow B 9 1 S.vc S.ch.length (S.ch.map nv)
  fl : S.l.map FR.f = S.fs
  files : FilesIn w S.a S.l
  fa : Away B (S.D p) w S.a
  fb : ∀ x ∈ S.l, Away B (S.D p) w x.a
  hl : Lies w S.ah (flatP S.LH)
  ha : Away B (S.D p) w S.ah
  nl : Lies w S.an (flatP S.L)
  na : Away B (S.D p) w S.an
  rowH : IsRow S.LH S.H
  rowN : IsRow S.L (nowF S.C S.H)
  chok : ChOk S.C S.ch
  wts : S.wt = false ↔ ∀ nm, S.C nm = none
  vi : S.ver ≤ i
  ni : S.next ≤ 100 * i
  chl : S.ch.length ≤ i
  ll : S.L.length ≤ i
  lh : S.LH.length ≤ i
  each : ∀ x ∈ S.L, (1 ≤ x.1.length ∧ x.1.length ≤ 32) ∧ x.2.length ≤ 1000 * i
  eachH : ∀ x ∈ S.LH, (1 ≤ x.1.length ∧ x.1.length ≤ 32) ∧ x.2.length ≤ 1000 * i
  capN : S.L.length ≤ S.nc
  capH : S.LH.length ≤ S.hc
variable {B p cnt i : Nat} {w w' : World} {S : PD} {D' : Nat → Prop}
theorem Play.dlt (h : Play B p cnt i w S) : ∀ k, S.D p k → B ≤ k ∧ k < w.heap.size := fun k hk => by
  rcases hk with hk | rfl | hk
  · exact ⟨h.on.base k hk, h.on.lt k hk⟩
  · exact ⟨h.pb, h.blk.lt⟩
  · exact h.own.lt k hk
theorem Play.up (h : Play B p cnt i w S) (hu : Upon (S.D p) w w') : Below B w w' := hu.below h.on.low (fun k hk => (h.dlt k hk).1)
theorem Play.pv (h : Play B p cnt i w S) : ¬ S.vc.ownBlock = some p := fun e => own_ne_blk h.own h.blk (by decide) e
theorem Play.keepF (h : Play B p cnt i w S) (hu : Upon (S.D p) w w') (hd : ∀ k, D' k → S.D p k ∨ w.heap.size ≤ k) : FilesIn w' S.a S.l ∧ Away B D' w' S.a ∧ ∀ x ∈ S.l, Away B D' w' x.a :=
  ⟨⟨h.fa.lies h.files.row hu, fun x hx => ⟨(h.fb x hx).lies (h.files.blocks x hx).1 hu, (h.files.blocks x hx).2⟩⟩, h.fa.step hu.size hd, fun x hx => (h.fb x hx).step hu.size hd⟩
theorem Play.keepH (h : Play B p cnt i w S) (hu : Upon (S.D p) w w') (hd : ∀ k, D' k → S.D p k ∨ w.heap.size ≤ k) : Lies w' S.ah (flatP S.LH) ∧ Away B D' w' S.ah := ⟨h.ha.lies h.hl hu, h.ha.step hu.size hd⟩
theorem Play.keepN (h : Play B p cnt i w S) (hu : Upon (S.D p) w w') (hd : ∀ k, D' k → S.D p k ∨ w.heap.size ≤ k) : Lies w' S.an (flatP S.L) ∧ Away B D' w' S.an := ⟨h.na.lies h.nl hu, h.na.step hu.size hd⟩
/-- Nothing of a play was written. -/
theorem Play.later (h : Play B p cnt i w S) (hB : Below w.heap.size w w') : Play B p cnt i w' S := by
  have hu : Upon (S.D p) w w' := Upon.of_below hB
  obtain ⟨f1, f2, f3⟩ := h.keepF hu (fun k hk => .inl hk)
  obtain ⟨h1, h2⟩ := h.keepH hu (fun k hk => .inl hk)
  obtain ⟨n1, n2⟩ := h.keepN hu (fun k hk => .inl hk)
  exact ⟨h.on.later hB, h.slots, h.len, h.blk.below hB h.blk.lt, h.pq, h.pb, h.chq, own_later h.own hB, h.fl, f1, f2, f3, h1, h2, n1, n2, h.rowH, h.rowN, h.chok, h.wts, h.vi, h.ni, h.chl, h.ll, h.lh, h.each, h.eachH, h.capN, h.capH⟩
theorem Play.mono {j : Nat} (h : Play B p cnt i w S) (hj : i ≤ j) : Play B p cnt j w S :=
  ⟨h.on.mono hj, h.slots, h.len, h.blk, h.pq, h.pb, h.chq, h.own, h.fl, h.files, h.fa, h.fb, h.hl, h.ha, h.nl, h.na, h.rowH, h.rowN, h.chok, h.wts, Nat.le_trans h.vi hj, Nat.le_trans h.ni (Nat.mul_le_mul_left _ hj), Nat.le_trans h.chl hj, Nat.le_trans h.ll hj, Nat.le_trans h.lh hj, fun x hx => ⟨(h.each x hx).1, Nat.le_trans (h.each x hx).2 (Nat.mul_le_mul_left _ hj)⟩, fun x hx => ⟨(h.eachH x hx).1, Nat.le_trans (h.eachH x hx).2 (Nat.mul_le_mul_left _ hj)⟩, h.capN, h.capH⟩
/-- What a step of a play does. -/
def Step (B p cnt i : Nat) (S : PD) (w w' : World) : Prop := ∃ S', Play B p cnt i w' S' ∧ (∀ k, S'.D p k → S.D p k ∨ w.heap.size ≤ k) ∧ Upon (S.D p) w w'
/-- A change of files: what a play's state comes to. -/
theorem Play.next (h : Play B p cnt i w S) (hu : Upon (S.D p) w w') {j : Nat} {Q' : Nat → Prop} {C' : Chg} {L' : List FF} {ch' : List (List UInt8)} {wt' : Bool} {an' : Option Addr} {nc' : Nat} {vc' : Value} (hij : i ≤ j)
    (on : On B S.s S.d S.g S.cm w' Q' S.m S.ver S.next S.fs C' S.H j) (hq : ∀ k, Q' k → S.Q k ∨ w.heap.size ≤ k) (blk : Blk w' p 38 (PD.cells {S with Q := Q', C := C', L := L', ch := ch', wt := wt', an := an', nc := nc', vc := vc'}))
    (hv : ∀ k, vc'.ownBlock = some k → ¬ Q' k) (hv2 : ∀ k, vc'.ownBlock = some k → S.vc.ownBlock = some k ∨ w.heap.size ≤ k) (own : w'.ownsRow B 9 1 vc' ch'.length (ch'.map nv))
    (nl : Lies w' an' (flatP L')) (na : Away B (PD.D {S with Q := Q', C := C', L := L', ch := ch', wt := wt', an := an', nc := nc', vc := vc'} p) w' an') (rowN : IsRow L' (nowF C' S.H)) (chok : ChOk C' ch') (wts : wt' = false ↔ ∀ nm, C' nm = none) (chl : ch'.length ≤ j) (ll : L'.length ≤ j) (each : ∀ x ∈ L', (1 ≤ x.1.length ∧ x.1.length ≤ 32) ∧ x.2.length ≤ 1000 * j) (capN : L'.length ≤ nc') :
    Step B p cnt j S w w' := by
  have hd : ∀ k, PD.D {S with Q := Q', C := C', L := L', ch := ch', wt := wt', an := an', nc := nc', vc := vc'} p k → S.D p k ∨ w.heap.size ≤ k := fun k hk => by
    rcases hk with hk | rfl | hk
    · exact (hq k hk).imp (fun h1 => .inl h1) id
    · exact .inl (.inr (.inl rfl))
    · exact (hv2 k hk).imp (fun h1 => .inr (.inr h1)) id
  obtain ⟨f1, f2, f3⟩ := h.keepF hu hd
  obtain ⟨h1, h2⟩ := h.keepH hu hd
  refine ⟨{S with Q := Q', C := C', L := L', ch := ch', wt := wt', an := an', nc := nc', vc := vc'}, ?_, hd, hu⟩
  have hm := h.mono hij
  exact ⟨on, h.slots, h.len, blk, fun hk => (hq p hk).elim h.pq (fun h4 => by have := h.blk.lt; omega), h.pb, hv, own, h.fl, f1, f2, f3, h1, h2, nl, na, h.rowH, rowN, chok, wts, hm.vi, hm.ni, chl, ll, hm.lh, each, hm.eachH, capN, h.capH⟩
/-- A play at its beginning. -/
def PD.zero (s d g cm : Nat) (Q : Nat → Prop) (N : Nat) : PD := ⟨s, d, g, cm, Q, D0 N, 0, 0, [], none', fun _ => none, [], [], [], false, none, 0, [], none, 0, none, 0, .slice none 0 0⟩
theorem play_zero {B s d g cm N : Nat} {Q : Nat → Prop} {w : World} (hN : 33 ≤ N) (hp : Blk w p 38 #[.pointer (some ⟨s, 0, none⟩), .pointer (some ⟨d, 0, none⟩), .int .u64 0, .int .u32 0, .slice none 0 0, .slice none 0 0, .slice none 0 0, .slice none 0 0, .bool false]) (hon : On B s d g cm w Q (D0 N) 0 0 [] none' (fun _ => none) 0) (hq : ¬ Q p) (hb : B ≤ p) : Play B p N 0 w (PD.zero s d g cm Q N) :=
  ⟨hon, slots_new N hN, d0_len N, hp, hq, hb, (fun k hk => (by cases hk)), World.ownsRow_nil w B 9 1, rfl, ⟨.inl rfl, (fun x hx => (by cases hx))⟩, Away.none _ _ _, (fun x hx => (by cases hx)), .inl rfl, Away.none _ _ _, .inl rfl, Away.none _ _ _, isRow_none, isRow_none, ⟨(fun x hx => (by cases hx)), (fun x b hx => (by cases hx))⟩, ⟨(fun _ _ => rfl), (fun _ => rfl)⟩, Nat.zero_le _, Nat.zero_le _, Nat.zero_le _, Nat.zero_le _, Nat.zero_le _, (fun x hx => (by cases hx)), (fun x hx => (by cases hx)), Nat.le_refl _, Nat.le_refl _⟩
end Go.Proofs.YtbfochdoeibofaaGreatDoor.Full

/- palmerlaw10: a play's plan. -/
namespace Go.Proofs.YtbfochdoeibofaaGreatDoor.Full
open Go.RowKit Go.Deep Mem Crc Go.Maps Go.Proofs.YtbfochdoeibofaaGreatDoor.Dk Go.Proofs.YtbfochdoeibofaaGreatDoor.Mani Go.Proofs.YtbfochdoeibofaaGreatDoor.RefF
open Go.Proofs.YtbfochdoeibofaaGreatDoor.Store (Chg none' nv Files setC setC_same setC_other)
open Go.Proofs.YtbfochdoeibofaaGreatDoor.Ext (Tab)

/-- What a play's plan answers. -/
def PlanAns (w : World) (S : PD) (o : Option (Nat × List Fil)) (e : Ending) (w' : World) : Prop :=
  Below w.heap.size w w' ∧ match o with
    | none => ∃ (x y : Int) (a : Option Addr) (k c : Nat), e = .returned (.tuple #[.agg #[.int .u64 x, .int .u32 y, .slice a k c], .bool false])
    | some q => ∃ (a' : Option Addr) (c' : Nat) (l' : List FR), e = .returned (.tuple #[.agg #[.int .u64 ((S.ver + 1 : Nat) : Int), .int .u32 (q.1 : Int), .slice a' l'.length c'], .bool true]) ∧ l'.map FR.f = q.2 ∧ FilesIn w' a' l' ∧ (∀ b, Mem.blk a' = some b → w.heap.size ≤ b ∧ b < w'.heap.size) ∧ ∀ y ∈ l', y ∈ S.l ∨ ∀ b, Mem.blk y.a = some b → w.heap.size ≤ b ∧ b < w'.heap.size
theorem planned_ans {w w' : World} {S : PD} {o : Option RP} {e : Ending} {q : Option (Nat × List Fil)} (hq : q = (match o with
      | none => none
      | some s => if (bodyL (S.ver + 1) s.next s.out).length ≤ 2035 then some (s.next, s.out) else none)) (h : RefF.Planned w S.l S.ver o e w') : PlanAns w S q e w' ∧ ∃ (x y : Int) (a : Option Addr) (k c : Nat) (b : Bool), e = .returned (.tuple #[.agg #[.int .u64 x, .int .u32 y, .slice a k c], .bool b]) := by
  obtain ⟨h1, h2⟩ := h
  cases o with
  | none =>
    dsimp only at hq h2
    subst hq
    exact ⟨⟨h1, 0, 0, none, 0, 0, h2⟩, 0, 0, none, 0, 0, false, h2⟩
  | some s =>
    dsimp only at hq h2
    obtain ⟨a', c', l', h3, h4⟩ := h2
    by_cases hb : (bodyL (S.ver + 1) s.next s.out).length ≤ 2035
    · rw [if_pos hb] at hq
      subst hq
      rw [decide_eq_true hb] at h3
      exact ⟨⟨h1, a', c', l', h3, h4⟩, _, _, _, _, _, _, h3⟩
    · rw [if_neg hb] at hq
      subst hq
      rw [decide_eq_false hb] at h3
      exact ⟨⟨h1, _, _, _, _, _, h3⟩, _, _, _, _, _, _, h3⟩
theorem PlanAns.up {w W1 w3 wf : World} {S : PD} {q : Option (Nat × List Fil)} {e : Ending} {rb : Nat} (h : PlanAns W1 S q e w3) (hF : FilesIn w S.a S.l) (hB : Below w.heap.size w W1) (hr : w.heap.size ≤ rb) (hr2 : rb < W1.heap.size) (hu : Upon (fun g => g = rb) w3 wf) : PlanAns w S q e wf := by
  obtain ⟨h1, h2⟩ := h
  have hz := hB.size
  have hz1 := h1.size
  have hz2 := hu.size
  have hB3 : Below w.heap.size w w3 := hB.trans (h1.mono hz)
  have hBf : Below w.heap.size w wf := hB3.trans (hu.below (by omega) (fun g hg => by omega))
  refine ⟨hBf, ?_⟩
  cases q with
  | none => exact h2
  | some q =>
    obtain ⟨a', c', l', h3, h4, h5, h6, h7⟩ := h2
    refine ⟨a', c', l', h3, h4, ⟨h5.row.upon hu (fun g hg e => by have := h6 g hg; omega), fun y hy => ?_⟩, fun b hb => by have := h6 b hb; omega, fun y hy => (h7 y hy).imp id (fun h8 b hb => by have := h8 b hb; omega)⟩
    rcases h7 y hy with h8 | h8
    · exact ⟨(hF.blocks y h8).1.later hBf, (hF.blocks y h8).2⟩
    · exact ⟨(h5.blocks y hy).1.upon hu (fun g hg e => by have := h8 g hg; omega), (h5.blocks y hy).2⟩
theorem far_three {W : World} {g rb : Nat} {t : TypeId} {cs : Array Value} (h : Blk W g t cs) (hn : g ≠ rb) (v0 v1 v2 : Value) : Blk (((W.setCell ⟨rb, 0, none⟩ v0).setCell ⟨rb, 1, none⟩ v1).setCell ⟨rb, 2, none⟩ v2) g t cs := ((h.far (p := ⟨rb, 0, none⟩) hn v0).far (p := ⟨rb, 1, none⟩) hn v1).far (p := ⟨rb, 2, none⟩) hn v2
variable {B p cnt i : Nat} {w w' : World} {S : PD}
theorem Play.cells (h : Play B p cnt i w S) : w.cell? ⟨p, 0, none⟩ = some (.pointer (some ⟨S.s, 0, none⟩)) ∧ w.cell? ⟨p, 1, none⟩ = some (.pointer (some ⟨S.d, 0, none⟩)) ∧ w.cell? ⟨p, 2, none⟩ = some (.int .u64 (S.ver : Int)) ∧ w.cell? ⟨p, 3, none⟩ = some (.int .u32 (S.next : Int)) ∧ w.cell? ⟨p, 4, none⟩ = some (.slice S.a S.l.length S.c) ∧ w.cell? ⟨p, 5, none⟩ = some (.slice S.ah S.LH.length S.hc) ∧ w.cell? ⟨p, 6, none⟩ = some (.slice S.an S.L.length S.nc) ∧ w.cell? ⟨p, 7, none⟩ = some S.vc ∧ w.cell? ⟨p, 8, none⟩ = some (.bool S.wt) := by
  refine ⟨?_, ?_, ?_, ?_, ?_, ?_, ?_, ?_, ?_⟩ <;> rw [h.blk.cell] <;> rfl
theorem Play.count (h : Play B p cnt i w S) : Calls Tryz.prog 49 #[.pointer (some ⟨S.d, 0, none⟩)] w fun e w' => e = .returned (.int .i64 (cnt : Int)) ∧ w' = w := by
  obtain ⟨wv, a, c, l, hf, _⟩ := h.on.fu
  have := count_any hf.disk
  rw [h.len] at this
  exact this
attribute [local go_sem] Oper.semAt_some
set_option maxHeartbeats 1000000 in
set_option maxRecDepth 100000 in
theorem play_plan (h : Play B p cnt i w S) (hi : i ≤ 60) {ss : List (List UInt8)} (hK : Keys S.C ss) :
    Calls Tryz.prog 62 #[.pointer (some ⟨p, 0, none⟩)] w (PlanAns w S (planM S.C ss cnt S.ver S.next S.fs)) := by
  have hbig := h.on.big
  rw [h.len] at hbig
  have hsm := h.on.small
  rw [h.len] at hsm
  have hok := h.on.ok
  rw [h.len] at hok
  have hvi := h.vi
  have hni := h.ni
  have hll := h.ll
  have hn100 : 100 * i ≤ 6000 := by omega
  obtain ⟨f1, f2⟩ := plan_facts (ch := S.ch) hok hsm (by omega) h.on.on h.rowN h.chok hK (by omega) (by omega) (by omega) (fun x hx => (h.each x hx).1)
  have hfl := h.fl
  have hfew := hok.few
  have hll2 : S.l.length = S.fs.length := by rw [← hfl, List.length_map]
  obtain ⟨va, vcc, hvc, _, hvL, _, _⟩ := own_shape h.own
  have hplan : ∀ V, Below w.heap.size w V → _ := fun V hV => plan10_any S.ver S.next S.a S.c S.l cnt S.an S.nc S.L va vcc S.ch V (h.files.later hV) (h.nl.later hV) (hvL.later hV) (by omega) (fun x hx => by
    have hm : x.f ∈ S.fs := by rw [← hfl]; exact List.mem_map.2 ⟨x, hx, rfl⟩
    have := bksL_mem (l := S.fs) hm
    exact ⟨by omega, hok.in_ x.f hm⟩) hbig hsm (by omega) h.capN (fun x hx => by have := (h.each x hx).2; omega) (by have := h.chl; omega) (by omega) (by omega) (by rw [hfl]; exact f1)
  rw [hfl] at hplan
  obtain ⟨c0, c1, c2, c3, c4, c5, c6, c7, c8⟩ := h.cells
  rw [hvc] at c7
  obtain ⟨W1, hW1⟩ : ∃ W1, W1 = w.alloc (.cells #[.int .u64 0, .int .u32 0, .slice none 0 0] 34) := ⟨_, rfl⟩
  have hB1 : Below w.heap.size w W1 := by rw [hW1]; exact (Below.refl _ w).alloc (Nat.le_refl _) _
  obtain ⟨rb, hrb⟩ : ∃ rb, rb = w.heap.size := ⟨_, rfl⟩
  have hbr : Blk W1 rb 34 #[.int .u64 0, .int .u32 0, .slice none 0 0] := by rw [hW1, hrb]; exact Blk.new w _ _
  have hpl := h.blk.lt
  have hP1 := h.later hB1
  obtain ⟨o, ho⟩ : ∃ o, o = rplan S.fs S.ch S.L ⟨freeB cnt S.fs, S.next, []⟩ := ⟨_, rfl⟩
  rw [← ho] at hplan f2
  obtain ⟨q, hq⟩ : ∃ q, q = planM S.C ss cnt S.ver S.next S.fs := ⟨_, rfl⟩
  rw [← hq] at f2 ⊢
  have hfin : ∀ e w', RefF.Planned W1.drew S.l S.ver o e w' → PlanAns W1.drew S q e w' ∧ ∃ (x y : Int) (a : Option Addr) (k c : Nat) (b : Bool), e = .returned (.tuple #[.agg #[.int .u64 x, .int .u32 y, .slice a k c], .bool b]) := fun e w' hh => planned_ans f2 hh
  obtain ⟨d0, d1, d2, d3, d4, d5, d6, d7, d8⟩ := hP1.cells
  rw [hvc] at d7
  have hct : Calls Tryz.prog 49 #[.pointer (some ⟨S.d, 0, none⟩)] W1.drew fun e w' => e = .returned (.int .i64 (cnt : Int)) ∧ w' = W1.drew := (hP1.later (Below.refl _ W1).drew).count
  have hpc := hplan W1.drew (hB1.drew)
  obtain ⟨sd, hsd⟩ : ∃ y, y = S.d := ⟨_, rfl⟩
  obtain ⟨sv, hsv⟩ : ∃ y, y = S.ver := ⟨_, rfl⟩
  obtain ⟨sn, hsn⟩ : ∃ y, y = S.next := ⟨_, rfl⟩
  obtain ⟨sl, hsl⟩ : ∃ y, y = S.l.length := ⟨_, rfl⟩
  obtain ⟨sL, hsL⟩ : ∃ y, y = S.L.length := ⟨_, rfl⟩
  obtain ⟨sh, hsh⟩ : ∃ y, y = S.ch.length := ⟨_, rfl⟩
  obtain ⟨sa, hsa⟩ : ∃ y, y = S.a := ⟨_, rfl⟩
  obtain ⟨sc, hsc⟩ : ∃ y, y = S.c := ⟨_, rfl⟩
  obtain ⟨sN, hsN⟩ : ∃ y, y = S.an := ⟨_, rfl⟩
  obtain ⟨sM, hsM⟩ : ∃ y, y = S.nc := ⟨_, rfl⟩
  rw [← hsd] at d1 hct
  rw [← hsv] at d2 hpc hfin
  rw [← hsn] at d3 hpc
  rw [← hsl, ← hsa, ← hsc] at d4 hpc
  rw [← hsL, ← hsN, ← hsM] at d6 hpc
  rw [← hsh] at d7 hpc
  have HP1 := Lib.hid hP1
  have HBR := Lib.hid hbr
  have HB1 := Lib.hid hB1
  have HCT := Lib.hid hct
  have HPC := Lib.hid hpc
  have HFIN := Lib.hid hfin
  have HSV := Lib.hid hsv
  have hpne : p ≠ rb := by omega
  have HRB := Lib.hid (And.intro (show w.heap.size ≤ rb by omega) hbr.lt)
  have HF := Lib.hid h.files
  obtain ⟨cs, hcs⟩ : ∃ cs, cs = S.cells := ⟨_, rfl⟩
  have hpb : Blk W1.drew p 38 cs := by rw [hcs]; exact hP1.blk
  have e1 : cs[1]? = some (.pointer (some ⟨sd, 0, none⟩)) := by rw [hcs, hsd]; rfl
  have e2 : cs[2]? = some (.int .u64 (sv : Int)) := by rw [hcs, hsv]; rfl
  have e3 : cs[3]? = some (.int .u32 (sn : Int)) := by rw [hcs, hsn]; rfl
  have e4 : cs[4]? = some (.slice sa sl sc) := by rw [hcs, hsa, hsl, hsc]; rfl
  have e6 : cs[6]? = some (.slice sN sL sM) := by rw [hcs, hsN, hsL, hsM]; rfl
  have e7 : cs[7]? = some (.slice va sh vcc) := by rw [hcs, hsh, ← hvc]; rfl
  have hcell : ∀ W, Blk W p 38 cs → W.cell? ⟨p, 1, none⟩ = some (.pointer (some ⟨sd, 0, none⟩)) ∧ W.cell? ⟨p, 2, none⟩ = some (.int .u64 (sv : Int)) ∧ W.cell? ⟨p, 3, none⟩ = some (.int .u32 (sn : Int)) ∧ W.cell? ⟨p, 4, none⟩ = some (.slice sa sl sc) ∧ W.cell? ⟨p, 6, none⟩ = some (.slice sN sL sM) ∧ W.cell? ⟨p, 7, none⟩ = some (.slice va sh vcc) := fun W hW => ⟨(hW.cell 1).trans e1, (hW.cell 2).trans e2, (hW.cell 3).trans e3, (hW.cell 4).trans e4, (hW.cell 6).trans e6, (hW.cell 7).trans e7⟩
  have HCELL := Lib.hid hcell
  have HPB := Lib.hid hpb
  have hS0 : W1.drew.cell? ⟨p, 1, none⟩ = some (.pointer (some ⟨sd, 0, none⟩)) ∧ W1.drew.cell? ⟨p, 2, none⟩ = some (.int .u64 (sv : Int)) ∧ W1.drew.cell? ⟨p, 3, none⟩ = some (.int .u32 (sn : Int)) ∧ W1.drew.cell? ⟨p, 4, none⟩ = some (.slice sa sl sc) ∧ W1.drew.cell? ⟨p, 6, none⟩ = some (.slice sN sL sM) ∧ W1.drew.cell? ⟨p, 7, none⟩ = some (.slice va sh vcc) := ⟨d1, d2, d3, d4, d6, d7⟩
  clear h hK hok hvi hni hll hn100 f1 f2 hfl hfew hll2 hvc hvL hplan c0 c1 c2 c3 c4 c5 c6 c7 c8 hB1 hbr hpl hP1 ho hq hfin d0 d1 d2 d3 d4 d5 d6 d7 d8 hct hpc hsd hsv hsn hsl hsL hsh hsa hsc hsN hsM hbig hsm hi hcs hpb e1 e2 e3 e4 e6 e7 hcell
  go_enter Tryz.func62, Tryz.ntmps62
  go_wp2_with fail
  rw [← hW1, ← hrb]
  clear hW1 hrb
  go_region_held3 (fun w' => w'.cell? ⟨p, 1, none⟩ = some (.pointer (some ⟨sd, 0, none⟩)) ∧ w'.cell? ⟨p, 2, none⟩ = some (.int .u64 (sv : Int)) ∧ w'.cell? ⟨p, 3, none⟩ = some (.int .u32 (sn : Int)) ∧ w'.cell? ⟨p, 4, none⟩ = some (.slice sa sl sc) ∧ w'.cell? ⟨p, 6, none⟩ = some (.slice sN sL sM) ∧ w'.cell? ⟨p, 7, none⟩ = some (.slice va sh vcc)) (first | exact hS0 | exact hS1 | exact hS2) (first | (go_at_call 49; refine HCT.out.mono ?_; rintro e w1 ⟨rfl, rfl⟩; dsimp only) | (go_at_call 94; refine HPC.out.mono ?_; intro e w3 hh; obtain ⟨hans, x, y, a3, k3, c3, b3, rfl⟩ := HFIN.out e w3 hh; have hB3 := hans.1; have hpb3 := HPB.out.below hB3 HPB.out.lt; have hS1 := HCELL.out _ hpb3; have hb3' := HBR.out.drew.below hB3 HBR.out.lt; have r0 := hb3'.frozen 0; have r1 := hb3'.frozen 1; have r2 := hb3'.frozen 2; have s0 := hb3'.cell 0; have s1 := hb3'.cell 1; have s2 := hb3'.cell 2; simp only [List.getElem?_toArray, List.getElem?_cons_zero, List.getElem?_cons_succ] at s0 s1 s2; have hpb4 := far_three hpb3 hpne (.int .u64 x) (.int .u32 y) (.slice a3 k3 c3); have hS2 := HCELL.out _ hpb4; have hr3 := ((hb3'.set 0 (.int .u64 x)).set 1 (.int .u32 y)).set 2 (.slice a3 k3 c3); have y0 := hr3.cell 0; have y1 := hr3.cell 1; have y2 := hr3.cell 2; dsimp only))
  have hU : Upon (fun g => g = rb) w3 (((w3.setCell ⟨rb, 0, none⟩ (.int .u64 x)).setCell ⟨rb, 1, none⟩ (.int .u32 y)).setCell ⟨rb, 2, none⟩ (.slice a3 k3 c3)) := (((Upon.refl (fun g => g = rb) w3).set (p := ⟨rb, 0, none⟩) (.inl rfl) _).set (p := ⟨rb, 1, none⟩) (.inl rfl) _).set (p := ⟨rb, 2, none⟩) (.inl rfl) _
  have hend := hans.up HF.out HB1.out.drew HRB.out.1 (show rb < W1.drew.heap.size from HRB.out.2) hU
  have HEND := Lib.hid hend
  clear hend hU hpb3 hS0 hS1 hS2 hb3' hpb4 hr3 hB3
  obtain ⟨Wf, hWf⟩ : ∃ Wf, Wf = (((w3.setCell ⟨rb, 0, none⟩ (.int .u64 x)).setCell ⟨rb, 1, none⟩ (.int .u32 y)).setCell ⟨rb, 2, none⟩ (.slice a3 k3 c3)) := ⟨_, rfl⟩
  rw [← hWf] at y0 y1 y2 HEND ⊢
  simp at y0 y1 y2
  clear hWf
  go_wp2_with fail
  refine bodyPost_ret (v := .tuple #[.agg #[.int .u64 x, .int .u32 y, .slice a3 k3 c3], .bool b3]) (by simp [results, Tryz.f62, Tryz.results62, go_sem, y0, y1, y2]) rfl ?_
  exact HEND.out
end Go.Proofs.YtbfochdoeibofaaGreatDoor.Full

/- palmerlaw10: a play's commits. -/
namespace Go.Proofs.YtbfochdoeibofaaGreatDoor.Full
open Go.RowKit Go.Deep Mem Crc Go.Maps Go.Proofs.YtbfochdoeibofaaGreatDoor.Dk Go.Proofs.YtbfochdoeibofaaGreatDoor.Mani Go.Proofs.YtbfochdoeibofaaGreatDoor.RefF
open Go.Proofs.YtbfochdoeibofaaGreatDoor.Store (Chg none' nv Files setC setC_same setC_other)
open Go.Proofs.YtbfochdoeibofaaGreatDoor.Ext (Tab)

variable {B p cnt i : Nat} {w w' : World} {S : PD}
theorem Play.next_le (h : Play B p cnt i w S) (hi : i ≤ 60) {ss : List (List UInt8)} (hK : Keys S.C ss) {q : Nat × List Fil} (hq : planM S.C ss cnt S.ver S.next S.fs = some q) : q.1 ≤ S.next + S.L.length := by
  have hbig := h.on.big
  rw [h.len] at hbig
  have hsm := h.on.small
  rw [h.len] at hsm
  have hok := h.on.ok
  rw [h.len] at hok
  have hvi := h.vi
  have hni := h.ni
  have hll := h.ll
  obtain ⟨f1, f2⟩ := plan_facts (ch := S.ch) hok hsm (by omega) h.on.on h.rowN h.chok hK (by omega) (by omega) (by omega) (fun x hx => (h.each x hx).1)
  rw [hq] at f2
  cases ho : rplan S.fs S.ch S.L ⟨freeB cnt S.fs, S.next, []⟩ with
  | none => rw [ho] at f2; cases f2
  | some s =>
    rw [ho] at f2
    dsimp only at f2
    obtain ⟨_, o2, _, _⟩ := rplan_len ho
    split at f2
    · injection f2 with f2
      rw [f2]
      exact o2
    · cases f2
/-- Nothing of a play was written: a step. -/
theorem Play.same (h : Play B p cnt i w S) {j : Nat} (hj : i ≤ j) (hB : Below w.heap.size w w') : Step B p cnt j S w w' := ⟨S, (h.later hB).mono hj, fun k hk => .inl hk, Upon.of_below hB⟩
theorem Step.above {j : Nat} {w1 : World} (h : Step B p cnt j S w1 w') (hB : Below w.heap.size w w1) : Step B p cnt j S w w' := by
  obtain ⟨S', h1, h2, h3⟩ := h
  exact ⟨S', h1, fun k hk => (h2 k hk).imp id (fun h4 => Nat.le_trans hB.size h4), (Upon.of_below hB).trans h3 (fun k hk => .inl hk)⟩
/-- Behind a commit. -/
theorem Play.committed (h : Play B p cnt i w S) (hu : Upon (S.D p) w w') {Q' : Nat → Prop} {m' : DM} {next' : Nat} {fs' : List Fil} {a' : Option Addr} {c' : Nat} {l' : List FR} {vc' : Value}
    (on : On B S.s S.d S.g S.cm w' Q' m' (S.ver + 1) next' fs' none' (nowF S.C S.H) (i + 1)) (sl : Slots m'.bl (S.ver + 1) next' fs') (len : m'.bl.length = cnt) (hq : ∀ k, Q' k → S.Q k ∨ w.heap.size ≤ k)
    (blk : Blk w' p 38 #[.pointer (some ⟨S.s, 0, none⟩), .pointer (some ⟨S.d, 0, none⟩), .int .u64 ((S.ver + 1 : Nat) : Int), .int .u32 (next' : Int), .slice a' l'.length c', .slice S.an S.L.length S.nc, .slice S.an S.L.length S.nc, vc', .bool false])
    (hv : ∀ k, vc'.ownBlock = some k → ¬ Q' k ∧ w.heap.size ≤ k) (own : w'.ownsRow B 9 1 vc' 0 []) (fl : l'.map FR.f = fs') (files : FilesIn w' a' l')
    (fa : ∀ k, Mem.blk a' = some k → w.heap.size ≤ k ∧ k < w'.heap.size ∧ ¬ Q' k ∧ vc'.ownBlock ≠ some k) (fb : ∀ y ∈ l', y ∈ S.l ∨ ∀ k, Mem.blk y.a = some k → w.heap.size ≤ k ∧ k < w'.heap.size ∧ ¬ Q' k ∧ vc'.ownBlock ≠ some k) (hn : next' ≤ S.next + S.L.length) (hi : i ≤ 60) :
    Step B p cnt (i + 1) S w w' := by
  have hd : ∀ k, PD.D {S with Q := Q', m := m', ver := S.ver + 1, next := next', fs := fs', C := none', H := nowF S.C S.H, LH := S.L, ch := [], wt := false, a := a', c := c', l := l', ah := S.an, hc := S.nc, vc := vc'} p k → S.D p k ∨ w.heap.size ≤ k := fun k hk => by
    rcases hk with hk | rfl | hk
    · exact (hq k hk).imp (fun h1 => .inl h1) id
    · exact .inl (.inr (.inl rfl))
    · exact .inr (hv k hk).2
  have hpl := h.blk.lt
  have hlow := h.on.low
  obtain ⟨n1, n2⟩ := h.keepN hu hd
  have hnew : ∀ {a : Option Addr}, (∀ k, Mem.blk a = some k → w.heap.size ≤ k ∧ k < w'.heap.size ∧ ¬ Q' k ∧ vc'.ownBlock ≠ some k) → Away B (PD.D {S with Q := Q', m := m', ver := S.ver + 1, next := next', fs := fs', C := none', H := nowF S.C S.H, LH := S.L, ch := [], wt := false, a := a', c := c', l := l', ah := S.an, hc := S.nc, vc := vc'} p) w' a := fun ha k hk => by
    obtain ⟨h1, h2, h3, h4⟩ := ha k hk
    refine ⟨fun hD => ?_, by omega, h2⟩
    rcases hD with hD | rfl | hD
    · exact h3 hD
    · omega
    · exact h4 hD
  have hm := h.mono (Nat.le_succ i)
  have hvi := h.vi
  have hni := h.ni
  have hll := h.ll
  refine ⟨{S with Q := Q', m := m', ver := S.ver + 1, next := next', fs := fs', C := none', H := nowF S.C S.H, LH := S.L, ch := [], wt := false, a := a', c := c', l := l', ah := S.an, hc := S.nc, vc := vc'}, ?_, hd, hu⟩
  exact ⟨on, sl, len, blk, fun hk => (hq p hk).elim h.pq (fun h4 => by omega), h.pb, fun k hk => (hv k hk).1, own, fl, files, hnew fa, fun y hy => (fb y hy).elim (fun h1 => (h.fb y h1).step hu.size hd) (fun h1 => hnew h1), n1, n2, n1, n2, h.rowN, (by dsimp only; rw [nowF_none]; exact h.rowN), ⟨(fun x hx => (by cases hx)), (fun x b hx => (by cases hx))⟩, ⟨(fun _ _ => rfl), (fun _ => rfl)⟩, by dsimp only; omega, by dsimp only; omega, Nat.zero_le _, hm.ll, hm.ll, hm.each, hm.each, h.capN, h.capN⟩
end Go.Proofs.YtbfochdoeibofaaGreatDoor.Full

/- palmerlaw10: a play's commits, the walk. -/
namespace Go.Proofs.YtbfochdoeibofaaGreatDoor.Full
open Go.RowKit Go.Deep Mem Crc Go.Maps Go.Proofs.YtbfochdoeibofaaGreatDoor.Dk Go.Proofs.YtbfochdoeibofaaGreatDoor.Mani Go.Proofs.YtbfochdoeibofaaGreatDoor.RefF
open Go.Proofs.YtbfochdoeibofaaGreatDoor.Store (Chg none' nv Files setC setC_same setC_other)
open Go.Proofs.YtbfochdoeibofaaGreatDoor.Ext (Tab)

variable {B p cnt i : Nat} {w w' : World} {S : PD}
theorem PlanAns.shape {w w' : World} {S : PD} {q : Option (Nat × List Fil)} {e : Ending} (h : PlanAns w S q e w') : ∃ (x y : Int) (a : Option Addr) (k c : Nat), e = .returned (.tuple #[.agg #[.int .u64 x, .int .u32 y, .slice a k c], .bool q.isSome]) := by
  obtain ⟨_, h2⟩ := h
  cases q with
  | none => exact h2
  | some q =>
    obtain ⟨a', c', l', h3, _⟩ := h2
    exact ⟨_, _, _, _, _, h3⟩
attribute [local go_sem] Oper.semAt_some
set_option maxHeartbeats 2000000 in
set_option maxRecDepth 100000 in
theorem play_commits (h : Play B p cnt i w S) (hi : i ≤ 59) :
    Calls Tryz.prog 44 #[.pointer (some ⟨p, 0, none⟩)] w fun e w' => ∃ k : Int, e = .returned (.tuple #[.bool true, .int .i64 k]) ∧ (k == 6) = false ∧ Step B p cnt (i + 1) S w w' := by
  obtain ⟨ss, hK⟩ := keys_exist h.on.few
  have hPL := play_plan h (by omega) hK
  have hpl := h.blk.lt
  by_cases hw : S.wt = false
  · have hC : ∀ nm, S.C nm = none := h.wts.1 hw
    have HPL := Lib.hid hPL
    have HP := Lib.hid h
    have HC := Lib.hid hC
    have HW := Lib.hid hw
    clear h hK hPL hC hw
    go_enter Tryz.func44, Tryz.ntmps44
    go_wp2_with fail
    refine HPL.out.mono ?_
    intro e w1 hans
    obtain ⟨x, y, a, k, c, rfl⟩ := hans.shape
    have hB1 := hans.1
    obtain ⟨W2, hW2⟩ : ∃ W2, W2 = w1.alloc (.cells #[.int .u64 x, .int .u32 y, .slice a k c] 34) := ⟨_, rfl⟩
    have hB2 : Below w.heap.size w W2 := by rw [hW2]; exact hB1.alloc hB1.size _
    have hP2 := HP.out.later hB2
    have hcm := on_commit_none hP2.on HC.out
    obtain ⟨c0, _, _, _, _, _, _, _, c8⟩ := hP2.cells
    rw [HW.out] at c8
    obtain ⟨sd, hsd⟩ : ∃ y, y = S.s := ⟨_, rfl⟩
    obtain ⟨qs, hqs⟩ : ∃ b, b = (planM S.C ss cnt S.ver S.next S.fs).isSome := ⟨_, rfl⟩
    rw [← hqs]
    rw [← hsd] at c0 hcm
    have e8 := c8
    rw [hW2] at c0
    have HCM := Lib.hid hcm
    have HEND := Lib.hid (HP.out.same (j := i + 1) (by omega) hB2)
    clear hans hB1 hB2 hP2 hcm hsd hqs c8
    go_wp2_with fail
    rw [← hW2]
    clear hW2 c0
    refine HCM.out.mono ?_
    rintro e w3 ⟨rfl, rfl⟩
    go_wp2_with fail
    go_ret2
    exact ⟨0, rfl, rfl, HEND.out⟩
  · have hC : ¬ ∀ nm, S.C nm = none := fun hc => hw (h.wts.2 hc)
    have hwt : S.wt = true := by cases hb : S.wt <;> simp_all
    obtain ⟨pm, hpm⟩ : ∃ q, q = planM S.C ss cnt S.ver S.next S.fs := ⟨_, rfl⟩
    rw [← hpm] at hPL
    have HPL := Lib.hid hPL
    have HP := Lib.hid h
    have HC := Lib.hid hC
    have HW := Lib.hid hwt
    have HK := Lib.hid hK
    have HPM := Lib.hid hpm
    clear h hK hPL hC hwt hw hpm
    cases pm with
    | none =>
      go_enter Tryz.func44, Tryz.ntmps44
      go_wp2_with fail
      refine HPL.out.mono ?_
      intro e w1 hans
      obtain ⟨x, y, a, k, c, rfl⟩ := hans.shape
      have hB1 := hans.1
      obtain ⟨W2, hW2⟩ : ∃ W2, W2 = w1.alloc (.cells #[.int .u64 x, .int .u32 y, .slice a k c] 34) := ⟨_, rfl⟩
      have hB2 : Below w.heap.size w W2 := by rw [hW2]; exact hB1.alloc hB1.size _
      have hP2 := HP.out.later hB2
      have hcm := on_commit hP2.on (by omega) HK.out HC.out
      rw [hP2.len, ← HPM.out] at hcm
      dsimp only at hcm
      obtain ⟨c0, _, _, _, _, _, _, _, _⟩ := hP2.cells
      obtain ⟨sd, hsd⟩ : ∃ y, y = S.s := ⟨_, rfl⟩
      have HP2 := Lib.hid hP2
      rw [← hsd] at c0 hcm
      rw [hW2] at c0
      have HCM := Lib.hid hcm
      have HB2 := Lib.hid hB2
      clear hans hB1 hB2 hP2 hcm hsd
      go_wp2_with fail
      rw [← hW2]
      clear hW2 c0
      refine HCM.out.mono ?_
      rintro e w3 ⟨rfl, hB3⟩
      obtain ⟨_, _, _, _, _, _, _, _, c8⟩ := (HP2.out.later hB3).cells
      rw [HW.out] at c8
      have HEND := Lib.hid (HP.out.same (j := i + 1) (by omega) (HB2.out.trans (hB3.mono HB2.out.size)))
      clear hB3
      go_wp2_with fail
      go_ret2
      exact ⟨7, rfl, rfl, HEND.out⟩
    | some q =>
      go_enter Tryz.func44, Tryz.ntmps44
      go_wp2_with fail
      refine HPL.out.mono ?_
      rintro e w1 ⟨hB1, a, c, l', rfl, hl', hF1, hg1, hx1⟩
      obtain ⟨nk, hnk⟩ : ∃ y, y = l'.length := ⟨_, rfl⟩
      obtain ⟨vn, hvn⟩ : ∃ y, y = S.ver + 1 := ⟨_, rfl⟩
      obtain ⟨qn, hqn⟩ : ∃ y, y = q.1 := ⟨_, rfl⟩
      rw [← hnk, ← hvn, ← hqn]
      obtain ⟨W2, hW2⟩ : ∃ W2, W2 = w1.alloc (.cells #[.int .u64 (vn : Int), .int .u32 (qn : Int), .slice a nk c] 34) := ⟨_, rfl⟩
      obtain ⟨mb, hmb⟩ : ∃ b, b = w1.heap.size := ⟨_, rfl⟩
      have hB12 : Below w1.heap.size w1 W2 := by rw [hW2]; exact (Below.refl _ w1).alloc (Nat.le_refl _) _
      have hB2 : Below w.heap.size w W2 := hB1.trans (hB12.mono hB1.size)
      have hbm : Blk W2 mb 34 #[.int .u64 (vn : Int), .int .u32 (qn : Int), .slice a nk c] := by rw [hW2, hmb]; exact Blk.new w1 _ _
      have hP2 := HP.out.later hB2
      have hcm := on_commit hP2.on (by omega) HK.out HC.out
      rw [hP2.len, ← HPM.out] at hcm
      dsimp only at hcm
      have c0 := hP2.cells.1
      obtain ⟨sd, hsd⟩ : ∃ y, y = S.s := ⟨_, rfl⟩
      have HP2 := Lib.hid hP2
      rw [← hsd] at c0
      rw [hW2] at c0
      rw [← hvn] at hcm
      have hcm2 : Calls Tryz.prog 13 #[.pointer (some ⟨sd, 0, none⟩)] W2 fun e w' => e = .returned (.int .i64 0) ∧ ∃ Q', On B S.s S.d S.g S.cm w' Q' (afterD S.m S.C S.ver q) vn q.1 q.2 none' (nowF S.C S.H) 0 ∧ (∀ k, Q' k → S.Q k ∨ W2.heap.size ≤ k) ∧ Upon S.Q W2 w' := by rw [hsd]; exact hcm
      have HCM := Lib.hid hcm2
      have HB2 := Lib.hid hB2
      have HBM := Lib.hid hbm
      have HF := Lib.hid (And.intro hl' (And.intro hF1 (And.intro hg1 hx1)))
      have HB12 := Lib.hid hB12
      have HB1 := Lib.hid hB1
      have HNK := Lib.hid hnk
      have HVN := Lib.hid hvn
      have HQN := Lib.hid hqn
      have HMB := Lib.hid hmb
      clear hB12 hB2 hbm hP2 hcm hcm2 hl' hF1 hg1 hx1 hB1 hnk hvn hqn hsd
      go_wp2_with fail
      rw [← hW2, ← hmb]
      clear hW2 c0 hmb
      refine HCM.out.mono ?_
      rintro e w3 ⟨rfl, Q3, hon3, hq3, hu3⟩
      have hpq3 : ¬ Q3 p := fun hk => (hq3 p hk).elim HP.out.pq (fun h4 => by have := HB2.out.size; omega)
      have hpb3 := HP2.out.blk.upon hu3 HP.out.pq
      have hz12 := HB12.out.size
      have hz02 := HB2.out.size
      have hbm3 := HBM.out.upon hu3 (fun hk => by have := HP.out.on.lt mb hk; have := HMB.out; have := HB1.out.size; omega)
      have k8 := hpb3.cell 8
      have k7 := hpb3.cell 7
      have k6 := hpb3.cell 6
      have k5 := hpb3.cell 5
      have k4 := hpb3.cell 4
      have k3 := hpb3.cell 3
      have k2 := hpb3.cell 2
      have z2 := hpb3.frozen 2
      have z3 := hpb3.frozen 3
      have z4 := hpb3.frozen 4
      have z5 := hpb3.frozen 5
      unfold PD.cells at k8 k7 k6 k5 k4 k3 k2
      rw [HW.out] at k8
      have m0 := hbm3.cell 0
      have m1 := hbm3.cell 1
      have m2 := hbm3.cell 2
      simp only [List.getElem?_toArray, List.getElem?_cons_zero, List.getElem?_cons_succ] at k8 k7 k6 k5 k4 k3 k2 m0 m1 m2
      obtain ⟨sa, hsa⟩ : ∃ y, y = S.an := ⟨_, rfl⟩
      obtain ⟨sn, hsn⟩ : ∃ y, y = S.L.length := ⟨_, rfl⟩
      obtain ⟨sc, hsc⟩ : ∃ y, y = S.nc := ⟨_, rfl⟩
      rw [← hsa, ← hsn, ← hsc] at k6
      obtain ⟨cs, hcs⟩ : ∃ cs, cs = S.cells := ⟨_, rfl⟩
      rw [← hcs] at hpb3
      obtain ⟨w4, hw4⟩ : ∃ w4, w4 = (((w3.setCell ⟨p, 2, none⟩ (.int .u64 (vn : Int))).setCell ⟨p, 3, none⟩ (.int .u32 (qn : Int))).setCell ⟨p, 4, none⟩ (.slice a nk c)).setCell ⟨p, 5, none⟩ (.slice sa sn sc) := ⟨_, rfl⟩
      have hb4 : Blk w4 p 38 ((((cs.setIfInBounds 2 (.int .u64 (vn : Int))).setIfInBounds 3 (.int .u32 (qn : Int))).setIfInBounds 4 (.slice a nk c)).setIfInBounds 5 (.slice sa sn sc)) := by rw [hw4]; exact (((hpb3.set 2 _).set 3 _).set 4 _).set 5 _
      have hu4 : Upon (fun g => g = p) w3 w4 := by rw [hw4]; exact ((((Upon.refl (fun g => g = p) w3).set (p := ⟨p, 2, none⟩) (.inl rfl) _).set (p := ⟨p, 3, none⟩) (.inl rfl) _).set (p := ⟨p, 4, none⟩) (.inl rfl) _).set (p := ⟨p, 5, none⟩) (.inl rfl) _
      obtain ⟨w5, hw5⟩ : ∃ w5, w5 = w4.alloc (.cells #[] 9) := ⟨_, rfl⟩
      have hB45 : Below w4.heap.size w4 w5 := by rw [hw5]; exact (Below.refl _ w4).alloc (Nat.le_refl _) _
      have hb5 := hb4.below hB45 hb4.lt
      have j7 := hb5.cell 7
      have j8 := hb5.cell 8
      have y7 := hb5.frozen 7
      have y8 := hb5.frozen 8
      rw [hcs] at j7 j8
      unfold PD.cells at j7 j8
      simp at j7 j8
      have hs43 : w4.heap.size = w3.heap.size := by rw [hw4]; simp [World.setCell]
      obtain ⟨nb, hnb⟩ : ∃ b, b = w3.heap.size := ⟨_, rfl⟩
      have hO5 : w5.ownsRow B 9 1 (.slice (some ⟨nb, 0, none⟩) 0 0) 0 [] := by
        rw [hw5, hnb, ← hs43]
        exact World.ownsRow_lit w4 #[] 0 (by rw [hs43]; have := HP.out.on.low; have := hu3.size; omega) (by decide) rfl
      have hb7 := (hb5.set 7 (.slice (some ⟨nb, 0, none⟩) 0 0)).set 8 (.bool false)
      obtain ⟨w7, hw7⟩ : ∃ w7, w7 = (w5.setCell ⟨p, 7, none⟩ (.slice (some ⟨nb, 0, none⟩) 0 0)).setCell ⟨p, 8, none⟩ (.bool false) := ⟨_, rfl⟩
      rw [← hw7] at hb7
      have hu7 : Upon (fun g => g = p) w5 w7 := by rw [hw7]; exact ((Upon.refl (fun g => g = p) w5).set (p := ⟨p, 7, none⟩) (.inl rfl) _).set (p := ⟨p, 8, none⟩) (.inl rfl) _
      have hu37 : Upon (fun g => g = p) w3 w7 := (hu4.trans (Upon.of_below (P := fun g => g = p) hB45) (fun g hg => .inl hg)).trans hu7 (fun g hg => .inl hg)
      have hO7 := own_upon hO5 hu7 (fun g hg e => by
        have e1 : nb = g := by simpa [Value.ownBlock] using hg
        have := hb4.lt
        have := hnb
        omega)
      have hz3 := hu3.size
      have hz37 := hu37.size
      have hlt3 := hon3.lt
      have hnb7 : nb < w7.heap.size := by
        have := hu7.size
        have h9 : w5.heap.size = w4.heap.size + 1 := by rw [hw5, World.size_alloc]
        omega
      have hn3 : ∀ {k : Nat}, w.heap.size ≤ k ∧ k < w1.heap.size → w.heap.size ≤ k ∧ k < w7.heap.size ∧ ¬ Q3 k ∧ (Value.slice (some ⟨nb, 0, none⟩) 0 0).ownBlock ≠ some k := fun {k} hk => by
        refine ⟨hk.1, by omega, fun h5 => (hq3 k h5).elim (fun h6 => by have := HP.out.on.lt k h6; omega) (fun h6 => by omega), fun e => ?_⟩
        have e1 : nb = k := by simpa [Value.ownBlock] using e
        omega
      obtain ⟨hl', hF1, hg1, hx1⟩ := HF.out
      have hAway : ∀ y ∈ S.l, ∀ k, Mem.blk y.a = some k → ¬ S.Q k ∧ k ≠ p := fun y hy k hk => by
        have h5 := (HP.out.fb y hy k hk).1
        exact ⟨fun h6 => h5 (.inl h6), fun h6 => h5 (.inr (.inl h6))⟩
      have hF7 : FilesIn w7 a l' := by
        refine ⟨((hF1.row.later HB12.out).upon hu3 (fun g hg h6 => by have := hg1 g hg; have := HP.out.on.lt g h6; omega)).upon hu37 (fun g hg e => by have := hg1 g hg; omega), fun y hy => ⟨?_, (hF1.blocks y hy).2⟩⟩
        have h5 := ((hF1.blocks y hy).1.later HB12.out)
        rcases hx1 y hy with h6 | h6
        · exact (h5.upon hu3 (fun g hg => (hAway y h6 g hg).1)).upon hu37 (fun g hg => (hAway y h6 g hg).2)
        · exact (h5.upon hu3 (fun g hg h8 => by have := h6 g hg; have := HP.out.on.lt g h8; omega)).upon hu37 (fun g hg e => by have := h6 g hg; omega)
      have hon7 := (hon3.keep hu37 (fun k hk => ⟨fun h5 => hpq3 (by rw [← hk]; exact h5), fun h5 => by have := HP.out.pb; have := HP.out.on.pos; omega⟩)).mono (Nat.zero_le (i + 1))
      have hend : Step B p cnt (i + 1) S w w7 := by
        have hz1 := (commit_free HP.out.on.fuse S.C q.2 (S.ver + 1) (manL (S.ver + 1) q.1 q.2)).1
        have hlen : (afterD S.m S.C S.ver q).bl.length = cnt := (commit_len HP.out.on.wt hz1).trans HP.out.len
        have hok3 := hon3.ok
        rw [hlen, HVN.out] at hok3
        have hfree := slots_after (m := S.m) (C := S.C) (p := q) HP.out.on.wt (by have := HP.out.on.big; exact this) hok3 HP.out.on.fuse
        refine HP.out.committed (c' := c) (vc' := .slice (some ⟨nb, 0, none⟩) 0 0) (((Upon.of_below (P := S.D p) HB2.out).trans (hu3.mono (fun k hk => Or.inl hk)) (fun k hk => .inl hk)).trans (hu37.mono (fun k hk => Or.inr (Or.inl hk))) (fun k hk => .inl hk)) (by rw [← HVN.out]; exact hon7) hfree hlen (fun k hk => (hq3 k hk).imp id (fun h5 => by omega)) ?blk (fun k hk => ?hv) hO7 hl' hF7 (fun k hk => hn3 (hg1 k hk)) (fun y hy => (hx1 y hy).imp id (fun h5 k hk => hn3 (h5 k hk))) (HP.out.next_le (by omega) HK.out HPM.out.symm) (by omega)
        case hv =>
          have e1 : nb = k := by simpa [Value.ownBlock] using hk
          exact ⟨fun h5 => by have := hlt3 k h5; omega, by omega⟩
        case blk =>
          have e : ((((((cs.setIfInBounds 2 (.int .u64 (vn : Int))).setIfInBounds 3 (.int .u32 (qn : Int))).setIfInBounds 4 (.slice a nk c)).setIfInBounds 5 (.slice sa sn sc)).setIfInBounds 7 (.slice (some ⟨nb, 0, none⟩) 0 0)).setIfInBounds 8 (.bool false)) = #[.pointer (some ⟨S.s, 0, none⟩), .pointer (some ⟨S.d, 0, none⟩), .int .u64 ((S.ver + 1 : Nat) : Int), .int .u32 (q.1 : Int), .slice a l'.length c, .slice S.an S.L.length S.nc, .slice S.an S.L.length S.nc, .slice (some ⟨nb, 0, none⟩) 0 0, .bool false] := by
            rw [hcs, ← HVN.out, ← HQN.out, ← HNK.out, hsa, hsn, hsc]
            rfl
          rw [e] at hb7
          exact hb7
      have HEND := Lib.hid hend
      rw [hw5, hw4] at j7 j8 y7 y8
      rw [hw7, hw5, hw4, hnb] at HEND
      clear hend hF7 hAway hl' hF1 hg1 hx1 hn3 hnb7 hlt3 hO7 hu37 hu7 hw7 hb7 hO5 hnb hs43 hb5 hB45 hw5 hu4 hb4 hw4 hpb3 hcs hsa hsn hsc hpq3 hbm3 hon3 hq3 hu3 HCM HF hon7 hz3 hz37
      go_wp2_with fail
      go_ret2
      exact ⟨0, rfl, rfl, HEND.out⟩
end Go.Proofs.YtbfochdoeibofaaGreatDoor.Full

/- palmerlaw10: a play's changes: Write and Append. Printed by gen/changes.py. -/
namespace Go.Proofs.YtbfochdoeibofaaGreatDoor.Full
open Go.RowKit Go.Deep Mem Crc Go.Maps Go.Proofs.YtbfochdoeibofaaGreatDoor.Dk Go.Proofs.YtbfochdoeibofaaGreatDoor.Mani Go.Proofs.YtbfochdoeibofaaGreatDoor.RefF
open Go.Proofs.YtbfochdoeibofaaGreatDoor.Store (Chg none' nv Files setC setC_same setC_other)
open Go.Proofs.YtbfochdoeibofaaGreatDoor.Ext (Tab)

theorem infoStr : (Tryz.prog.info? 9).map (fun i => (i.zero, i.size, i.bytes)) = some (some (.string .empty), 1, 16) := by kernel_rfl
theorem append_nv {base : Nat} (w : World) (ty : TypeId) (v : Value) (l : List (List UInt8)) (h : w.ownsRow base 9 1 v l.length (l.map nv)) (nm : List UInt8) (hm : l.length ≤ 1000000) (hb : base ≤ w.heap.size) :
    ∃ v' w', (Builtin.append_ #[36, 36] ty #[v, .slice (some ⟨w.heap.size, 0, none⟩) 1 1]).run Tryz.prog (w.alloc (.cells #[nv nm] 9)) = .ok v' w' ∧ w'.ownsRow base 9 1 v' (l ++ [nm]).length ((l ++ [nm]).map nv) ∧ w.grownBy w' v.ownBlock ∧ ∀ k, v'.ownBlock = some k → v.ownBlock = some k ∨ w.heap.size ≤ k := by
  obtain ⟨i, hi, hz, h1, h2⟩ := info_parts infoStr
  have hB : Below w.heap.size w (w.alloc (.cells #[nv nm] 9)) := (Below.refl _ w).alloc (Nat.le_refl _) _
  obtain ⟨v', w', hr, ho, hg, _, hat⟩ := run_append_own_at (P := Tryz.prog) (w.alloc (.cells #[nv nm] 9)) base 36 ty 9 i (.string .empty) 1 16 Tryz.underlying36 hi hz h1 h2 rfl (by decide) v l.length (l.map nv) (own_later h hB) ⟨w.heap.size, 0, none⟩ 1 1 [nv nm] rfl (fun j u hu => by
    have := lies_add (new_lies w 9 #[nv nm]) j u (by simpa using hu)
    exact this) (fun u hu => by
    rw [List.mem_singleton.1 hu]
    rfl) (by unfold maxLen; omega) (by omega) (Nat.le_trans hb hB.size)
  refine ⟨v', w', hr, ?_, grown_later hB hg, fun k hk => ?_⟩
  · rw [List.length_append, List.map_append]
    exact ho
  · rcases hat with e | e
    · exact .inl (by rw [← e]; exact hk)
    · rw [e] at hk
      have : (w.alloc (.cells #[nv nm] 9)).heap.size = k := by simpa using hk
      have := hB.size
      exact .inr (by omega)
theorem nv_append {x y : List UInt8} {sx sy : ByteArray} (hx : nv x = .string sx) (hy : nv y = .string sy) : nv (x ++ y) = .string (sx ++ sy) := by
  unfold Store.nv at hx hy ⊢
  injection hx with hx
  injection hy with hy
  subst hx hy
  congr 1
theorem add_str (t : TypeId) (a b : ByteArray) (h : (a.size : Int) + (b.size : Int) ≤ 9223372036854775807) : binOp .add t (.string a) (.string b) = pure (.string (a ++ b)) := by
  simp [binOp, Op.stringOp]
  intro h2
  omega
theorem foldP_len2 (nm b : List UInt8) (l : List FF) : (foldP nm b l).1.length + (if (foldP nm b l).2 then 0 else 1) ≤ l.length + 1 := by
  have h : ∀ (l : List FF) (s : List FF × Bool), (l.foldl (stepP nm b) s).1.length + (if (l.foldl (stepP nm b) s).2 then 0 else 1) ≤ s.1.length + (if s.2 then 0 else 1) + l.length := by
    intro l
    induction l with
    | nil => intro s; exact Nat.le_refl _
    | cons x r ih =>
      intro s
      have h1 := ih (stepP nm b s x)
      have h2 : (stepP nm b s x).1.length + (if (stepP nm b s x).2 then 0 else 1) ≤ s.1.length + (if s.2 then 0 else 1) + 1 := by
        unfold stepP
        split
        · omega
        · split
          · rename_i h3 h4
            rw [h4.1]
            simp
          · dsimp only
            rw [List.length_append, List.length_singleton]
            omega
      rw [List.foldl_cons, List.length_cons]
      omega
  have := h l ([], false)
  simp at this
  unfold foldP
  omega
theorem putP_len (l : List FF) (nm b : List UInt8) : (putP l nm b).length ≤ l.length + 1 := by
  have hh := foldP_len2 nm b l
  unfold RefF.putP
  split
  · omega
  · rename_i hd
    rw [if_neg hd] at hh
    rw [List.length_append, List.length_singleton]
    omega
theorem putP_mem {l : List FF} {F : Files} (h : IsRow l F) (nm b : List UInt8) : ∀ x ∈ putP l nm b, x = (nm, b) ∨ x ∈ l := by
  intro x hx
  have h2 := (h.put nm b).mem x.1 x.2
  have := h2.1 hx
  by_cases e : x.1 = nm
  · rw [if_pos e] at this
    exact .inl (Prod.ext e (Option.some.inj this).symm)
  · rw [if_neg e] at this
    exact .inr ((h.mem x.1 x.2).2 this)
variable {B p cnt i : Nat} {w w' : World} {S : PD}
theorem Play.wasle (h : Play B p cnt i w S) (nm : List UInt8) : (ansF (nowF S.C S.H nm)).1.length ≤ 1000 * i := by
  cases hn : nowF S.C S.H nm with
  | none => exact Nat.zero_le _
  | some b => exact (h.each (nm, b) ((h.rowN.mem nm b).2 hn)).2
/-- What a play comes to when a file's bytes were changed: the cells of now, changed, waits were stored. -/
theorem Play.wrote (h : Play B p cnt i w S) {w2 w3 w4 w5 w6 w7 w8 : World} (nm bnew : List UInt8) (h1 : 1 ≤ nm.length) (h2 : nm.length ≤ 32) (hbn : bnew.length ≤ 1000 * (i + 1)) (hB2 : Below w.heap.size w w2) {Q3 : Nat → Prop}
    (hon : On B S.s S.d S.g S.cm w3 Q3 S.m S.ver S.next S.fs (setC S.C nm (some (some bnew))) S.H (i + 1)) (hq3 : ∀ k, Q3 k → S.Q k ∨ w2.heap.size ≤ k) (hu3 : Upon S.Q w2 w3)
    {ap : Option Addr} {cp : Nat} (hput : w4.ownsRow w3.heap.size 69 2 (.slice ap (putP S.L nm bnew).length cp) (putP S.L nm bnew).length (flatP (putP S.L nm bnew))) (hB4 : Below w3.heap.size w3 w4)
    (h5 : w5 = w4.setCell ⟨p, 6, none⟩ (.slice ap (putP S.L nm bnew).length cp)) {v' : Value} (hrow : w6.ownsRow B 9 1 v' (S.ch ++ [nm]).length ((S.ch ++ [nm]).map nv)) (hg : w5.grownBy w6 S.vc.ownBlock) (hat : ∀ k, v'.ownBlock = some k → S.vc.ownBlock = some k ∨ w5.heap.size ≤ k)
    (h7 : w7 = w6.setCell ⟨p, 7, none⟩ v') (h8 : w8 = w7.setCell ⟨p, 8, none⟩ (.bool true)) :
    Step B p cnt (i + 1) S w w8 := by
  have hlt3 := hon.lt
  have hz2 := hB2.size
  have hz3 := hu3.size
  have hz4 := hB4.size
  have hz5 : w5.heap.size = w4.heap.size := by rw [h5]; simp [World.setCell]
  have hz6 := hg.size
  have hpl := h.blk.lt
  have hlow := h.on.low
  have hpb3 := (h.blk.below hB2 hpl).upon hu3 h.pq
  have hpb4 := hpb3.below hB4 hpb3.lt
  have hpb5 := hpb4.set 6 (.slice ap (putP S.L nm bnew).length cp)
  rw [← h5] at hpb5
  have hpb6 := hpb5.grown hg (fun e => h.pv e.symm)
  have hpb8 := (hpb6.set 7 v').set 8 (.bool true)
  rw [← h7, ← h8] at hpb8
  have hu45 : Upon (fun g => g = p) w4 w5 := by rw [h5]; exact (Upon.refl (fun g => g = p) w4).set (p := ⟨p, 6, none⟩) (.inl rfl) _
  have hu56 : Upon (fun g => S.vc.ownBlock = some g) w5 w6 := Upon.of_grown hg (fun g hg => .inl hg)
  have hu68 : Upon (fun g => g = p) w6 w8 := by rw [h8, h7]; exact ((Upon.refl (fun g => g = p) w6).set (p := ⟨p, 7, none⟩) (.inl rfl) _).set (p := ⟨p, 8, none⟩) (.inl rfl) _
  have hu38 : Upon (fun g => g = p ∨ S.vc.ownBlock = some g) w3 w8 := (((Upon.of_below (P := fun g => g = p ∨ S.vc.ownBlock = some g) hB4).trans (hu45.mono (fun k hk => .inl hk)) (fun k hk => .inl hk)).trans (hu56.mono (fun k hk => .inr hk)) (fun k hk => .inl hk)).trans (hu68.mono (fun k hk => .inl hk)) (fun k hk => .inl hk)
  have hz38 := hu38.size
  have hpq3 : ¬ Q3 p := fun hk => (hq3 p hk).elim h.pq (fun h4 => by omega)
  have hvq3 : ∀ k, S.vc.ownBlock = some k → ¬ Q3 k := fun k hk hk2 => (hq3 k hk2).elim (h.chq k hk) (fun h4 => by have := (h.own.lt k hk).2; omega)
  have hpos := h.on.pos
  have hon8 := hon.keep hu38 (fun k hk => by
    rcases hk with rfl | hk
    · exact ⟨hpq3, by have := h.pb; omega⟩
    · exact ⟨hvq3 k hk, by have := (h.own.lt k hk).1; omega⟩)
  have hu8 : Upon (S.D p) w w8 := ((Upon.of_below (P := S.D p) hB2).trans (hu3.mono (fun k hk => Or.inl hk)) (fun k hk => .inl hk)).trans (hu38.mono (fun k hk => by
    rcases hk with rfl | hk
    · exact Or.inr (Or.inl rfl)
    · exact Or.inr (Or.inr hk))) (fun k hk => .inl hk)
  have hb3 : B ≤ w3.heap.size := by omega
  obtain ⟨a', c', e', hcap, hLp, hbp, _⟩ := own_shape hput
  injection e' with e1 e2 e3
  subst e1 e3
  have hnapart : ∀ k, Mem.blk ap = some k → k ≠ p ∧ S.vc.ownBlock ≠ some k := fun k hk => by
    have := hbp k hk
    have := hpb3.lt
    refine ⟨by omega, fun e => ?_⟩
    have := (h.own.lt k e).2
    omega
  have hL8 : Lies w8 ap (flatP (putP S.L nm bnew)) := ((hLp.upon hu45 (fun k hk => (hnapart k hk).1)).upon hu56 (fun k hk => (hnapart k hk).2)).upon hu68 (fun k hk => (hnapart k hk).1)
  have hO8 : w8.ownsRow B 9 1 v' (S.ch ++ [nm]).length ((S.ch ++ [nm]).map nv) := own_upon hrow hu68 (fun g hg2 e => by
    rcases hat g hg2 with h9 | h9
    · exact h.pv (by rw [← e]; exact h9)
    · have := hpb3.lt
      omega)
  have hvn : ∀ k, v'.ownBlock = some k → ¬ Q3 k := fun k hk => (hat k hk).elim (hvq3 k) (fun h9 h10 => by have := hlt3 k h10; omega)
  have hll := h.ll
  have hchl := h.chl
  refine h.next (j := i + 1) (Q' := Q3) (C' := setC S.C nm (some (some bnew))) (L' := putP S.L nm bnew) (ch' := S.ch ++ [nm]) (wt' := true) (an' := ap) (nc' := cp) (vc' := v') hu8 (Nat.le_succ i) hon8 (fun k hk => (hq3 k hk).imp id (fun h4 => by omega)) hpb8 hvn (fun k hk => (hat k hk).imp id (fun h9 => by omega)) hO8 hL8 (fun k hk => ?_) (h.rowN.write nm bnew) ⟨fun x hx => ?_, fun x y hx => ?_⟩ ⟨fun e => (by cases e), fun hx => ?_⟩ ?_ ?_ (fun x hx => ?_) hcap
  · have h9 := hbp k hk
    refine ⟨fun hD => ?_, by omega, ?_⟩
    · rcases hD with hD | hD | hD
      · have := hlt3 k hD; omega
      · exact (hnapart k hk).1 hD
      · rcases hat k hD with h10 | h10
        · exact (hnapart k hk).2 h10
        · have := hu45.size
          omega
    · have := hu45.size
      have := hu56.size
      have := hu68.size
      omega
  · by_cases e : x = nm
    · rw [e, setC_same]
      simp
    · rw [setC_other _ e]
      rcases List.mem_append.1 hx with hx | hx
      · exact h.chok.some_ x hx
      · exact absurd (List.mem_singleton.1 hx) e
  · by_cases e : x = nm
    · rw [e]
      simp
    · rw [setC_other _ e] at hx
      exact List.mem_append_left _ (h.chok.all_ x y hx)
  · have := hx nm
    rw [setC_same] at this
    cases this
  · rw [List.length_append, List.length_singleton]
    omega
  · have := putP_len S.L nm bnew
    omega
  · rcases putP_mem h.rowN nm bnew x hx with rfl | hx
    · exact ⟨⟨h1, h2⟩, hbn⟩
    · have := h.each x hx
      exact ⟨this.1, by omega⟩
end Go.Proofs.YtbfochdoeibofaaGreatDoor.Full
