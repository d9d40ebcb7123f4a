/- Awake10, in one text. -/
import Derived.Test.YtbfochdoeibofaaGreatDoorG28
import Derived.Lib.SlBytesConst
/- palmerlaw10: awake. -/
namespace Go.Proofs.YtbfochdoeibofaaGreatDoor.Full
open Go.RowKit Go.Deep Mem Crc Go.Maps Go.Proofs.YtbfochdoeibofaaGreatDoor.Dk Go.Proofs.YtbfochdoeibofaaGreatDoor.Mani
open Go.Proofs.YtbfochdoeibofaaGreatDoor.Store (Chg none' nv Files setC setC_same setC_other)
open Go.Proofs.YtbfochdoeibofaaGreatDoor.Ext (Tab freeN)

theorem d0_len (N : Nat) : (D0 N).bl.length = N := by unfold D0; exact List.length_replicate
/-- begin, and what stands then. -/
theorem begin_on (N : Nat) (hN : 33 ≤ N) (hN2 : N ≤ 2000) (w : World) (hT : Tab w) :
    Calls Tryz.prog 10 #[.int .i64 (N : Int)] w fun e w' => ∃ p s d g cm Q, e = .returned (.tuple #[.pointer (some ⟨p, 0, none⟩), .bool true]) ∧ Blk w' p 38 #[.pointer (some ⟨s, 0, none⟩), .pointer (some ⟨d, 0, none⟩), .int .u64 0, .int .u32 0, .slice none 0 0, .slice none 0 0, .slice none 0 0, .slice none 0 0, .bool false] ∧ On w.heap.size s d g cm w' Q (D0 N) 0 0 [] none' (fun _ => none) 0 ∧ ¬ Q p ∧ w.heap.size ≤ p ∧ Below w.heap.size w w' := by
  have hp := hT.lt
  refine (begin_any N hN hN2 w).mono ?_
  rintro e w' ⟨p, s, d, g, cm, Q, rfl, hb, hf, hq, hqs, hp2, hB⟩
  exact ⟨p, s, d, g, cm, Q, rfl, hb, ⟨⟨_, _, _, _, hf, rfl⟩, rfl, by show (-1 : Int) < 0; decide, rfl, by rw [d0_len]; exact hN, on_none N, by rw [d0_len]; exact okm_none N, few_none 0, hqs, hT.below hB hp, hp, hB.size⟩, hq, hp2, hB⟩
theorem nowF_none (H : Files) : nowF none' H = H := rfl
theorem one_ne (nm b : List UInt8) : ¬ ∀ x, oneC nm b x = none := fun h => by
  have := h nm
  rw [oneC_same] at this
  cases this
attribute [local go_sem] Oper.semAt_some
/-- string(b). -/
theorem conv_any {va : Option Addr} {vc : Nat} {b : List UInt8} {w : World} (hL : Lies w va (b.map bv)) : (convert 22 9 (.slice va b.length vc)).run Tryz.prog w = .ok (nv b) w := by
  cases va with
  | none =>
    have e0 : b = [] := by
      rcases hL with h | ⟨g, o, h, _⟩
      · exact List.map_eq_nil_iff.1 h
      · cases h
    subst e0
    show (convert 22 9 (.slice none 0 vc)).run Tryz.prog w = .ok (.string ⟨#[]⟩) w
    kernel_rfl
  | some ad => exact run_convert_bytes_back w 22 9 5 _ vc _ Tryz.underlying22 Tryz.underlying5 Tryz.underlying9 (fun j hj => lies_add hL j _ (by simp [hj, bv]))
theorem new_lies2 (w : World) (t : TypeId) (cs : Array Value) (f : Nat × Nat) : Lies (w.alloc (.cells cs t f)) (some ⟨w.heap.size, 0, none⟩) cs.toList := .inr ⟨w.heap.size, 0, rfl, by simp, fun i u hu => by
  rw [Nat.zero_add, cell_of_row _ w.heap.size i cs t f (heap_alloc_new w _)]
  simpa using hu⟩
theorem after_len {B s d g cm : Nat} {w : World} {Q : Nat → Prop} {m : DM} {ver next : Nat} {fs : List Fil} {C : Chg} {H : Files} {n : Nat} (h : On B s d g cm w Q m ver next fs C H n) (C' : Chg) (v : Nat) (p : Nat × List Fil) : (afterD m C' v p).bl.length = m.bl.length := commit_len h.wt (commit_free h.fuse C' p.2 (v + 1) (manL (v + 1) p.1 p.2)).1
/-- A commit of one file on a new disk. -/
theorem commit_one {B s d g cm : Nat} {w : World} {Q : Nat → Prop} {N : Nat} {b : List UInt8} {n : Nat} (h : On B s d g cm w Q (D0 N) 0 0 [] (oneC [97] b) (fun _ => none) n) (hn : n ≤ 9000) (hb : b.length ≤ 10000) (hf : Mani.many b.length ≤ (freeB N []).length) :
    Calls Tryz.prog 13 #[.pointer (some ⟨s, 0, none⟩)] w fun e w' => e = .returned (.int .i64 0) ∧ ∃ Q' m', On B s d g cm w' Q' m' 1 1 [oneF [97] b N] none' (nowF (oneC [97] b) (fun _ => none)) 0 ∧ m'.bl.length = N ∧ (∀ k, Q' k → Q k ∨ w.heap.size ≤ k) ∧ Upon Q w w' := by
  have hbig := h.big
  have hsm := h.small
  rw [d0_len] at hbig hsm
  have hp := one_plan (nm := [97]) (b := b) (N := N) (by omega) hsm (by decide) (by decide) hb hf
  refine (on_commit h hn (oneC_keys [97] b) (one_ne [97] b)).mono ?_
  intro e w' hc
  rw [d0_len, hp] at hc
  obtain ⟨he, Q', h1, h2, h3⟩ := hc
  exact ⟨he, Q', _, h1, (after_len h _ _ _).trans (d0_len N), h2, h3⟩
/-- A constant text's byte, as the store takes it. -/
def wB (w : World) (x : UInt8) : World := w.alloc (.cells #[.int .u8 (x.toNat : Int)] 5 (1, 2))
theorem wB_below (w : World) (x : UInt8) : Below w.heap.size w (wB w x) := (Below.refl _ w).alloc (Nat.le_refl _) _
/-- Write of one byte. -/
theorem write_byte {B s d g cm : Nat} {w : World} {Q : Nat → Prop} {m : DM} {ver next : Nat} {fs : List Fil} {C : Chg} {H : Files} {n : Nat} (h : On B s d g cm w Q m ver next fs C H n) (hn : n ≤ 100000) (x : UInt8) :
    Calls Tryz.prog 11 #[.pointer (some ⟨s, 0, none⟩), .string ⟨#[97]⟩, .slice (some ⟨w.heap.size, 0, none⟩) 1 1] (wB w x) fun e w' => e = .returned (.int .i64 0) ∧ ∃ Q', On B s d g cm w' Q' m ver next fs (setC C [97] (some (some [x]))) H (n + 1) ∧ (∀ k, Q' k → Q k ∨ w.heap.size ≤ k) ∧ Upon Q w w' := by
  have hB := wB_below w x
  refine (on_write (h.later hB) hn [97] (by decide) (by decide) (some ⟨w.heap.size, 0, none⟩) 1 [x] (new_lies2 w 5 #[.int .u8 (x.toNat : Int)] (1, 2)) (by simp)).mono ?_
  rintro e w' ⟨rfl, Q', h1, h2, h3⟩
  exact ⟨rfl, Q', h1, fun k hk => (h2 k hk).imp id (fun h => Nat.le_trans hB.size h), (Upon.of_below hB).trans h3 (fun k hk => .inl hk)⟩
set_option maxHeartbeats 2000000 in
set_option maxRecDepth 100000 in
theorem awake_any (w : World) (hT : Tab w) : Calls Tryz.prog 9 #[] w fun e w' => e = .returned (.bool true) ∧ Below w.heap.size w w' := by
  have HB : Hid (Calls Tryz.prog 10 #[.int .i64 40] w fun e w' => ∃ p s d g cm Q, e = .returned (.tuple #[.pointer (some ⟨p, 0, none⟩), .bool true]) ∧ Blk w' p 38 #[.pointer (some ⟨s, 0, none⟩), .pointer (some ⟨d, 0, none⟩), .int .u64 0, .int .u32 0, .slice none 0 0, .slice none 0 0, .slice none 0 0, .slice none 0 0, .bool false] ∧ On w.heap.size s d g cm w' Q (D0 40) 0 0 [] none' (fun _ => none) 0 ∧ ¬ Q p ∧ w.heap.size ≤ p ∧ Below w.heap.size w w') := Lib.hid (begin_on 40 (by decide) (by decide) w hT)
  have kc := fun (w : World) (C : Array Value) (n c : Nat) => Lib.run_convert_bytes_const (P := Tryz.prog) w 22 5 C n c Tryz.underlying22 Tryz.underlying5
  clear hT
  go_enter Tryz.func9, Tryz.ntmps9
  go_wp2_with fail
  refine HB.out.mono ?_
  rintro e w1 ⟨p, s, d, g, cm, Q, rfl, hp, hon, hqp, hpl, hB1⟩
  have HW1 := Lib.hid (write_byte hon (by decide) 98)
  have p0 := hp.cell 0
  simp at p0
  have hpw := hp.lt
  have HP := Lib.hid hp
  have HQP := Lib.hid hqp
  have HPL := Lib.hid hpl
  have HB1 := Lib.hid hB1
  have HON := Lib.hid hon
  clear hp hon hqp hpl hB1 HB
  go_wp2_with fail
  refine HW1.out.mono ?_
  rintro e w2 ⟨rfl, Q2, hon2, hq2, hu2⟩
  have hp2 := HP.out.upon hu2 HQP.out
  have hqp2 : ¬ Q2 p := fun hk => (hq2 p hk).elim HQP.out (fun h => by omega)
  have p0 := hp2.cell 0
  simp at p0
  have HB2 := Lib.hid (HB1.out.trans (HON.out.up hu2))
  have HF := Lib.hid (on_forget hon2)
  have HP2 := Lib.hid hp2
  have HQP2 := Lib.hid hqp2
  have HON2 := Lib.hid hon2
  clear hp2 hqp2 hon2 hq2 hu2 HW1
  go_wp2_with fail
  refine HF.out.mono ?_
  rintro e w3 ⟨rfl, hon3, hu3⟩
  have hp3 := HP2.out.upon hu3 HQP2.out
  have p0 := hp3.cell 0
  simp at p0
  have HB3 := Lib.hid (HB2.out.trans (HON2.out.up hu3))
  have HN := Lib.hid (on_names hon3 (by decide))
  have HP3 := Lib.hid hp3
  have HON3 := Lib.hid hon3
  clear hp3 hon3 hu3 HF
  go_wp2_with fail
  refine HN.out.mono ?_
  rintro e w4 ⟨v4, ss, rfl, hO4, hm4, _, _, hB4⟩
  have hss : ss = [] := by
    refine List.eq_nil_iff_forall_not_mem.2 (fun x hx => ?_)
    exact (hm4 x).1 hx rfl
  subst hss
  obtain ⟨a4, c4, rfl, _, _, _, _⟩ := own_shape hO4
  have hon4 := HON3.out.later hB4
  have hp4 := HP3.out.below hB4 HP3.out.lt
  have p0 := hp4.cell 0
  simp at p0
  have HW2 := Lib.hid (write_byte hon4 (by decide) 99)
  have hpw4 := hp4.lt
  have HP4 := Lib.hid hp4
  have HON4 := Lib.hid hon4
  have HB4 := Lib.hid (HB3.out.trans (hB4.mono HB3.out.size))
  simp only [List.length_nil]
  clear hp4 hon4 hB4 hm4 hO4 HN
  go_wp2_with fail
  refine HW2.out.mono ?_
  rintro e w5 ⟨rfl, Q5, hon5, hq5, hu5⟩
  have hp5 := HP4.out.upon hu5 HQP2.out
  have hqp5 : ¬ Q5 p := fun hk => (hq5 p hk).elim HQP2.out (fun h => by omega)
  have p0 := hp5.cell 0
  simp at p0
  have HB5 := Lib.hid (HB4.out.trans (HON4.out.up hu5))
  have HC := Lib.hid (commit_one (b := [99]) hon5 (by decide) (by decide) (by rw [free40]; decide))
  have HP5 := Lib.hid hp5
  have HQP5 := Lib.hid hqp5
  have HON5 := Lib.hid hon5
  clear hp5 hqp5 hon5 hq5 hu5 HW2
  go_wp2_with fail
  refine HC.out.mono ?_
  rintro e w6 ⟨rfl, Q6, m6, hon6, hm6, hq6, hu6⟩
  have hp6 := HP5.out.upon hu6 HQP5.out
  have p0 := hp6.cell 0
  simp at p0
  have HB6 := Lib.hid (HB5.out.trans (HON5.out.up hu6))
  have hrd := on_read hon6 [97] (by decide)
  have hans : ansF (nowF none' (nowF (oneC [97] [99]) (fun _ => none)) [97]) = ([99], 0) := by
    rw [nowF_none]
    unfold nowF
    rw [oneC_same]
    rfl
  rw [hans] at hrd
  have HRD := Lib.hid hrd
  have HP6 := Lib.hid hp6
  have HON6 := Lib.hid hon6
  have HM6 := Lib.hid hm6
  clear hp6 hon6 hq6 hu6 hm6 hrd hans HC
  go_wp2_with fail
  refine HRD.out.mono ?_
  rintro e w7 ⟨v7, rfl, hO7, hB7⟩
  obtain ⟨a7, c7, rfl, _, hL7, _, _⟩ := own_shape hO7
  have hcv0 : (convert 22 9 (.slice a7 ([99] : List UInt8).length c7)).run Tryz.prog w7 = .ok (.string ⟨#[99]⟩) w7 := conv_any hL7
  have hp7 := HP6.out.below hB7 HP6.out.lt
  have p0 := hp7.cell 0
  simp at p0
  have hon7 := HON6.out.later hB7
  have HV := Lib.hid (on_version hon7)
  have HB7 := Lib.hid (HB6.out.trans (hB7.mono HB6.out.size))
  have hfr := on_free hon7
  rw [HM6.out, one40, free40'] at hfr
  have HFR := Lib.hid hfr
  simp only [List.length_cons, List.length_nil, Nat.zero_add] at hcv0 ⊢
  clear hO7 hL7 hB7 hp7 hon7 hfr HRD
  go_wp2_with fail
  refine HV.out.mono ?_
  rintro e w8 ⟨rfl, rfl⟩
  go_wp2_with fail
  refine HFR.out.mono ?_
  rintro e w9 ⟨rfl, hB9⟩
  have HB9 := Lib.hid (HB7.out.trans (hB9.mono HB7.out.size))
  clear hB9
  go_wp2_with fail
  go_ret
  exact ⟨rfl, HB9.out⟩
end Go.Proofs.YtbfochdoeibofaaGreatDoor.Full
