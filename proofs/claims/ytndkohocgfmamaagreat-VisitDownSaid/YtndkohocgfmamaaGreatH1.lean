/- VisitOff, VisitDownL, VisitDownW, in one text. -/
import Derived.Test.YtndkohocgfmamaaGreatG5
import Derived.Lib.SmallJoins
import Derived.StillTailTactics
/- A counter whose disk goes off. -/
namespace Go.Proofs.YtndkohocgfmamaaGreat.Visit
open Go.RowKit Go.Deep Mem Crc Go.Proofs.YtndkohocgfmamaaGreat.Merge
open Go.Proofs.YtndkohocgfmamaaGreat.Runs (LiveIn InAt fiV)
open Go.Proofs.YtndkohocgfmamaaGreat.Store (Sto bare Bare St none' Chg chgV isChg)
open Go.Proofs.YtndkohocgfmamaaGreat.Disk (Blank)

attribute [local go_sem] Oper.semAt_some
/-- A change's bytes stay while the disk's own block turns. -/
theorem chg_off {w w' : World} {Q : Nat → Prop} {c : Option (List UInt8)} {v : Value} {d g N : Nat} (h : chgV w Q c v) (hd : Blank w d g N false) (ho : Only [d] w w') : chgV w' Q c v := by
  cases c with
  | none => exact h
  | some b =>
    obtain ⟨a, cp, e, h1, h2, h3⟩ := h
    refine ⟨a, cp, e, h1, ?_, h3⟩
    rcases h2 with h2 | ⟨q, off, rfl, hq, hc⟩
    · exact .inl h2
    · by_cases hb : b = []
      · subst hb
        exact .inl rfl
      · obtain ⟨x, t, rfl⟩ : ∃ x t, b = x :: t := by
          rcases b with _ | ⟨x, t⟩
          · exact absurd rfl hb
          · exact ⟨x, t, rfl⟩
        have h0 := hc 0 (bv x) (by simp)
        have hqd : q ≠ d := fun e => by
          rw [e, hd.disk.cell] at h0
          rcases off with _ | _ | _ | _ | off <;> simp [bv] at h0
        exact Lies.keep (.inr ⟨q, off, rfl, hq, hc⟩) ho.size (fun g hg => by
          cases hg
          exact ho.block q hq (by simpa using hqd))
theorem bare_offF {w w' : World} {Q : Nat → Prop} {s d g N cm n : Nat} {F : Go.Proofs.YtndkohocgfmamaaGreat.Store.Files} (h : (bare s d g N cm).At w Q false F n) (hb : Blank w' d g N true) (ho : Only [d] w w') : (bare s d g N cm).At w' Q true F n := by
  obtain ⟨⟨C, L, hs, hF, r⟩, h2, h3⟩ := h
  refine ⟨⟨C, L, ?_, hF, r⟩, h2, h3⟩
  obtain ⟨f, h4, h5, h6⟩ := hs.map
  have hds : s ≠ d := hs.store.ne hs.disk.disk (by decide)
  have hdm : cm ≠ d := fun e => by
    obtain ⟨D, n, ⟨es, cl, hb, _⟩, _⟩ := h4
    have hd := hs.disk.disk
    unfold Blk at hd
    rw [← e, hb] at hd
    cases hd
  refine ⟨hs.store.only ho (by simpa using hds), hb, ⟨f, h4.keep (ho.block _ h4.lt (by simpa using hdm)), h5, fun nm => ?_⟩, hs.qs, hs.qd, hs.qg, hs.qm, fun k hq => Nat.lt_of_lt_of_le (hs.lt k hq) ho.size⟩
  have hx := h6 nm
  unfold Go.Proofs.YtndkohocgfmamaaGreat.Store.isChg at hx ⊢
  cases hc : C nm with
  | none => rw [hc] at hx; exact hx
  | some c =>
    rw [hc] at hx
    obtain ⟨v, h7, h8⟩ := hx
    exact ⟨v, h7, chg_off h8 hs.disk ho⟩
theorem live_off {s d g cm : Nat} {A : Go.Proofs.YtndkohocgfmamaaGreat.Runs.Fi} {D : Nat → Prop} {w : World} {x : Nat} {ls : List (List B)} {held : List B} {n : Nat} (h : LiveIn (bare s d g 400 cm) A D w x false ls held n) :
    Calls Tryz.prog 19 #[.pointer (some ⟨d, 0, none⟩)] w fun e w' => e = .returned (.tuple #[]) ∧ LiveIn (bare s d g 400 cm) A D w' x true ls held n ∧ Only [d] w w' ∧ D d := by
  obtain ⟨m, Q, R, F, hv, vs, hm, h⟩ := h
  have hqd : Q d := by
    obtain ⟨C, L, hs, _⟩ := h.srt.sto.at_
    exact hs.qd
  have hdk : Blank w d g 400 false := by
    obtain ⟨C, L, hs, _⟩ := h.srt.sto.at_
    exact hs.disk
  refine (Go.Proofs.YtndkohocgfmamaaGreat.Disk.off_any hdk).mono ?_
  rintro e w' ⟨rfl, hb, ho⟩
  have hu : Upon (fun k => k = d) w w' := Upon.of_only ho (fun k hk => .inl (List.mem_singleton.1 hk))
  have hs := h.srt
  refine ⟨rfl, ⟨m, Q, R, F, hv, vs, hm, ⟨hs.sIs, hs.blk.upon hu (fun e => hs.xq (by rw [e]; exact hqd)), bare_offF hs.sto hb ho, hs.mem.keep hu (fun k hk e => (hs.rq k hk).1 (by rw [e]; exact hqd)) (fun k hk e => (hs.hq k hk).1 (by rw [e]; exact hqd)), hs.rq, hs.hq, hs.xq, hs.ok, hs.room, hs.few⟩, h.files, h.q, h.r, h.x, h.h⟩, ho, h.q d hqd⟩
/-- The counter's disk goes off. -/
theorem ctr_off {s d g cm rm : Nat} {D : Nat → Prop} {w : World} {c x hb : Nat} {ls : List (List KC)} {H : List KC} {n : Nat} (h : Ctr (bare s d g 400 cm) rm D w c x hb false ls H n) :
    Calls Tryz.prog 19 #[.pointer (some ⟨d, 0, none⟩)] w fun e w' => e = .returned (.tuple #[]) ∧ Ctr (bare s d g 400 cm) rm D w' c x hb true ls H n ∧ Upon D w w' := by
  refine (live_off h.srt).mono ?_
  rintro e w' ⟨rfl, hl, ho, hd⟩
  have hu : Upon D w w' := Upon.of_only ho (fun k hk => .inl (by rw [List.mem_singleton.1 hk]; exact hd))
  exact ⟨rfl, ⟨h.blk.upon hu h.cD, hl, h.map.keep (hu.block hb h.map.lt h.hD), h.held, h.room, h.cD, h.hD, h.hc, h.rmle, fun g hg => Nat.lt_of_lt_of_le (h.lt g hg) hu.size⟩, hu⟩
/-- The document's sum. -/
theorem refSum_any (a b : Nat) (ha : a ≤ top64) (hb : b ≤ top64) (w : World) :
    Calls Tryz.prog 13 #[.int .u64 (a : Int), .int .u64 (b : Int)] w fun e w' => e = .returned (.int .u64 ((sat (a + b) : Nat) : Int)) ∧ w = w' := by
  unfold top64 at ha hb
  by_cases h : a + b ≤ 18446744073709551615
  · have hs : sat (a + b) = a + b := sat_of h
    have t1 : decide (18446744073709551615 - (b : Int) < (a : Int)) = false := by simp; omega
    have t2 : ¬ 18446744073709551615 - (b : Int) < (a : Int) := by omega
    rw [hs]
    clear hs
    go_enter Tryz.func13, Tryz.ntmps13
    go_wp2_with fail
    go_ret
    exact ⟨by push_cast; rfl, rfl⟩
  · have hs : sat (a + b) = 18446744073709551615 := by unfold sat top64; rw [if_neg (by omega)]
    have t1 : decide (18446744073709551615 - (b : Int) < (a : Int)) = true := by simp; omega
    have t2 : 18446744073709551615 - (b : Int) < (a : Int) := by omega
    rw [hs]
    clear hs h
    go_enter Tryz.func13, Tryz.ntmps13
    go_wp2_with fail
    go_ret
    exact ⟨rfl, rfl⟩
end Go.Proofs.YtndkohocgfmamaaGreat.Visit

/- palmerlaw27: VisitDown. -/
namespace Go.Proofs.YtndkohocgfmamaaGreat.Visit
open Go.RowKit Go.Deep Mem Crc Go.Proofs.YtndkohocgfmamaaGreat.Merge
open Go.Proofs.YtndkohocgfmamaaGreat.Store (Sto bare St none')

attribute [local go_sem] Oper.semAt_some
set_option maxHeartbeats 4000000 in
set_option maxRecDepth 100000 in
/-- Where one of the two counts nothing, or both are of one pair. -/
theorem down_out (sa va ca sb vb cb : Nat) (w : World) (h : ca = 0 ∨ cb = 0 ∨ (sa = sb ∧ va = vb)) :
    Calls Tryz.prog 5 #[.agg #[.int .u32 (sa : Int), .int .u32 (va : Int), .int .u64 (ca : Int)], .agg #[.int .u32 (sb : Int), .int .u32 (vb : Int), .int .u64 (cb : Int)]] w fun e w' => e = .returned (.bool true) ∧ Below w.heap.size w w' := by
  obtain ⟨W0, hW0⟩ : ∃ W0, W0 = (w.alloc (.cells #[.int .u32 (sa : Int), .int .u32 (va : Int), .int .u64 (ca : Int)] 37)).alloc (.cells #[.int .u32 (sb : Int), .int .u32 (vb : Int), .int .u64 (cb : Int)] 37) := ⟨_, rfl⟩
  have hB0 : Below w.heap.size w W0 := by rw [hW0]; exact ((Below.refl _ w).alloc (Nat.le_refl _) _).alloc (by simp) _
  have hba : Blk W0 w.heap.size 37 #[.int .u32 (sa : Int), .int .u32 (va : Int), .int .u64 (ca : Int)] := by rw [hW0]; exact (Blk.new w _ _).alloc _
  have hbb : Blk W0 (w.heap.size + 1) 37 #[.int .u32 (sb : Int), .int .u32 (vb : Int), .int .u64 (cb : Int)] := by
    have := Blk.new (w.alloc (.cells #[.int .u32 (sa : Int), .int .u32 (va : Int), .int .u64 (ca : Int)] 37)) 37 #[.int .u32 (sb : Int), .int .u32 (vb : Int), .int .u64 (cb : Int)]
    rw [World.size_alloc] at this
    rw [hW0]
    exact this
  have HAN := Lib.hid (all_nil' W0)
  have HW0 := Lib.hid hW0
  have HB0 := Lib.hid hB0
  have HBA := Lib.hid hba
  have HBB := Lib.hid hbb
  clear hW0 hB0 hba hbb
  obtain ⟨ab, hab⟩ : ∃ ab, ab = w.heap.size := ⟨_, rfl⟩
  have HAB := Lib.hid hab
  rw [← hab] at HBA HBB
  -- the tests
  have ht : ∃ t1 t2 t3 t4 : Bool, ((ca : Int) == 0) = t1 ∧ ((cb : Int) == 0) = t2 ∧ ((sa : Int) == (sb : Int)) = t3 ∧ ((va : Int) == (vb : Int)) = t4 ∧ (t1 || t2 || (t3 && t4)) = true := by
    refine ⟨_, _, _, _, rfl, rfl, rfl, rfl, ?_⟩
    rcases h with h | h | ⟨h1, h2⟩
    · simp [h]
    · simp [h]
    · simp [h1, h2]
  obtain ⟨t1, t2, t3, t4, e1, e2, e3, e4, ht⟩ := ht
  clear h hab
  have go : ∀ (ws : World), Below W0.heap.size W0 ws → Hid (Calls Tryz.prog 8 #[] ws fun e w' => e = .returned (.bool true) ∧ Below w.heap.size w w') := fun ws hB => Lib.hid ((awake_any ws).mono (fun e w' h => ⟨h.1, (HB0.out.trans (hB.mono HB0.out.size)).trans (h.2.mono (Nat.le_trans HB0.out.size hB.size))⟩))
  have GO := Lib.hid go
  clear go
  cases t1 <;> cases t2 <;> cases t3 <;> cases t4 <;> first | (cases ht; done) | skip
  all_goals (
    clear ht
    go_enter Tryz.func5, Tryz.ntmps5
    go_wp2_with fail
    rw [← HW0.out, ← HAB.out]
    refine HAN.out.mono ?_
    rintro e w1 ⟨rfl, hB1⟩
    have HAD := Lib.hid (add_nil' w1 (.int .u32 1) (.int .u32 2) (.int .u64 3))
    have HB1 := Lib.hid hB1
    clear hB1
    go_wp2_with fail
    refine HAD.out.mono ?_
    rintro e w2 ⟨rfl, hB2⟩
    have HB2 := Lib.hid (HB1.out.trans (hB2.mono HB1.out.size))
    have HFN := Lib.hid (flush_nil' w2)
    have HCN := Lib.hid (clear_nil' w2)
    have HPN := Lib.hid (compact_nil' w2)
    clear hB2 HAD
    go_wp2_with fail
    refine HFN.out.mono ?_
    rintro e w3 ⟨rfl, rfl⟩
    go_wp2_with fail
    refine HCN.out.mono ?_
    rintro e w3 ⟨rfl, rfl⟩
    go_wp2_with fail
    refine HPN.out.mono ?_
    rintro e w3 ⟨rfl, hB3⟩
    have HB3 := Lib.hid (HB2.out.trans (hB3.mono HB2.out.size))
    have HHN := Lib.hid (held_nil' w3)
    have HRN := Lib.hid (runs_nil' w3)
    have a3 := HBA.out.below HB3.out HBA.out.lt
    have b3 := HBB.out.below HB3.out HBB.out.lt
    have k0 := a3.cell 0
    have k1 := a3.cell 1
    have k2 := a3.cell 2
    have j0 := b3.cell 0
    have j1 := b3.cell 1
    have j2 := b3.cell 2
    simp at k0 k1 k2 j0 j1 j2
    have HAW := GO.out w3 HB3.out
    clear hB3 a3 b3 HFN HCN HPN
    go_wp2_with fail
    refine HHN.out.mono ?_
    rintro e w4 ⟨rfl, rfl⟩
    go_wp2_with fail
    refine HRN.out.mono ?_
    rintro e w4 ⟨rfl, rfl⟩
    go_wp2_with fail
    refine HAW.out.mono ?_
    rintro e w4 ⟨rfl, hB4⟩
    go_wp2_with fail
    go_ret
    exact ⟨rfl, hB4⟩)
end Go.Proofs.YtndkohocgfmamaaGreat.Visit

/- palmerlaw27: VisitDown, where the disk goes off. -/
namespace Go.Proofs.YtndkohocgfmamaaGreat.Visit
open Go.RowKit Go.Deep Mem Crc Go.Proofs.YtndkohocgfmamaaGreat.Merge
open Go.Proofs.YtndkohocgfmamaaGreat.Store (Sto bare St none')

attribute [local go_sem] Oper.semAt_some
set_option maxHeartbeats 8000000 in
set_option maxRecDepth 100000 in
theorem down_in (sa va ca sb vb cb : Nat) (w : World) (hsa : sa < 4294967296) (hva : va < 4294967296) (hca : ca ≤ top64) (hsb : sb < 4294967296) (hvb : vb < 4294967296) (hcb : cb ≤ top64) (ha0 : 0 < ca) (hb0 : 0 < cb) (hne : ¬ (sa = sb ∧ va = vb)) :
    Calls Tryz.prog 5 #[.agg #[.int .u32 (sa : Int), .int .u32 (va : Int), .int .u64 (ca : Int)], .agg #[.int .u32 (sb : Int), .int .u32 (vb : Int), .int .u64 (cb : Int)]] w fun e w' => e = .returned (.bool true) ∧ Below w.heap.size w w' := by
  obtain ⟨W0, hW0⟩ : ∃ W0, W0 = (w.alloc (.cells #[.int .u32 (sa : Int), .int .u32 (va : Int), .int .u64 (ca : Int)] 37)).alloc (.cells #[.int .u32 (sb : Int), .int .u32 (vb : Int), .int .u64 (cb : Int)] 37) := ⟨_, rfl⟩
  have hB0 : Below w.heap.size w W0 := by rw [hW0]; exact ((Below.refl _ w).alloc (Nat.le_refl _) _).alloc (by simp) _
  have hba : Blk W0 w.heap.size 37 #[.int .u32 (sa : Int), .int .u32 (va : Int), .int .u64 (ca : Int)] := by rw [hW0]; exact (Blk.new w _ _).alloc _
  have hbb : Blk W0 (w.heap.size + 1) 37 #[.int .u32 (sb : Int), .int .u32 (vb : Int), .int .u64 (cb : Int)] := by
    have := Blk.new (w.alloc (.cells #[.int .u32 (sa : Int), .int .u32 (va : Int), .int .u64 (ca : Int)] 37)) 37 #[.int .u32 (sb : Int), .int .u32 (vb : Int), .int .u64 (cb : Int)]
    rw [World.size_alloc] at this
    rw [hW0]
    exact this
  have HAN := Lib.hid (all_nil' W0)
  have HW0 := Lib.hid hW0
  have HB0 := Lib.hid hB0
  have HBA := Lib.hid hba
  have HBB := Lib.hid hbb
  clear hW0 hB0 hba hbb
  obtain ⟨ab, hab⟩ : ∃ ab, ab = w.heap.size := ⟨_, rfl⟩
  have HAB := Lib.hid hab
  rw [← hab] at HBA HBB
  have e1 : ((ca : Int) == 0) = false := by simp; omega
  have e2 : ((cb : Int) == 0) = false := by simp; omega
  have hok_a : okP (sa * 4294967296 + va, ca) := ⟨by unfold top64; show sa * 4294967296 + va ≤ _; omega, ha0, hca⟩
  have hok_b : okP (sb * 4294967296 + vb, cb) := ⟨by unfold top64; show sb * 4294967296 + vb ≤ _; omega, hb0, hcb⟩
  obtain ⟨ka, hka⟩ : ∃ ka, ka = sa * 4294967296 + va := ⟨_, rfl⟩
  obtain ⟨kb, hkb⟩ : ∃ kb, kb = sb * 4294967296 + vb := ⟨_, rfl⟩
  rw [← hka] at hok_a
  rw [← hkb] at hok_b
  have hkne : kb ≠ ka := by omega
  have HA1 := Lib.hid (show sa = ka / 4294967296 by omega)
  have HA2 := Lib.hid (show va = ka % 4294967296 by omega)
  have HB1' := Lib.hid (show sb = kb / 4294967296 by omega)
  have HB2' := Lib.hid (show vb = kb % 4294967296 by omega)
  have HKA := Lib.hid hka
  have HOKA := Lib.hid hok_a
  have HOKB := Lib.hid hok_b
  have HKNE := Lib.hid hkne
  have HCA := Lib.hid hca
  -- the memory behind the first Add, and behind the second
  have hH1 : putH [] (ka, ca) = [(ka, ca)] := by
    unfold putH
    rw [tot_nil, sat_of (by omega)]
    simp
  have hH2 : putH [(ka, ca)] (ka, ca) = [(ka, sat (ca + ca))] := by
    unfold putH
    rw [tot_cons, tot_nil, if_pos rfl]
    simp
  have HH1 := Lib.hid hH1
  have HH2 := Lib.hid hH2
  have ht : ∃ t3 t4 : Bool, ((sa : Int) == (sb : Int)) = t3 ∧ ((va : Int) == (vb : Int)) = t4 ∧ (t3 && t4) = false := by
    refine ⟨_, _, rfl, rfl, ?_⟩
    by_cases h1 : sa = sb
    · have h2 : va ≠ vb := fun h2 => hne ⟨h1, h2⟩
      have : ((va : Int) == (vb : Int)) = false := by simpa using fun e : (va : Int) = vb => h2 (by omega)
      rw [this]; simp
    · have : ((sa : Int) == (sb : Int)) = false := by simpa using fun e : (sa : Int) = sb => h1 (by omega)
      rw [this]; simp
  obtain ⟨t3, t4, e3, e4, ht⟩ := ht
  clear hsa hva hca hsb hvb hcb ha0 hb0 hne hok_a hok_b hka hkb hkne hH1 hH2 hab
  cases t3 <;> cases t4 <;> first | (cases ht; done) | skip
  all_goals (
    clear ht
    go_enter Tryz.func5, Tryz.ntmps5
    go_wp2_with fail
    rw [← HW0.out, ← HAB.out]
    refine HAN.out.mono ?_
    rintro e w1 ⟨rfl, hB1⟩
    have HAD := Lib.hid (add_nil' w1 (.int .u32 1) (.int .u32 2) (.int .u64 3))
    have HB1 := Lib.hid hB1
    clear hB1
    go_wp2_with fail
    refine HAD.out.mono ?_
    rintro e w2 ⟨rfl, hB2⟩
    have HB2 := Lib.hid (HB1.out.trans (hB2.mono HB1.out.size))
    have HFN := Lib.hid (flush_nil' w2)
    have HCN := Lib.hid (clear_nil' w2)
    have HPN := Lib.hid (compact_nil' w2)
    clear hB2 HAD
    go_wp2_with fail
    refine HFN.out.mono ?_
    rintro e w3 ⟨rfl, rfl⟩
    go_wp2_with fail
    refine HCN.out.mono ?_
    rintro e w3 ⟨rfl, rfl⟩
    go_wp2_with fail
    refine HPN.out.mono ?_
    rintro e w3 ⟨rfl, hB3⟩
    have HB3 := Lib.hid (HB2.out.trans (hB3.mono HB2.out.size))
    have HHN := Lib.hid (held_nil' w3)
    have HRN := Lib.hid (runs_nil' w3)
    have a3 := HBA.out.below HB3.out HBA.out.lt
    have b3 := HBB.out.below HB3.out HBB.out.lt
    have k0 := a3.cell 0
    have k1 := a3.cell 1
    have k2 := a3.cell 2
    have j0 := b3.cell 0
    have j1 := b3.cell 1
    have j2 := b3.cell 2
    simp at k0 k1 k2 j0 j1 j2
    have HABL := Lib.hid (And.intro a3.lt b3.lt)
    have HAB3 := Lib.hid a3
    clear hB3 a3 b3 HFN HCN HPN
    go_wp2_with fail
    refine HHN.out.mono ?_
    rintro e w4 ⟨rfl, rfl⟩
    go_wp2_with fail
    refine HRN.out.mono ?_
    rintro e w4 ⟨rfl, rfl⟩
    have HBG := Lib.hid (begin_any w3)
    go_wp2_with fail
    refine HBG.out.mono ?_
    rintro e w5 ⟨d, s, g, cm, Q, rfl, hst, hQ, hB5⟩
    have HNEW := Lib.hid (new_any' hst w3.heap.size hQ hB5.size 1 (by omega) (by omega))
    have HB5 := Lib.hid hB5
    clear hst hQ hB5 HBG
    go_wp2_with fail
    refine HNEW.out.mono ?_
    rintro e w6 ⟨c, x, hb, D, rfl, hc6, hD6, hB6⟩
    have hB36 : Below w3.heap.size w3 w6 := HB5.out.trans (hB6.mono HB5.out.size)
    have HADA := Lib.hid (add_new hc6 (ka, ca) HOKA.out sa va HA1.out HA2.out rfl (by decide))
    have k0 := (hB36.cell (p := ⟨ab, 0, none⟩) HABL.out.1).trans k0
    have k1 := (hB36.cell (p := ⟨ab, 1, none⟩) HABL.out.1).trans k1
    have k2 := (hB36.cell (p := ⟨ab, 2, none⟩) HABL.out.1).trans k2
    have HDB := Lib.hid hD6
    have HB6 := Lib.hid hB36
    clear hc6 hD6 hB6 hB36 HNEW
    go_wp2_with fail
    refine HADA.out.mono ?_
    rintro e w7 ⟨rfl, hc7, hu7⟩
    rw [HH1.out] at hc7
    have HF7 := Lib.hid (HB6.out.trans (hu7.below HB6.out.size (fun g hg => HDB.out g (.inr (.inr hg)))))
    have HOFF := Lib.hid (ctr_off hc7)
    clear hc7 hu7 HADA
    go_wp2_with fail
    refine HOFF.out.mono ?_
    rintro e w8 ⟨rfl, hc8, hu8⟩
    have HF8 := Lib.hid (HF7.out.trans (hu8.below HF7.out.size (fun g hg => HDB.out g (.inl hg))))
    have HADB := Lib.hid (add_down hc8 (kb, cb) HOKB.out sb vb HB1'.out HB2'.out (by rw [tot_cons, tot_nil, if_neg (fun e => HKNE.out e.symm)]) rfl (by omega) (by simp))
    have j0 := (HF8.out.cell (p := ⟨ab + 1, 0, none⟩) HABL.out.2).trans j0
    have j1 := (HF8.out.cell (p := ⟨ab + 1, 1, none⟩) HABL.out.2).trans j1
    have j2 := (HF8.out.cell (p := ⟨ab + 1, 2, none⟩) HABL.out.2).trans j2
    clear hc8 hu8 HOFF k0 k1 k2
    go_wp2_with fail
    refine HADB.out.mono ?_
    rintro e w9 ⟨rfl, D9, hb9⟩
    have HF9 := Lib.hid (HF8.out.trans (hb9.upon.below HF8.out.size (fun g hg => HDB.out g (.inl hg))))
    have HD9 := Lib.hid (show ∀ g, D9 g → w3.heap.size ≤ g from fun g hg => (hb9.dom g hg).elim (fun h => HDB.out g (.inl h)) (fun h => Nat.le_trans HF8.out.size h))
    have HFLD := Lib.hid (flush_down hb9.ctr (by simp) (by simp))
    clear hb9 HADB j0 j1 j2
    go_wp2_with fail
    refine HFLD.out.mono ?_
    rintro e w10 ⟨rfl, D10, hb10⟩
    have HF10 := Lib.hid (HF9.out.trans (hb10.upon.below HF9.out.size (fun g hg => HD9.out g hg)))
    have HD10 := Lib.hid (show ∀ g, D10 g → w3.heap.size ≤ g from fun g hg => (hb10.dom g hg).elim (fun h => HD9.out g h) (fun h => Nat.le_trans HF9.out.size h))
    have HADC := Lib.hid (add_there hb10.ctr (ka, ca) HOKA.out sa va HA1.out HA2.out (by rw [tot_cons, tot_nil, if_pos rfl]; have := HOKA.out.2.1; omega))
    have a10 := HAB3.out.below HF10.out HABL.out.1
    have k0 := a10.cell 0
    have k1 := a10.cell 1
    have k2 := a10.cell 2
    simp at k0 k1 k2
    clear hb10 HFLD a10
    go_wp2_with fail
    refine HADC.out.mono ?_
    rintro e w11 ⟨rfl, hc11, hu11⟩
    rw [HH2.out] at hc11
    have HF11 := Lib.hid (HF10.out.trans (hu11.below HF10.out.size (fun g hg => HDB.out g (.inr (.inr hg)))))
    have HHE := Lib.hid (held_any hc11)
    have HALL := Lib.hid (all_any hc11 (fun l hl => by cases hl) (by simp) (.inr rfl) (by simp))
    clear hc11 hu11 HADC k0 k1 k2
    go_wp2_with fail
    refine HHE.out.mono ?_
    rintro e w12 ⟨rfl, rfl⟩
    go_wp2_with fail
    refine HALL.out.mono ?_
    rintro e w12 ⟨D12, K, v, rfl, ha⟩
    have hK : K = [(ka, sat (ca + ca))] := by
      have := ha.perm
      rw [List.flatten_nil, List.append_nil] at this
      exact List.perm_singleton.1 this
    subst hK
    have hmg : merged [(ka, sat (ca + ca))] = [(ka, sat (ca + ca))] := rfl
    have hrow := ha.row
    rw [hmg] at hrow
    have HF12 := Lib.hid (HF11.out.trans (ha.upon.below HF11.out.size (fun g hg => HD10.out g hg)))
    obtain ⟨ra, rc, rfl, _, hLv, hrb, _⟩ := own_shape hrow
    obtain ⟨g5, off, rfl, q0, q1, q2, hg5⟩ := vis_flat hLv (show ([(ka, sat (ca + ca))] : List KC)[0]? = some (ka, sat (ca + ca)) from rfl)
    dsimp only at q0 q1 q2
    rw [← HA1.out] at q0
    rw [← HA2.out] at q1
    simp only [Nat.zero_mul, Nat.add_zero] at q0 q1 q2
    obtain ⟨S2, hS2⟩ : ∃ S2, S2 = sat (ca + ca) := ⟨_, rfl⟩
    rw [← hS2] at q2
    have HSUM := Lib.hid (fun w => refSum_any ca ca HCA.out HCA.out w)
    rw [← hS2] at HSUM
    have HAWK := Lib.hid (fun w => awake_any w)
    have a12 := HAB3.out.below HF12.out HABL.out.1
    have k0 := a12.cell 0
    have k1 := a12.cell 1
    have k2 := a12.cell 2
    simp at k0 k1 k2
    clear ha hrow hLv hrb hg5 hmg hS2 HALL a12
    have HSUM2 := Lib.hid (fun w => (HSUM.out w).mono (R' := fun e w' => e = .returned (.int .u64 (S2 : Int)) ∧ w' = w) (fun _ _ h => ⟨h.1, h.2.symm⟩))
    go_wp2_with fail
    refine wp_region_still_tail 24 (by kernel_rfl) (by kernel_rfl) ?_
    simp only [List.take_succ_cons, List.take_zero, List.drop_succ_cons, List.drop_zero]
    repeat still_step
    still_call (HSUM2.out _)
    repeat still_step
    refine wpStill_nil ?_
    change wpList _ _ _ _ _ w12.drew
    clear k0 k1 k2 q0 q1 q2
    go_wp2_with fail
    refine (HAWK.out _).mono ?_
    rintro e w13 ⟨rfl, hB13⟩
    have HE := Lib.hid ((HB0.out.trans (HB3.out.mono HB0.out.size)).trans ((HF12.out.trans (((Below.refl _ w12).drew.trans hB13).mono HF12.out.size)).mono (Nat.le_trans HB0.out.size HB3.out.size)))
    clear hB13
    go_wp2_with fail
    go_ret
    exact ⟨rfl, HE.out⟩)
set_option maxRecDepth 100000 in
/-- A visit that came in. -/
theorem visit_open {H : Type} {enc : TypeId × Value → H} {base : Nat} {v : Value} {d : DataW H} {p : List MemPlace} {W : World} (q : Value.okWide Tryz.prog W .any base 37 v) (h : DataW.Trod enc Tryz.prog W 0 (fun _ => true) true 37 v d p) :
    ∃ s v' c : Nat, v = .agg #[.int .u32 (s : Int), .int .u32 (v' : Int), .int .u64 (c : Int)] ∧ s < 4294967296 ∧ v' < 4294967296 ∧ c ≤ top64 := by
  obtain ⟨c0, c1, c2, y0, y1, y2, n, rfl, _, _, g0, g1, g2⟩ := Joins.open_agg3 Tryz.underlying37 (by kernel_rfl) (show Tryz.prog.cellsOf 37 = 3 by kernel_rfl) q h
  obtain ⟨k0, h0, _, w0⟩ := DataW.trod_int Tryz.underlying34 g0
  obtain ⟨k1, h1, _, w1⟩ := DataW.trod_int Tryz.underlying34 g1
  obtain ⟨k2, h2, _, w2⟩ := DataW.trod_int Tryz.underlying35 g2
  have b0 := Go.bounds_u32 w0
  have b1 := Go.bounds_u32 w1
  have b2 := Go.bounds_u64 w2
  refine ⟨k0.toNat, k1.toNat, k2.toNat, ?_, by omega, by omega, by unfold top64; omega⟩
  rw [Int.toNat_of_nonneg b0.1, Int.toNat_of_nonneg b1.1, Int.toNat_of_nonneg b2.1, show c0 = .int .u32 k0 by simpa using h0, show c1 = .int .u32 k1 by simpa using h1, show c2 = .int .u64 k2 by simpa using h2]
set_option maxRecDepth 100000 in
theorem visitDown_law {H : Type} {enc : TypeId × Value → H} {base : Nat} (v0 v1 : Value) (d0 d1 : DataW H) (p0 p1 : List MemPlace) (W : World)
    (q0 : Value.okWide Tryz.prog W .any base 37 v0) (h0 : DataW.Trod enc Tryz.prog W 0 (fun _ => true) true 37 v0 d0 p0)
    (q1 : Value.okWide Tryz.prog W .any base 37 v1) (h1 : DataW.Trod enc Tryz.prog W 0 (fun _ => true) true 37 v1 d1 p1) :
    Calls Tryz.prog 5 #[v0, v1] W fun e w' => e = .returned (.bool true) ∧ Below W.heap.size W w' := by
  obtain ⟨sa, va, ca, rfl, a1, a2, a3⟩ := visit_open q0 h0
  obtain ⟨sb, vb, cb, rfl, b1, b2, b3⟩ := visit_open q1 h1
  by_cases h : ca = 0 ∨ cb = 0 ∨ (sa = sb ∧ va = vb)
  · exact down_out sa va ca sb vb cb W h
  · exact down_in sa va ca sb vb cb W a1 a2 a3 b1 b2 b3 (by omega) (by omega) (fun hh => h (.inr (.inr hh)))
end Go.Proofs.YtndkohocgfmamaaGreat.Visit
