/- VisitOff, VisitCountsW, VisitCountsL, VisitCountsF, in one text. -/
import Derived.Test.YtndkohocgfmamaaGreatG5
import Derived.Deep.RegionHeld3
import Derived.Outline
import Derived.BigQuiet
import Derived.Deep.QuietTactic
/- A counter whose disk goes off. -/
namespace Go.Proofs.YtndkohocgfmamaaGreat.Visit
open Go.RowKit Go.Deep Mem Crc Go.Proofs.YtndkohocgfmamaaGreat.Merge
open Go.Proofs.YtndkohocgfmamaaGreat.Runs (LiveIn InAt fiV)
open Go.Proofs.YtndkohocgfmamaaGreat.Store (Sto bare Bare St none' Chg chgV isChg)
open Go.Proofs.YtndkohocgfmamaaGreat.Disk (Blank)

attribute [local go_sem] Oper.semAt_some
/-- A change's bytes stay while the disk's own block turns. -/
theorem chg_off {w w' : World} {Q : Nat → Prop} {c : Option (List UInt8)} {v : Value} {d g N : Nat} (h : chgV w Q c v) (hd : Blank w d g N false) (ho : Only [d] w w') : chgV w' Q c v := by
  cases c with
  | none => exact h
  | some b =>
    obtain ⟨a, cp, e, h1, h2, h3⟩ := h
    refine ⟨a, cp, e, h1, ?_, h3⟩
    rcases h2 with h2 | ⟨q, off, rfl, hq, hc⟩
    · exact .inl h2
    · by_cases hb : b = []
      · subst hb
        exact .inl rfl
      · obtain ⟨x, t, rfl⟩ : ∃ x t, b = x :: t := by
          rcases b with _ | ⟨x, t⟩
          · exact absurd rfl hb
          · exact ⟨x, t, rfl⟩
        have h0 := hc 0 (bv x) (by simp)
        have hqd : q ≠ d := fun e => by
          rw [e, hd.disk.cell] at h0
          rcases off with _ | _ | _ | _ | off <;> simp [bv] at h0
        exact Lies.keep (.inr ⟨q, off, rfl, hq, hc⟩) ho.size (fun g hg => by
          cases hg
          exact ho.block q hq (by simpa using hqd))
theorem bare_offF {w w' : World} {Q : Nat → Prop} {s d g N cm n : Nat} {F : Go.Proofs.YtndkohocgfmamaaGreat.Store.Files} (h : (bare s d g N cm).At w Q false F n) (hb : Blank w' d g N true) (ho : Only [d] w w') : (bare s d g N cm).At w' Q true F n := by
  obtain ⟨⟨C, L, hs, hF, r⟩, h2, h3⟩ := h
  refine ⟨⟨C, L, ?_, hF, r⟩, h2, h3⟩
  obtain ⟨f, h4, h5, h6⟩ := hs.map
  have hds : s ≠ d := hs.store.ne hs.disk.disk (by decide)
  have hdm : cm ≠ d := fun e => by
    obtain ⟨D, n, ⟨es, cl, hb, _⟩, _⟩ := h4
    have hd := hs.disk.disk
    unfold Blk at hd
    rw [← e, hb] at hd
    cases hd
  refine ⟨hs.store.only ho (by simpa using hds), hb, ⟨f, h4.keep (ho.block _ h4.lt (by simpa using hdm)), h5, fun nm => ?_⟩, hs.qs, hs.qd, hs.qg, hs.qm, fun k hq => Nat.lt_of_lt_of_le (hs.lt k hq) ho.size⟩
  have hx := h6 nm
  unfold Go.Proofs.YtndkohocgfmamaaGreat.Store.isChg at hx ⊢
  cases hc : C nm with
  | none => rw [hc] at hx; exact hx
  | some c =>
    rw [hc] at hx
    obtain ⟨v, h7, h8⟩ := hx
    exact ⟨v, h7, chg_off h8 hs.disk ho⟩
theorem live_off {s d g cm : Nat} {A : Go.Proofs.YtndkohocgfmamaaGreat.Runs.Fi} {D : Nat → Prop} {w : World} {x : Nat} {ls : List (List B)} {held : List B} {n : Nat} (h : LiveIn (bare s d g 400 cm) A D w x false ls held n) :
    Calls Tryz.prog 19 #[.pointer (some ⟨d, 0, none⟩)] w fun e w' => e = .returned (.tuple #[]) ∧ LiveIn (bare s d g 400 cm) A D w' x true ls held n ∧ Only [d] w w' ∧ D d := by
  obtain ⟨m, Q, R, F, hv, vs, hm, h⟩ := h
  have hqd : Q d := by
    obtain ⟨C, L, hs, _⟩ := h.srt.sto.at_
    exact hs.qd
  have hdk : Blank w d g 400 false := by
    obtain ⟨C, L, hs, _⟩ := h.srt.sto.at_
    exact hs.disk
  refine (Go.Proofs.YtndkohocgfmamaaGreat.Disk.off_any hdk).mono ?_
  rintro e w' ⟨rfl, hb, ho⟩
  have hu : Upon (fun k => k = d) w w' := Upon.of_only ho (fun k hk => .inl (List.mem_singleton.1 hk))
  have hs := h.srt
  refine ⟨rfl, ⟨m, Q, R, F, hv, vs, hm, ⟨hs.sIs, hs.blk.upon hu (fun e => hs.xq (by rw [e]; exact hqd)), bare_offF hs.sto hb ho, hs.mem.keep hu (fun k hk e => (hs.rq k hk).1 (by rw [e]; exact hqd)) (fun k hk e => (hs.hq k hk).1 (by rw [e]; exact hqd)), hs.rq, hs.hq, hs.xq, hs.ok, hs.room, hs.few⟩, h.files, h.q, h.r, h.x, h.h⟩, ho, h.q d hqd⟩
/-- The counter's disk goes off. -/
theorem ctr_off {s d g cm rm : Nat} {D : Nat → Prop} {w : World} {c x hb : Nat} {ls : List (List KC)} {H : List KC} {n : Nat} (h : Ctr (bare s d g 400 cm) rm D w c x hb false ls H n) :
    Calls Tryz.prog 19 #[.pointer (some ⟨d, 0, none⟩)] w fun e w' => e = .returned (.tuple #[]) ∧ Ctr (bare s d g 400 cm) rm D w' c x hb true ls H n ∧ Upon D w w' := by
  refine (live_off h.srt).mono ?_
  rintro e w' ⟨rfl, hl, ho, hd⟩
  have hu : Upon D w w' := Upon.of_only ho (fun k hk => .inl (by rw [List.mem_singleton.1 hk]; exact hd))
  exact ⟨rfl, ⟨h.blk.upon hu h.cD, hl, h.map.keep (hu.block hb h.map.lt h.hD), h.held, h.room, h.cD, h.hD, h.hc, h.rmle, fun g hg => Nat.lt_of_lt_of_le (h.lt g hg) hu.size⟩, hu⟩
/-- The document's sum. -/
theorem refSum_any (a b : Nat) (ha : a ≤ top64) (hb : b ≤ top64) (w : World) :
    Calls Tryz.prog 13 #[.int .u64 (a : Int), .int .u64 (b : Int)] w fun e w' => e = .returned (.int .u64 ((sat (a + b) : Nat) : Int)) ∧ w = w' := by
  unfold top64 at ha hb
  by_cases h : a + b ≤ 18446744073709551615
  · have hs : sat (a + b) = a + b := sat_of h
    have t1 : decide (18446744073709551615 - (b : Int) < (a : Int)) = false := by simp; omega
    have t2 : ¬ 18446744073709551615 - (b : Int) < (a : Int) := by omega
    rw [hs]
    clear hs
    go_enter Tryz.func13, Tryz.ntmps13
    go_wp2_with fail
    go_ret
    exact ⟨by push_cast; rfl, rfl⟩
  · have hs : sat (a + b) = 18446744073709551615 := by unfold sat top64; rw [if_neg (by omega)]
    have t1 : decide (18446744073709551615 - (b : Int) < (a : Int)) = true := by simp; omega
    have t2 : 18446744073709551615 - (b : Int) < (a : Int) := by omega
    rw [hs]
    clear hs h
    go_enter Tryz.func13, Tryz.ntmps13
    go_wp2_with fail
    go_ret
    exact ⟨rfl, rfl⟩
end Go.Proofs.YtndkohocgfmamaaGreat.Visit

/- palmerlaw27: VisitCounts. -/
namespace Go.Proofs.YtndkohocgfmamaaGreat.Visit
open Go.RowKit Go.Deep Mem Crc Go.Proofs.YtndkohocgfmamaaGreat.Merge
open Go.Proofs.YtndkohocgfmamaaGreat.Store (Sto bare St none')

attribute [local go_sem] Oper.semAt_some
theorem Cn.more {s : Nat} {S : Sto s} {rm B0 : Nat} {w : World} {c : Nat} {V : List KC} {n n' : Nat} (h : Cn S rm B0 w c V n) (hn : n ≤ n') : Cn S rm B0 w c V n' := by
  obtain ⟨D, x, hb, ls, H, m, h1, h2, h3, h4, h5, h6⟩ := h
  exact ⟨D, x, hb, ls, H, m, h1, h2, h3, by omega, by omega, by omega⟩
set_option maxHeartbeats 2000000 in
set_option maxRecDepth 100000 in
/-- Where there are too many, or no such counter. -/
theorem counts_out (r : Int) (a fa : Option Addr) (cp fc n m : Nat) (w : World) (h : 100 < n ∨ r < 1 ∨ 4096 < r) : Calls Tryz.prog 3 #[.int .i64 r, .slice a n cp, .slice fa m fc] w fun e w' => e = .returned (.bool true) ∧ Below w.heap.size w w' := by
  have HBG := Lib.hid (begin_any w)
  by_cases hr : r < 1 ∨ 4096 < r
  · have HNO := Lib.hid (fun s w => new_no s w r hr)
    by_cases h1 : 100 < n
    all_goals (
      first
        | (have t3 : decide ((100 : Int) < (n : Int)) = true := by simp; omega
           have t4 : decide (100 < n) = true := by simp; omega
           clear h h1 hr
           go_enter Tryz.func3, Tryz.ntmps3
           go_wp2_with fail
           refine HBG.out.mono ?_
           rintro e w1 ⟨d, s, g, cm, Q, rfl, hst, hQ, hB1⟩
           have HB1 := Lib.hid hB1
           clear hst hQ hB1
           go_wp2_with fail
           refine (HNO.out _ _).mono ?_
           rintro e w2 ⟨rfl, hB2⟩
           have HA := Lib.hid (awake_any w2)
           have HB2 := Lib.hid (HB1.out.trans (hB2.mono HB1.out.size))
           clear hB2
           go_wp2_with fail
           refine HA.out.mono ?_
           rintro e w3 ⟨rfl, hB3⟩
           have HB3 := Lib.hid (HB2.out.trans (hB3.mono HB2.out.size))
           clear hB3
           go_wp2_with fail
           go_ret
           exact ⟨rfl, HB3.out⟩)
        | (have t3 : decide ((100 : Int) < (n : Int)) = false := by simp; omega
           have t4 : decide (100 < n) = false := by simp; omega
           clear h h1 hr
           go_enter Tryz.func3, Tryz.ntmps3
           go_wp2_with fail
           refine HBG.out.mono ?_
           rintro e w1 ⟨d, s, g, cm, Q, rfl, hst, hQ, hB1⟩
           have HB1 := Lib.hid hB1
           clear hst hQ hB1
           go_wp2_with fail
           refine (HNO.out _ _).mono ?_
           rintro e w2 ⟨rfl, hB2⟩
           have HA := Lib.hid (awake_any w2)
           have HB2 := Lib.hid (HB1.out.trans (hB2.mono HB1.out.size))
           clear hB2
           go_wp2_with fail
           refine HA.out.mono ?_
           rintro e w3 ⟨rfl, hB3⟩
           have HB3 := Lib.hid (HB2.out.trans (hB3.mono HB2.out.size))
           clear hB3
           go_wp2_with fail
           go_ret
           exact ⟨rfl, HB3.out⟩))
  · obtain ⟨rm, hrm⟩ : ∃ rm : Nat, r = rm := ⟨r.toNat, by omega⟩
    subst hrm
    have t3 : decide ((100 : Int) < (n : Int)) = true := by simp; omega
    have t4 : decide (100 < n) = true := by simp; omega
    have hr1 : 1 ≤ rm := by omega
    have hr2 : rm ≤ 4096 := by omega
    clear h hr
    go_enter Tryz.func3, Tryz.ntmps3
    go_wp2_with fail
    refine HBG.out.mono ?_
    rintro e w1 ⟨d, s, g, cm, Q, rfl, hst, hQ, hB1⟩
    have HNEW := Lib.hid (cn_new hst w.heap.size hQ hB1.size rm hr1 hr2)
    have HB1 := Lib.hid hB1
    clear hst hQ hB1
    go_wp2_with fail
    refine HNEW.out.mono ?_
    rintro e w2 ⟨c, rfl, _, hB2⟩
    have HA := Lib.hid (awake_any w2)
    have HB2 := Lib.hid (HB1.out.trans (hB2.mono HB1.out.size))
    clear hB2
    go_wp2_with fail
    refine HA.out.mono ?_
    rintro e w3 ⟨rfl, hB3⟩
    have HB3 := Lib.hid (HB2.out.trans (hB3.mono HB2.out.size))
    clear hB3
    go_wp2_with fail
    go_ret
    exact ⟨rfl, HB3.out⟩
end Go.Proofs.YtndkohocgfmamaaGreat.Visit

/- palmerlaw27: VisitCounts, where the counter is there. -/
namespace Go.Proofs.YtndkohocgfmamaaGreat.Visit
open Go.RowKit Go.Deep Mem Crc Go.Proofs.YtndkohocgfmamaaGreat.Merge
open Go.Proofs.YtndkohocgfmamaaGreat.Store (Sto bare St none')

attribute [local go_sem] Oper.semAt_some
/-- Bools as values. -/
def boolV (b : Bool) : Value := .bool b
theorem below_drewN {B : Nat} {a w : World} (h : Below B a w) (n : Nat) : Below B a (w.drewN n) := ⟨h.os, h.tape, h.output, h.size, h.block⟩
theorem in_step {L : List KC} {t : Nat} {r v : KC} (h : L[t]? = some r) : decide (v ∈ L.take (t + 1)) = (decide (v ∈ L.take t) || decide (v = r)) := by
  rw [List.take_add_one, h, Bool.eq_iff_iff]
  simp
set_option maxHeartbeats 16000000 in
set_option maxRecDepth 200000 in
theorem counts_in (rm : Nat) (a fa : Option Addr) (cp fc : Nat) (l : List KC) (fl : List Bool) (w : World) (hL : Lies w a (l.flatMap visC)) (hF : Lies w fa (fl.map boolV)) (hok : ∀ p ∈ l, p.1 ≤ top64 ∧ p.2 ≤ top64) (hn : l.length ≤ 100) (hr1 : 1 ≤ rm) (hr2 : rm ≤ 4096) :
    Calls Tryz.prog 3 #[.int .i64 (rm : Int), .slice a l.length cp, .slice fa fl.length fc] w fun e w' => e = .returned (.bool true) ∧ Below w.heap.size w w' := by
  have HBG := Lib.hid (begin_any w)
  obtain ⟨n, hln⟩ : ∃ n, n = l.length := ⟨_, rfl⟩
  obtain ⟨m, hlm⟩ : ∃ m, m = fl.length := ⟨_, rfl⟩
  rw [← hln] at hn ⊢
  rw [← hlm]
  have t3 : decide ((100 : Int) < (n : Int)) = false := by simp; omega
  have t4 : decide (100 < n) = false := by simp; omega
  have HL := Lib.hid hL
  have HF := Lib.hid hF
  have HOK := Lib.hid hok
  have HLN := Lib.hid hln
  have HLM := Lib.hid hlm
  clear hL hF hok hln hlm
  go_enter Tryz.func3, Tryz.ntmps3
  go_wp2_with fail
  refine HBG.out.mono ?_
  rintro e w1 ⟨d, s, g, cm, Q, rfl, hst, hQ, hB1⟩
  have HNEW := Lib.hid (cn_new hst w.heap.size hQ hB1.size rm hr1 hr2)
  have HB1 := Lib.hid hB1
  clear hst hQ hB1 HBG
  go_wp2_with fail
  refine HNEW.out.mono ?_
  rintro e w2 ⟨c, rfl, hc2, hB2⟩
  have HC2 := Lib.hid hc2
  have HB2 := Lib.hid (HB1.out.trans (hB2.mono HB1.out.size))
  clear hc2 hB2 HNEW
  go_wp2_with fail
  clear t3 t4
  go_loopw [12] (fun i wr => ∃ k : Nat, k ≤ n ∧ i = .int .i64 k ∧ Hid (Cn (bare s d g 400 cm) rm w.heap.size wr c (l.take k) (2 * k)) ∧ Hid (Below w.heap.size w wr)) (fun i _ => n - (intOf i).toNat)
  case atStart => exact ⟨0, Nat.zero_le _, rfl, HC2, HB2⟩
  case round =>
    obtain ⟨k, hk, rfl, hC, hB⟩ := hrel
    by_cases hlt : k < n
    · obtain ⟨p, hp⟩ : ∃ p, l[k]? = some p := ⟨l[k]'(by rw [← HLN.out]; exact hlt), List.getElem?_eq_getElem _⟩
      have hpm := List.mem_of_getElem? hp
      obtain ⟨hp1, hp2⟩ := HOK.out p hpm
      obtain ⟨ga, off, rfl, c0, c1, c2, _⟩ := vis_flat (HL.out.later hB.out) hp
      have hgw : ga < w.heap.size := by
        obtain ⟨g', off', e, _, _, _, h⟩ := vis_flat HL.out hp
        cases e
        exact h
      obtain ⟨x, hx⟩ : ∃ x, x = p.1 / 4294967296 := ⟨_, rfl⟩
      obtain ⟨y, hy⟩ : ∃ y, y = p.1 % 4294967296 := ⟨_, rfl⟩
      obtain ⟨z, hz⟩ : ∃ z, z = p.2 := ⟨_, rfl⟩
      rw [← hx] at c0
      rw [← hy] at c1
      rw [← hz] at c2
      have htk : l.take (k + 1) = l.take k ++ [p] := by rw [List.take_add_one, hp]; rfl
      have hBd : Below w.heap.size w wr.drew := hB.out.drew
      have hadd := cn_add (hC.out.later (Below.refl _ wr).drew) hBd.size (by omega) p hp1 hp2 x y hx hy
      rw [← hz, ← htk] at hadd
      have HADD := Lib.hid hadd
      have hk0 : wr.drew.cell? ⟨ga, off + k * 3, none⟩ = some (.int .u32 (x : Int)) ∧ wr.drew.cell? ⟨ga, off + k * 3 + 1, none⟩ = some (.int .u32 (y : Int)) ∧ wr.drew.cell? ⟨ga, off + k * 3 + 2, none⟩ = some (.int .u64 (z : Int)) := ⟨c0, c1, c2⟩
      have HBD := Lib.hid hBd
      have HGW := Lib.hid hgw
      clear hx hy hz htk hpm hp hp1 hp2 hadd hBd hgw
      go_wp2_with fail
      go_region_held3 (fun w' => w'.cell? ⟨ga, off + k * 3, none⟩ = some (.int .u32 (x : Int)) ∧ w'.cell? ⟨ga, off + k * 3 + 1, none⟩ = some (.int .u32 (y : Int)) ∧ w'.cell? ⟨ga, off + k * 3 + 2, none⟩ = some (.int .u64 (z : Int))) (first | exact hk0 | exact hk3) ((first | (go_at_call 9; refine HADD.out.mono ?_; rintro e w3 ⟨rfl, hc3, hB3⟩; have hk3 := And.intro ((hB3.cell (p := ⟨ga, off + k * 3, none⟩) HGW.out).trans hk0.1) (And.intro ((hB3.cell (p := ⟨ga, off + k * 3 + 1, none⟩) HGW.out).trans hk0.2.1) ((hB3.cell (p := ⟨ga, off + k * 3 + 2, none⟩) HGW.out).trans hk0.2.2)); have HC3 := Lib.hid hc3; have HB3 := Lib.hid (HBD.out.trans hB3); clear hc3 hB3; dsimp only) | (go_at_call 10; refine (cn_held HC3.out).mono ?_; rintro e w4 ⟨⟨N, hN, rfl⟩, rfl⟩; have hNd : decide ((rm : Int) < (N : Int)) = false := decide_eq_false (by omega); have hNd2 : decide (rm < N) = false := decide_eq_false (by omega); dsimp only)))
      clear hk0 hk3 c0 c1 c2 hNd hNd2 hN
      by_cases hkm : k < m
      · obtain ⟨b, hb⟩ : ∃ b, fl[k]? = some b := ⟨fl[k]'(by rw [← HLM.out]; exact hkm), List.getElem?_eq_getElem _⟩
        obtain ⟨gf, fo, rfl, cf⟩ : ∃ gf fo, fa = some ⟨gf, fo, none⟩ ∧ w3.cell? ⟨gf, fo + k, none⟩ = some (.bool b) := by
          obtain ⟨gf, fo, rfl, hgf, hc⟩ := HF.out.resolve_left (fun e => by
            rw [List.map_eq_nil_iff] at e
            rw [e] at hb
            simp at hb)
          exact ⟨gf, fo, rfl, (HB3.out.cell (p := ⟨gf, fo + k, none⟩) hgf).trans (hc k _ (by rw [List.getElem?_map, hb]; rfl))⟩
        have td : decide ((k : Int) < (m : Int)) = true := decide_eq_true (by omega)
        have td2 : decide (k < m) = true := decide_eq_true hkm
        clear hb
        cases b
        · go_wp2_with fail
          go_roundw
          case rel => exact ⟨k + 1, by omega, by simp, Lib.hid (HC3.out.more (by omega)), HB3⟩
          case measure => simp [intOf]; omega
        · have HFLU := Lib.hid (cn_flush HC3.out HB3.out.size (by omega))
          go_wp2_with fail
          refine HFLU.out.mono ?_
          rintro e w4 ⟨rfl, hc4, hB4⟩
          have HC4 := Lib.hid hc4
          have HB4 := Lib.hid (HB3.out.trans hB4)
          clear hc4 hB4 HFLU cf
          go_wp2_with fail
          go_roundw
          case rel => exact ⟨k + 1, by omega, by simp, Lib.hid (HC4.out.more (by omega)), HB4⟩
          case measure => simp [intOf]; omega
      · have td : decide ((k : Int) < (m : Int)) = false := decide_eq_false (by omega)
        have td2 : decide (k < m) = false := decide_eq_false hkm
        go_wp2_with fail
        go_roundw
        case rel => exact ⟨k + 1, by omega, by simp, Lib.hid (HC3.out.more (by omega)), HB3⟩
        case measure => simp [intOf]; omega
    · obtain rfl : k = n := by omega
      have htk : l.take k = l := by rw [HLN.out, List.take_length]
      have hC2 := hC.out
      rw [htk] at hC2
      have HALL := Lib.hid (cn_all hC2 hB.out.size (by omega))
      clear htk hC2 hC
      go_wp2_with fail
      refine HALL.out.mono ?_
      rintro e w3 ⟨out, v, rfl, hans, hol, hrow, _, hB3⟩
      have HW3 := Lib.hid (hB.out.trans hB3)
      have HANS := Lib.hid hans
      obtain ⟨oa, oc, rfl, _, hoL, _, _⟩ := own_shape hrow
      obtain ⟨N, hN⟩ : ∃ N, N = out.length := ⟨_, rfl⟩
      rw [← hN] at hol ⊢
      have HOL := Lib.hid hoL
      have HN := Lib.hid hN
      clear hans hrow hoL hN hB3 hB HALL
      go_wp2_with fail
      go_loopw [15, 16] (fun pr i wr => ∃ k2 : Nat, k2 ≤ k ∧ i = .int .i64 k2 ∧ pr = .int .i64 ((pairsN l k2 : Nat) : Int) ∧ Hid (Below w3.heap.size w3 wr)) (fun _ i _ => k - (intOf i).toNat)
      case atStart => exact ⟨0, Nat.zero_le _, rfl, rfl, Lib.hid (Below.refl _ _)⟩
      case round =>
        obtain ⟨j, hj, rfl, rfl, hB⟩ := hrel
        obtain ⟨wo, rfl⟩ : ∃ wo : World, wo = wr := ⟨_, rfl⟩
        have hpj := pairsN_le l j
        by_cases hlt : j < k
        · obtain ⟨p, hp⟩ : ∃ p, l[j]? = some p := ⟨l[j]'(by rw [← HLN.out]; exact hlt), List.getElem?_eq_getElem _⟩
          obtain ⟨hp1, hp2⟩ := HOK.out p (List.mem_of_getElem? hp)
          have hBw := HW3.out.trans (hB.out.mono HW3.out.size)
          obtain ⟨ga, off, rfl, c0, c1, c2, _⟩ := vis_flat (HL.out.later hBw) hp
          obtain ⟨x, hx⟩ : ∃ x, x = p.1 / 4294967296 := ⟨_, rfl⟩
          obtain ⟨y, hy⟩ : ∃ y, y = p.1 % 4294967296 := ⟨_, rfl⟩
          obtain ⟨z, hz⟩ : ∃ z, z = p.2 := ⟨_, rfl⟩
          rw [← hx] at c0
          rw [← hy] at c1
          rw [← hz] at c2
          obtain ⟨b0, hb0⟩ : ∃ b0 : Bool, decide (0 < z) = b0 := ⟨_, rfl⟩
          have hb1 : decide ((0 : Int) < (z : Int)) = b0 := by rw [← hb0]; simp
          have hb2 : runN l j 0 p = b0 := by rw [runN_start, ← hz, hb0]
          have HP := Lib.hid hp
          have HX := Lib.hid hx
          have HY := Lib.hid hy
          have HB2 := Lib.hid hb2
          have hjd : decide ((j : Int) < (k : Int)) = true := decide_eq_true (by omega)
          clear hx hy hz hb2 hp1 hp2 hp
          go_wp2_with fail
          clear hb0 hb1 hjd
          go_loopw [17, 18, 19] (fun f s i wr => ∃ q : Nat, q ≤ k ∧ i = .int .i64 q ∧ f = .bool (runN l j q p) ∧ s = .int .u64 ((sat (tot (l.take q) p.1) : Nat) : Int) ∧ Hid (Below w3.heap.size w3 wr)) (fun _ _ i _ => k - (intOf i).toNat)
          case atStart => exact ⟨0, Nat.zero_le _, rfl, by rw [HB2.out], rfl, hB⟩
          case round =>
            obtain ⟨q, hq, rfl, rfl, rfl, hB3⟩ := hrel
            by_cases hqk : q < k
            · obtain ⟨p', hp'⟩ : ∃ p', l[q]? = some p' := ⟨l[q]'(by rw [← HLN.out]; exact hqk), List.getElem?_eq_getElem _⟩
              obtain ⟨hp1', hp2'⟩ := HOK.out p' (List.mem_of_getElem? hp')
              have hBq := HW3.out.trans (hB3.out.mono HW3.out.size)
              obtain ⟨ga', off', e', d0, d1, d2, _⟩ := vis_flat (HL.out.later hBq) hp'
              cases e'
              obtain ⟨ga', off', e', c0, c1, c2, _⟩ := vis_flat (HL.out.later hBq) HP.out
              cases e'
              obtain ⟨x', hx'⟩ : ∃ x, x = p'.1 / 4294967296 := ⟨_, rfl⟩
              obtain ⟨y', hy'⟩ : ∃ y, y = p'.1 % 4294967296 := ⟨_, rfl⟩
              obtain ⟨z', hz'⟩ : ∃ z, z = p'.2 := ⟨_, rfl⟩
              rw [← hx'] at d0
              rw [← hy'] at d1
              rw [← hz'] at d2
              rw [← HX.out] at c0
              rw [← HY.out] at c1
              have hst := sumN_step (p := p) hp'
              have hrt := runN_step (i := j) (p := p) hp'
              obtain ⟨S, hS⟩ : ∃ S, S = sat (tot (l.take q) p.1) := ⟨_, rfl⟩
              obtain ⟨b, hb⟩ : ∃ b, b = runN l j q p := ⟨_, rfl⟩
              have hS64 : S ≤ top64 := by rw [hS]; exact sat_le _
              have hz64 : z' ≤ top64 := by rw [hz']; exact hp2'
              rw [← hS] at hst
              rw [← hS, ← hb]
              rw [← hb] at hrt
              rw [← hz'] at hst hrt
              have hqd : decide ((q : Int) < (k : Int)) = true := decide_eq_true (by omega)
              have HX' := Lib.hid hx'
              have HY' := Lib.hid hy'
              have HXX := Lib.hid HX.out
              have HYY := Lib.hid HY.out
              by_cases hxx : x' = x
              · subst hxx
                by_cases hyy : y' = y
                · subst hyy
                  have hpp : p'.1 = p.1 := by have := HX.out; have := HY.out; omega
                  rw [if_pos hpp] at hst hrt
                  have HST := Lib.hid hst
                  have HRT := Lib.hid hrt
                  have HSUM := fun w => refSum_any S z' hS64 hz64 w
                  clear hst hrt hpp hx' hy' hz' hS hb hp1' hp2' hp'
                  go_wp2_with fail
                  go_quiet (fail)
                  go_wp2_with fail
                  refine (HSUM _).mono ?_
                  rintro e w4 ⟨rfl, rfl⟩
                  have hB4 : Hid (Below w3.heap.size w3 (wr.drewN nq)) := Lib.hid (below_drewN hB3.out nq)
                  obtain ⟨S', hS'⟩ : ∃ S', S' = sat (S + z') := ⟨_, rfl⟩
                  rw [← hS']
                  have hq1 : IntKind.i64.wrap ((q : Int) + 1) = ((q + 1 : Nat) : Int) := by rw [IntWalk.i64_in _ (by omega)]; omega
                  cases b
                  · go_wp2_with fail
                    exact ⟨⟨q + 1, by omega, by simp, by rw [HRT.out]; rfl, by rw [HST.out], hB4⟩, by simp [intOf]; omega⟩
                  · by_cases hjq : j ≤ q
                    · have tj : decide ((j : Int) ≤ (q : Int)) = true := decide_eq_true (by omega)
                      have tj2 : decide (j ≤ q) = true := decide_eq_true hjq
                      go_wp2_with fail
                      exact ⟨⟨q + 1, by omega, by simp, by rw [HRT.out, tj2]; rfl, by rw [HST.out], hB4⟩, by simp [intOf]; omega⟩
                    · have tj : decide ((j : Int) ≤ (q : Int)) = false := decide_eq_false (by omega)
                      have tj2 : decide (j ≤ q) = false := decide_eq_false hjq
                      obtain ⟨bz, hbz⟩ : ∃ bz : Bool, ((z' : Int) == 0) = bz := ⟨_, rfl⟩
                      have HBZ := Lib.hid hbz
                      go_wp2_with fail
                      exact ⟨⟨q + 1, by omega, by simp, by rw [HRT.out, tj2, ← HBZ.out]; congr 1; rw [Bool.eq_iff_iff]; simp, by rw [HST.out], hB4⟩, by simp [intOf]; omega⟩
                · have hye : ((y' : Int) == (y : Int)) = false := by simp; omega
                  have hye2 : (y' == y) = false := by simp; omega
                  have hpp : ¬ p'.1 = p.1 := by have := HY.out; intro e; rw [e] at hy'; omega
                  rw [if_neg hpp] at hst hrt
                  have HST := Lib.hid hst
                  have HRT := Lib.hid hrt
                  clear hst hrt hpp hx' hy' hz' hS hb hp1' hp2' hp'
                  go_wp2_with fail
                  go_quiet (fail)
                  go_wp2_with fail
                  exact ⟨⟨q + 1, by omega, by simp, by rw [HRT.out], by rw [HST.out], Lib.hid (below_drewN hB3.out nq)⟩, by simp [intOf]; omega⟩
              · have hxe : ((x' : Int) == (x : Int)) = false := by simp; omega
                have hxe2 : (x' == x) = false := by simp; omega
                have hpp : ¬ p'.1 = p.1 := by have := HX.out; intro e; rw [e] at hx'; omega
                rw [if_neg hpp] at hst hrt
                have HST := Lib.hid hst
                have HRT := Lib.hid hrt
                clear hst hrt hpp hx' hy' hz' hS hb hp1' hp2' hp'
                go_wp2_with fail
                go_quiet (fail)
                go_wp2_with fail
                exact ⟨⟨q + 1, by omega, by simp, by rw [HRT.out], by rw [HST.out], Lib.hid (below_drewN hB3.out nq)⟩, by simp [intOf]; omega⟩
            · obtain rfl : q = k := by omega
              have hre : runN l j q p = firstB l j := by
                have := runN_end HP.out
                rw [← HLN.out] at this
                exact this
              have htq : l.take q = l := by
                rw [HLN.out]
                exact List.take_length
              rw [hre, htq]
              obtain ⟨T, hT⟩ : ∃ T, T = sat (tot l p.1) := ⟨_, rfl⟩
              rw [← hT]
              have hqd : decide ((q : Int) < (q : Int)) = false := decide_eq_false (by omega)
              have hps : pairsN l (j + 1) = pairsN l j + (if firstB l j = true then 1 else 0) := rfl
              cases hfb : firstB l j
              · rw [hfb] at hps
                have HPS := Lib.hid hps
                clear hps hre htq hT hfb
                go_wp2_with fail
                exact ⟨⟨j + 1, by omega, by simp, by rw [HPS.out]; simp, hB3⟩, by simp [intOf]; omega⟩
              · rw [hfb] at hps
                have HMET := Lib.hid (HANS.out.met HP.out hfb)
                rw [← hT] at HMET
                have HPS := Lib.hid hps
                clear hps hre htq hT hfb
                go_wp2_with fail
                go_loopw [20, 21] (fun mt i wr => ∃ t : Nat, t ≤ N ∧ i = .int .i64 t ∧ mt = .bool (decide ((p.1, T) ∈ out.take t)) ∧ Hid (Below w3.heap.size w3 wr)) (fun _ i _ => N - (intOf i).toNat)
                case atStart => exact ⟨0, Nat.zero_le _, rfl, by simp, hB3⟩
                case round =>
                  obtain ⟨t, ht, rfl, rfl, hB4⟩ := hrel
                  by_cases htN : t < N
                  · obtain ⟨r, hr⟩ : ∃ r, out[t]? = some r := ⟨out[t]'(by rw [← HN.out]; exact htN), List.getElem?_eq_getElem _⟩
                    have hB5 := hB4.out
                    have hBq := HW3.out.trans (hB5.mono HW3.out.size)
                    obtain ⟨gr, offr, rfl, e0, e1, e2, _⟩ := vis_flat (HOL.out.later hB5) hr
                    obtain ⟨ga', off', e', c0, c1, c2, _⟩ := vis_flat (HL.out.later hBq) HP.out
                    cases e'
                    rw [← HX.out] at c0
                    rw [← HY.out] at c1
                    obtain ⟨xr, hxr⟩ : ∃ x, x = r.1 / 4294967296 := ⟨_, rfl⟩
                    obtain ⟨yr, hyr⟩ : ∃ y, y = r.1 % 4294967296 := ⟨_, rfl⟩
                    obtain ⟨zr, hzr⟩ : ∃ z, z = r.2 := ⟨_, rfl⟩
                    rw [← hxr] at e0
                    rw [← hyr] at e1
                    rw [← hzr] at e2
                    have hms := in_step (v := (p.1, T)) hr
                    obtain ⟨mt, hmt⟩ : ∃ mt, mt = decide ((p.1, T) ∈ out.take t) := ⟨_, rfl⟩
                    rw [← hmt] at hms ⊢
                    have htd : decide ((t : Int) < (N : Int)) = true := decide_eq_true (by omega)
                    have hpx := HX.out
                    have hpy := HY.out
                    cases mt
                    · by_cases h1 : xr = x
                      · by_cases h2 : yr = y
                        · by_cases h3 : zr = T
                          · have hpr : (p.1, T) = r := by
                              have : r.1 = p.1 := by rw [h1] at hxr; rw [h2] at hyr; omega
                              rw [← h3, hzr, ← this]
                            rw [decide_eq_true hpr] at hms
                            have HMS := Lib.hid hms
                            subst h1 h2 h3
                            clear hms hpr hxr hyr hzr hmt hr hpx hpy hBq
                            go_wp2_with fail
                            go_quiet (fail)
                            go_wp2_with fail
                            exact ⟨⟨t + 1, by omega, by simp, by rw [HMS.out]; rfl, Lib.hid (below_drewN hB5 nq)⟩, by simp [intOf]; omega⟩
                          · have hpr : ¬ (p.1, T) = r := by intro e; apply h3; rw [hzr, ← e]
                            rw [decide_eq_false hpr] at hms
                            have HMS := Lib.hid hms
                            subst h1 h2
                            have hze : ((zr : Int) == (T : Int)) = false := by simp; omega
                            clear hms hpr hxr hyr hzr hmt hr hpx hpy hBq
                            go_wp2_with fail
                            go_quiet (fail)
                            go_wp2_with fail
                            exact ⟨⟨t + 1, by omega, by simp, by rw [HMS.out]; rfl, Lib.hid (below_drewN hB5 nq)⟩, by simp [intOf]; omega⟩
                        · have hpr : ¬ (p.1, T) = r := by
                            intro e
                            apply h2
                            rw [hyr, ← e, hpy]
                          rw [decide_eq_false hpr] at hms
                          have HMS := Lib.hid hms
                          subst h1
                          have hze : ((yr : Int) == (y : Int)) = false := by simp; omega
                          clear hms hpr hxr hyr hzr hmt hr hpx hpy hBq
                          go_wp2_with fail
                          go_quiet (fail)
                          go_wp2_with fail
                          exact ⟨⟨t + 1, by omega, by simp, by rw [HMS.out]; rfl, Lib.hid (below_drewN hB5 nq)⟩, by simp [intOf]; omega⟩
                      · have hpr : ¬ (p.1, T) = r := by
                          intro e
                          apply h1
                          rw [hxr, ← e, hpx]
                        rw [decide_eq_false hpr] at hms
                        have HMS := Lib.hid hms
                        have hze : ((xr : Int) == (x : Int)) = false := by simp; omega
                        clear hms hpr hxr hyr hzr hmt hr hpx hpy hBq
                        go_wp2_with fail
                        go_quiet (fail)
                        go_wp2_with fail
                        exact ⟨⟨t + 1, by omega, by simp, by rw [HMS.out]; rfl, Lib.hid (below_drewN hB5 nq)⟩, by simp [intOf]; omega⟩
                    · have HMS := Lib.hid hms
                      clear hms hxr hyr hzr hmt hr hpx hpy hBq
                      go_wp2_with fail
                      go_quiet (fail)
                      go_wp2_with fail
                      exact ⟨⟨t + 1, by omega, by simp, by rw [HMS.out]; rfl, Lib.hid (below_drewN hB5 nq)⟩, by simp [intOf]; omega⟩
                  · obtain rfl : t = N := by omega
                    have hmt : decide ((p.1, T) ∈ out.take t) = true := by
                      rw [HN.out, List.take_length]
                      exact decide_eq_true HMET.out
                    rw [hmt]
                    have htd : decide ((t : Int) < (t : Int)) = false := decide_eq_false (by omega)
                    clear hmt
                    go_wp2_with fail
                    exact ⟨⟨j + 1, by omega, by simp, by rw [HPS.out]; simp, hB4⟩, by simp [intOf]; omega⟩
        · obtain rfl : j = k := by omega
          have hjd : decide ((j : Int) < (j : Int)) = false := decide_eq_false (by omega)
          have hpn : pairsN l j = N := by
            have := HANS.out.pairs
            rw [← HLN.out, ← HN.out] at this
            exact this
          rw [hpn]
          clear hpn
          go_wp2_with fail
          go_loopw [22] (fun i wr => ∃ t : Nat, 1 ≤ t ∧ (t ≤ N ∨ t = 1) ∧ i = .int .i64 t ∧ Hid (Below w3.heap.size w3 wr)) (fun i _ => N - (intOf i).toNat)
          case atStart => exact ⟨1, Nat.le_refl _, .inr rfl, rfl, hB⟩
          case round =>
            obtain ⟨t, ht1, ht2, rfl, hB4⟩ := hrel
            by_cases htN : t < N
            · obtain ⟨t0, ht0⟩ : ∃ t0, t = t0 + 1 := ⟨t - 1, by omega⟩
              obtain ⟨r, hr⟩ : ∃ r, out[t]? = some r := ⟨out[t]'(by rw [← HN.out]; exact htN), List.getElem?_eq_getElem _⟩
              obtain ⟨r0, hr0⟩ : ∃ r0, out[t0]? = some r0 := ⟨out[t0]'(by rw [← HN.out]; omega), List.getElem?_eq_getElem _⟩
              have hrise : r0.1 < r.1 := by
                obtain ⟨i0, ei⟩ := List.getElem?_eq_some_iff.1 hr
                obtain ⟨j0, ej⟩ := List.getElem?_eq_some_iff.1 hr0
                have := List.pairwise_iff_getElem.1 HANS.out.rises t0 t j0 i0 (by omega)
                rwa [ei, ej] at this
              have hB5 := hB4.out
              obtain ⟨gr, offr, rfl, e0, e1, e2, _⟩ := vis_flat (HOL.out.later hB5) hr
              obtain ⟨gr', offr', e', f0, f1, f2, _⟩ := vis_flat (HOL.out.later hB5) hr0
              cases e'
              obtain ⟨xr, hxr⟩ : ∃ x, x = r.1 / 4294967296 := ⟨_, rfl⟩
              obtain ⟨yr, hyr⟩ : ∃ y, y = r.1 % 4294967296 := ⟨_, rfl⟩
              obtain ⟨xs, hxs⟩ : ∃ x, x = r0.1 / 4294967296 := ⟨_, rfl⟩
              obtain ⟨ys, hys⟩ : ∃ y, y = r0.1 % 4294967296 := ⟨_, rfl⟩
              rw [← hxr] at e0
              rw [← hyr] at e1
              rw [← hxs] at f0
              rw [← hys] at f1
              have htd : decide ((t : Int) < (N : Int)) = true := decide_eq_true (by omega)
              have hw1 : IntKind.i64.wrap ((t : Int) - 1) = (t0 : Int) := by rw [show (t : Int) - 1 = t0 by omega]; exact IntWalk.i64_in _ (by omega)
              have hx1 : decide ((xr : Int) < (xs : Int)) = false := decide_eq_false (by omega)
              have hx2 : decide (xr < xs) = false := decide_eq_false (by omega)
              by_cases h1 : xr = xs
              · have hy1 : decide ((yr : Int) ≤ (ys : Int)) = false := decide_eq_false (by omega)
                have hy2 : decide (yr ≤ ys) = false := decide_eq_false (by omega)
                have h0N : t0 < N := by omega
                subst h1
                clear hxr hyr hxs hys hr hr0 hrise hB5 e2 f2 ht0
                go_wp2_with fail
                go_quiet (fail)
                go_wp2_with fail
                exact ⟨⟨t + 1, by omega, by omega, by simp, Lib.hid (below_drewN hB4.out nq)⟩, by simp [intOf]; omega⟩
              · have hze : ((xr : Int) == (xs : Int)) = false := by simp; omega
                have h0N : t0 < N := by omega
                clear hxr hyr hxs hys hr hr0 hrise hB5 e2 f2 ht0
                go_wp2_with fail
                go_quiet (fail)
                go_wp2_with fail
                exact ⟨⟨t + 1, by omega, by omega, by simp, Lib.hid (below_drewN hB4.out nq)⟩, by simp [intOf]; omega⟩
            · have htd : decide ((t : Int) < (N : Int)) = false := decide_eq_false (by omega)
              have hBq := HW3.out.trans (hB4.out.mono HW3.out.size)
              have HBQ := Lib.hid hBq
              clear hBq
              have HA := Lib.hid (awake_any wr)
              go_wp2_with fail
              refine HA.out.mono ?_
              rintro e w5 ⟨rfl, hB5⟩
              have HB5 := Lib.hid (HBQ.out.trans (hB5.mono HBQ.out.size))
              clear hB5 HA
              go_wp2_with fail
              go_ret
              exact ⟨rfl, HB5.out⟩
end Go.Proofs.YtndkohocgfmamaaGreat.Visit

/- palmerlaw27: VisitCounts, at whatever comes in. -/
namespace Go.Proofs.YtndkohocgfmamaaGreat.Visit
open Go.RowKit Go.Deep Mem Crc Go.Proofs.YtndkohocgfmamaaGreat.Merge

set_option maxRecDepth 100000 in
theorem visitCounts_law {H : Type} {enc : TypeId × Value → H} {base : Nat} (v0 v1 v2 : Value) (d0 d1 d2 : DataW H) (p0 p1 p2 : List MemPlace) (W : World)
    (q0 : Value.okWide Tryz.prog W .any base 3 v0) (h0 : DataW.Trod enc Tryz.prog W 0 (fun _ => true) true 3 v0 d0 p0)
    (q1 : Value.okWide Tryz.prog W .any base 22 v1) (h1 : DataW.Trod enc Tryz.prog W 0 (fun _ => true) true 22 v1 d1 p1)
    (q2 : Value.okWide Tryz.prog W .any base 23 v2) (h2 : DataW.Trod enc Tryz.prog W 0 (fun _ => true) true 23 v2 d2 p2) :
    Calls Tryz.prog 3 #[v0, v1, v2] W fun e w' => e = .returned (.bool true) ∧ Below W.heap.size W w' := by
  obtain ⟨r, rfl, _⟩ := Args.int_open Tryz.underlying3 q0 h0
  obtain ⟨a, cap, l, rfl, _, _, hok, hL⟩ := visits_open q1 h1
  obtain ⟨fa, fc, fl, rfl, _, _, hF⟩ := Args.bools_open Tryz.underlying23 Tryz.underlying4 (by kernel_rfl) q2 h2
  by_cases h : 100 < l.length ∨ r < 1 ∨ 4096 < r
  · exact counts_out r a fa cap fc l.length fl.length W h
  · obtain ⟨rm, rfl⟩ : ∃ rm : Nat, r = (rm : Int) := ⟨r.toNat, by omega⟩
    exact counts_in rm a fa cap fc l fl W hL hF hok (by omega) (by omega) (by omega)
end Go.Proofs.YtndkohocgfmamaaGreat.Visit
