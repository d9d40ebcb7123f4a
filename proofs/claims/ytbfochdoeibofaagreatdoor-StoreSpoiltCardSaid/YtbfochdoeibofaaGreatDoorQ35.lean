/- Play5, Play6, Play7, Play8, Play9, PlayA, PlayB, PlayC, SpoilOpen, SpoilPlay, in one text. -/
import Derived.Test.YtbfochdoeibofaaGreatDoorQ31
import Derived.Test.YtbfochdoeibofaaGreatDoorQ34
import Derived.Deep.DeepCutAuto
/- palmerlaw10: a play's changes: the walks of Write and Append. Printed by gen/changes5.py. -/
namespace Go.Proofs.YtbfochdoeibofaaGreatDoor.Full
open Go.RowKit Go.Deep Mem Crc Go.Maps Go.Proofs.YtbfochdoeibofaaGreatDoor.Dk Go.Proofs.YtbfochdoeibofaaGreatDoor.Mani Go.Proofs.YtbfochdoeibofaaGreatDoor.RefF
open Go.Proofs.YtbfochdoeibofaaGreatDoor.Store (Chg none' nv Files setC setC_same setC_other)
open Go.Proofs.YtbfochdoeibofaaGreatDoor.Ext (Tab)

variable {B p cnt i : Nat} {w w' : World} {S : PD}
/-- What Find answers of a play's files. -/
theorem Play.find (h : Play B p cnt i w S) (hi : i ≤ 60) (nm : List UInt8) : Calls Tryz.prog 46 #[.slice S.an S.L.length S.nc, nv nm] w fun e w' => e = .returned (.tuple #[.int .i64 (if findP S.L nm < S.L.length then (findP S.L nm : Int) else 0), .bool (decide (findP S.L nm < S.L.length))]) ∧ w' = w :=
  find_any S.an S.nc S.L nm w h.nl (by have := h.ll; omega)
/-- Put of a play's files, at a world in which the store was written. -/
theorem Play.put (h : Play B p cnt i w S) (hi : i ≤ 60) {w2 w3 : World} (hB : Below w.heap.size w w2) (hu : Upon S.Q w2 w3) (nm b : List UInt8) {V : World} (hV : Below w3.heap.size w3 V) : Calls Tryz.prog 79 #[.slice S.an S.L.length S.nc, nv nm, nv b] V fun e w' => ∃ a c, e = .returned (.slice a (putP S.L nm b).length c) ∧ w'.ownsRow w3.heap.size 69 2 (.slice a (putP S.L nm b).length c) (putP S.L nm b).length (flatP (putP S.L nm b)) ∧ Below w3.heap.size w3 w' :=
  (put_any S.an S.nc S.L nm b V (((h.nl.later hB).upon hu (fun k hk hq => (h.na k hk).1 (.inl hq))).later hV) (by have := h.ll; omega)).mono (fun e w' hh => by
    obtain ⟨v, he, ho, hb⟩ := hh
    obtain ⟨a, c, rfl, _⟩ := own_shape ho
    exact ⟨a, c, he, own_mono ho hV.size, hV.trans (hb.mono hV.size)⟩)
attribute [local go_sem] Oper.semAt_some
set_option maxHeartbeats 4000000 in
set_option maxRecDepth 100000 in
theorem play_k0 (h : Play B p cnt i w S) (hi : i ≤ 59) (nm b : List UInt8) (ab : Option Addr) (bc : Nat) (hb : Lies w ab (b.map bv)) (hbl : b.length ≤ 1000) (h1 : 1 ≤ nm.length) (h2 : nm.length ≤ 32) :
    Calls Tryz.prog 45 #[.pointer (some ⟨p, 0, none⟩), .agg #[.int .i64 0, nv nm, .slice ab b.length bc]] w fun e w' => e = .returned (.bool true) ∧ Step B p cnt (i + 1) S w w' := by
  obtain ⟨sn, hsn⟩ : ∃ s : ByteArray, nv nm = .string s := ⟨_, rfl⟩
  have hss : sn.size = nm.length := size_sv (show sv nm = .string sn from hsn)
  obtain ⟨sb, hsb⟩ : ∃ s : ByteArray, nv b = .string s := ⟨_, rfl⟩
  have hsbs : sb.size = b.length := size_sv (show sv b = .string sb from hsb)
  obtain ⟨bn, hbn⟩ : ∃ n, n = b.length := ⟨_, rfl⟩
  obtain ⟨W1, hW1⟩ : ∃ W1, W1 = w.alloc (.cells #[.int .i64 0, .string sn, .slice ab bn bc] 48) := ⟨_, rfl⟩
  obtain ⟨rb, hrb⟩ : ∃ b, b = w.heap.size := ⟨_, rfl⟩
  have hB1 : Below w.heap.size w W1 := by rw [hW1]; exact (Below.refl _ w).alloc (Nat.le_refl _) _
  have hbr : Blk W1 rb 48 #[.int .i64 0, .string sn, .slice ab bn bc] := by rw [hW1, hrb]; exact Blk.new w _ _
  have hP1 := h.later hB1
  have hfd : ∀ n', _ := fun n' => (hP1.later (drewN_below (Below.refl _ W1) n')).find (by omega) nm
  rw [hsn] at hfd
  obtain ⟨fi, hfi⟩ : ∃ y : Int, y = (if findP S.L nm < S.L.length then (findP S.L nm : Int) else 0) := ⟨_, rfl⟩
  obtain ⟨tf, htf⟩ : ∃ y, y = decide (findP S.L nm < S.L.length) := ⟨_, rfl⟩
  rw [← hfi, ← htf] at hfd
  clear hfi htf
  have c6 := hP1.cells.2.2.2.2.2.2.1
  have r1 := hbr.cell 1
  simp only [List.getElem?_toArray, List.getElem?_cons_zero, List.getElem?_cons_succ] at r1
  obtain ⟨sL, hsL⟩ : ∃ y, y = S.L.length := ⟨_, rfl⟩
  obtain ⟨sa, hsa⟩ : ∃ y, y = S.an := ⟨_, rfl⟩
  obtain ⟨sc, hsc⟩ : ∃ y, y = S.nc := ⟨_, rfl⟩
  rw [← hsL, ← hsa, ← hsc] at c6 hfd
  have HP := Lib.hid h
  have HB := Lib.hid hb
  have HB1 := Lib.hid hB1
  have HBR := Lib.hid hbr
  have HFD := Lib.hid hfd
  have HSN := Lib.hid hsn
  have HSB := Lib.hid hsb
  have HBN := Lib.hid hbn
  have HS := Lib.hid (And.intro hsL (And.intro hsa hsc))
  have hrbw := Lib.hid hrb
  have g1 : decide ((0 : Int) < (sn.size : Int)) = true := decide_eq_true (by omega)
  have g1b : decide (0 < sn.size) = true := decide_eq_true (by omega)
  have g2 : decide ((sn.size : Int) ≤ 32) = true := decide_eq_true (by omega)
  have g2b : decide (sn.size ≤ 32) = true := decide_eq_true (by omega)
  rw [hsn, ← hbn]
  clear h hb hB1 hbr hP1 hfd hsn hsb hbn hsL hsa hsc hss
  go_enter Tryz.func45, Tryz.ntmps45
  go_wp2_with fail
  rw [← hW1, ← hrb]
  clear hW1 hrb
  go_quiet ((go_at_call 46; refine Calls.quiet_of_same (HFD.out _)))
  obtain ⟨V, hV⟩ : ∃ V, V = W1.drewN nq := ⟨_, rfl⟩
  have hBV : Below W1.heap.size W1 V := by rw [hV]; exact drewN_below (Below.refl _ _) _
  rw [← hV]
  clear hV HFD c6 r1
  have hB0V : Below w.heap.size w V := HB1.out.trans (hBV.mono HB1.out.size)
  have hPV := HP.out.later hB0V
  have hbrV := HBR.out.below hBV HBR.out.lt
  have r0 := hbrV.cell 0
  have r1 := hbrV.cell 1
  have r2 := hbrV.cell 2
  simp only [List.getElem?_toArray, List.getElem?_cons_zero, List.getElem?_cons_succ] at r0 r1 r2
  have c0 := hPV.cells.1
  have hcv := conv_any (vc := bc) (HB.out.later hB0V)
  rw [← HBN.out, HSB.out] at hcv
  obtain ⟨ss, hss⟩ : ∃ y, y = S.s := ⟨_, rfl⟩
  rw [← hss] at c0
  have hB2 : Below w.heap.size w V.drew := hB0V.drew
  have hwr := on_write (hPV.later (Below.refl _ V).drew).on (by omega) nm h1 h2 ab bc b (HB.out.later hB2) (by omega)
  rw [HSN.out, ← HBN.out, ← hss] at hwr
  have HWR : Hid (Calls Tryz.prog 11 #[.pointer (some ⟨ss, 0, none⟩), .string sn, .slice ab bn bc] V.drew fun e w' => e = .returned (.int .i64 0) ∧ ∃ Q', On B S.s S.d S.g S.cm w' Q' S.m S.ver S.next S.fs (setC S.C nm (some (some b))) S.H (i + 1) ∧ (∀ k, Q' k → S.Q k ∨ V.drew.heap.size ≤ k) ∧ Upon S.Q V.drew w') := Lib.hid (by rw [hss]; rw [hss] at hwr; exact hwr)
  have HPV := Lib.hid hPV
  have HB2 := Lib.hid hB2
  have HBRV := Lib.hid hbrV
  clear hPV hbrV hB0V hwr hss hB2 hBV
  go_wp2_with fail
  go_still_tail 8, (by kernel_rfl)
  change wpList _ _ _ _ _ V.drew
  have hltV := HPV.out.blk.lt
  obtain ⟨w2, hw2⟩ : ∃ w2, w2 = V.drew := ⟨_, rfl⟩
  have HBV2 : Hid (Below V.heap.size V w2) := Lib.hid (by rw [hw2]; exact (Below.refl _ V).drew)
  rw [← hw2] at HWR HB2 ⊢
  clear hw2
  go_wp2_with fail
  refine HWR.out.mono ?_
  rintro e w3 ⟨rfl, Q3, hon3, hq3, hu3⟩
  have hrq : ¬ S.Q rb := fun hk => by have := HP.out.on.lt rb hk; have := hrbw.out; omega
  have hbr3 := (HBRV.out.below HBV2.out HBRV.out.lt).upon hu3 hrq
  have hpb3 := (HPV.out.blk.below HBV2.out HPV.out.blk.lt).upon hu3 HP.out.pq
  have r0 := hbr3.cell 0
  have r1 := hbr3.cell 1
  have c6 := hpb3.cell 6
  have c7 := hpb3.cell 7
  unfold PD.cells at c6 c7
  simp only [List.getElem?_toArray, List.getElem?_cons_zero, List.getElem?_cons_succ] at r0 r1 c6 c7
  rw [← HS.out.1, ← HS.out.2.1, ← HS.out.2.2] at c6
  obtain ⟨bnew, hbnew⟩ : ∃ y, y = b := ⟨_, rfl⟩
  have hsnew : nv bnew = .string sb := by rw [hbnew]; exact HSB.out
  have hnewl : bnew.length ≤ 1000 * (i + 1) := by rw [hbnew]; omega
  rw [← hbnew] at hon3
  clear hbnew
  have hput := HP.out.put (by omega) HB2.out hu3 nm bnew (V := w3.drew) (Below.refl _ w3).drew
  rw [HSN.out, hsnew, ← HS.out.1, ← HS.out.2.1, ← HS.out.2.2] at hput
  have HPUT : Hid (Calls Tryz.prog 79 #[.slice sa sL sc, .string sn, .string sb] w3.drew fun e w' => ∃ a c, e = .returned (.slice a (putP S.L nm bnew).length c) ∧ w'.ownsRow w3.heap.size 69 2 (.slice a (putP S.L nm bnew).length c) (putP S.L nm bnew).length (flatP (putP S.L nm bnew)) ∧ Below w3.heap.size w3 w') := Lib.hid hput
  have HON3 := Lib.hid (And.intro hon3 (And.intro hq3 hu3))
  have HBR3 := Lib.hid hbr3
  have HPB3 := Lib.hid hpb3
  have HNEWL := Lib.hid hnewl
  clear hon3 hq3 hu3 hbr3 hpb3 hput hsnew hnewl HWR hcv c0 r2
  go_wp2_with fail
  go_cut [] (fun wx => ∃ (w4 : World) (ap : Option Addr) (pn cp : Nat), Hid (pn = (putP S.L nm bnew).length) ∧ Hid (w4.ownsRow w3.heap.size 69 2 (.slice ap (putP S.L nm bnew).length cp) (putP S.L nm bnew).length (flatP (putP S.L nm bnew))) ∧ Hid (Below w3.heap.size w3 w4) ∧ wx = w4.setCell ⟨p, 6, none⟩ (.slice ap pn cp))
  case first =>
    go_region_law ((first | (go_simp; go_at_call 79; refine HPUT.out.mono ?_; rintro e w4 ⟨ap, cp, rfl, hO4, hB4⟩; obtain ⟨pn, hpn⟩ : ∃ y, y = (putP S.L nm bnew).length := ⟨_, rfl⟩; have hpb4 := HPB3.out.below hB4 HPB3.out.lt; have z6 := hpb4.frozen 6; have k6 := hpb4.cell 6; unfold PD.cells at k6; simp only [List.getElem?_toArray, List.getElem?_cons_zero, List.getElem?_cons_succ] at k6; have HO4 := Lib.hid hO4; have HB4 := Lib.hid hB4; have HPN := Lib.hid hpn; rw [← hpn]; clear hO4 hB4 hpn hpb4; dsimp only)))
    all_goals go_wp2_with fail
    all_goals go_meet
    all_goals exact ⟨_, _, _, _, HPN, HO4, HB4, rfl⟩
  case rest =>
    obtain ⟨w4, ap, pn, cp, HPN, HO4, HB4, hwc⟩ := hcut
    have hpb4 := HPB3.out.below HB4.out HPB3.out.lt
    have hbr4 := HBR3.out.below HB4.out HBR3.out.lt
    have hpb5 := hpb4.set 6 (.slice ap pn cp)
    have hprn : rb ≠ p := by have := HP.out.blk.lt; have := hrbw.out; omega
    have hbr5 := hbr4.far (p := ⟨p, 6, none⟩) hprn (.slice ap pn cp)
    obtain ⟨w5, hw5⟩ : ∃ w5, w5 = w4.setCell ⟨p, 6, none⟩ (.slice ap pn cp) := ⟨_, rfl⟩
    rw [← hw5] at hpb5 hbr5 hwc
    subst hwc
    have hB35 : Upon (fun g => g = p) w3 wc := by rw [hw5]; exact (Upon.of_below (P := fun g => g = p) HB4.out).set (p := ⟨p, 6, none⟩) (.inl rfl) _
    have hB05 : Upon (S.D p) w wc := ((Upon.of_below (P := S.D p) HB2.out).trans (HON3.out.2.2.mono (fun k hk => Or.inl hk)) (fun k hk => .inl hk)).trans (hB35.mono (fun k hk => Or.inr (Or.inl hk))) (fun k hk => .inl hk)
    have hO5 : wc.ownsRow B 9 1 S.vc S.ch.length (S.ch.map nv) := own_upon (own_upon (own_later HP.out.own HB2.out) HON3.out.2.2 HP.out.chq) hB35 (fun g hg e => HP.out.pv (by rw [← e]; exact hg))
    obtain ⟨va, vcp, hvc, _, _, _, _⟩ := own_shape hO5
    have hBd : Below wc.heap.size wc wc.drew := (Below.refl _ wc).drew
    have hwB : B ≤ wc.heap.size := by have := HP.out.on.low; have := hB05.size; omega
    obtain ⟨v', w6, hr6, hrow6, hg6, hat6⟩ := append_nv wc.drew 36 S.vc S.ch (own_later hO5 hBd) nm (by have := HP.out.chl; omega) hwB
    have hg6' : wc.grownBy w6 S.vc.ownBlock := grown_trans grown_drew hg6
    rw [HSN.out] at hr6
    have q7 : wc.drew.cell? ⟨p, 7, none⟩ = some S.vc := hpb5.cell 7
    have q7b : (wc.alloc (.cells #[.string sn] 9)).cell? ⟨p, 7, none⟩ = some S.vc := (hpb5.alloc _).cell 7
    have r1 : wc.cell? ⟨rb, 1, none⟩ = some (.string sn) := hbr5.cell 1
    have hpb6 := hpb5.grown hg6' (fun e => HP.out.pv e.symm)
    have k7 : w6.cell? ⟨p, 7, none⟩ = some S.vc := hpb6.cell 7
    have k8 : w6.cell? ⟨p, 8, none⟩ = some (.bool S.wt) := hpb6.cell 8
    have z7 := hpb6.frozen 7
    have z8 := hpb6.frozen 8
    obtain ⟨va2, vcp2, hvc2, _, _, _, _⟩ := own_shape hrow6
    have hend := HP.out.wrote (w3 := w3) (w4 := w4) (w5 := wc) (w6 := w6) (w7 := w6.setCell ⟨p, 7, none⟩ v') (w8 := (w6.setCell ⟨p, 7, none⟩ v').setCell ⟨p, 8, none⟩ (.bool true)) nm bnew h1 h2 HNEWL.out HB2.out HON3.out.1 HON3.out.2.1 HON3.out.2.2 HO4.out HB4.out (by rw [hw5, HPN.out]) hrow6 hg6' hat6 rfl rfl
    rw [hvc] at hr6 q7 q7b k7
    obtain ⟨swt, hswt⟩ : ∃ y, y = S.wt := ⟨_, rfl⟩
    rw [← hswt] at k8
    obtain ⟨vn, hvn⟩ : ∃ y, y = S.ch.length := ⟨_, rfl⟩
    rw [← hvn] at hr6 q7 q7b k7
    obtain ⟨vn2, hvn2⟩ : ∃ y, y = (S.ch ++ [nm]).length := ⟨_, rfl⟩
    rw [← hvn2] at hvc2
    subst hvc2
    have HEND := Lib.hid hend
    clear hend hrow6 hg6 hg6' hat6 hpb6 hvc hO5 hB05 hB35 hpb5 hbr5 hpb4 hbr4 hw5 hBd hswt hvn hvn2
    go_wp2_with fail
    go_region_law ((first | (refine step_append_run rfl (.tmp 90) (.tmp 93) 36 36 rfl _ _ rfl rfl hr6 ?_)))
    all_goals go_wp2_with fail
    all_goals go_ret
    all_goals exact ⟨rfl, HEND.out⟩
set_option maxHeartbeats 4000000 in
set_option maxRecDepth 100000 in
theorem play_k1t (h : Play B p cnt i w S) (hi : i ≤ 59) (nm b : List UInt8) (ab : Option Addr) (bc : Nat) (hb : Lies w ab (b.map bv)) (hbl : b.length ≤ 1000) (h1 : 1 ≤ nm.length) (h2 : nm.length ≤ 32) (hth : findP S.L nm < S.L.length) :
    Calls Tryz.prog 45 #[.pointer (some ⟨p, 0, none⟩), .agg #[.int .i64 1, nv nm, .slice ab b.length bc]] w fun e w' => e = .returned (.bool true) ∧ Step B p cnt (i + 1) S w w' := by
  obtain ⟨sn, hsn⟩ : ∃ s : ByteArray, nv nm = .string s := ⟨_, rfl⟩
  have hss : sn.size = nm.length := size_sv (show sv nm = .string sn from hsn)
  obtain ⟨sb, hsb⟩ : ∃ s : ByteArray, nv b = .string s := ⟨_, rfl⟩
  have hsbs : sb.size = b.length := size_sv (show sv b = .string sb from hsb)
  obtain ⟨bn, hbn⟩ : ∃ n, n = b.length := ⟨_, rfl⟩
  obtain ⟨W1, hW1⟩ : ∃ W1, W1 = w.alloc (.cells #[.int .i64 1, .string sn, .slice ab bn bc] 48) := ⟨_, rfl⟩
  obtain ⟨rb, hrb⟩ : ∃ b, b = w.heap.size := ⟨_, rfl⟩
  have hB1 : Below w.heap.size w W1 := by rw [hW1]; exact (Below.refl _ w).alloc (Nat.le_refl _) _
  have hbr : Blk W1 rb 48 #[.int .i64 1, .string sn, .slice ab bn bc] := by rw [hW1, hrb]; exact Blk.new w _ _
  have hP1 := h.later hB1
  have hfd : ∀ n', _ := fun n' => (hP1.later (drewN_below (Below.refl _ W1) n')).find (by omega) nm
  rw [hsn] at hfd
  rw [if_pos hth, decide_eq_true hth] at hfd
  obtain ⟨fi, hfi⟩ : ∃ y, y = findP S.L nm := ⟨_, rfl⟩
  rw [← hfi] at hfd
  have c6 := hP1.cells.2.2.2.2.2.2.1
  have r1 := hbr.cell 1
  simp only [List.getElem?_toArray, List.getElem?_cons_zero, List.getElem?_cons_succ] at r1
  obtain ⟨sL, hsL⟩ : ∃ y, y = S.L.length := ⟨_, rfl⟩
  obtain ⟨sa, hsa⟩ : ∃ y, y = S.an := ⟨_, rfl⟩
  obtain ⟨sc, hsc⟩ : ∃ y, y = S.nc := ⟨_, rfl⟩
  rw [← hsL, ← hsa, ← hsc] at c6 hfd
  have HP := Lib.hid h
  have HB := Lib.hid hb
  have HB1 := Lib.hid hB1
  have HBR := Lib.hid hbr
  have HFD := Lib.hid hfd
  have HSN := Lib.hid hsn
  have HSB := Lib.hid hsb
  have HBN := Lib.hid hbn
  have HS := Lib.hid (And.intro hsL (And.intro hsa hsc))
  have hrbw := Lib.hid hrb
  have HTH := Lib.hid hth
  have HFI := Lib.hid hfi
  have g1 : decide ((0 : Int) < (sn.size : Int)) = true := decide_eq_true (by omega)
  have g1b : decide (0 < sn.size) = true := decide_eq_true (by omega)
  have g2 : decide ((sn.size : Int) ≤ 32) = true := decide_eq_true (by omega)
  have g2b : decide (sn.size ≤ 32) = true := decide_eq_true (by omega)
  rw [hsn, ← hbn]
  clear h hb hB1 hbr hP1 hfd hsn hsb hbn hsL hsa hsc hss hth hfi
  go_enter Tryz.func45, Tryz.ntmps45
  go_wp2_with fail
  rw [← hW1, ← hrb]
  clear hW1 hrb
  go_quiet ((go_at_call 46; refine Calls.quiet_of_same (HFD.out _)))
  obtain ⟨V, hV⟩ : ∃ V, V = W1.drewN nq := ⟨_, rfl⟩
  have hBV : Below W1.heap.size W1 V := by rw [hV]; exact drewN_below (Below.refl _ _) _
  rw [← hV]
  clear hV HFD c6 r1
  have hB0V : Below w.heap.size w V := HB1.out.trans (hBV.mono HB1.out.size)
  have hPV := HP.out.later hB0V
  have hbrV := HBR.out.below hBV HBR.out.lt
  have r0 := hbrV.cell 0
  have r1 := hbrV.cell 1
  have r2 := hbrV.cell 2
  simp only [List.getElem?_toArray, List.getElem?_cons_zero, List.getElem?_cons_succ] at r0 r1 r2
  have c0 := hPV.cells.1
  have hcv := conv_any (vc := bc) (HB.out.later hB0V)
  rw [← HBN.out, HSB.out] at hcv
  obtain ⟨ss, hss⟩ : ∃ y, y = S.s := ⟨_, rfl⟩
  rw [← hss] at c0
  have hB2 : Below w.heap.size w V.drew := hB0V.drew
  have hwas := HP.out.wasle nm
  have hwr := on_append (hPV.later (Below.refl _ V).drew).on (by omega) nm h1 h2 ab bc b (HB.out.later hB2) (by omega)
  rw [HSN.out, ← HBN.out, ← hss] at hwr
  have HWR : Hid (Calls Tryz.prog 26 #[.pointer (some ⟨ss, 0, none⟩), .string sn, .slice ab bn bc] V.drew fun e w' => e = .returned (.int .i64 0) ∧ ∃ Q', On B S.s S.d S.g S.cm w' Q' S.m S.ver S.next S.fs (setC S.C nm (some (some ((ansF (nowF S.C S.H nm)).1 ++ b)))) S.H (i + 1) ∧ (∀ k, Q' k → S.Q k ∨ V.drew.heap.size ≤ k) ∧ Upon S.Q V.drew w') := Lib.hid (by rw [hss]; rw [hss] at hwr; exact hwr)
  have HPV := Lib.hid hPV
  have HB2 := Lib.hid hB2
  have HBRV := Lib.hid hbrV
  clear hPV hbrV hB0V hwr hss hB2 hBV
  go_wp2_with fail
  go_still_tail 8, (by kernel_rfl)
  change wpList _ _ _ _ _ V.drew
  have hltV := HPV.out.blk.lt
  obtain ⟨w2, hw2⟩ : ∃ w2, w2 = V.drew := ⟨_, rfl⟩
  have HBV2 : Hid (Below V.heap.size V w2) := Lib.hid (by rw [hw2]; exact (Below.refl _ V).drew)
  rw [← hw2] at HWR HB2 ⊢
  clear hw2
  go_wp2_with fail
  refine HWR.out.mono ?_
  rintro e w3 ⟨rfl, Q3, hon3, hq3, hu3⟩
  have hrq : ¬ S.Q rb := fun hk => by have := HP.out.on.lt rb hk; have := hrbw.out; omega
  have hbr3 := (HBRV.out.below HBV2.out HBRV.out.lt).upon hu3 hrq
  have hpb3 := (HPV.out.blk.below HBV2.out HPV.out.blk.lt).upon hu3 HP.out.pq
  have r0 := hbr3.cell 0
  have r1 := hbr3.cell 1
  have c6 := hpb3.cell 6
  have c7 := hpb3.cell 7
  unfold PD.cells at c6 c7
  simp only [List.getElem?_toArray, List.getElem?_cons_zero, List.getElem?_cons_succ] at r0 r1 c6 c7
  rw [← HS.out.1, ← HS.out.2.1, ← HS.out.2.2] at c6
  have hnl3 : Lies w3 sa (flatP S.L) := by
    rw [HS.out.2.1]
    exact ((HP.out.nl.later HB2.out).upon hu3 (fun k hk hq => (HP.out.na k hk).1 (.inl hq)))
  obtain ⟨fx, hfx⟩ : ∃ x, S.L[fi]? = some x := ⟨S.L[fi]'(by rw [HFI.out]; exact HTH.out), List.getElem?_eq_getElem _⟩
  obtain ⟨gn, on, hsa2, n0, n1⟩ := cells_at hnl3 hfx
  rw [hsa2] at c6
  obtain ⟨so, hso⟩ : ∃ s : ByteArray, nv fx.2 = .string s := ⟨_, rfl⟩
  rw [hso] at n1
  have hbo : (ansF (nowF S.C S.H nm)).1 = fx.2 := by
    rw [HP.out.rowN.was nm, if_pos HTH.out, List.getD_eq_getElem?_getD, ← HFI.out, hfx]
    rfl
  have hsol : so.size = fx.2.length := size_sv (show sv fx.2 = .string so from hso)
  have hfxl : fx.2.length ≤ 1000 * i := (HP.out.each fx (List.mem_of_getElem? hfx)).2
  have hadd := add_str 9 so sb (by rw [hsol, hsbs]; omega)
  have hfil : fi < sL := by rw [HFI.out, HS.out.1]; exact HTH.out
  have hfib : sL ≤ 1000 := by rw [HS.out.1]; have := HP.out.ll; omega
  have hfd1 : decide ((fi : Int) < (sL : Int)) = true := decide_eq_true (by omega)
  obtain ⟨bnew, hbnew⟩ : ∃ y, y = fx.2 ++ b := ⟨_, rfl⟩
  have hsnew : nv bnew = .string (so ++ sb) := by rw [hbnew]; exact nv_append hso HSB.out
  have hnewl : bnew.length ≤ 1000 * (i + 1) := by rw [hbnew, List.length_append]; omega
  rw [hbo, ← hbnew] at hon3
  obtain ⟨sN, hsN⟩ : ∃ y, y = so ++ sb := ⟨_, rfl⟩
  have HSA2 := Lib.hid hsa2
  rw [← hsN] at hsnew hadd
  have hput := HP.out.put (by omega) HB2.out hu3 nm bnew (V := w3.drew) (Below.refl _ w3).drew
  rw [HSN.out, hsnew, ← HS.out.1, ← HS.out.2.1, ← HS.out.2.2, hsa2] at hput
  have HPUT : Hid (Calls Tryz.prog 79 #[.slice (some ⟨gn, on, none⟩) sL sc, .string sn, .string sN] w3.drew fun e w' => ∃ a c, e = .returned (.slice a (putP S.L nm bnew).length c) ∧ w'.ownsRow w3.heap.size 69 2 (.slice a (putP S.L nm bnew).length c) (putP S.L nm bnew).length (flatP (putP S.L nm bnew)) ∧ Below w3.heap.size w3 w') := Lib.hid hput
  have HON3 := Lib.hid (And.intro hon3 (And.intro hq3 hu3))
  have HBR3 := Lib.hid hbr3
  have HPB3 := Lib.hid hpb3
  have HNEWL := Lib.hid hnewl
  clear hon3 hq3 hu3 hbr3 hpb3 hput hsnew hnewl HWR hcv c0 r2 hnl3 hfx hsa2 hso hbo hsol hfxl hbnew hsN
  go_wp2_with fail
  go_cut [] (fun wx => ∃ (w4 : World) (ap : Option Addr) (pn cp : Nat), Hid (pn = (putP S.L nm bnew).length) ∧ Hid (w4.ownsRow w3.heap.size 69 2 (.slice ap (putP S.L nm bnew).length cp) (putP S.L nm bnew).length (flatP (putP S.L nm bnew))) ∧ Hid (Below w3.heap.size w3 w4) ∧ wx = w4.setCell ⟨p, 6, none⟩ (.slice ap pn cp))
  case first =>
    go_region_law ((first | (go_simp; go_at_call 79; refine HPUT.out.mono ?_; rintro e w4 ⟨ap, cp, rfl, hO4, hB4⟩; obtain ⟨pn, hpn⟩ : ∃ y, y = (putP S.L nm bnew).length := ⟨_, rfl⟩; have hpb4 := HPB3.out.below hB4 HPB3.out.lt; have z6 := hpb4.frozen 6; have k6 := hpb4.cell 6; unfold PD.cells at k6; simp only [List.getElem?_toArray, List.getElem?_cons_zero, List.getElem?_cons_succ] at k6; have HO4 := Lib.hid hO4; have HB4 := Lib.hid hB4; have HPN := Lib.hid hpn; rw [← hpn]; clear hO4 hB4 hpn hpb4; dsimp only)))
    all_goals go_wp2_with fail
    all_goals go_meet
    all_goals exact ⟨_, _, _, _, HPN, HO4, HB4, rfl⟩
  case rest =>
    obtain ⟨w4, ap, pn, cp, HPN, HO4, HB4, hwc⟩ := hcut
    have hpb4 := HPB3.out.below HB4.out HPB3.out.lt
    have hbr4 := HBR3.out.below HB4.out HBR3.out.lt
    have hpb5 := hpb4.set 6 (.slice ap pn cp)
    have hprn : rb ≠ p := by have := HP.out.blk.lt; have := hrbw.out; omega
    have hbr5 := hbr4.far (p := ⟨p, 6, none⟩) hprn (.slice ap pn cp)
    obtain ⟨w5, hw5⟩ : ∃ w5, w5 = w4.setCell ⟨p, 6, none⟩ (.slice ap pn cp) := ⟨_, rfl⟩
    rw [← hw5] at hpb5 hbr5 hwc
    subst hwc
    have hB35 : Upon (fun g => g = p) w3 wc := by rw [hw5]; exact (Upon.of_below (P := fun g => g = p) HB4.out).set (p := ⟨p, 6, none⟩) (.inl rfl) _
    have hB05 : Upon (S.D p) w wc := ((Upon.of_below (P := S.D p) HB2.out).trans (HON3.out.2.2.mono (fun k hk => Or.inl hk)) (fun k hk => .inl hk)).trans (hB35.mono (fun k hk => Or.inr (Or.inl hk))) (fun k hk => .inl hk)
    have hO5 : wc.ownsRow B 9 1 S.vc S.ch.length (S.ch.map nv) := own_upon (own_upon (own_later HP.out.own HB2.out) HON3.out.2.2 HP.out.chq) hB35 (fun g hg e => HP.out.pv (by rw [← e]; exact hg))
    obtain ⟨va, vcp, hvc, _, _, _, _⟩ := own_shape hO5
    have hBd : Below wc.heap.size wc wc.drew := (Below.refl _ wc).drew
    have hwB : B ≤ wc.heap.size := by have := HP.out.on.low; have := hB05.size; omega
    obtain ⟨v', w6, hr6, hrow6, hg6, hat6⟩ := append_nv wc.drew 36 S.vc S.ch (own_later hO5 hBd) nm (by have := HP.out.chl; omega) hwB
    have hg6' : wc.grownBy w6 S.vc.ownBlock := grown_trans grown_drew hg6
    rw [HSN.out] at hr6
    have q7 : wc.drew.cell? ⟨p, 7, none⟩ = some S.vc := hpb5.cell 7
    have q7b : (wc.alloc (.cells #[.string sn] 9)).cell? ⟨p, 7, none⟩ = some S.vc := (hpb5.alloc _).cell 7
    have r1 : wc.cell? ⟨rb, 1, none⟩ = some (.string sn) := hbr5.cell 1
    have hpb6 := hpb5.grown hg6' (fun e => HP.out.pv e.symm)
    have k7 : w6.cell? ⟨p, 7, none⟩ = some S.vc := hpb6.cell 7
    have k8 : w6.cell? ⟨p, 8, none⟩ = some (.bool S.wt) := hpb6.cell 8
    have z7 := hpb6.frozen 7
    have z8 := hpb6.frozen 8
    obtain ⟨va2, vcp2, hvc2, _, _, _, _⟩ := own_shape hrow6
    have hend := HP.out.wrote (w3 := w3) (w4 := w4) (w5 := wc) (w6 := w6) (w7 := w6.setCell ⟨p, 7, none⟩ v') (w8 := (w6.setCell ⟨p, 7, none⟩ v').setCell ⟨p, 8, none⟩ (.bool true)) nm bnew h1 h2 HNEWL.out HB2.out HON3.out.1 HON3.out.2.1 HON3.out.2.2 HO4.out HB4.out (by rw [hw5, HPN.out]) hrow6 hg6' hat6 rfl rfl
    rw [hvc] at hr6 q7 q7b k7
    obtain ⟨swt, hswt⟩ : ∃ y, y = S.wt := ⟨_, rfl⟩
    rw [← hswt] at k8
    obtain ⟨vn, hvn⟩ : ∃ y, y = S.ch.length := ⟨_, rfl⟩
    rw [← hvn] at hr6 q7 q7b k7
    obtain ⟨vn2, hvn2⟩ : ∃ y, y = (S.ch ++ [nm]).length := ⟨_, rfl⟩
    rw [← hvn2] at hvc2
    subst hvc2
    have HEND := Lib.hid hend
    clear hend hrow6 hg6 hg6' hat6 hpb6 hvc hO5 hB05 hB35 hpb5 hbr5 hpb4 hbr4 hw5 hBd hswt hvn hvn2
    go_wp2_with fail
    go_region_law ((first | (refine step_append_run rfl (.tmp 90) (.tmp 93) 36 36 rfl _ _ rfl rfl hr6 ?_)))
    all_goals go_wp2_with fail
    all_goals go_ret
    all_goals exact ⟨rfl, HEND.out⟩
set_option maxHeartbeats 4000000 in
set_option maxRecDepth 100000 in
theorem play_k1n (h : Play B p cnt i w S) (hi : i ≤ 59) (nm b : List UInt8) (ab : Option Addr) (bc : Nat) (hb : Lies w ab (b.map bv)) (hbl : b.length ≤ 1000) (h1 : 1 ≤ nm.length) (h2 : nm.length ≤ 32) (hth : ¬ findP S.L nm < S.L.length) :
    Calls Tryz.prog 45 #[.pointer (some ⟨p, 0, none⟩), .agg #[.int .i64 1, nv nm, .slice ab b.length bc]] w fun e w' => e = .returned (.bool true) ∧ Step B p cnt (i + 1) S w w' := by
  obtain ⟨sn, hsn⟩ : ∃ s : ByteArray, nv nm = .string s := ⟨_, rfl⟩
  have hss : sn.size = nm.length := size_sv (show sv nm = .string sn from hsn)
  obtain ⟨sb, hsb⟩ : ∃ s : ByteArray, nv b = .string s := ⟨_, rfl⟩
  have hsbs : sb.size = b.length := size_sv (show sv b = .string sb from hsb)
  obtain ⟨bn, hbn⟩ : ∃ n, n = b.length := ⟨_, rfl⟩
  obtain ⟨W1, hW1⟩ : ∃ W1, W1 = w.alloc (.cells #[.int .i64 1, .string sn, .slice ab bn bc] 48) := ⟨_, rfl⟩
  obtain ⟨rb, hrb⟩ : ∃ b, b = w.heap.size := ⟨_, rfl⟩
  have hB1 : Below w.heap.size w W1 := by rw [hW1]; exact (Below.refl _ w).alloc (Nat.le_refl _) _
  have hbr : Blk W1 rb 48 #[.int .i64 1, .string sn, .slice ab bn bc] := by rw [hW1, hrb]; exact Blk.new w _ _
  have hP1 := h.later hB1
  have hfd : ∀ n', _ := fun n' => (hP1.later (drewN_below (Below.refl _ W1) n')).find (by omega) nm
  rw [hsn] at hfd
  rw [if_neg hth, decide_eq_false hth] at hfd
  have c6 := hP1.cells.2.2.2.2.2.2.1
  have r1 := hbr.cell 1
  simp only [List.getElem?_toArray, List.getElem?_cons_zero, List.getElem?_cons_succ] at r1
  obtain ⟨sL, hsL⟩ : ∃ y, y = S.L.length := ⟨_, rfl⟩
  obtain ⟨sa, hsa⟩ : ∃ y, y = S.an := ⟨_, rfl⟩
  obtain ⟨sc, hsc⟩ : ∃ y, y = S.nc := ⟨_, rfl⟩
  rw [← hsL, ← hsa, ← hsc] at c6 hfd
  have HP := Lib.hid h
  have HB := Lib.hid hb
  have HB1 := Lib.hid hB1
  have HBR := Lib.hid hbr
  have HFD := Lib.hid hfd
  have HSN := Lib.hid hsn
  have HSB := Lib.hid hsb
  have HBN := Lib.hid hbn
  have HS := Lib.hid (And.intro hsL (And.intro hsa hsc))
  have hrbw := Lib.hid hrb
  have HTH := Lib.hid hth
  have g1 : decide ((0 : Int) < (sn.size : Int)) = true := decide_eq_true (by omega)
  have g1b : decide (0 < sn.size) = true := decide_eq_true (by omega)
  have g2 : decide ((sn.size : Int) ≤ 32) = true := decide_eq_true (by omega)
  have g2b : decide (sn.size ≤ 32) = true := decide_eq_true (by omega)
  rw [hsn, ← hbn]
  clear h hb hB1 hbr hP1 hfd hsn hsb hbn hsL hsa hsc hss hth
  go_enter Tryz.func45, Tryz.ntmps45
  go_wp2_with fail
  rw [← hW1, ← hrb]
  clear hW1 hrb
  go_quiet ((go_at_call 46; refine Calls.quiet_of_same (HFD.out _)))
  obtain ⟨V, hV⟩ : ∃ V, V = W1.drewN nq := ⟨_, rfl⟩
  have hBV : Below W1.heap.size W1 V := by rw [hV]; exact drewN_below (Below.refl _ _) _
  rw [← hV]
  clear hV HFD c6 r1
  have hB0V : Below w.heap.size w V := HB1.out.trans (hBV.mono HB1.out.size)
  have hPV := HP.out.later hB0V
  have hbrV := HBR.out.below hBV HBR.out.lt
  have r0 := hbrV.cell 0
  have r1 := hbrV.cell 1
  have r2 := hbrV.cell 2
  simp only [List.getElem?_toArray, List.getElem?_cons_zero, List.getElem?_cons_succ] at r0 r1 r2
  have c0 := hPV.cells.1
  have hcv := conv_any (vc := bc) (HB.out.later hB0V)
  rw [← HBN.out, HSB.out] at hcv
  obtain ⟨ss, hss⟩ : ∃ y, y = S.s := ⟨_, rfl⟩
  rw [← hss] at c0
  have hB2 : Below w.heap.size w V.drew := hB0V.drew
  have hwas := HP.out.wasle nm
  have hwr := on_append (hPV.later (Below.refl _ V).drew).on (by omega) nm h1 h2 ab bc b (HB.out.later hB2) (by omega)
  rw [HSN.out, ← HBN.out, ← hss] at hwr
  have HWR : Hid (Calls Tryz.prog 26 #[.pointer (some ⟨ss, 0, none⟩), .string sn, .slice ab bn bc] V.drew fun e w' => e = .returned (.int .i64 0) ∧ ∃ Q', On B S.s S.d S.g S.cm w' Q' S.m S.ver S.next S.fs (setC S.C nm (some (some ((ansF (nowF S.C S.H nm)).1 ++ b)))) S.H (i + 1) ∧ (∀ k, Q' k → S.Q k ∨ V.drew.heap.size ≤ k) ∧ Upon S.Q V.drew w') := Lib.hid (by rw [hss]; rw [hss] at hwr; exact hwr)
  have HPV := Lib.hid hPV
  have HB2 := Lib.hid hB2
  have HBRV := Lib.hid hbrV
  clear hPV hbrV hB0V hwr hss hB2 hBV
  go_wp2_with fail
  go_still_tail 8, (by kernel_rfl)
  change wpList _ _ _ _ _ V.drew
  have hltV := HPV.out.blk.lt
  obtain ⟨w2, hw2⟩ : ∃ w2, w2 = V.drew := ⟨_, rfl⟩
  have HBV2 : Hid (Below V.heap.size V w2) := Lib.hid (by rw [hw2]; exact (Below.refl _ V).drew)
  rw [← hw2] at HWR HB2 ⊢
  clear hw2
  go_wp2_with fail
  refine HWR.out.mono ?_
  rintro e w3 ⟨rfl, Q3, hon3, hq3, hu3⟩
  have hrq : ¬ S.Q rb := fun hk => by have := HP.out.on.lt rb hk; have := hrbw.out; omega
  have hbr3 := (HBRV.out.below HBV2.out HBRV.out.lt).upon hu3 hrq
  have hpb3 := (HPV.out.blk.below HBV2.out HPV.out.blk.lt).upon hu3 HP.out.pq
  have r0 := hbr3.cell 0
  have r1 := hbr3.cell 1
  have c6 := hpb3.cell 6
  have c7 := hpb3.cell 7
  unfold PD.cells at c6 c7
  simp only [List.getElem?_toArray, List.getElem?_cons_zero, List.getElem?_cons_succ] at r0 r1 c6 c7
  rw [← HS.out.1, ← HS.out.2.1, ← HS.out.2.2] at c6
  have hbo : (ansF (nowF S.C S.H nm)).1 = [] := by rw [HP.out.rowN.was nm, if_neg HTH.out]
  obtain ⟨bnew, hbnew⟩ : ∃ y, y = b := ⟨_, rfl⟩
  have hsnew : nv bnew = .string sb := by rw [hbnew]; exact HSB.out
  have hnewl : bnew.length ≤ 1000 * (i + 1) := by rw [hbnew]; omega
  rw [hbo, List.nil_append, ← hbnew] at hon3
  clear hbnew
  have hput := HP.out.put (by omega) HB2.out hu3 nm bnew (V := w3.drew) (Below.refl _ w3).drew
  rw [HSN.out, hsnew, ← HS.out.1, ← HS.out.2.1, ← HS.out.2.2] at hput
  have HPUT : Hid (Calls Tryz.prog 79 #[.slice sa sL sc, .string sn, .string sb] w3.drew fun e w' => ∃ a c, e = .returned (.slice a (putP S.L nm bnew).length c) ∧ w'.ownsRow w3.heap.size 69 2 (.slice a (putP S.L nm bnew).length c) (putP S.L nm bnew).length (flatP (putP S.L nm bnew)) ∧ Below w3.heap.size w3 w') := Lib.hid hput
  have HON3 := Lib.hid (And.intro hon3 (And.intro hq3 hu3))
  have HBR3 := Lib.hid hbr3
  have HPB3 := Lib.hid hpb3
  have HNEWL := Lib.hid hnewl
  clear hon3 hq3 hu3 hbr3 hpb3 hput hsnew hnewl HWR hcv c0 r2
  go_wp2_with fail
  go_cut [] (fun wx => ∃ (w4 : World) (ap : Option Addr) (pn cp : Nat), Hid (pn = (putP S.L nm bnew).length) ∧ Hid (w4.ownsRow w3.heap.size 69 2 (.slice ap (putP S.L nm bnew).length cp) (putP S.L nm bnew).length (flatP (putP S.L nm bnew))) ∧ Hid (Below w3.heap.size w3 w4) ∧ wx = w4.setCell ⟨p, 6, none⟩ (.slice ap pn cp))
  case first =>
    go_region_law ((first | (go_simp; go_at_call 79; refine HPUT.out.mono ?_; rintro e w4 ⟨ap, cp, rfl, hO4, hB4⟩; obtain ⟨pn, hpn⟩ : ∃ y, y = (putP S.L nm bnew).length := ⟨_, rfl⟩; have hpb4 := HPB3.out.below hB4 HPB3.out.lt; have z6 := hpb4.frozen 6; have k6 := hpb4.cell 6; unfold PD.cells at k6; simp only [List.getElem?_toArray, List.getElem?_cons_zero, List.getElem?_cons_succ] at k6; have HO4 := Lib.hid hO4; have HB4 := Lib.hid hB4; have HPN := Lib.hid hpn; rw [← hpn]; clear hO4 hB4 hpn hpb4; dsimp only)))
    all_goals go_wp2_with fail
    all_goals go_meet
    all_goals exact ⟨_, _, _, _, HPN, HO4, HB4, rfl⟩
  case rest =>
    obtain ⟨w4, ap, pn, cp, HPN, HO4, HB4, hwc⟩ := hcut
    have hpb4 := HPB3.out.below HB4.out HPB3.out.lt
    have hbr4 := HBR3.out.below HB4.out HBR3.out.lt
    have hpb5 := hpb4.set 6 (.slice ap pn cp)
    have hprn : rb ≠ p := by have := HP.out.blk.lt; have := hrbw.out; omega
    have hbr5 := hbr4.far (p := ⟨p, 6, none⟩) hprn (.slice ap pn cp)
    obtain ⟨w5, hw5⟩ : ∃ w5, w5 = w4.setCell ⟨p, 6, none⟩ (.slice ap pn cp) := ⟨_, rfl⟩
    rw [← hw5] at hpb5 hbr5 hwc
    subst hwc
    have hB35 : Upon (fun g => g = p) w3 wc := by rw [hw5]; exact (Upon.of_below (P := fun g => g = p) HB4.out).set (p := ⟨p, 6, none⟩) (.inl rfl) _
    have hB05 : Upon (S.D p) w wc := ((Upon.of_below (P := S.D p) HB2.out).trans (HON3.out.2.2.mono (fun k hk => Or.inl hk)) (fun k hk => .inl hk)).trans (hB35.mono (fun k hk => Or.inr (Or.inl hk))) (fun k hk => .inl hk)
    have hO5 : wc.ownsRow B 9 1 S.vc S.ch.length (S.ch.map nv) := own_upon (own_upon (own_later HP.out.own HB2.out) HON3.out.2.2 HP.out.chq) hB35 (fun g hg e => HP.out.pv (by rw [← e]; exact hg))
    obtain ⟨va, vcp, hvc, _, _, _, _⟩ := own_shape hO5
    have hBd : Below wc.heap.size wc wc.drew := (Below.refl _ wc).drew
    have hwB : B ≤ wc.heap.size := by have := HP.out.on.low; have := hB05.size; omega
    obtain ⟨v', w6, hr6, hrow6, hg6, hat6⟩ := append_nv wc.drew 36 S.vc S.ch (own_later hO5 hBd) nm (by have := HP.out.chl; omega) hwB
    have hg6' : wc.grownBy w6 S.vc.ownBlock := grown_trans grown_drew hg6
    rw [HSN.out] at hr6
    have q7 : wc.drew.cell? ⟨p, 7, none⟩ = some S.vc := hpb5.cell 7
    have q7b : (wc.alloc (.cells #[.string sn] 9)).cell? ⟨p, 7, none⟩ = some S.vc := (hpb5.alloc _).cell 7
    have r1 : wc.cell? ⟨rb, 1, none⟩ = some (.string sn) := hbr5.cell 1
    have hpb6 := hpb5.grown hg6' (fun e => HP.out.pv e.symm)
    have k7 : w6.cell? ⟨p, 7, none⟩ = some S.vc := hpb6.cell 7
    have k8 : w6.cell? ⟨p, 8, none⟩ = some (.bool S.wt) := hpb6.cell 8
    have z7 := hpb6.frozen 7
    have z8 := hpb6.frozen 8
    obtain ⟨va2, vcp2, hvc2, _, _, _, _⟩ := own_shape hrow6
    have hend := HP.out.wrote (w3 := w3) (w4 := w4) (w5 := wc) (w6 := w6) (w7 := w6.setCell ⟨p, 7, none⟩ v') (w8 := (w6.setCell ⟨p, 7, none⟩ v').setCell ⟨p, 8, none⟩ (.bool true)) nm bnew h1 h2 HNEWL.out HB2.out HON3.out.1 HON3.out.2.1 HON3.out.2.2 HO4.out HB4.out (by rw [hw5, HPN.out]) hrow6 hg6' hat6 rfl rfl
    rw [hvc] at hr6 q7 q7b k7
    obtain ⟨swt, hswt⟩ : ∃ y, y = S.wt := ⟨_, rfl⟩
    rw [← hswt] at k8
    obtain ⟨vn, hvn⟩ : ∃ y, y = S.ch.length := ⟨_, rfl⟩
    rw [← hvn] at hr6 q7 q7b k7
    obtain ⟨vn2, hvn2⟩ : ∃ y, y = (S.ch ++ [nm]).length := ⟨_, rfl⟩
    rw [← hvn2] at hvc2
    subst hvc2
    have HEND := Lib.hid hend
    clear hend hrow6 hg6 hg6' hat6 hpb6 hvc hO5 hB05 hB35 hpb5 hbr5 hpb4 hbr4 hw5 hBd hswt hvn hvn2
    go_wp2_with fail
    go_region_law ((first | (refine step_append_run rfl (.tmp 90) (.tmp 93) 36 36 rfl _ _ rfl rfl hr6 ?_)))
    all_goals go_wp2_with fail
    all_goals go_ret
    all_goals exact ⟨rfl, HEND.out⟩
set_option maxHeartbeats 4000000 in
set_option maxRecDepth 100000 in
theorem play_k0_bad (h : Play B p cnt i w S) (hi : i ≤ 59) (nm b : List UInt8) (ab : Option Addr) (bc : Nat) (hb : Lies w ab (b.map bv)) (hbl : b.length ≤ 1000) (hbad : nm.length = 0 ∨ 32 < nm.length) (hn100 : nm.length ≤ 100) :
    Calls Tryz.prog 45 #[.pointer (some ⟨p, 0, none⟩), .agg #[.int .i64 0, nv nm, .slice ab b.length bc]] w fun e w' => e = .returned (.bool true) ∧ Step B p cnt (i + 1) S w w' := by
  obtain ⟨sn, hsn⟩ : ∃ s : ByteArray, nv nm = .string s := ⟨_, rfl⟩
  have hss : sn.size = nm.length := size_sv (show sv nm = .string sn from hsn)
  obtain ⟨sb, hsb⟩ : ∃ s : ByteArray, nv b = .string s := ⟨_, rfl⟩
  have hsbs : sb.size = b.length := size_sv (show sv b = .string sb from hsb)
  obtain ⟨bn, hbn⟩ : ∃ n, n = b.length := ⟨_, rfl⟩
  obtain ⟨W1, hW1⟩ : ∃ W1, W1 = w.alloc (.cells #[.int .i64 0, .string sn, .slice ab bn bc] 48) := ⟨_, rfl⟩
  obtain ⟨rb, hrb⟩ : ∃ b, b = w.heap.size := ⟨_, rfl⟩
  have hB1 : Below w.heap.size w W1 := by rw [hW1]; exact (Below.refl _ w).alloc (Nat.le_refl _) _
  have hbr : Blk W1 rb 48 #[.int .i64 0, .string sn, .slice ab bn bc] := by rw [hW1, hrb]; exact Blk.new w _ _
  have hP1 := h.later hB1
  have hfd : ∀ n', _ := fun n' => (hP1.later (drewN_below (Below.refl _ W1) n')).find (by omega) nm
  rw [hsn] at hfd
  obtain ⟨fi, hfi⟩ : ∃ y : Int, y = (if findP S.L nm < S.L.length then (findP S.L nm : Int) else 0) := ⟨_, rfl⟩
  obtain ⟨tf, htf⟩ : ∃ y, y = decide (findP S.L nm < S.L.length) := ⟨_, rfl⟩
  rw [← hfi, ← htf] at hfd
  clear hfi htf
  have c6 := hP1.cells.2.2.2.2.2.2.1
  have r1 := hbr.cell 1
  simp only [List.getElem?_toArray, List.getElem?_cons_zero, List.getElem?_cons_succ] at r1
  obtain ⟨sL, hsL⟩ : ∃ y, y = S.L.length := ⟨_, rfl⟩
  obtain ⟨sa, hsa⟩ : ∃ y, y = S.an := ⟨_, rfl⟩
  obtain ⟨sc, hsc⟩ : ∃ y, y = S.nc := ⟨_, rfl⟩
  rw [← hsL, ← hsa, ← hsc] at c6 hfd
  have HP := Lib.hid h
  have HB := Lib.hid hb
  have HB1 := Lib.hid hB1
  have HBR := Lib.hid hbr
  have HFD := Lib.hid hfd
  have HSN := Lib.hid hsn
  have HSB := Lib.hid hsb
  have HBN := Lib.hid hbn
  have HS := Lib.hid (And.intro hsL (And.intro hsa hsc))
  have hrbw := Lib.hid hrb
  have hg : (decide ((0 : Int) < (sn.size : Int)) = false ∧ decide (0 < sn.size) = false) ∨ (decide ((0 : Int) < (sn.size : Int)) = true ∧ decide (0 < sn.size) = true ∧ decide ((sn.size : Int) ≤ 32) = false ∧ decide (sn.size ≤ 32) = false) := by
    rcases hbad with h0 | h0
    · exact .inl ⟨decide_eq_false (by omega), decide_eq_false (by omega)⟩
    · exact .inr ⟨decide_eq_true (by omega), decide_eq_true (by omega), decide_eq_false (by omega), decide_eq_false (by omega)⟩
  rw [hsn, ← hbn]
  clear h hb hB1 hbr hP1 hfd hsn hsb hbn hsL hsa hsc hss
  go_enter Tryz.func45, Tryz.ntmps45
  go_wp2_with fail
  rw [← hW1, ← hrb]
  clear hW1 hrb
  go_quiet ((go_at_call 46; refine Calls.quiet_of_same (HFD.out _)))
  obtain ⟨V, hV⟩ : ∃ V, V = W1.drewN nq := ⟨_, rfl⟩
  have hBV : Below W1.heap.size W1 V := by rw [hV]; exact drewN_below (Below.refl _ _) _
  rw [← hV]
  clear hV HFD c6 r1
  have hB0V : Below w.heap.size w V := HB1.out.trans (hBV.mono HB1.out.size)
  have hPV := HP.out.later hB0V
  have hbrV := HBR.out.below hBV HBR.out.lt
  have r0 := hbrV.cell 0
  have r1 := hbrV.cell 1
  have r2 := hbrV.cell 2
  simp only [List.getElem?_toArray, List.getElem?_cons_zero, List.getElem?_cons_succ] at r0 r1 r2
  have c0 := hPV.cells.1
  have hcv := conv_any (vc := bc) (HB.out.later hB0V)
  rw [← HBN.out, HSB.out] at hcv
  obtain ⟨ss, hss⟩ : ∃ y, y = S.s := ⟨_, rfl⟩
  rw [← hss] at c0
  have hB2 : Below w.heap.size w V.drew := hB0V.drew
  have hwr := (on_write_name (hPV.later (Below.refl _ V).drew).on nm hbad ab bn bc).mono (R' := fun e w' => e = .returned (.int .i64 8) ∧ Below V.drew.heap.size V.drew w') (fun e w' hh => ⟨hh.1, by rw [hh.2]; exact Below.refl _ _⟩)
  rw [HSN.out, ← hss] at hwr
  have HWR : Hid (Calls Tryz.prog 11 #[.pointer (some ⟨ss, 0, none⟩), .string sn, .slice ab bn bc] V.drew fun e w' => e = .returned (.int .i64 8) ∧ Below V.drew.heap.size V.drew w') := Lib.hid hwr
  have HPV := Lib.hid hPV
  have HB2 := Lib.hid hB2
  have HBRV := Lib.hid hbrV
  clear hPV hbrV hB0V hwr hss hB2 hBV
  all_goals
    rcases hg with ⟨g1, g1b⟩ | ⟨g1, g1b, g2, g2b⟩
    all_goals
      go_wp2_with fail
      go_still_tail 8, (by kernel_rfl)
      change wpList _ _ _ _ _ V.drew
      go_wp2_with fail
      refine HWR.out.mono ?_
      rintro e w3 ⟨rfl, hB3⟩
      have HEND := Lib.hid (HP.out.same (j := i + 1) (by omega) (HB2.out.trans (hB3.mono HB2.out.size)))
      clear hB3
      go_wp2_with fail
      go_ret
      exact ⟨rfl, HEND.out⟩
set_option maxHeartbeats 4000000 in
set_option maxRecDepth 100000 in
theorem play_k1n_bad (h : Play B p cnt i w S) (hi : i ≤ 59) (nm b : List UInt8) (ab : Option Addr) (bc : Nat) (hb : Lies w ab (b.map bv)) (hbl : b.length ≤ 1000) (hbad : nm.length = 0 ∨ 32 < nm.length) (hn100 : nm.length ≤ 100) :
    Calls Tryz.prog 45 #[.pointer (some ⟨p, 0, none⟩), .agg #[.int .i64 1, nv nm, .slice ab b.length bc]] w fun e w' => e = .returned (.bool true) ∧ Step B p cnt (i + 1) S w w' := by
  obtain ⟨sn, hsn⟩ : ∃ s : ByteArray, nv nm = .string s := ⟨_, rfl⟩
  have hss : sn.size = nm.length := size_sv (show sv nm = .string sn from hsn)
  obtain ⟨sb, hsb⟩ : ∃ s : ByteArray, nv b = .string s := ⟨_, rfl⟩
  have hsbs : sb.size = b.length := size_sv (show sv b = .string sb from hsb)
  obtain ⟨bn, hbn⟩ : ∃ n, n = b.length := ⟨_, rfl⟩
  obtain ⟨W1, hW1⟩ : ∃ W1, W1 = w.alloc (.cells #[.int .i64 1, .string sn, .slice ab bn bc] 48) := ⟨_, rfl⟩
  obtain ⟨rb, hrb⟩ : ∃ b, b = w.heap.size := ⟨_, rfl⟩
  have hB1 : Below w.heap.size w W1 := by rw [hW1]; exact (Below.refl _ w).alloc (Nat.le_refl _) _
  have hbr : Blk W1 rb 48 #[.int .i64 1, .string sn, .slice ab bn bc] := by rw [hW1, hrb]; exact Blk.new w _ _
  have hP1 := h.later hB1
  have hfd : ∀ n', _ := fun n' => (hP1.later (drewN_below (Below.refl _ W1) n')).find (by omega) nm
  rw [hsn] at hfd
  have hth : ¬ findP S.L nm < S.L.length := fun hc => by
    have hne := (h.rowN.find nm).1.1 hc
    cases hn : nowF S.C S.H nm with
    | none => exact hne hn
    | some y =>
      have := (h.each (nm, y) ((h.rowN.mem nm y).2 hn)).1
      dsimp only at this
      omega
  rw [if_neg hth, decide_eq_false hth] at hfd
  have c6 := hP1.cells.2.2.2.2.2.2.1
  have r1 := hbr.cell 1
  simp only [List.getElem?_toArray, List.getElem?_cons_zero, List.getElem?_cons_succ] at r1
  obtain ⟨sL, hsL⟩ : ∃ y, y = S.L.length := ⟨_, rfl⟩
  obtain ⟨sa, hsa⟩ : ∃ y, y = S.an := ⟨_, rfl⟩
  obtain ⟨sc, hsc⟩ : ∃ y, y = S.nc := ⟨_, rfl⟩
  rw [← hsL, ← hsa, ← hsc] at c6 hfd
  have HP := Lib.hid h
  have HB := Lib.hid hb
  have HB1 := Lib.hid hB1
  have HBR := Lib.hid hbr
  have HFD := Lib.hid hfd
  have HSN := Lib.hid hsn
  have HSB := Lib.hid hsb
  have HBN := Lib.hid hbn
  have HS := Lib.hid (And.intro hsL (And.intro hsa hsc))
  have hrbw := Lib.hid hrb
  have HTH := Lib.hid hth
  have hg : (decide ((0 : Int) < (sn.size : Int)) = false ∧ decide (0 < sn.size) = false) ∨ (decide ((0 : Int) < (sn.size : Int)) = true ∧ decide (0 < sn.size) = true ∧ decide ((sn.size : Int) ≤ 32) = false ∧ decide (sn.size ≤ 32) = false) := by
    rcases hbad with h0 | h0
    · exact .inl ⟨decide_eq_false (by omega), decide_eq_false (by omega)⟩
    · exact .inr ⟨decide_eq_true (by omega), decide_eq_true (by omega), decide_eq_false (by omega), decide_eq_false (by omega)⟩
  rw [hsn, ← hbn]
  clear h hb hB1 hbr hP1 hfd hsn hsb hbn hsL hsa hsc hss hth
  go_enter Tryz.func45, Tryz.ntmps45
  go_wp2_with fail
  rw [← hW1, ← hrb]
  clear hW1 hrb
  go_quiet ((go_at_call 46; refine Calls.quiet_of_same (HFD.out _)))
  obtain ⟨V, hV⟩ : ∃ V, V = W1.drewN nq := ⟨_, rfl⟩
  have hBV : Below W1.heap.size W1 V := by rw [hV]; exact drewN_below (Below.refl _ _) _
  rw [← hV]
  clear hV HFD c6 r1
  have hB0V : Below w.heap.size w V := HB1.out.trans (hBV.mono HB1.out.size)
  have hPV := HP.out.later hB0V
  have hbrV := HBR.out.below hBV HBR.out.lt
  have r0 := hbrV.cell 0
  have r1 := hbrV.cell 1
  have r2 := hbrV.cell 2
  simp only [List.getElem?_toArray, List.getElem?_cons_zero, List.getElem?_cons_succ] at r0 r1 r2
  have c0 := hPV.cells.1
  have hcv := conv_any (vc := bc) (HB.out.later hB0V)
  rw [← HBN.out, HSB.out] at hcv
  obtain ⟨ss, hss⟩ : ∃ y, y = S.s := ⟨_, rfl⟩
  rw [← hss] at c0
  have hB2 : Below w.heap.size w V.drew := hB0V.drew
  have hwas := HP.out.wasle nm
  have hwr := on_append_name (hPV.later (Below.refl _ V).drew).on nm hbad (by omega) ab bc b (HB.out.later hB2) (by omega)
  rw [← HBN.out] at hwr
  rw [HSN.out, ← hss] at hwr
  have HWR : Hid (Calls Tryz.prog 26 #[.pointer (some ⟨ss, 0, none⟩), .string sn, .slice ab bn bc] V.drew fun e w' => e = .returned (.int .i64 8) ∧ Below V.drew.heap.size V.drew w') := Lib.hid hwr
  have HPV := Lib.hid hPV
  have HB2 := Lib.hid hB2
  have HBRV := Lib.hid hbrV
  clear hPV hbrV hB0V hwr hss hB2 hBV
  all_goals
    rcases hg with ⟨g1, g1b⟩ | ⟨g1, g1b, g2, g2b⟩
    all_goals
      go_wp2_with fail
      go_still_tail 8, (by kernel_rfl)
      change wpList _ _ _ _ _ V.drew
      go_wp2_with fail
      refine HWR.out.mono ?_
      rintro e w3 ⟨rfl, hB3⟩
      have HEND := Lib.hid (HP.out.same (j := i + 1) (by omega) (HB2.out.trans (hB3.mono HB2.out.size)))
      clear hB3
      go_wp2_with fail
      go_ret
      exact ⟨rfl, HEND.out⟩
end Go.Proofs.YtbfochdoeibofaaGreatDoor.Full

/- palmerlaw10: a play's changes: Remove and Forget. -/
namespace Go.Proofs.YtbfochdoeibofaaGreatDoor.Full
open Go.RowKit Go.Deep Mem Crc Go.Maps Go.Proofs.YtbfochdoeibofaaGreatDoor.Dk Go.Proofs.YtbfochdoeibofaaGreatDoor.Mani Go.Proofs.YtbfochdoeibofaaGreatDoor.RefF
open Go.Proofs.YtbfochdoeibofaaGreatDoor.Store (Chg none' nv Files setC setC_same setC_other)
open Go.Proofs.YtbfochdoeibofaaGreatDoor.Ext (Tab)

variable {B p cnt i : Nat} {w w' : World} {S : PD}
theorem Play.removed (h : Play B p cnt i w S) {w2 w3 w4 w5 w8 : World} (nm : List UInt8) (hB2 : Below w.heap.size w w2) {Q3 : Nat → Prop}
    (hon : On B S.s S.d S.g S.cm w3 Q3 S.m S.ver S.next S.fs (setC S.C nm (some none)) S.H (i + 1)) (hq3 : ∀ k, Q3 k → S.Q k ∨ w2.heap.size ≤ k) (hu3 : Upon S.Q w2 w3)
    {ap : Option Addr} {cp : Nat} (hput : w4.ownsRow w3.heap.size 69 2 (.slice ap (withoutP S.L nm).length cp) (withoutP S.L nm).length (flatP (withoutP S.L nm))) (hB4 : Below w3.heap.size w3 w4)
    (h5 : w5 = w4.setCell ⟨p, 6, none⟩ (.slice ap (withoutP S.L nm).length cp)) (h8 : w8 = w5.setCell ⟨p, 8, none⟩ (.bool true)) :
    Step B p cnt (i + 1) S w w8 := by
  have hlt3 := hon.lt
  have hz2 := hB2.size
  have hz3 := hu3.size
  have hz4 := hB4.size
  have hpl := h.blk.lt
  have hlow := h.on.low
  have hpb3 := (h.blk.below hB2 hpl).upon hu3 h.pq
  have hpb4 := hpb3.below hB4 hpb3.lt
  have hpb8 := (hpb4.set 6 (.slice ap (withoutP S.L nm).length cp)).set 8 (.bool true)
  rw [← h5, ← h8] at hpb8
  have hu48 : Upon (fun g => g = p) w4 w8 := by rw [h8, h5]; exact ((Upon.refl (fun g => g = p) w4).set (p := ⟨p, 6, none⟩) (.inl rfl) _).set (p := ⟨p, 8, none⟩) (.inl rfl) _
  have hu38 : Upon (fun g => g = p) w3 w8 := (Upon.of_below (P := fun g => g = p) hB4).trans hu48 (fun k hk => .inl hk)
  have hz38 := hu48.size
  have hpq3 : ¬ Q3 p := fun hk => (hq3 p hk).elim h.pq (fun h4 => by omega)
  have hvq3 : ∀ k, S.vc.ownBlock = some k → ¬ Q3 k := fun k hk hk2 => (hq3 k hk2).elim (h.chq k hk) (fun h4 => by have := (h.own.lt k hk).2; omega)
  have hpos := h.on.pos
  have hon8 := hon.keep hu38 (fun k hk => by
    rw [hk]
    exact ⟨hpq3, by have := h.pb; omega⟩)
  have hu8 : Upon (S.D p) w w8 := ((Upon.of_below (P := S.D p) hB2).trans (hu3.mono (fun k hk => Or.inl hk)) (fun k hk => .inl hk)).trans (hu38.mono (fun k hk => Or.inr (Or.inl hk))) (fun k hk => .inl hk)
  obtain ⟨a', c', e', hcap, hLp, hbp, _⟩ := own_shape hput
  injection e' with e1 e2 e3
  subst e1 e3
  have hnp : ∀ k, Mem.blk ap = some k → ¬ k = p := fun k hk => by
    have := hbp k hk
    have := hpb3.lt
    omega
  have hL8 : Lies w8 ap (flatP (withoutP S.L nm)) := hLp.upon hu48 hnp
  have hO8 : w8.ownsRow B 9 1 S.vc S.ch.length (S.ch.map nv) := own_upon (own_upon (own_later h.own hB2) hu3 h.chq) hu38 (fun g hg e => h.pv (by rw [← e]; exact hg))
  have hll := h.ll
  have hchl := h.chl
  have hwl : (withoutP S.L nm).length ≤ S.L.length := List.length_filter_le _ _
  refine h.next (j := i + 1) (Q' := Q3) (C' := setC S.C nm (some none)) (L' := withoutP S.L nm) (ch' := S.ch) (wt' := true) (an' := ap) (nc' := cp) (vc' := S.vc) hu8 (Nat.le_succ i) hon8 (fun k hk => (hq3 k hk).imp id (fun h4 => by omega)) hpb8 hvq3 (fun k hk => .inl hk) hO8 hL8 (fun k hk => ?_) (h.rowN.remove nm) ⟨fun x hx => ?_, fun x y hx => ?_⟩ ⟨fun e => (by cases e), fun hx => ?_⟩ (by omega) (by omega) (fun x hx => ?_) hcap
  · have h9 := hbp k hk
    refine ⟨fun hD => ?_, by omega, by omega⟩
    rcases hD with hD | hD | hD
    · have := hlt3 k hD; omega
    · exact hnp k hk hD
    · have := (h.own.lt k hD).2; omega
  · by_cases e : x = nm
    · rw [e, setC_same]
      simp
    · rw [setC_other _ e]
      exact h.chok.some_ x hx
  · by_cases e : x = nm
    · rw [e, setC_same] at hx
      cases hx
    · rw [setC_other _ e] at hx
      exact h.chok.all_ x y hx
  · have := hx nm
    rw [setC_same] at this
    cases this
  · have := h.each x (List.mem_filter.1 hx).1
    exact ⟨this.1, by omega⟩
theorem Play.forgot (h : Play B p cnt i w S) {w1 w2 w3 w8 : World} {nb : Nat}
    (hB1 : Below w.heap.size w w1) (hon : On B S.s S.d S.g S.cm w2 S.Q S.m S.ver S.next S.fs none' S.H 0) (hu2 : Upon S.Q w1 w2)
    (h3 : w3 = (w2.setCell ⟨p, 6, none⟩ (.slice S.ah S.LH.length S.hc)).alloc (.cells #[] 9)) (hnb : nb = w2.heap.size) (h8 : w8 = (w3.setCell ⟨p, 7, none⟩ (.slice (some ⟨nb, 0, none⟩) 0 0)).setCell ⟨p, 8, none⟩ (.bool false)) :
    Step B p cnt (i + 1) S w w8 := by
  have hz1 := hB1.size
  have hz2 := hu2.size
  have hpl := h.blk.lt
  have hlow := h.on.low
  have hlt2 := hon.lt
  have hpb2 := (h.blk.below hB1 hpl).upon hu2 h.pq
  have hpbs := hpb2.set 6 (.slice S.ah S.LH.length S.hc)
  have hss : (w2.setCell ⟨p, 6, none⟩ (.slice S.ah S.LH.length S.hc)).heap.size = w2.heap.size := by simp [World.setCell]
  have hpb3 := hpbs.alloc (.cells #[] 9)
  rw [← h3] at hpb3
  have hpb8 := (hpb3.set 7 (.slice (some ⟨nb, 0, none⟩) 0 0)).set 8 (.bool false)
  rw [← h8] at hpb8
  have hu23 : Upon (fun g => g = p) w2 w3 := by rw [h3]; exact ((Upon.refl (fun g => g = p) w2).set (p := ⟨p, 6, none⟩) (.inl rfl) _).alloc _
  have hu38 : Upon (fun g => g = p) w3 w8 := by rw [h8]; exact ((Upon.refl (fun g => g = p) w3).set (p := ⟨p, 7, none⟩) (.inl rfl) _).set (p := ⟨p, 8, none⟩) (.inl rfl) _
  have hu28 := hu23.trans hu38 (fun k hk => .inl hk)
  have hO3 : w3.ownsRow B 9 1 (.slice (some ⟨nb, 0, none⟩) 0 0) 0 [] := by
    rw [h3, hnb, ← hss]
    exact World.ownsRow_lit _ #[] 0 (by rw [hss]; omega) (by decide) rfl
  have hO8 := own_upon hO3 hu38 (fun g hg e => by
    have e1 : nb = g := by simpa [Value.ownBlock] using hg
    have := hpb2.lt
    omega)
  have hpos := h.on.pos
  have hon8 := hon.keep hu28 (fun k hk => by
    rw [hk]
    exact ⟨h.pq, by have := h.pb; omega⟩)
  have hu8 : Upon (S.D p) w w8 := ((Upon.of_below (P := S.D p) hB1).trans (hu2.mono (fun k hk => Or.inl hk)) (fun k hk => .inl hk)).trans (hu28.mono (fun k hk => Or.inr (Or.inl hk))) (fun k hk => .inl hk)
  have hvb : ∀ k, (Value.slice (some ⟨nb, 0, none⟩) 0 0).ownBlock = some k → k = nb := fun k hk => by
    have : nb = k := by simpa [Value.ownBlock] using hk
    exact this.symm
  have hd : ∀ k, PD.D {S with Q := S.Q, C := none', L := S.LH, ch := [], wt := false, an := S.ah, nc := S.hc, vc := .slice (some ⟨nb, 0, none⟩) 0 0} p k → S.D p k ∨ w.heap.size ≤ k := fun k hk => by
    rcases hk with hk | rfl | hk
    · exact .inl (.inl hk)
    · exact .inl (.inr (.inl rfl))
    · have := hvb k hk
      exact .inr (by omega)
  obtain ⟨l1, l2⟩ := h.keepH hu8 hd
  have hlh := h.lh
  refine h.next (j := i + 1) (Q' := S.Q) (C' := none') (L' := S.LH) (ch' := []) (wt' := false) (an' := S.ah) (nc' := S.hc) (vc' := .slice (some ⟨nb, 0, none⟩) 0 0) hu8 (Nat.le_succ i) (hon8.mono (Nat.zero_le _)) (fun k hk => .inl hk) hpb8 (fun k hk hq => by have := hvb k hk; have := h.on.lt k hq; omega) (fun k hk => .inr (by have := hvb k hk; omega)) hO8 l1 l2 (by rw [nowF_none]; exact h.rowH) ⟨(fun x hx => (by cases hx)), (fun x b hx => (by cases hx))⟩ ⟨(fun _ _ => rfl), (fun _ => rfl)⟩ (Nat.zero_le _) (by omega) (fun x hx => ?_) h.capH
  have := h.eachH x hx
  exact ⟨this.1, by omega⟩
attribute [local go_sem] Oper.semAt_some
set_option maxHeartbeats 2000000 in
set_option maxRecDepth 100000 in
theorem play_forget (h : Play B p cnt i w S) (nm b : List UInt8) (ab : Option Addr) (bc : Nat) (kd : Int) (hk0 : (kd == 0) = false) (hk1 : (kd == 1) = false) (hk2 : (kd == 2) = false) (hi : i ≤ 59) :
    Calls Tryz.prog 45 #[.pointer (some ⟨p, 0, none⟩), .agg #[.int .i64 kd, nv nm, .slice ab b.length bc]] w fun e w' => e = .returned (.bool true) ∧ Step B p cnt (i + 1) S w w' := by
  obtain ⟨sn, hsn⟩ : ∃ s : ByteArray, nv nm = .string s := ⟨_, rfl⟩
  obtain ⟨bn, hbn⟩ : ∃ n, n = b.length := ⟨_, rfl⟩
  obtain ⟨W1, hW1⟩ : ∃ W1, W1 = w.alloc (.cells #[.int .i64 kd, .string sn, .slice ab bn bc] 48) := ⟨_, rfl⟩
  obtain ⟨rb, hrb⟩ : ∃ b, b = w.heap.size := ⟨_, rfl⟩
  have hB1 : Below w.heap.size w W1 := by rw [hW1]; exact (Below.refl _ w).alloc (Nat.le_refl _) _
  have hbr : Blk W1 rb 48 #[.int .i64 kd, .string sn, .slice ab bn bc] := by rw [hW1, hrb]; exact Blk.new w _ _
  have hP1 := h.later hB1
  have hfd : ∀ n', _ := fun n' => (hP1.later (drewN_below (Below.refl _ W1) n')).find (by omega) nm
  rw [hsn] at hfd
  obtain ⟨fi, hfi⟩ : ∃ y : Int, y = (if findP S.L nm < S.L.length then (findP S.L nm : Int) else 0) := ⟨_, rfl⟩
  obtain ⟨tf, htf⟩ : ∃ y, y = decide (findP S.L nm < S.L.length) := ⟨_, rfl⟩
  rw [← hfi, ← htf] at hfd
  clear hfi htf
  have c6 := hP1.cells.2.2.2.2.2.2.1
  have r1 := hbr.cell 1
  simp only [List.getElem?_toArray, List.getElem?_cons_zero, List.getElem?_cons_succ] at r1
  obtain ⟨sL, hsL⟩ : ∃ y, y = S.L.length := ⟨_, rfl⟩
  obtain ⟨sa, hsa⟩ : ∃ y, y = S.an := ⟨_, rfl⟩
  obtain ⟨sc, hsc⟩ : ∃ y, y = S.nc := ⟨_, rfl⟩
  rw [← hsL, ← hsa, ← hsc] at c6 hfd
  obtain ⟨gt, hgt⟩ : ∃ b, b = decide ((0 : Int) < (sn.size : Int)) := ⟨_, rfl⟩
  obtain ⟨gu, hgu⟩ : ∃ b, b = decide ((sn.size : Int) ≤ 32) := ⟨_, rfl⟩
  have HP := Lib.hid h
  have HB1 := Lib.hid hB1
  have HBR := Lib.hid hbr
  have HFD := Lib.hid hfd
  rw [hsn, ← hbn]
  clear h hB1 hbr hP1 hfd hsn hbn hsL hsa hsc
  go_enter Tryz.func45, Tryz.ntmps45
  go_wp2_with fail
  rw [← hW1, ← hrb]
  have hrbw := Lib.hid hrb
  clear hW1 hrb
  go_quiet ((go_at_call 46; refine Calls.quiet_of_same (HFD.out _)))
  obtain ⟨V, hV⟩ : ∃ V, V = W1.drewN nq := ⟨_, rfl⟩
  have hBV : Below W1.heap.size W1 V := by rw [hV]; exact drewN_below (Below.refl _ _) _
  rw [← hV]
  clear hV HFD c6 r1
  have hB0V : Below w.heap.size w V := HB1.out.trans (hBV.mono HB1.out.size)
  have hPV := HP.out.later hB0V
  have hbrV := HBR.out.below hBV HBR.out.lt
  have r0 := hbrV.cell 0
  have r1 := hbrV.cell 1
  simp only [List.getElem?_toArray, List.getElem?_cons_zero, List.getElem?_cons_succ] at r0 r1
  have c0 := hPV.cells.1
  have hfg := on_forget hPV.on
  obtain ⟨ss, hss⟩ : ∃ y, y = S.s := ⟨_, rfl⟩
  have HFG : Hid (Calls Tryz.prog 24 #[.pointer (some ⟨ss, 0, none⟩)] V fun e w' => e = .returned (.tuple #[]) ∧ On B S.s S.d S.g S.cm w' S.Q S.m S.ver S.next S.fs none' S.H 0 ∧ Upon S.Q V w') := Lib.hid (by rw [hss]; exact hfg)
  rw [← hss] at c0
  have HPV := Lib.hid hPV
  have HB0V := Lib.hid hB0V
  clear hPV hbrV hfg hss hB0V hBV
  go_wp2_with fail
  all_goals
    refine HFG.out.mono ?_
    rintro e w2 ⟨rfl, hon2, hu2⟩
    have hpb2 := HPV.out.blk.upon hu2 HP.out.pq
    have k5 := hpb2.cell 5
    have k6 := hpb2.cell 6
    have k7 := hpb2.cell 7
    have k8 := hpb2.cell 8
    have z6 := hpb2.frozen 6
    unfold PD.cells at k5 k6 k7 k8
    simp only [List.getElem?_toArray, List.getElem?_cons_zero, List.getElem?_cons_succ] at k5 k6 k7 k8
    obtain ⟨la, hla⟩ : ∃ y, y = S.ah := ⟨_, rfl⟩
    obtain ⟨ln, hln⟩ : ∃ y, y = S.LH.length := ⟨_, rfl⟩
    obtain ⟨lc, hlc⟩ : ∃ y, y = S.hc := ⟨_, rfl⟩
    rw [← hla, ← hln, ← hlc] at k5
    have hpb3 := (hpb2.set 6 (.slice la ln lc)).alloc (.cells #[] 9)
    have j7 := hpb3.cell 7
    have j8 := hpb3.cell 8
    have y7 := hpb3.frozen 7
    have y8 := hpb3.frozen 8
    have e7 : (S.cells.setIfInBounds 6 (.slice la ln lc))[7]? = some S.vc := by unfold PD.cells; rfl
    have e8 : (S.cells.setIfInBounds 6 (.slice la ln lc))[8]? = some (.bool S.wt) := by unfold PD.cells; rfl
    rw [e7] at j7
    rw [e8] at j8
    obtain ⟨nb, hnb⟩ : ∃ b, b = w2.heap.size := ⟨_, rfl⟩
    have hend := HP.out.forgot (nb := nb) (w3 := (w2.setCell ⟨p, 6, none⟩ (.slice S.ah S.LH.length S.hc)).alloc (.cells #[] 9)) HB0V.out hon2 hu2 rfl hnb rfl
    rw [← hla, ← hln, ← hlc, hnb] at hend
    obtain ⟨vc, hvc⟩ : ∃ y, y = S.vc := ⟨_, rfl⟩
    obtain ⟨wt, hwt⟩ : ∃ y, y = S.wt := ⟨_, rfl⟩
    rw [← hvc] at j7 k7
    rw [← hwt] at j8 k8
    have HEND := Lib.hid hend
    clear hend hpb2 hpb3 e7 e8 hon2 hu2 hla hln hlc hnb hvc hwt HFG
    go_wp2_with fail
    go_ret
    exact ⟨rfl, HEND.out⟩
end Go.Proofs.YtbfochdoeibofaaGreatDoor.Full

/- palmerlaw10: a play's changes: the walks of Remove. Printed by gen/changes7.py. -/
namespace Go.Proofs.YtbfochdoeibofaaGreatDoor.Full
open Go.RowKit Go.Deep Mem Crc Go.Maps Go.Proofs.YtbfochdoeibofaaGreatDoor.Dk Go.Proofs.YtbfochdoeibofaaGreatDoor.Mani Go.Proofs.YtbfochdoeibofaaGreatDoor.RefF
open Go.Proofs.YtbfochdoeibofaaGreatDoor.Store (Chg none' nv Files setC setC_same setC_other)
open Go.Proofs.YtbfochdoeibofaaGreatDoor.Ext (Tab)

variable {B p cnt i : Nat} {w w' : World} {S : PD}
theorem Play.without (h : Play B p cnt i w S) (hi : i ≤ 60) {w2 w3 : World} (hB : Below w.heap.size w w2) (hu : Upon S.Q w2 w3) (nm : List UInt8) {V : World} (hV : Below w3.heap.size w3 V) : Calls Tryz.prog 80 #[.slice S.an S.L.length S.nc, nv nm] V fun e w' => ∃ a c, e = .returned (.slice a (withoutP S.L nm).length c) ∧ w'.ownsRow w3.heap.size 69 2 (.slice a (withoutP S.L nm).length c) (withoutP S.L nm).length (flatP (withoutP S.L nm)) ∧ Below w3.heap.size w3 w' :=
  (without_any S.an S.nc S.L nm V (((h.nl.later hB).upon hu (fun k hk hq => (h.na k hk).1 (.inl hq))).later hV) (by have := h.ll; omega)).mono (fun e w' hh => by
    obtain ⟨v, he, ho, hb⟩ := hh
    obtain ⟨a, c, rfl, _⟩ := own_shape ho
    exact ⟨a, c, he, own_mono ho hV.size, hV.trans (hb.mono hV.size)⟩)
attribute [local go_sem] Oper.semAt_some
set_option maxHeartbeats 4000000 in
set_option maxRecDepth 100000 in
theorem play_k2t (h : Play B p cnt i w S) (hi : i ≤ 59) (nm b : List UInt8) (ab : Option Addr) (bc : Nat) (hn100 : nm.length ≤ 100) (hth : findP S.L nm < S.L.length) :
    Calls Tryz.prog 45 #[.pointer (some ⟨p, 0, none⟩), .agg #[.int .i64 2, nv nm, .slice ab b.length bc]] w fun e w' => e = .returned (.bool true) ∧ Step B p cnt (i + 1) S w w' := by
  obtain ⟨sn, hsn⟩ : ∃ s : ByteArray, nv nm = .string s := ⟨_, rfl⟩
  have hss : sn.size = nm.length := size_sv (show sv nm = .string sn from hsn)
  obtain ⟨bn, hbn⟩ : ∃ n, n = b.length := ⟨_, rfl⟩
  have hne := (h.rowN.find nm).1
  have hnf := hne.1 hth
  have hnl : 1 ≤ nm.length ∧ nm.length ≤ 32 := by
    cases hn : nowF S.C S.H nm with
    | none => exact absurd hn hnf
    | some y => exact (h.each (nm, y) ((h.rowN.mem nm y).2 hn)).1
  have g1 : decide ((0 : Int) < (sn.size : Int)) = true := decide_eq_true (by omega)
  have g1b : decide (0 < sn.size) = true := decide_eq_true (by omega)
  have g2 : decide ((sn.size : Int) ≤ 32) = true := decide_eq_true (by omega)
  have g2b : decide (sn.size ≤ 32) = true := decide_eq_true (by omega)
  obtain ⟨W1, hW1⟩ : ∃ W1, W1 = w.alloc (.cells #[.int .i64 2, .string sn, .slice ab bn bc] 48) := ⟨_, rfl⟩
  obtain ⟨rb, hrb⟩ : ∃ b, b = w.heap.size := ⟨_, rfl⟩
  have hB1 : Below w.heap.size w W1 := by rw [hW1]; exact (Below.refl _ w).alloc (Nat.le_refl _) _
  have hbr : Blk W1 rb 48 #[.int .i64 2, .string sn, .slice ab bn bc] := by rw [hW1, hrb]; exact Blk.new w _ _
  have hP1 := h.later hB1
  have hfd : ∀ n', _ := fun n' => (hP1.later (drewN_below (Below.refl _ W1) n')).find (by omega) nm
  rw [hsn] at hfd
  rw [if_pos hth, decide_eq_true hth] at hfd
  obtain ⟨fi, hfi⟩ : ∃ y, y = findP S.L nm := ⟨_, rfl⟩
  rw [← hfi] at hfd
  have c6 := hP1.cells.2.2.2.2.2.2.1
  have r1 := hbr.cell 1
  simp only [List.getElem?_toArray, List.getElem?_cons_zero, List.getElem?_cons_succ] at r1
  obtain ⟨sL, hsL⟩ : ∃ y, y = S.L.length := ⟨_, rfl⟩
  obtain ⟨sa, hsa⟩ : ∃ y, y = S.an := ⟨_, rfl⟩
  obtain ⟨sc, hsc⟩ : ∃ y, y = S.nc := ⟨_, rfl⟩
  rw [← hsL, ← hsa, ← hsc] at c6 hfd
  have HP := Lib.hid h
  have HB1 := Lib.hid hB1
  have HBR := Lib.hid hbr
  have HFD := Lib.hid hfd
  have HSN := Lib.hid hsn
  have HNF := Lib.hid hnf
  have HS := Lib.hid (And.intro hsL (And.intro hsa hsc))
  have hrbw := Lib.hid hrb
  rw [hsn, ← hbn]
  clear h hB1 hbr hP1 hfd hsn hbn hsL hsa hsc hss hth hne hfi
  go_enter Tryz.func45, Tryz.ntmps45
  go_wp2_with fail
  rw [← hW1, ← hrb]
  clear hW1 hrb hnf
  go_quiet ((go_at_call 46; refine Calls.quiet_of_same (HFD.out _)))
  obtain ⟨V, hV⟩ : ∃ V, V = W1.drewN nq := ⟨_, rfl⟩
  have hBV : Below W1.heap.size W1 V := by rw [hV]; exact drewN_below (Below.refl _ _) _
  rw [← hV]
  clear hV HFD c6 r1
  have hB0V : Below w.heap.size w V := HB1.out.trans (hBV.mono HB1.out.size)
  have hPV := HP.out.later hB0V
  have hbrV := HBR.out.below hBV HBR.out.lt
  have r0 := hbrV.cell 0
  have r1 := hbrV.cell 1
  simp only [List.getElem?_toArray, List.getElem?_cons_zero, List.getElem?_cons_succ] at r0 r1
  have c0 := hPV.cells.1
  obtain ⟨ss, hss⟩ : ∃ y, y = S.s := ⟨_, rfl⟩
  rw [← hss] at c0
  have hB2 : Below w.heap.size w V.drew := hB0V.drew
  have hP2 := hPV.later (Below.refl _ V).drew
  have hwr := on_remove hP2.on (by omega) nm hnl.2 HNF.out
  rw [HSN.out] at hwr
  have HWR : Hid (Calls Tryz.prog 27 #[.pointer (some ⟨ss, 0, none⟩), .string sn] V.drew fun e w' => e = .returned (.int .i64 0) ∧ ∃ Q', On B S.s S.d S.g S.cm w' Q' S.m S.ver S.next S.fs (setC S.C nm (some none)) S.H (i + 1) ∧ (∀ k, Q' k → S.Q k ∨ V.drew.heap.size ≤ k) ∧ Upon S.Q V.drew w') := Lib.hid (by rw [hss]; exact hwr)
  have HPV := Lib.hid hPV
  have HB2 := Lib.hid hB2
  have HBRV := Lib.hid hbrV
  clear hPV hbrV hB0V hwr hss hB2 hBV hP2
  go_wp2_with fail
  go_still_tail 6, (by kernel_rfl)
  change wpList _ _ _ _ _ V.drew
  have hltV := HPV.out.blk.lt
  obtain ⟨w2, hw2⟩ : ∃ w2, w2 = V.drew := ⟨_, rfl⟩
  have HBV2 : Hid (Below V.heap.size V w2) := Lib.hid (by rw [hw2]; exact (Below.refl _ V).drew)
  rw [← hw2] at HWR HB2 ⊢
  clear hw2
  go_wp2_with fail
  refine HWR.out.mono ?_
  rintro e w3 ⟨rfl, Q3, hon3, hq3, hu3⟩
  have hrq : ¬ S.Q rb := fun hk => by have := HP.out.on.lt rb hk; have := hrbw.out; omega
  have hbr3 := (HBRV.out.below HBV2.out HBRV.out.lt).upon hu3 hrq
  have hpb3 := (HPV.out.blk.below HBV2.out HPV.out.blk.lt).upon hu3 HP.out.pq
  have r0 := hbr3.cell 0
  have r1 := hbr3.cell 1
  have c6 := hpb3.cell 6
  unfold PD.cells at c6
  simp only [List.getElem?_toArray, List.getElem?_cons_zero, List.getElem?_cons_succ] at r0 r1 c6
  rw [← HS.out.1, ← HS.out.2.1, ← HS.out.2.2] at c6
  have hput := HP.out.without (by omega) HB2.out hu3 nm (V := w3.drew) (Below.refl _ w3).drew
  rw [HSN.out, ← HS.out.1, ← HS.out.2.1, ← HS.out.2.2] at hput
  have HPUT : Hid (Calls Tryz.prog 80 #[.slice sa sL sc, .string sn] w3.drew fun e w' => ∃ a c, e = .returned (.slice a (withoutP S.L nm).length c) ∧ w'.ownsRow w3.heap.size 69 2 (.slice a (withoutP S.L nm).length c) (withoutP S.L nm).length (flatP (withoutP S.L nm)) ∧ Below w3.heap.size w3 w') := Lib.hid hput
  have HON3 := Lib.hid (And.intro hon3 (And.intro hq3 hu3))
  have HBR3 := Lib.hid hbr3
  have HPB3 := Lib.hid hpb3
  clear hon3 hq3 hu3 hbr3 hpb3 hput HWR c0
  go_wp2_with fail
  go_cut [] (fun wx => ∃ (w4 : World) (ap : Option Addr) (pn cp : Nat), Hid (pn = (withoutP S.L nm).length) ∧ Hid (w4.ownsRow w3.heap.size 69 2 (.slice ap (withoutP S.L nm).length cp) (withoutP S.L nm).length (flatP (withoutP S.L nm))) ∧ Hid (Below w3.heap.size w3 w4) ∧ wx = w4.setCell ⟨p, 6, none⟩ (.slice ap pn cp))
  case first =>
    go_region_law ((first | (go_simp; go_at_call 80; refine HPUT.out.mono ?_; rintro e w4 ⟨ap, cp, rfl, hO4, hB4⟩; obtain ⟨pn, hpn⟩ : ∃ y, y = (withoutP S.L nm).length := ⟨_, rfl⟩; have hpb4 := HPB3.out.below hB4 HPB3.out.lt; have z6 := hpb4.frozen 6; have k6 := hpb4.cell 6; unfold PD.cells at k6; simp only [List.getElem?_toArray, List.getElem?_cons_zero, List.getElem?_cons_succ] at k6; have HO4 := Lib.hid hO4; have HB4 := Lib.hid hB4; have HPN := Lib.hid hpn; rw [← hpn]; clear hO4 hB4 hpn hpb4; dsimp only)))
    all_goals go_wp2_with fail
    all_goals go_meet
    all_goals exact ⟨_, _, _, _, HPN, HO4, HB4, rfl⟩
  case rest =>
    obtain ⟨w4, ap, pn, cp, HPN, HO4, HB4, hwc⟩ := hcut
    have hpb4 := HPB3.out.below HB4.out HPB3.out.lt
    have hpb5 := hpb4.set 6 (.slice ap pn cp)
    have hwc2 := hwc
    rw [← hwc] at hpb5
    have k8 := hpb5.cell 8
    have z8 := hpb5.frozen 8
    have e8 : (S.cells.setIfInBounds 6 (.slice ap pn cp))[8]? = some (.bool S.wt) := by unfold PD.cells; rfl
    rw [e8] at k8
    obtain ⟨wt, hwt⟩ : ∃ y, y = S.wt := ⟨_, rfl⟩
    rw [← hwt] at k8
    have hend := HP.out.removed (w5 := wc) (w8 := wc.setCell ⟨p, 8, none⟩ (.bool true)) nm HB2.out HON3.out.1 HON3.out.2.1 HON3.out.2.2 HO4.out HB4.out (by rw [hwc, HPN.out]) rfl
    have HEND := Lib.hid hend
    clear hend hpb4 hpb5 hwc hwc2 e8 hwt
    go_wp2_with fail
    go_ret
    exact ⟨rfl, HEND.out⟩
set_option maxHeartbeats 4000000 in
set_option maxRecDepth 100000 in
theorem play_k2n (h : Play B p cnt i w S) (hi : i ≤ 59) (nm b : List UInt8) (ab : Option Addr) (bc : Nat) (hn100 : nm.length ≤ 100) (hth : ¬ findP S.L nm < S.L.length) :
    Calls Tryz.prog 45 #[.pointer (some ⟨p, 0, none⟩), .agg #[.int .i64 2, nv nm, .slice ab b.length bc]] w fun e w' => e = .returned (.bool true) ∧ Step B p cnt (i + 1) S w w' := by
  obtain ⟨sn, hsn⟩ : ∃ s : ByteArray, nv nm = .string s := ⟨_, rfl⟩
  have hss : sn.size = nm.length := size_sv (show sv nm = .string sn from hsn)
  obtain ⟨bn, hbn⟩ : ∃ n, n = b.length := ⟨_, rfl⟩
  have hne := (h.rowN.find nm).1
  have hnf : nowF S.C S.H nm = none := Classical.byContradiction fun hc => hth (hne.2 hc)
  have hg : (decide ((0 : Int) < (sn.size : Int)) = false ∧ decide (0 < sn.size) = false) ∨ (decide ((0 : Int) < (sn.size : Int)) = true ∧ decide (0 < sn.size) = true ∧ decide ((sn.size : Int) ≤ 32) = false ∧ decide (sn.size ≤ 32) = false) ∨ (decide ((0 : Int) < (sn.size : Int)) = true ∧ decide (0 < sn.size) = true ∧ decide ((sn.size : Int) ≤ 32) = true ∧ decide (sn.size ≤ 32) = true) := by
    by_cases h0 : sn.size = 0
    · exact .inl ⟨decide_eq_false (by omega), decide_eq_false (by omega)⟩
    · by_cases h1 : sn.size ≤ 32
      · exact .inr (.inr ⟨decide_eq_true (by omega), decide_eq_true (by omega), decide_eq_true (by omega), decide_eq_true (by omega)⟩)
      · exact .inr (.inl ⟨decide_eq_true (by omega), decide_eq_true (by omega), decide_eq_false (by omega), decide_eq_false (by omega)⟩)
  obtain ⟨W1, hW1⟩ : ∃ W1, W1 = w.alloc (.cells #[.int .i64 2, .string sn, .slice ab bn bc] 48) := ⟨_, rfl⟩
  obtain ⟨rb, hrb⟩ : ∃ b, b = w.heap.size := ⟨_, rfl⟩
  have hB1 : Below w.heap.size w W1 := by rw [hW1]; exact (Below.refl _ w).alloc (Nat.le_refl _) _
  have hbr : Blk W1 rb 48 #[.int .i64 2, .string sn, .slice ab bn bc] := by rw [hW1, hrb]; exact Blk.new w _ _
  have hP1 := h.later hB1
  have hfd : ∀ n', _ := fun n' => (hP1.later (drewN_below (Below.refl _ W1) n')).find (by omega) nm
  rw [hsn] at hfd
  rw [if_neg hth, decide_eq_false hth] at hfd
  have c6 := hP1.cells.2.2.2.2.2.2.1
  have r1 := hbr.cell 1
  simp only [List.getElem?_toArray, List.getElem?_cons_zero, List.getElem?_cons_succ] at r1
  obtain ⟨sL, hsL⟩ : ∃ y, y = S.L.length := ⟨_, rfl⟩
  obtain ⟨sa, hsa⟩ : ∃ y, y = S.an := ⟨_, rfl⟩
  obtain ⟨sc, hsc⟩ : ∃ y, y = S.nc := ⟨_, rfl⟩
  rw [← hsL, ← hsa, ← hsc] at c6 hfd
  have HP := Lib.hid h
  have HB1 := Lib.hid hB1
  have HBR := Lib.hid hbr
  have HFD := Lib.hid hfd
  have HSN := Lib.hid hsn
  have HNF := Lib.hid hnf
  have HS := Lib.hid (And.intro hsL (And.intro hsa hsc))
  have hrbw := Lib.hid hrb
  rw [hsn, ← hbn]
  clear h hB1 hbr hP1 hfd hsn hbn hsL hsa hsc hss hth hne
  go_enter Tryz.func45, Tryz.ntmps45
  go_wp2_with fail
  rw [← hW1, ← hrb]
  clear hW1 hrb hnf
  go_quiet ((go_at_call 46; refine Calls.quiet_of_same (HFD.out _)))
  obtain ⟨V, hV⟩ : ∃ V, V = W1.drewN nq := ⟨_, rfl⟩
  have hBV : Below W1.heap.size W1 V := by rw [hV]; exact drewN_below (Below.refl _ _) _
  rw [← hV]
  clear hV HFD c6 r1
  have hB0V : Below w.heap.size w V := HB1.out.trans (hBV.mono HB1.out.size)
  have hPV := HP.out.later hB0V
  have hbrV := HBR.out.below hBV HBR.out.lt
  have r0 := hbrV.cell 0
  have r1 := hbrV.cell 1
  simp only [List.getElem?_toArray, List.getElem?_cons_zero, List.getElem?_cons_succ] at r0 r1
  have c0 := hPV.cells.1
  obtain ⟨ss, hss⟩ : ∃ y, y = S.s := ⟨_, rfl⟩
  rw [← hss] at c0
  have hB2 : Below w.heap.size w V.drew := hB0V.drew
  have hP2 := hPV.later (Below.refl _ V).drew
  have hwr := on_remove_none hP2.on (by omega) nm HNF.out
  rw [HSN.out] at hwr
  have HWR : Hid (Calls Tryz.prog 27 #[.pointer (some ⟨ss, 0, none⟩), .string sn] V.drew fun e w' => e = .returned (.int .i64 8) ∧ Below V.drew.heap.size V.drew w') := Lib.hid (by rw [hss]; exact hwr)
  have HPV := Lib.hid hPV
  have HB2 := Lib.hid hB2
  have HBRV := Lib.hid hbrV
  clear hPV hbrV hB0V hwr hss hB2 hBV hP2
  rcases hg with ⟨g1, g1b⟩ | ⟨g1, g1b, g2, g2b⟩ | ⟨g1, g1b, g2, g2b⟩
  all_goals
    go_wp2_with fail
    go_still_tail 6, (by kernel_rfl)
    change wpList _ _ _ _ _ V.drew
    go_wp2_with fail
    refine HWR.out.mono ?_
    rintro e w3 ⟨rfl, hB3⟩
    have HEND := Lib.hid (HP.out.same (j := i + 1) (by omega) (HB2.out.trans (hB3.mono HB2.out.size)))
    clear hB3
    go_wp2_with fail
    go_ret
    exact ⟨rfl, HEND.out⟩
end Go.Proofs.YtbfochdoeibofaaGreatDoor.Full

/- palmerlaw10: a play's acts: any change; opened anew. -/
namespace Go.Proofs.YtbfochdoeibofaaGreatDoor.Full
open Go.RowKit Go.Deep Mem Crc Go.Maps Go.Proofs.YtbfochdoeibofaaGreatDoor.Dk Go.Proofs.YtbfochdoeibofaaGreatDoor.Mani Go.Proofs.YtbfochdoeibofaaGreatDoor.RefF
open Go.Proofs.YtbfochdoeibofaaGreatDoor.Store (Chg none' nv Files setC setC_same setC_other)
open Go.Proofs.YtbfochdoeibofaaGreatDoor.Ext (Tab)

variable {B p cnt i : Nat} {w w' : World} {S : PD}
theorem play_changes (h : Play B p cnt i w S) (hi : i ≤ 59) (kd : Int) (nm b : List UInt8) (ab : Option Addr) (bc : Nat) (hb : Lies w ab (b.map bv)) (hbl : b.length ≤ 1000) (hn : nm.length ≤ 100) :
    Calls Tryz.prog 45 #[.pointer (some ⟨p, 0, none⟩), .agg #[.int .i64 kd, nv nm, .slice ab b.length bc]] w fun e w' => e = .returned (.bool true) ∧ Step B p cnt (i + 1) S w w' := by
  by_cases hth : findP S.L nm < S.L.length
  · by_cases k0 : kd = 0
    · subst k0
      by_cases hg : 1 ≤ nm.length ∧ nm.length ≤ 32
      · exact play_k0 h hi nm b ab bc hb hbl hg.1 hg.2
      · exact play_k0_bad h hi nm b ab bc hb hbl (by omega) hn
    · by_cases k1 : kd = 1
      · subst k1
        by_cases hg : 1 ≤ nm.length ∧ nm.length ≤ 32
        · exact play_k1t h hi nm b ab bc hb hbl hg.1 hg.2 hth
        · exact play_k1n_bad h hi nm b ab bc hb hbl (by omega) hn
      · by_cases k2 : kd = 2
        · subst k2
          exact play_k2t h hi nm b ab bc hn hth
        · exact play_forget h nm b ab bc kd (by simpa using k0) (by simpa using k1) (by simpa using k2) hi
  · by_cases k0 : kd = 0
    · subst k0
      by_cases hg : 1 ≤ nm.length ∧ nm.length ≤ 32
      · exact play_k0 h hi nm b ab bc hb hbl hg.1 hg.2
      · exact play_k0_bad h hi nm b ab bc hb hbl (by omega) hn
    · by_cases k1 : kd = 1
      · subst k1
        by_cases hg : 1 ≤ nm.length ∧ nm.length ≤ 32
        · exact play_k1n h hi nm b ab bc hb hbl hg.1 hg.2 hth
        · exact play_k1n_bad h hi nm b ab bc hb hbl (by omega) hn
      · by_cases k2 : kd = 2
        · subst k2
          exact play_k2n h hi nm b ab bc hn hth
        · exact play_forget h nm b ab bc kd (by simpa using k0) (by simpa using k1) (by simpa using k2) hi
/-- A play whose store was opened anew. -/
theorem Play.opened (h : Play B p cnt i w S) {w1 w2 w3 w8 : World} {nb s' cm' : Nat} {Q' : Nat → Prop} {m' : DM}
    (hB1 : Below w.heap.size w w1) (hon : On B s' S.d S.g cm' w2 Q' m' S.ver S.next S.fs none' S.H 0) (hsl : Slots m'.bl S.ver S.next S.fs) (hlen : m'.bl.length = cnt) (hq2 : ∀ k, Q' k → S.Q k ∨ w1.heap.size ≤ k) (hu2 : Upon S.Q w1 w2)
    (h3 : w3 = ((w2.setCell ⟨p, 0, none⟩ (.pointer (some ⟨s', 0, none⟩))).setCell ⟨p, 6, none⟩ (.slice S.ah S.LH.length S.hc)).alloc (.cells #[] 9)) (hnb : nb = w2.heap.size) (h8 : w8 = (w3.setCell ⟨p, 7, none⟩ (.slice (some ⟨nb, 0, none⟩) 0 0)).setCell ⟨p, 8, none⟩ (.bool false)) :
    Step B p cnt (i + 1) S w w8 := by
  have hz1 := hB1.size
  have hz2 := hu2.size
  have hpl := h.blk.lt
  have hlow := h.on.low
  have hlt2 := hon.lt
  have hpb2 := (h.blk.below hB1 hpl).upon hu2 h.pq
  have hpbs := (hpb2.set 0 (.pointer (some ⟨s', 0, none⟩))).set 6 (.slice S.ah S.LH.length S.hc)
  have hss : ((w2.setCell ⟨p, 0, none⟩ (.pointer (some ⟨s', 0, none⟩))).setCell ⟨p, 6, none⟩ (.slice S.ah S.LH.length S.hc)).heap.size = w2.heap.size := by simp [World.setCell]
  have hpb3 := hpbs.alloc (.cells #[] 9)
  rw [← h3] at hpb3
  have hpb8 := (hpb3.set 7 (.slice (some ⟨nb, 0, none⟩) 0 0)).set 8 (.bool false)
  rw [← h8] at hpb8
  have hu23 : Upon (fun g => g = p) w2 w3 := by rw [h3]; exact (((Upon.refl (fun g => g = p) w2).set (p := ⟨p, 0, none⟩) (.inl rfl) _).set (p := ⟨p, 6, none⟩) (.inl rfl) _).alloc _
  have hu38 : Upon (fun g => g = p) w3 w8 := by rw [h8]; exact ((Upon.refl (fun g => g = p) w3).set (p := ⟨p, 7, none⟩) (.inl rfl) _).set (p := ⟨p, 8, none⟩) (.inl rfl) _
  have hu28 := hu23.trans hu38 (fun k hk => .inl hk)
  have hO3 : w3.ownsRow B 9 1 (.slice (some ⟨nb, 0, none⟩) 0 0) 0 [] := by
    rw [h3, hnb, ← hss]
    exact World.ownsRow_lit _ #[] 0 (by rw [hss]; omega) (by decide) rfl
  have hO8 := own_upon hO3 hu38 (fun g hg e => by
    have e1 : nb = g := by simpa [Value.ownBlock] using hg
    have := hpb2.lt
    omega)
  have hpos := h.on.pos
  have hpq : ¬ Q' p := fun hk => (hq2 p hk).elim h.pq (fun h4 => by omega)
  have hon8 := hon.keep hu28 (fun k hk => by
    rw [hk]
    exact ⟨hpq, by have := h.pb; omega⟩)
  have hu8 : Upon (S.D p) w w8 := ((Upon.of_below (P := S.D p) hB1).trans (hu2.mono (fun k hk => Or.inl hk)) (fun k hk => .inl hk)).trans (hu28.mono (fun k hk => Or.inr (Or.inl hk))) (fun k hk => .inl hk)
  have hvb : ∀ k, (Value.slice (some ⟨nb, 0, none⟩) 0 0).ownBlock = some k → k = nb := fun k hk => by
    have : nb = k := by simpa [Value.ownBlock] using hk
    exact this.symm
  have hq : ∀ k, Q' k → S.Q k ∨ w.heap.size ≤ k := fun k hk => (hq2 k hk).imp id (fun h4 => by omega)
  have hd : ∀ k, PD.D {S with s := s', cm := cm', Q := Q', m := m', C := none', L := S.LH, ch := [], wt := false, an := S.ah, nc := S.hc, vc := .slice (some ⟨nb, 0, none⟩) 0 0} p k → S.D p k ∨ w.heap.size ≤ k := fun k hk => by
    rcases hk with hk | rfl | hk
    · exact (hq k hk).imp (fun h1 => .inl h1) id
    · exact .inl (.inr (.inl rfl))
    · have := hvb k hk
      exact .inr (by omega)
  obtain ⟨l1, l2⟩ := h.keepH hu8 hd
  obtain ⟨f1, f2, f3⟩ := h.keepF hu8 hd
  have hm := h.mono (Nat.le_succ i)
  refine ⟨{S with s := s', cm := cm', Q := Q', m := m', C := none', L := S.LH, ch := [], wt := false, an := S.ah, nc := S.hc, vc := .slice (some ⟨nb, 0, none⟩) 0 0}, ?_, hd, hu8⟩
  exact ⟨hon8.mono (Nat.zero_le _), hsl, hlen, hpb8, hpq, h.pb, (fun k hk hq5 => by have := hvb k hk; have := hlt2 k hq5; omega), hO8, h.fl, f1, f2, f3, l1, l2, l1, l2, h.rowH, (by dsimp only; rw [nowF_none]; exact h.rowH), ⟨(fun x hx => (by cases hx)), (fun x b hx => (by cases hx))⟩, ⟨(fun _ _ => rfl), (fun _ => rfl)⟩, hm.vi, hm.ni, Nat.zero_le _, hm.lh, hm.lh, hm.eachH, hm.eachH, h.capH, h.capH⟩
/-- store.Open of a play's disk. -/
theorem Play.open (h : Play B p cnt i w S) : Calls Tryz.prog 23 #[.pointer (some ⟨S.d, 0, none⟩)] w fun e w' => ∃ s' cm' Q' m', e = .returned (.tuple #[.pointer (some ⟨s', 0, none⟩), .int .i64 0]) ∧ On B s' S.d S.g cm' w' Q' m' S.ver S.next S.fs none' S.H 0 ∧ Slots m'.bl S.ver S.next S.fs ∧ m'.bl.length = cnt ∧ (∀ k, Q' k → S.Q k ∨ w.heap.size ≤ k) ∧ Upon S.Q w w' := by
  have := on_open h.on h.slots
  rw [h.len] at this
  exact this
attribute [local go_sem] Oper.semAt_some
set_option maxHeartbeats 2000000 in
set_option maxRecDepth 100000 in
theorem play_does3 (h : Play B p cnt i w S) (hi : i ≤ 59) (nm : List UInt8) (bv_ : Value) (hbv : ∃ a k c, bv_ = .slice a k c) :
    Calls Tryz.prog 15 #[.pointer (some ⟨p, 0, none⟩), .agg #[.int .i64 3, nv nm, bv_]] w fun e w' => e = .returned (.bool true) ∧ Step B p cnt (i + 1) S w w' := by
  obtain ⟨ab, bn, bc, rfl⟩ := hbv
  obtain ⟨sn, hsn⟩ : ∃ s : ByteArray, nv nm = .string s := ⟨_, rfl⟩
  obtain ⟨W1, hW1⟩ : ∃ W1, W1 = w.alloc (.cells #[.int .i64 3, .string sn, .slice ab bn bc] 48) := ⟨_, rfl⟩
  have hB1 : Below w.heap.size w W1 := by rw [hW1]; exact (Below.refl _ w).alloc (Nat.le_refl _) _
  have HC := Lib.hid (play_commits (h.later hB1) hi)
  have HB1 := Lib.hid hB1
  rw [hsn]
  clear h hB1 hsn
  go_enter Tryz.func15, Tryz.ntmps15
  go_wp2_with fail
  rw [← hW1]
  clear hW1
  refine HC.out.mono ?_
  rintro e w1 ⟨k, rfl, hk, hS⟩
  have hk2 : (k != 6) = true := by simp only [bne, hk, Bool.not_false]
  have HS := Lib.hid (hS.above HB1.out)
  clear hS
  go_wp2_with fail
  go_ret
  exact ⟨rfl, HS.out⟩
end Go.Proofs.YtbfochdoeibofaaGreatDoor.Full

/- palmerlaw10: a play's acts: does. -/
namespace Go.Proofs.YtbfochdoeibofaaGreatDoor.Full
open Go.RowKit Go.Deep Mem Crc Go.Maps Go.Proofs.YtbfochdoeibofaaGreatDoor.Dk Go.Proofs.YtbfochdoeibofaaGreatDoor.Mani Go.Proofs.YtbfochdoeibofaaGreatDoor.RefF
open Go.Proofs.YtbfochdoeibofaaGreatDoor.Store (Chg none' nv Files setC setC_same setC_other)
open Go.Proofs.YtbfochdoeibofaaGreatDoor.Ext (Tab)

variable {B p cnt i : Nat} {w w' : World} {S : PD}
attribute [local go_sem] Oper.semAt_some
set_option maxHeartbeats 2000000 in
set_option maxRecDepth 100000 in
theorem play_does5 (h : Play B p cnt i w S) (hi : i ≤ 59) (nm : List UInt8) (ab : Option Addr) (bn bc : Nat) :
    Calls Tryz.prog 15 #[.pointer (some ⟨p, 0, none⟩), .agg #[.int .i64 5, nv nm, .slice ab bn bc]] w fun e w' => e = .returned (.bool true) ∧ Step B p cnt (i + 1) S w w' := by
  obtain ⟨sn, hsn⟩ : ∃ s : ByteArray, nv nm = .string s := ⟨_, rfl⟩
  obtain ⟨W1, hW1⟩ : ∃ W1, W1 = w.alloc (.cells #[.int .i64 5, .string sn, .slice ab bn bc] 48) := ⟨_, rfl⟩
  have hB1 : Below w.heap.size w W1 := by rw [hW1]; exact (Below.refl _ w).alloc (Nat.le_refl _) _
  have hP1 := h.later hB1
  have hop := hP1.open
  have c1 := hP1.cells.2.1
  obtain ⟨sd, hsd⟩ : ∃ y, y = S.d := ⟨_, rfl⟩
  rw [← hsd] at c1
  have HOP : Hid (Calls Tryz.prog 23 #[.pointer (some ⟨sd, 0, none⟩)] W1 fun e w' => ∃ s' cm' Q' m', e = .returned (.tuple #[.pointer (some ⟨s', 0, none⟩), .int .i64 0]) ∧ On B s' S.d S.g cm' w' Q' m' S.ver S.next S.fs none' S.H 0 ∧ Slots m'.bl S.ver S.next S.fs ∧ m'.bl.length = cnt ∧ (∀ k, Q' k → S.Q k ∨ W1.heap.size ≤ k) ∧ Upon S.Q W1 w') := Lib.hid (by rw [hsd]; exact hop)
  have HP := Lib.hid h
  have HP1 := Lib.hid hP1
  have HB1 := Lib.hid hB1
  rw [hW1] at c1
  rw [hsn]
  clear h hP1 hB1 hsn hop hsd
  go_enter Tryz.func15, Tryz.ntmps15
  go_wp2_with fail
  rw [← hW1]
  clear hW1 c1
  refine HOP.out.mono ?_
  rintro e w2 ⟨s', cm', Q', m', rfl, hon2, hsl2, hln2, hq2, hu2⟩
  have hpb2 := HP1.out.blk.upon hu2 HP.out.pq
  have k0 := hpb2.cell 0
  have k5 := hpb2.cell 5
  have k6 := hpb2.cell 6
  have z0 := hpb2.frozen 0
  have z6 := hpb2.frozen 6
  unfold PD.cells at k0 k5 k6
  simp only [List.getElem?_toArray, List.getElem?_cons_zero, List.getElem?_cons_succ] at k0 k5 k6
  obtain ⟨la, hla⟩ : ∃ y, y = S.ah := ⟨_, rfl⟩
  obtain ⟨ln, hln⟩ : ∃ y, y = S.LH.length := ⟨_, rfl⟩
  obtain ⟨lc, hlc⟩ : ∃ y, y = S.hc := ⟨_, rfl⟩
  rw [← hla, ← hln, ← hlc] at k5
  have hpb3 := ((hpb2.set 0 (.pointer (some ⟨s', 0, none⟩))).set 6 (.slice la ln lc)).alloc (.cells #[] 9)
  have j7 := hpb3.cell 7
  have j8 := hpb3.cell 8
  have y7 := hpb3.frozen 7
  have y8 := hpb3.frozen 8
  have e7 : ((S.cells.setIfInBounds 0 (.pointer (some ⟨s', 0, none⟩))).setIfInBounds 6 (.slice la ln lc))[7]? = some S.vc := by unfold PD.cells; rfl
  have e8 : ((S.cells.setIfInBounds 0 (.pointer (some ⟨s', 0, none⟩))).setIfInBounds 6 (.slice la ln lc))[8]? = some (.bool S.wt) := by unfold PD.cells; rfl
  rw [e7] at j7
  rw [e8] at j8
  obtain ⟨nb, hnb⟩ : ∃ b, b = w2.heap.size := ⟨_, rfl⟩
  have hend := HP.out.opened (nb := nb) (w3 := ((w2.setCell ⟨p, 0, none⟩ (.pointer (some ⟨s', 0, none⟩))).setCell ⟨p, 6, none⟩ (.slice S.ah S.LH.length S.hc)).alloc (.cells #[] 9)) HB1.out hon2 hsl2 hln2 hq2 hu2 rfl hnb rfl
  rw [← hla, ← hln, ← hlc, hnb] at hend
  obtain ⟨vc, hvc⟩ : ∃ y, y = S.vc := ⟨_, rfl⟩
  obtain ⟨wt, hwt⟩ : ∃ y, y = S.wt := ⟨_, rfl⟩
  rw [← hvc] at j7
  rw [← hwt] at j8
  have HEND := Lib.hid hend
  clear hend hpb2 hpb3 e7 e8 hon2 hsl2 hln2 hq2 hu2 hla hln hlc hnb hvc hwt HOP
  go_wp2_with fail
  go_ret
  exact ⟨rfl, HEND.out⟩
set_option maxHeartbeats 2000000 in
set_option maxRecDepth 100000 in
theorem play_doesC (h : Play B p cnt i w S) (hi : i ≤ 59) (kd : Int) (hkd : kd = 0 ∨ kd = 1 ∨ kd = 2 ∨ kd = 4) (nm b : List UInt8) (ab : Option Addr) (bc : Nat) (hb : Lies w ab (b.map bv)) (hbl : b.length ≤ 1000) (hn : nm.length ≤ 100) :
    Calls Tryz.prog 15 #[.pointer (some ⟨p, 0, none⟩), .agg #[.int .i64 kd, nv nm, .slice ab b.length bc]] w fun e w' => e = .returned (.bool true) ∧ Step B p cnt (i + 1) S w w' := by
  obtain ⟨W1, hW1⟩ : ∃ W1, W1 = w.alloc (.cells #[.int .i64 kd, nv nm, .slice ab b.length bc] 48) := ⟨_, rfl⟩
  have hB1 : Below w.heap.size w W1 := by rw [hW1]; exact (Below.refl _ w).alloc (Nat.le_refl _) _
  have hC := play_changes (h.later hB1) hi kd nm b ab bc (hb.later hB1) hbl hn
  have HB1 := Lib.hid hB1
  obtain ⟨sn, hsn⟩ : ∃ s : ByteArray, nv nm = .string s := ⟨_, rfl⟩
  obtain ⟨bn, hbn⟩ : ∃ n, n = b.length := ⟨_, rfl⟩
  rw [hsn, ← hbn] at hC hW1 ⊢
  have HC := Lib.hid hC
  clear h hb hC hB1 hsn hbn
  rcases hkd with rfl | rfl | rfl | rfl
  all_goals
    go_enter Tryz.func15, Tryz.ntmps15
    go_wp2_with fail
    rw [← hW1]
    refine HC.out.mono ?_
    rintro e w1 ⟨rfl, hS⟩
    have HS := Lib.hid (hS.above HB1.out)
    clear hS hW1
    go_wp2_with fail
    go_ret
    exact ⟨rfl, HS.out⟩
end Go.Proofs.YtbfochdoeibofaaGreatDoor.Full

/- palmerlaw10: a play's acts: Read. -/
namespace Go.Proofs.YtbfochdoeibofaaGreatDoor.Full
open Go.RowKit Go.Deep Mem Crc Go.Maps Go.Proofs.YtbfochdoeibofaaGreatDoor.Dk Go.Proofs.YtbfochdoeibofaaGreatDoor.Mani Go.Proofs.YtbfochdoeibofaaGreatDoor.RefF
open Go.Proofs.YtbfochdoeibofaaGreatDoor.Store (Chg none' nv Files setC setC_same setC_other)
open Go.Proofs.YtbfochdoeibofaaGreatDoor.Ext (Tab)

variable {B p cnt i : Nat} {w w' : World} {S : PD}
attribute [local go_sem] eql_str
attribute [local go_sem] Oper.semAt_some
set_option maxHeartbeats 4000000 in
set_option maxRecDepth 100000 in
theorem play_doesR (h : Play B p cnt i w S) (hi : i ≤ 59) (kd : Int) (hk0 : (kd == 0) = false) (hk1 : (kd == 1) = false) (hk2 : (kd == 2) = false) (hk3 : (kd == 3) = false) (hk4 : (kd == 4) = false) (hk5 : (kd == 5) = false) (nm : List UInt8) (ab : Option Addr) (bn bc : Nat) (hn : nm.length ≤ 100) :
    Calls Tryz.prog 15 #[.pointer (some ⟨p, 0, none⟩), .agg #[.int .i64 kd, nv nm, .slice ab bn bc]] w fun e w' => e = .returned (.bool true) ∧ Step B p cnt (i + 1) S w w' := by
  obtain ⟨sn, hsn⟩ : ∃ s : ByteArray, nv nm = .string s := ⟨_, rfl⟩
  obtain ⟨W1, hW1⟩ : ∃ W1, W1 = w.alloc (.cells #[.int .i64 kd, .string sn, .slice ab bn bc] 48) := ⟨_, rfl⟩
  obtain ⟨rb, hrb⟩ : ∃ b, b = w.heap.size := ⟨_, rfl⟩
  have hB1 : Below w.heap.size w W1 := by rw [hW1]; exact (Below.refl _ w).alloc (Nat.le_refl _) _
  have hbr : Blk W1 rb 48 #[.int .i64 kd, .string sn, .slice ab bn bc] := by rw [hW1, hrb]; exact Blk.new w _ _
  have hP1 := h.later hB1
  have hrd := on_read (hP1.later (Below.refl _ W1).drew).on nm (by omega)
  obtain ⟨rl, hrl⟩ : ∃ y, y = (ansF (nowF S.C S.H nm)).1 := ⟨_, rfl⟩
  obtain ⟨ek, hek⟩ : ∃ y, y = (ansF (nowF S.C S.H nm)).2 := ⟨_, rfl⟩
  rw [hsn, ← hrl, ← hek] at hrd
  obtain ⟨ss, hss⟩ : ∃ y, y = S.s := ⟨_, rfl⟩
  have c0 := hP1.cells.1
  have r1 := hbr.cell 1
  simp only [List.getElem?_toArray, List.getElem?_cons_zero, List.getElem?_cons_succ] at r1
  rw [← hss] at c0
  have HRD : Hid (Calls Tryz.prog 12 #[.pointer (some ⟨ss, 0, none⟩), .string sn] W1.drew fun e w' => ∃ v, e = .returned (.tuple #[v, .int .i64 ek]) ∧ OwnB w' W1.drew.heap.size v rl ∧ Below W1.drew.heap.size W1.drew w') := Lib.hid (by rw [hss]; exact hrd)
  have HP := Lib.hid h
  have HP1 := Lib.hid hP1
  have HB1 := Lib.hid hB1
  have HBR := Lib.hid hbr
  have HSN := Lib.hid hsn
  have HRL := Lib.hid (And.intro hrl hek)
  rw [hsn]
  clear h hP1 hB1 hbr hsn hrd hss hrl hek
  go_enter Tryz.func15, Tryz.ntmps15
  go_wp2_with fail
  rw [← hW1, ← hrb]
  clear hW1 hrb
  go_wp2_with fail
  go_cut [9, 10] (fun s9 s10 wx => ∃ (ra : Option Addr) (rc rn : Nat), s9 = .slice ra rn rc ∧ s10 = .int .i64 ek ∧ Hid (rn = rl.length) ∧ Hid (OwnB wx W1.heap.size (.slice ra rl.length rc) rl) ∧ Hid (Below W1.heap.size W1 wx))
  case first =>
    go_region_law ((first | (go_simp; go_at_call 12; refine HRD.out.mono ?_; rintro e w4 ⟨v, rfl, hO4, hB4⟩; obtain ⟨ra, rc, rfl, _, _, _, _⟩ := own_shape hO4; obtain ⟨rn, hrn⟩ : ∃ y, y = rl.length := ⟨_, rfl⟩; have HO4 := Lib.hid hO4; have HB4 : Hid (Below W1.heap.size W1 w4) := Lib.hid ⟨hB4.os, hB4.tape, hB4.output, hB4.size, hB4.block⟩; have HRN := Lib.hid hrn; rw [← hrn]; clear hO4 hB4 hrn; dsimp only)))
    all_goals go_wp2_with fail
    all_goals go_meet
    all_goals exact ⟨_, _, _, rfl, rfl, HRN, HO4, HB4⟩
  case rest =>
    obtain ⟨ra, rc, rn, rfl, rfl, HRN, HO4, HB4⟩ := hcut
    have hP4 := HP1.out.later HB4.out
    have hbr4 := HBR.out.below HB4.out HBR.out.lt
    have c6 := hP4.cells.2.2.2.2.2.2.1
    have r1 := hbr4.cell 1
    simp only [List.getElem?_toArray, List.getElem?_cons_zero, List.getElem?_cons_succ] at r1
    have hfd : ∀ n', _ := fun n' => (hP4.later (drewN_below (Below.refl _ wc) n')).find (by omega) nm
    rw [HSN.out] at hfd
    by_cases hth : findP S.L nm < S.L.length
    · rw [if_pos hth, decide_eq_true hth] at hfd
      obtain ⟨fi, hfi⟩ : ∃ y, y = findP S.L nm := ⟨_, rfl⟩
      rw [← hfi] at hfd
      obtain ⟨fx, hfx⟩ : ∃ x, S.L[fi]? = some x := ⟨S.L[fi]'(by rw [hfi]; exact hth), List.getElem?_eq_getElem _⟩
      obtain ⟨gn, on, hsa2, n0, n1⟩ := cells_at hP4.nl hfx
      have hbo : rl = fx.2 := by
        rw [HRL.out.1, HP.out.rowN.was nm, if_pos hth, List.getD_eq_getElem?_getD, ← hfi, hfx]
        rfl
      have he0 : ek = 0 := by
        rw [HRL.out.2]
        cases hnn : nowF S.C S.H nm with
        | none => exact absurd hnn ((HP.out.rowN.find nm).1.1 hth)
        | some y => rfl
      have hee : (ek == 0) = true := by rw [he0]; rfl
      obtain ⟨so, hso⟩ : ∃ s : ByteArray, nv fx.2 = .string s := ⟨_, rfl⟩
      rw [hso] at n1
      obtain ⟨a', c', e', _, hLr, _, _⟩ := own_shape HO4.out
      injection e' with e1 e2 e3
      subst e1 e3
      have hcv : ∀ V : World, Below wc.heap.size wc V → (convert 22 9 (.slice ra rn rc)).run Tryz.prog V = .ok (.string so) V := fun V hV => by
        have := conv_any (vc := rc) (hLr.later hV)
        rw [← HRN.out, hbo, hso] at this
        exact this
      have hcv2 : ∀ n', (convert 22 9 (.slice ra rn rc)).run Tryz.prog ((wc.drewN n')) = .ok (.string so) (wc.drewN n') := fun n' => hcv _ (drewN_below (Below.refl _ _) _)
      obtain ⟨sL, hsL⟩ : ∃ y, y = S.L.length := ⟨_, rfl⟩
      obtain ⟨sc, hsc⟩ : ∃ y, y = S.nc := ⟨_, rfl⟩
      rw [← hsL, ← hsc] at c6 hfd
      rw [hsa2] at c6 hfd
      have hfil : fi < sL := by rw [hfi, hsL]; exact hth
      have hfib : sL ≤ 1000 := by rw [hsL]; have := HP.out.ll; omega
      have HFD := Lib.hid hfd
      have HCV := Lib.hid hcv
      have HEND := Lib.hid (fun (V : World) (hV : Below wc.heap.size wc V) => HP.out.same (j := i + 1) (by omega) (HB1.out.trans ((HB4.out.trans (hV.mono HB4.out.size)).mono HB1.out.size)))
      have HP4 := Lib.hid hP4
      have HNL := Lib.hid hP4.nl
      have HSA2 := Lib.hid hsa2
      have HFX := Lib.hid hfx
      have HSO := Lib.hid hso
      clear hfd hcv hP4 hbr4 hfi hfx hsa2 hbo he0 hso hLr hsL hsc hth
      go_wp2_with fail
      go_quiet ((go_at_call 46; refine Calls.quiet_of_same (HFD.out _)))
      obtain ⟨V, hV⟩ : ∃ V, V = wc.drewN nq := ⟨_, rfl⟩
      have hBV : Below wc.heap.size wc V := by rw [hV]; exact drewN_below (Below.refl _ _) _
      rw [← hV]
      clear hV c6 n0 n1 r1 hcv2
      have c6 := (HP4.out.later hBV).cells.2.2.2.2.2.2.1
      obtain ⟨g3, o3, e3, n0, n1⟩ := cells_at (HNL.out.later hBV) HFX.out
      rw [HSA2.out] at e3
      cases e3
      rw [HSO.out] at n1
      have hcv3 : ∀ n', (convert 22 9 (.slice ra rn rc)).run Tryz.prog (V.drewN n') = .ok (.string so) (V.drewN n') := fun n' => HCV.out _ (drewN_below hBV _)
      have hcv4 : (convert 22 9 (.slice ra rn rc)).run Tryz.prog V = .ok (.string so) V := HCV.out _ hBV
      obtain ⟨sL2, hsL2⟩ : ∃ y, y = S.L.length := ⟨_, rfl⟩
      obtain ⟨sc2, hsc2⟩ : ∃ y, y = S.nc := ⟨_, rfl⟩
      rw [← hsL2, ← hsc2, HSA2.out] at c6
      have hfil2 : fi < sL2 := by
        rw [hsL2]
        exact (List.getElem?_eq_some_iff.1 HFX.out).1
      have hfib2 : sL2 ≤ 1000 := by rw [hsL2]; have := HP.out.ll; omega
      have HBV := Lib.hid hBV
      clear hBV hsL2 hsc2 hfil hfib
      go_wp2_with fail
      go_quiet (fail)
      go_wp2_with fail
      go_ret
      exact ⟨rfl, HEND.out _ (drewN_below HBV.out _)⟩
    · rw [if_neg hth, decide_eq_false hth] at hfd
      have hbo : rl = [] := by rw [HRL.out.1, HP.out.rowN.was nm, if_neg hth]
      have hrn0 : rn = 0 := by rw [HRN.out, hbo]; rfl
      have he8 : ek = 8 := by
        rw [HRL.out.2]
        cases hnn : nowF S.C S.H nm with
        | none => rfl
        | some y => exact absurd ((HP.out.rowN.find nm).1.2 (by rw [hnn]; exact fun e => by cases e)) hth
      subst hrn0 he8
      obtain ⟨sL, hsL⟩ : ∃ y, y = S.L.length := ⟨_, rfl⟩
      obtain ⟨sa, hsa⟩ : ∃ y, y = S.an := ⟨_, rfl⟩
      obtain ⟨sc, hsc⟩ : ∃ y, y = S.nc := ⟨_, rfl⟩
      rw [← hsL, ← hsa, ← hsc] at c6 hfd
      have HFD := Lib.hid hfd
      have HEND := Lib.hid (fun (V : World) (hV : Below wc.heap.size wc V) => HP.out.same (j := i + 1) (by omega) (HB1.out.trans ((HB4.out.trans (hV.mono HB4.out.size)).mono HB1.out.size)))
      clear hfd hP4 hbr4 hth hsL hsa hsc hbo HRN
      go_wp2_with fail
      go_quiet ((go_at_call 46; refine Calls.quiet_of_same (HFD.out _)))
      go_wp2_with fail
      go_ret
      exact ⟨rfl, HEND.out _ (drewN_below (Below.refl _ _) _)⟩
end Go.Proofs.YtbfochdoeibofaaGreatDoor.Full

/- palmerlaw10: great, all. Printed by gen/playb.py. -/
namespace Go.Proofs.YtbfochdoeibofaaGreatDoor.Full
open Go.RowKit Go.Deep Mem Crc Go.Maps Go.Proofs.YtbfochdoeibofaaGreatDoor.Dk Go.Proofs.YtbfochdoeibofaaGreatDoor.Mani Go.Proofs.YtbfochdoeibofaaGreatDoor.RefF
open Go.Proofs.YtbfochdoeibofaaGreatDoor.Store (Chg none' nv Files setC setC_same setC_other)
open Go.Proofs.YtbfochdoeibofaaGreatDoor.Ext (Tab)

/-- An act, and where its bytes lie. -/
structure AR where
  kd : Int
  nm : List UInt8
  b : List UInt8
  a : Option Addr
  c : Nat
def AR.vs (x : AR) : List Value := [.int .i64 x.kd, nv x.nm, .slice x.a x.b.length x.c]
def flatA (l : List AR) : List Value := l.flatMap AR.vs
theorem flatA_len (l : List AR) : (flatA l).length = l.length * 3 := by
  induction l with
  | nil => rfl
  | cons x r ih => unfold flatA at ih ⊢; rw [List.flatMap_cons, List.length_append, ih, List.length_cons]; show 3 + _ = _; omega
theorem flatA_at : ∀ {l : List AR} {k : Nat} {x : AR}, l[k]? = some x → ∀ {j : Nat} {u : Value}, x.vs[j]? = some u → (flatA l)[k * 3 + j]? = some u
  | [], k, x, hx, _, _, _ => by simp at hx
  | y :: r, 0, x, hx, j, u, hu => by
    simp at hx
    subst hx
    unfold flatA
    rw [List.flatMap_cons, List.getElem?_append_left (by have := (List.getElem?_eq_some_iff.1 hu).1; omega)]
    simpa using hu
  | y :: r, k + 1, x, hx, j, u, hu => by
    have := flatA_at (l := r) (k := k) (x := x) (by simpa using hx) hu
    have e : y.vs.length = 3 := rfl
    unfold flatA at this ⊢
    rw [List.flatMap_cons, List.getElem?_append_right (by rw [e]; omega), ← this]
    congr 1
    rw [e]
    omega
/-- Acts as they lie at a. -/
structure ActsIn (w : World) (a : Option Addr) (l : List AR) : Prop where
  row : Lies w a (flatA l)
  bytes : ∀ x ∈ l, Lies w x.a (x.b.map bv)
theorem ActsIn.later {w w' : World} {a : Option Addr} {l : List AR} (h : ActsIn w a l) (hB : Below w.heap.size w w') : ActsIn w' a l := ⟨h.row.later hB, fun x hx => (h.bytes x hx).later hB⟩
theorem ActsIn.cells {w : World} {a : Option Addr} {l : List AR} (h : ActsIn w a l) {k : Nat} {x : AR} (hx : l[k]? = some x) : ∃ g o, a = some ⟨g, o, none⟩ ∧ w.cell? ⟨g, o + k * 3, none⟩ = some (.int .i64 x.kd) ∧ w.cell? ⟨g, o + k * 3 + 1, none⟩ = some (nv x.nm) ∧ w.cell? ⟨g, o + k * 3 + 2, none⟩ = some (.slice x.a x.b.length x.c) := by
  have hne : flatA l ≠ [] := fun e => by
    have := flatA_len l
    have h2 := (List.getElem?_eq_some_iff.1 hx).1
    rw [e] at this
    simp at this
    omega
  obtain ⟨g, o, rfl, _, hc⟩ := h.row.resolve_left hne
  refine ⟨g, o, rfl, ?_, ?_, ?_⟩
  · exact hc _ _ (flatA_at hx (j := 0) rfl)
  · exact hc _ _ (flatA_at hx (j := 1) rfl)
  · exact hc _ _ (flatA_at hx (j := 2) rfl)
/-- Few acts, short names, few bytes. -/
def Small (cnt : Int) (l : List AR) : Prop := 40 ≤ cnt ∧ cnt ≤ 200 ∧ l.length ≤ 60 ∧ ∀ x ∈ l, x.b.length ≤ 1000 ∧ x.nm.length ≤ 100
attribute [local go_sem] Oper.semAt_some
set_option maxHeartbeats 1000000 in
theorem great_any (cnt : Int) (a : Option Addr) (c : Nat) (l : List AR) (w : World) (h : ActsIn w a l) :
    Calls Tryz.prog 14 #[.int .i64 cnt, .slice a l.length c] w fun e w' => w' = w ∧ (e = .returned (.bool true) ∨ (e = .returned (.bool false) ∧ Small cnt l)) := by
  obtain ⟨n, hn⟩ : ∃ n, n = l.length := ⟨_, rfl⟩
  rw [← hn]
  have H := Lib.hid h
  have HN := Lib.hid hn
  clear h hn
  by_cases h1 : cnt < 40
  · have d1 : decide (cnt < 40) = true := decide_eq_true h1
    go_enter Tryz.func14, Tryz.ntmps14
    go_wp2_with fail
    go_ret
    exact ⟨rfl, .inl rfl⟩
  have d1 : decide (cnt < 40) = false := decide_eq_false h1
  by_cases h2 : 200 < cnt
  · have d2 : decide (200 < cnt) = true := decide_eq_true h2
    go_enter Tryz.func14, Tryz.ntmps14
    go_wp2_with fail
    go_ret
    exact ⟨rfl, .inl rfl⟩
  have d2 : decide (200 < cnt) = false := decide_eq_false h2
  by_cases h3 : 60 < n
  · have d3 : decide ((60 : Int) < (n : Int)) = true := decide_eq_true (by omega)
    have d3b : decide (60 < n) = true := decide_eq_true h3
    go_enter Tryz.func14, Tryz.ntmps14
    go_wp2_with fail
    go_ret
    exact ⟨rfl, .inl rfl⟩
  have d3 : decide ((60 : Int) < (n : Int)) = false := decide_eq_false (by omega)
  have d3b : decide (60 < n) = false := decide_eq_false h3
  go_enter Tryz.func14, Tryz.ntmps14
  go_wp2_with fail
  go_loopw [5] (fun i wr => ∃ k : Nat, k ≤ n ∧ i = .int .i64 (k : Int) ∧ wr = w ∧ Hid (∀ j, j < k → ∀ x, l[j]? = some x → x.b.length ≤ 1000 ∧ x.nm.length ≤ 100)) (fun i _ => n - (intOf i).toNat)
  case atStart => exact ⟨0, Nat.zero_le _, rfl, rfl, Lib.hid (fun j hj => absurd hj (Nat.not_lt_zero _))⟩
  case round =>
    obtain ⟨k, hk, rfl, rfl, hp⟩ := hrel
    by_cases hkn : k < n
    · have hkd : decide ((k : Int) < (n : Int)) = true := decide_eq_true (by omega)
      obtain ⟨x, hx⟩ : ∃ x, l[k]? = some x := ⟨l[k]'(by rw [← HN.out]; exact hkn), List.getElem?_eq_getElem _⟩
      obtain ⟨g, o, rfl, c0, c1, c2⟩ := H.out.cells hx
      obtain ⟨sn, hsn⟩ : ∃ s : ByteArray, nv x.nm = .string s := ⟨_, rfl⟩
      have hss : sn.size = x.nm.length := size_sv (show sv x.nm = .string sn from hsn)
      rw [hsn] at c1
      obtain ⟨bn, hbn⟩ : ∃ n, n = x.b.length := ⟨_, rfl⟩
      rw [← hbn] at c2
      have HX := Lib.hid hx
      have HB := Lib.hid (And.intro hbn hss)
      clear hx hsn hss hbn
      by_cases e1 : 1000 < bn
      · have f1 : decide ((1000 : Int) < (bn : Int)) = true := decide_eq_true (by omega)
        have f1b : decide (1000 < bn) = true := decide_eq_true e1
        go_wp2_with fail
        go_ret
        exact ⟨rfl, .inl rfl⟩
      have f1 : decide ((1000 : Int) < (bn : Int)) = false := decide_eq_false (by omega)
      have f1b : decide (1000 < bn) = false := decide_eq_false e1
      by_cases e2 : 100 < sn.size
      · have f2 : decide ((100 : Int) < (sn.size : Int)) = true := decide_eq_true (by omega)
        have f2b : decide (100 < sn.size) = true := decide_eq_true e2
        go_wp2_with fail
        go_ret
        exact ⟨rfl, .inl rfl⟩
      have f2 : decide ((100 : Int) < (sn.size : Int)) = false := decide_eq_false (by omega)
      have f2b : decide (100 < sn.size) = false := decide_eq_false e2
      go_wp2_with fail
      exact ⟨⟨k + 1, hkn, by simp, by first | rfl | trivial, Lib.hid (fun j hj y hy => by
        rcases Nat.lt_or_eq_of_le (Nat.le_of_lt_succ hj) with h4 | h4
        · exact hp.out j h4 y hy
        · subst h4
          rw [HX.out] at hy
          cases hy
          have := HB.out
          omega)⟩, by simp [intOf]; omega⟩
    · obtain rfl : n = k := by omega
      have hkd : decide ((n : Int) < (n : Int)) = false := decide_eq_false (by omega)
      go_wp2_with fail
      go_ret
      exact ⟨rfl, .inr ⟨rfl, by omega, by omega, by rw [← HN.out]; omega, fun x hx => by
        obtain ⟨j, hj⟩ := List.mem_iff_getElem?.1 hx
        exact hp.out j (by rw [HN.out]; exact (List.getElem?_eq_some_iff.1 hj).1) x hj⟩⟩
variable {B s d g cm : Nat} {w : World} {Q : Nat → Prop} {m : DM} {ver next : Nat} {fs : List Fil} {C : Chg} {H : Files} {n : Nat}
end Go.Proofs.YtbfochdoeibofaaGreatDoor.Full

/- palmerlaw10: StorePlays, the walk. Printed by gen/playc.py. -/
namespace Go.Proofs.YtbfochdoeibofaaGreatDoor.Full
open Go.RowKit Go.Deep Mem Crc Go.Maps Go.Proofs.YtbfochdoeibofaaGreatDoor.Dk Go.Proofs.YtbfochdoeibofaaGreatDoor.Mani Go.Proofs.YtbfochdoeibofaaGreatDoor.RefF Go.Proofs.YtbfochdoeibofaaGreatDoor.Read
open Go.Proofs.YtbfochdoeibofaaGreatDoor.Store (Chg none' nv Files setC setC_same setC_other)
open Go.Proofs.YtbfochdoeibofaaGreatDoor.Ext (Tab)

variable {B p cnt i : Nat} {w w' : World} {S : PD}
theorem play_does (h : Play B p cnt i w S) (hi : i ≤ 59) (x : AR) (hb : Lies w x.a (x.b.map bv)) (hbl : x.b.length ≤ 1000) (hn : x.nm.length ≤ 100) :
    Calls Tryz.prog 15 #[.pointer (some ⟨p, 0, none⟩), .agg #[.int .i64 x.kd, nv x.nm, .slice x.a x.b.length x.c]] w fun e w' => e = .returned (.bool true) ∧ Step B p cnt (i + 1) S w w' := by
  by_cases k3 : x.kd = 3
  · rw [k3]
    exact play_does3 h hi x.nm _ ⟨_, _, _, rfl⟩
  by_cases k5 : x.kd = 5
  · rw [k5]
    exact play_does5 h hi x.nm x.a x.b.length x.c
  by_cases k : x.kd = 0 ∨ x.kd = 1 ∨ x.kd = 2 ∨ x.kd = 4
  · exact play_doesC h hi x.kd k x.nm x.b x.a x.c hb hbl hn
  · have k0 : x.kd ≠ 0 := fun e => k (.inl e)
    have k1 : x.kd ≠ 1 := fun e => k (.inr (.inl e))
    have k2 : x.kd ≠ 2 := fun e => k (.inr (.inr (.inl e)))
    have k4 : x.kd ≠ 4 := fun e => k (.inr (.inr (.inr e)))
    exact play_doesR h hi x.kd (by simpa using k0) (by simpa using k1) (by simpa using k2) (by simpa using k3) (by simpa using k4) (by simpa using k5) x.nm x.a x.b.length x.c hn
attribute [local go_sem] Oper.semAt_some
end Go.Proofs.YtbfochdoeibofaaGreatDoor.Full

/- Layer 10: a store that is opened on a disk of which a byte behind the slots was spoilt. -/
namespace Go.Proofs.YtbfochdoeibofaaGreatDoor.Spoil
open Go.RowKit Go.Deep Mem Crc Go.Maps Go.Proofs.YtbfochdoeibofaaGreatDoor.Dk Go.Proofs.YtbfochdoeibofaaGreatDoor.Mani Go.Proofs.YtbfochdoeibofaaGreatDoor.Full Go.Proofs.YtbfochdoeibofaaGreatDoor.RefF Go.Proofs.YtbfochdoeibofaaGreatDoor.Read
open Go.Proofs.YtbfochdoeibofaaGreatDoor.Store (Chg none' nv Files)

/-- Is a file's page the one that was spoilt? -/
def badB (n : Nat) (fs : List Fil) (I A : Int) (y : UInt8) (nm : List UInt8) : Bool := decide (0 ≤ I ∧ I < n ∧ 0 ≤ A ∧ A < 128) && (y != 0) && fs.any (fun f => f.name == nm && f.blocks.contains I.toNat)
/-- What a file is read as. -/
def rdF (n : Nat) (fs : List Fil) (I A : Int) (y : UInt8) (x : FF) : List UInt8 × Int := if badB n fs I A y x.1 then ([], 5) else (x.2, 0)
theorem bad_one {n ver next : Nat} {fs : List Fil} (hok : Okm n ver next fs) {I A : Int} {y : UInt8} {nm nm' : List UInt8} (h : badB n fs I A y nm = true) (h' : badB n fs I A y nm' = true) : nm = nm' := by
  unfold badB at h h'
  simp only [Bool.and_eq_true, List.any_eq_true, beq_iff_eq, List.contains_iff_mem] at h h'
  obtain ⟨_, f, hf, e, hi⟩ := h
  obtain ⟨_, f', hf', e', hi'⟩ := h'
  have := bks_apart hok.ok.bks.1 hf hf' hi hi'
  rw [← e, ← e', this]
theorem loadG_same {bl bl' : List (List UInt8)} (id size : Nat) : ∀ (rest : List Nat) (n : Nat) (out : List UInt8), (∀ i ∈ rest, bl'[i]? = bl[i]?) → loadG bl' id size n out rest = loadG bl id size n out rest
  | [], _, _, _ => rfl
  | i :: r, n, out, h => by
    have e : bl'.getD i [] = bl.getD i [] := by rw [List.getD_eq_getElem?_getD, List.getD_eq_getElem?_getD, h i (by simp)]
    unfold loadG
    rw [e, loadG_same id size r (n + 1) _ (fun j hj => h j (by simp [hj]))]
theorem spoil_same (bl : List (List UInt8)) (i a : Nat) : spoilB bl i a 0 = bl := by
  unfold spoilB
  by_cases hi : i < bl.length
  · have hg : bl.getD i [] = bl[i] := by rw [List.getD_eq_getElem?_getD, List.getElem?_eq_getElem hi]; rfl
    rw [hg]
    have : (bl[i]).set a ((bl[i]).getD a 0 ^^^ 0) = bl[i] := by
      rw [UInt8.xor_zero]
      by_cases ha : a < (bl[i]).length
      · rw [List.getD_eq_getElem?_getD, List.getElem?_eq_getElem ha]
        exact List.set_getElem_self ha
      · exact List.set_eq_of_length_le (by omega)
    rw [this]
    exact List.set_getElem_self hi
  · exact List.set_eq_of_length_le (by omega)
theorem spoilI_len (bl : List (List UInt8)) (I A : Int) (y : UInt8) : (spoilI bl I A y).length = bl.length := by
  unfold spoilI
  split
  · unfold spoilB; rw [List.length_set]
  · rfl
theorem spoilI_low (bl : List (List UInt8)) {I : Int} (hI : 32 ≤ I) (A : Int) (y : UInt8) : ∀ k, k < 32 → (spoilI bl I A y)[k]? = bl[k]? := fun k hk => by
  unfold spoilI
  split
  · unfold spoilB
    rw [List.getElem?_set_ne (by omega)]
  · rfl
theorem read_spoilt {bl bl2 : List (List UInt8)} {n ver next : Nat} {fs : List Fil} {H : Files} (hn : n = bl.length) (hok : Okm n ver next fs) (hd : OnDisk bl fs H) {I A : Int} {y : UInt8} (hfar : ∀ i, 32 ≤ i → bl2[i]? = (spoilI bl I A y)[i]?) {x : FF} (hx : H x.1 = some x.2) : readF bl2 none' fs x.1 = rdF n fs I A y x := by
  have hm : x.1 ∈ fs.map Fil.name := Classical.byContradiction fun hc => by
    rw [hd.none_ x.1 hc] at hx
    cases hx
  obtain ⟨f, hf, hfn⟩ := List.mem_map.1 hm
  obtain ⟨b, hb, hP⟩ := hd.there f hf
  rw [hfn, hx] at hb
  have hbx := Option.some.inj hb
  subst hbx
  have hr : readF bl2 none' fs x.1 = loadF bl2 f := by
    unfold readF heldF
    dsimp only [Store.none']
    rw [← hfn, find_named hok.ok.rise hf]
  have hl : loadF bl2 f = loadF (spoilI bl I A y) f := loadG_same f.id f.size f.blocks 0 [] (fun i hi => hfar i ((hok.ok.each f hf).blocks i hi).1)
  rw [hr, hl]
  have hany : fs.any (fun f => f.name == x.1 && f.blocks.contains I.toNat) = decide (I.toNat ∈ f.blocks) := by
    rw [Bool.eq_iff_iff]
    simp only [List.any_eq_true, Bool.and_eq_true, beq_iff_eq, List.contains_iff_mem, decide_eq_true_eq]
    constructor
    · rintro ⟨f', hf', e, hi⟩
      have : f' = f := by
        have h1 := find_named hok.ok.rise hf
        have h2 := find_named hok.ok.rise hf'
        rw [e, ← hfn, h1] at h2
        exact (Option.some.inj h2).symm
      rw [← this]
      exact hi
    · exact fun hi => ⟨f, hf, hfn, hi⟩
  unfold rdF badB spoilI
  rw [hany]
  by_cases hc : 0 ≤ I ∧ I < bl.length ∧ 0 ≤ A ∧ A < 128
  · rw [if_pos hc, decide_eq_true (by rw [hn]; exact hc)]
    by_cases hy : y = 0
    · subst hy
      rw [spoil_same, loadF_pages hP]
      rfl
    · have hyb : (y != 0) = true := by simpa using hy
      rw [loadF_spoilt hP (by omega) (by omega) hy, hyb]
      by_cases hi : I.toNat ∈ f.blocks
      · rw [if_pos hi, decide_eq_true hi]
        rfl
      · rw [if_neg hi, decide_eq_false hi]
        rfl
  · rw [if_neg hc, decide_eq_false (by rw [hn]; exact hc), loadF_pages hP]
    rfl
/-- Opened anew behind Spoil. -/
theorem opened_spoilt {B p cnt i : Nat} {w : World} {S : PD} (h : Play B p cnt i w S) {I A : Int} {y : UInt8} (hI : 32 ≤ I) {w2 : World} {wv : Value} (hD : Dk w2 S.d S.g wv { S.m with bl := spoilI S.m.bl I A y }) (hwv : ∀ k, Has S.d S.g wv k → S.Q k) :
    Calls Tryz.prog 23 #[.pointer (some ⟨S.d, 0, none⟩)] w2 fun e w3 => ∃ s', e = .returned (.tuple #[.pointer (some ⟨s', 0, none⟩), .int .i64 0]) ∧ Upon S.Q w2 w3 ∧ ∀ V, Below w3.heap.size w3 V →
      (Calls Tryz.prog 28 #[.pointer (some ⟨s', 0, none⟩)] V fun e w' => ∃ a c, e = .returned (.slice a S.LH.length c) ∧ Below V.heap.size V w') ∧
      ∀ x ∈ S.LH, Calls Tryz.prog 12 #[.pointer (some ⟨s', 0, none⟩), nv x.1] V fun e w' => ∃ v, e = .returned (.tuple #[v, .int .i64 (rdF cnt S.fs I A y x).2]) ∧ OwnB w' V.heap.size v (rdF cnt S.fs I A y x).1 ∧ Below V.heap.size V w' := by
  have hlen := spoilI_len S.m.bl I A y
  have hok := h.on.ok
  have hsl : Slots (spoilI S.m.bl I A y) S.ver S.next S.fs := by
    rcases h.slots with ⟨a1, a2, a3, a4⟩ | a4
    · exact .inl ⟨a1, a2, a3, fun j hj => by rw [slotB_same (spoilI_low S.m.bl hI A y) hj]; exact a4 j hj⟩
    · exact .inr (fun j hj => by rw [slotB_same (spoilI_low S.m.bl hI A y) hj]; exact a4 j hj)
  obtain ⟨m', hm, hS, _⟩ := openL_slots (m := { S.m with bl := spoilI S.m.bl I A y }) hsl (by show Okm (spoilI S.m.bl I A y).length _ _ _; rw [hlen]; exact hok) h.on.fuse h.on.wt (by show 33 ≤ (spoilI S.m.bl I A y).length; rw [hlen]; exact h.on.big)
  refine (open_on hD h.on.off h.on.wt (by show 33 ≤ (spoilI S.m.bl I A y).length; rw [hlen]; exact h.on.big)).mono ?_
  rintro e w3 ⟨wv', hD', hu, ho, hop⟩
  rw [hm] at hD' hop
  unfold Opened at hop
  rw [if_pos rfl] at hop
  obtain ⟨s', cm', a', c', l', he, hl', hf'⟩ := hop
  have hl2 : l'.map FR.f = S.fs := hl'
  refine ⟨s', he, hu.mono hwv, fun V hV => ?_⟩
  have hfV := hf'.later hV
  have hfew := hok.few
  have hll : l'.length = S.fs.length := by rw [← hl2, List.length_map]
  have hoff : m'.off = false := hS.off.trans h.on.off
  have hbl : m'.bl.length = S.m.bl.length := hS.len.trans hlen
  constructor
  · refine (fnames_any hfV [] (fun x hx => absurd rfl hx) (Nat.zero_le _) (fun x hx => by cases hx) (by omega) (fun x hx => (hok.ok.each x.f (by rw [← hl2]; exact List.mem_map.2 ⟨x, hx, rfl⟩)).n2)).mono ?_
    rintro e w' ⟨v, ss, rfl, h1, h2, h3, _, h5⟩
    have hss : S.LH.map Prod.fst = ss := h.rowH.names h3 (fun nm => by
      rw [h2 nm, hl2, hasF_now h.on.on nm, Full.nowF_none])
    obtain ⟨a, c, rfl, _⟩ := own_shape h1
    refine ⟨a, c, ?_, h5⟩
    rw [← hss, List.length_map]
  · intro x hx
    have hH : S.H x.1 = some x.2 := (h.rowH.mem x.1 x.2).1 hx
    have hn := (h.eachH x hx).1
    have := fread_any hfV (by rw [hl2]; show Okm m'.bl.length _ _ _; rw [hbl]; exact hok) (by rw [hoff]; rfl) hS.wt x.1 (by omega) (fun b hb => by cases hb)
    rw [hl2, read_spoilt h.len.symm (by rw [← h.len]; exact hok) h.on.on hS.far hH] at this
    exact this
end Go.Proofs.YtbfochdoeibofaaGreatDoor.Spoil

/- palmerlaw10: StoreSpoilt, the walk. -/
namespace Go.Proofs.YtbfochdoeibofaaGreatDoor.Spoil
open Go.RowKit Go.Deep Mem Crc Go.Maps Go.Proofs.YtbfochdoeibofaaGreatDoor.Dk Go.Proofs.YtbfochdoeibofaaGreatDoor.Mani Go.Proofs.YtbfochdoeibofaaGreatDoor.Full Go.Proofs.YtbfochdoeibofaaGreatDoor.RefF Go.Proofs.YtbfochdoeibofaaGreatDoor.Read
open Go.Proofs.YtbfochdoeibofaaGreatDoor.Store (Chg none' nv Files)
open Go.Proofs.YtbfochdoeibofaaGreatDoor.Ext (Tab)

attribute [local go_sem] neq_str
attribute [local go_sem] Oper.semAt_some
set_option maxHeartbeats 8000000 in
set_option maxRecDepth 200000 in
theorem spoilt_law (cnt : Int) (a : Option Addr) (c : Nat) (l : List AR) (I A : Int) (y : UInt8) (w : World) (h : ActsIn w a l) (hT : Tab w) :
    Calls Tryz.prog 6 #[.int .i64 cnt, .slice a l.length c, .int .i64 I, .int .i64 A, bv y] w fun e w' => e = .returned (.bool true) ∧ Below w.heap.size w w' := by
  have HG := Lib.hid (great_any cnt a c l w h)
  have HA := Lib.hid (awake_any w hT)
  have H := Lib.hid h
  have HT := Lib.hid hT
  obtain ⟨n, hn⟩ : ∃ n, n = l.length := ⟨_, rfl⟩
  obtain ⟨yv, hyv⟩ : ∃ k : Int, k = (y.toNat : Int) := ⟨_, rfl⟩
  rw [← hn] at HG ⊢
  unfold Mem.bv
  rw [← hyv]
  have HN := Lib.hid hn
  have HYV := Lib.hid hyv
  clear h hT hn hyv
  by_cases hI : I < 32
  · have dI : decide (I < 32) = true := decide_eq_true hI
    go_enter Tryz.func6, Tryz.ntmps6
    go_wp2_with fail
    refine HG.out.mono ?_
    rintro e w1 ⟨rfl, hcase⟩
    have hcase2 : e = .returned (.bool true) ∨ e = .returned (.bool false) := hcase.imp id (fun hh => hh.1)
    clear hcase
    rcases hcase2 with rfl | rfl
    all_goals
      go_wp2_with fail
      refine HA.out.mono ?_
      rintro e w2 ⟨rfl, hB⟩
      have HB := Lib.hid hB
      clear hB
      go_wp2_with fail
      go_ret
      exact ⟨rfl, HB.out⟩
  have dI : decide (I < 32) = false := decide_eq_false hI
  go_enter Tryz.func6, Tryz.ntmps6
  go_wp2_with fail
  refine HG.out.mono ?_
  rintro e w1 ⟨rfl, hcase⟩
  rcases hcase with rfl | ⟨rfl, hsm⟩
  · go_wp2_with fail
    refine HA.out.mono ?_
    rintro e w2 ⟨rfl, hB⟩
    have HB := Lib.hid hB
    clear hB
    go_wp2_with fail
    go_ret
    exact ⟨rfl, HB.out⟩
  · obtain ⟨s1, s2, s3, s4⟩ := hsm
    obtain ⟨N, rfl⟩ : ∃ N : Nat, cnt = (N : Int) := ⟨cnt.toNat, by omega⟩
    have HS4 := Lib.hid s4
    rw [← HN.out] at s3
    have HBE : Hid (Calls Tryz.prog 10 #[.int .i64 (N : Int)] w1 fun e w' => ∃ p s d g cm Q, e = .returned (.tuple #[.pointer (some ⟨p, 0, none⟩), .bool true]) ∧ Blk w' p 38 #[.pointer (some ⟨s, 0, none⟩), .pointer (some ⟨d, 0, none⟩), .int .u64 0, .int .u32 0, .slice none 0 0, .slice none 0 0, .slice none 0 0, .slice none 0 0, .bool false] ∧ On w1.heap.size s d g cm w' Q (D0 N) 0 0 [] none' (fun _ => none) 0 ∧ ¬ Q p ∧ w1.heap.size ≤ p ∧ Below w1.heap.size w1 w') := Lib.hid (begin_on N (by omega) (by omega) w1 HT.out)
    clear s4 HG HA
    go_wp2_with fail
    refine HBE.out.mono ?_
    rintro e w2 ⟨p, s, d, g, cm, Q, rfl, hp, hon, hqp, hpl, hB2⟩
    have HPL := Lib.hid (play_zero (N := N) (by omega) hp hon hqp hpl)
    have HB2 := Lib.hid hB2
    clear hp hon hqp hpl hB2 HBE
    go_wp2_with fail
    go_loopw [13] (fun i wr => ∃ (k : Nat) (S : PD), k ≤ n ∧ i = .int .i64 (k : Int) ∧ Hid (Play w1.heap.size p N k wr S) ∧ Hid (Below w1.heap.size w1 wr)) (fun i _ => n - (intOf i).toNat)
    case atStart => exact ⟨0, _, Nat.zero_le _, rfl, HPL, HB2⟩
    case round =>
      clear HPL HB2
      obtain ⟨k, S, hk, rfl, HP, HB⟩ := hrel
      by_cases hkn : k < n
      · have hkd : decide ((k : Int) < (n : Int)) = true := decide_eq_true (by omega)
        obtain ⟨x, hx⟩ : ∃ x, l[k]? = some x := ⟨l[k]'(by rw [← HN.out]; exact hkn), List.getElem?_eq_getElem _⟩
        have hxm := List.mem_of_getElem? hx
        have hAr := H.out.later HB.out
        obtain ⟨gl, ol, rfl, c0, c1, c2⟩ := hAr.cells hx
        have hD := play_does HP.out (by omega) x (hAr.bytes x hxm) (HS4.out x hxm).1 (HS4.out x hxm).2
        obtain ⟨sn, hsn⟩ : ∃ s : ByteArray, nv x.nm = .string s := ⟨_, rfl⟩
        obtain ⟨bn, hbn⟩ : ∃ k, k = x.b.length := ⟨_, rfl⟩
        obtain ⟨kd, hkdd⟩ : ∃ k, k = x.kd := ⟨_, rfl⟩
        obtain ⟨xa, hxa⟩ : ∃ k, k = x.a := ⟨_, rfl⟩
        obtain ⟨xc, hxc⟩ : ∃ k, k = x.c := ⟨_, rfl⟩
        rw [hsn] at c1 hD
        rw [← hbn, ← hxa, ← hxc] at c2 hD
        rw [← hkdd] at c0 hD
        have HD := Lib.hid hD
        clear hx hxm hAr hD hsn hbn hkdd hxa hxc
        go_wp2_with fail
        refine HD.out.mono ?_
        rintro e w5 ⟨rfl, hS⟩
        obtain ⟨S5, hP5, _, hu5⟩ := hS
        have HB5 := Lib.hid (HB.out.trans (hu5.below HB.out.size (fun k hk => (HP.out.dlt k hk).1)))
        have HP5 := Lib.hid hP5
        clear hP5 hu5 HD c0 c1 c2
        go_wp2_with fail
        go_roundw
        case rel => exact ⟨k + 1, S5, hkn, by simp, HP5, HB5⟩
        case measure => simp [intOf]; omega
      · obtain rfl : n = k := by omega
        have hkd : decide ((n : Int) < (n : Int)) = false := decide_eq_false (by omega)
        obtain ⟨wv, a9, c9, l9, hfu, hl9⟩ := HP.out.on.fu
        have hsp := spoil_any hfu.disk I A y
        have hqd := hfu.qd
        have c1 := HP.out.cells.2.1
        obtain ⟨sd, hsd⟩ : ∃ y, y = S.d := ⟨_, rfl⟩
        unfold Mem.bv at hsp
        rw [← hsd] at c1 hsp
        rw [← HYV.out] at hsp
        have HSP := Lib.hid hsp
        have HQD := Lib.hid hqd
        have HSD := Lib.hid hsd
        have HL9 := Lib.hid hl9
        clear hfu hl9 hsp hqd hsd
        go_wp2_with fail
        refine HSP.out.mono ?_
        rintro e w3 ⟨⟨ek, rfl⟩, hu3, hD3⟩
        have hgq : S.Q S.g := HQD.out S.g (.inr (.inl rfl))
        have hu3q : Upon S.Q wr w3 := hu3.mono (fun k hk => by rw [hk]; exact hgq)
        have hop := opened_spoilt HP.out (by omega) (w2 := w3) (wv := wv) (by rw [← HSD.out]; exact hD3) HQD.out
        rw [← HSD.out] at hop
        have hpb3 := HP.out.blk.upon hu3q HP.out.pq
        have hl3 := HP.out.hl.upon hu3q (fun k hk hq => (HP.out.ha k hk).1 (.inl hq))
        have c1 := hpb3.cell 1
        unfold PD.cells at c1
        simp only [List.getElem?_toArray, List.getElem?_cons_zero, List.getElem?_cons_succ] at c1
        rw [← HSD.out] at c1
        have HOP := Lib.hid hop
        have HU3 := Lib.hid hu3q
        have HPB3 := Lib.hid hpb3
        have HL3 := Lib.hid hl3
        clear hu3 hD3 hgq hu3q hop hpb3 hl3 HSP
        go_wp2_with fail
        refine HOP.out.mono ?_
        rintro e w4 ⟨s', rfl, hu4, hask⟩
        have hpb4 := HPB3.out.upon hu4 HP.out.pq
        have hl4 := HL3.out.upon hu4 (fun k hk hq => (HP.out.ha k hk).1 (.inl hq))
        obtain ⟨sA, hsA⟩ : ∃ y, y = S.ah := ⟨_, rfl⟩
        obtain ⟨sC, hsC⟩ : ∃ y, y = S.hc := ⟨_, rfl⟩
        obtain ⟨sN, hsN⟩ : ∃ y, y = S.LH.length := ⟨_, rfl⟩
        have hat : ∀ V, Below w4.heap.size w4 V → V.cell? ⟨p, 5, none⟩ = some (.slice sA sN sC) := fun V hV => by
          have c5 := (hpb4.below hV hpb4.lt).cell 5
          unfold PD.cells at c5
          simp only [List.getElem?_toArray, List.getElem?_cons_zero, List.getElem?_cons_succ] at c5
          rw [← hsA, ← hsC, ← hsN] at c5
          exact c5
        have hnm := (hask w4.drew (Below.refl _ w4).drew).1
        rw [← hsN] at hnm
        have hB4 : Below w1.heap.size w1 w4 := HB.out.trans ((HU3.out.trans hu4 (fun k hk => .inl hk)).below HB.out.size (fun k hk => HP.out.on.base k hk))
        have HAT := Lib.hid hat
        have HASK := Lib.hid hask
        have HNM := Lib.hid hnm
        have HB4 := Lib.hid hB4
        have HL4 := Lib.hid hl4
        have HLN := Lib.hid (And.intro hsA hsN)
        have hS4 := hat w4.drew (Below.refl _ w4).drew
        clear hu4 hask hpb4 hl4 hsA hsC hsN hat hnm hB4 HOP c1
        go_wp2_with fail
        go_region_held3 (fun w' => w'.cell? ⟨p, 5, none⟩ = some (.slice sA sN sC)) (first | exact hS4 | exact hS5) (first | (go_at_call 28; refine HNM.out.mono ?_; rintro e w5 ⟨na, nc, rfl, hb5⟩; have hB5 : Below w4.heap.size w4 w5 := (Below.refl _ w4).drew.trans hb5; have hS5 := HAT.out w5 hB5; dsimp only))
        have HB5 := Lib.hid hB5
        have h0 : decide ((sN : Int) = (sN : Int)) = true := decide_eq_true rfl
        have hlb : sN ≤ 1000 := by rw [HLN.out.2]; have := HP.out.lh; omega
        clear hS4 hS5 hb5 hB5 HNM
        go_wp2_with fail
        go_loopw [16, 17] (fun bd i wr5 => ∃ (k bn : Nat), k ≤ sN ∧ i = .int .i64 (k : Int) ∧ bd = .int .i64 (bn : Int) ∧ Hid (Below w4.heap.size w4 wr5) ∧ Hid (bn = 0 ∨ (bn = 1 ∧ ∃ (j : Nat) (x : FF), j < k ∧ S.LH[j]? = some x ∧ badB N S.fs I A y x.1 = true))) (fun _ i _ => sN - (intOf i).toNat)
        case atStart => exact ⟨0, 0, Nat.zero_le _, rfl, rfl, HB5, Lib.hid (.inl rfl)⟩
        case round =>
          clear h0
          obtain ⟨k, bn, hk, rfl, rfl, HB6, HBN⟩ := hrel
          have c5 := HAT.out wr HB6.out
          have hb1 : bn ≤ 1 := by rcases HBN.out with h1 | h1 <;> omega
          by_cases hkn : k < sN
          · have hkd : decide ((k : Int) < (sN : Int)) = true := decide_eq_true (by omega)
            obtain ⟨x, hx⟩ : ∃ x, S.LH[k]? = some x := ⟨S.LH[k]'(by rw [← HLN.out.2]; exact hkn), List.getElem?_eq_getElem _⟩
            have hxm := List.mem_of_getElem? hx
            obtain ⟨gl, ol, hsa2, n0, n1⟩ := cells_at (HL4.out.later HB6.out) hx
            obtain ⟨sx, hsx⟩ : ∃ s : ByteArray, nv x.1 = .string s := ⟨_, rfl⟩
            obtain ⟨sy, hsy⟩ : ∃ s : ByteArray, nv x.2 = .string s := ⟨_, rfl⟩
            have hrd := (HASK.out wr HB6.out).2 x hxm
            rw [hsx] at n0 hrd
            rw [hsy] at n1
            rw [← HLN.out.1] at hsa2
            rw [hsa2] at c5
            obtain ⟨bb, hbb⟩ : ∃ b, b = badB N S.fs I A y x.1 := ⟨_, rfl⟩
            unfold rdF at hrd
            rw [← hbb] at hrd
            cases bb
            · rw [if_neg Bool.false_ne_true] at hrd
              have HRD : Hid (Calls Tryz.prog 12 #[.pointer (some ⟨s', 0, none⟩), .string sx] wr fun e w' => ∃ v, e = .returned (.tuple #[v, .int .i64 0]) ∧ OwnB w' wr.heap.size v x.2 ∧ Below wr.heap.size wr w') := Lib.hid hrd
              have HX := Lib.hid (And.intro hx (And.intro hsy hsa2))
              clear hrd hbb hx hxm hsx hsy hsa2
              go_wp2_with fail
              refine HRD.out.mono ?_
              rintro e w6 ⟨v, rfl, hO6, hB6⟩
              obtain ⟨ra, rc, rfl, _, hLr, _, _⟩ := own_shape hO6
              obtain ⟨rn, hrn⟩ : ∃ y, y = x.2.length := ⟨_, rfl⟩
              have hBw6 : Below w4.heap.size w4 w6 := HB6.out.trans (hB6.mono HB6.out.size)
              have c5 := HAT.out w6 hBw6
              rw [HX.out.2.2] at c5
              obtain ⟨g3, o3, e3, _, n1⟩ := cells_at (HL4.out.later hBw6) HX.out.1
              rw [← HLN.out.1, HX.out.2.2] at e3
              cases e3
              rw [HX.out.2.1] at n1
              have hcv : ∀ V : World, Below w6.heap.size w6 V → (convert 22 9 (.slice ra rn rc)).run Tryz.prog V = .ok (.string sy) V := fun V hV => by
                have := conv_any (vc := rc) (hLr.later hV)
                rw [← hrn, HX.out.2.1] at this
                exact this
              have hcv2 : ∀ n', (convert 22 9 (.slice ra rn rc)).run Tryz.prog (w6.drewN n') = .ok (.string sy) (w6.drewN n') := fun n' => hcv _ (drewN_below (Below.refl _ _) _)
              have hcv3 := hcv _ (Below.refl _ w6)
              have hbn2 : Hid (bn = 0 ∨ (bn = 1 ∧ ∃ (j : Nat) (x : FF), j < k + 1 ∧ S.LH[j]? = some x ∧ badB N S.fs I A y x.1 = true)) := Lib.hid (HBN.out.imp id (fun h7 => ⟨h7.1, by
                obtain ⟨j, x', h8, h9⟩ := h7.2
                exact ⟨j, x', by omega, h9⟩⟩))
              have HBW := Lib.hid hBw6
              rw [← hrn]
              clear hO6 hB6 hLr hBw6 hcv hrn HRD
              go_wp2_with fail
              go_quiet (fail)
              go_wp2_with fail
              go_roundw
              case rel => exact ⟨k + 1, bn, hkn, by simp, rfl, Lib.hid (drewN_below HBW.out _), hbn2⟩
              case measure => simp [intOf]; omega
            · rw [if_pos rfl] at hrd
              have HRD : Hid (Calls Tryz.prog 12 #[.pointer (some ⟨s', 0, none⟩), .string sx] wr fun e w' => ∃ v, e = .returned (.tuple #[v, .int .i64 5]) ∧ OwnB w' wr.heap.size v [] ∧ Below wr.heap.size wr w') := Lib.hid hrd
              have hy0 : yv ≠ 0 := by
                rw [HYV.out]
                intro e
                have hb5 := hbb.symm
                unfold badB at hb5
                simp only [Bool.and_eq_true] at hb5
                have : y ≠ 0 := by simpa using hb5.1.2
                apply this
                have h7 : y.toNat = 0 := by omega
                exact UInt8.toNat_inj.1 h7
              have hyb : (yv == 0) = false := by simpa using hy0
              have hyb2 : (yv != 0) = true := by simpa using hy0
              have hbn0 : bn = 0 := by
                rcases HBN.out with h7 | ⟨_, j, x', h8, h9, h10⟩
                · exact h7
                · exfalso
                  have he := bad_one (by have := HP.out.on.ok; rw [HP.out.len] at this; exact this) h10 hbb.symm
                  obtain ⟨j1, e1⟩ := List.getElem?_eq_some_iff.1 h9
                  obtain ⟨k1, e2⟩ := List.getElem?_eq_some_iff.1 hx
                  have := List.pairwise_iff_getElem.1 HP.out.rowH.rise j k j1 k1 h8
                  rw [e1, e2, he] at this
                  exact List.lt_irrefl _ this
              subst hbn0
              have hbn2 : Hid ((1 : Nat) = 0 ∨ ((1 : Nat) = 1 ∧ ∃ (j : Nat) (x : FF), j < k + 1 ∧ S.LH[j]? = some x ∧ badB N S.fs I A y x.1 = true)) := Lib.hid (.inr ⟨rfl, k, x, Nat.lt_succ_self k, hx, hbb.symm⟩)
              clear hrd hbb hx hxm hsx hsy hsa2 hb1
              go_wp2_with fail
              refine HRD.out.mono ?_
              rintro e w6 ⟨v, rfl, hO6, hB6⟩
              obtain ⟨ra, rc, rfl, _, _, _, _⟩ := own_shape hO6
              have HBW : Hid (Below w4.heap.size w4 w6) := Lib.hid (HB6.out.trans (hB6.mono HB6.out.size))
              clear hO6 hB6 HRD
              go_wp2_with fail
              go_roundw
              case rel => exact ⟨k + 1, 1, hkn, by simp, by simp, HBW, Lib.hid (.inr ⟨rfl, by
                rcases hbn2.out with h7 | h7
                · exact absurd h7 (by decide)
                · exact h7.2⟩)⟩
              case measure => simp [intOf]; omega
          · obtain rfl : sN = k := by omega
            have hkd : decide ((sN : Int) < (sN : Int)) = false := decide_eq_false (by omega)
            have hbd : decide ((bn : Int) ≤ 1) = true := decide_eq_true (by omega)
            have hbd2 : decide (bn ≤ 1) = true := decide_eq_true hb1
            have HB7 := Lib.hid (HB4.out.trans (HB6.out.mono HB4.out.size))
            have HAW := Lib.hid (awake_any wr (HT.out.below HB7.out HT.out.lt))
            go_wp2_with fail
            refine HAW.out.mono ?_
            rintro e w11 ⟨rfl, hB11⟩
            have HB11 := Lib.hid (HB7.out.trans (hB11.mono HB7.out.size))
            clear hB11
            go_wp2_with fail
            go_ret
            exact ⟨rfl, HB11.out⟩
end Go.Proofs.YtbfochdoeibofaaGreatDoor.Spoil
