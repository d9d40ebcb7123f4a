/- Play5, Play6, Play7, Play8, Play9, PlayA, PlayB, PlayC, in one text. -/
import Derived.Test.YtbfochdoeibofaaGreatDoorP31
import Derived.Deep.DeepCutAuto
/- palmerlaw10: a play's changes: the walks of Write and Append. Printed by gen/changes5.py. -/
namespace Go.Proofs.YtbfochdoeibofaaGreatDoor.Full
open Go.RowKit Go.Deep Mem Crc Go.Maps Go.Proofs.YtbfochdoeibofaaGreatDoor.Dk Go.Proofs.YtbfochdoeibofaaGreatDoor.Mani Go.Proofs.YtbfochdoeibofaaGreatDoor.RefF
open Go.Proofs.YtbfochdoeibofaaGreatDoor.Store (Chg none' nv Files setC setC_same setC_other)
open Go.Proofs.YtbfochdoeibofaaGreatDoor.Ext (Tab)

variable {B p cnt i : Nat} {w w' : World} {S : PD}
/-- What Find answers of a play's files. -/
theorem Play.find (h : Play B p cnt i w S) (hi : i ≤ 60) (nm : List UInt8) : Calls Tryz.prog 46 #[.slice S.an S.L.length S.nc, nv nm] w fun e w' => e = .returned (.tuple #[.int .i64 (if findP S.L nm < S.L.length then (findP S.L nm : Int) else 0), .bool (decide (findP S.L nm < S.L.length))]) ∧ w' = w :=
  find_any S.an S.nc S.L nm w h.nl (by have := h.ll; omega)
/-- Put of a play's files, at a world in which the store was written. -/
theorem Play.put (h : Play B p cnt i w S) (hi : i ≤ 60) {w2 w3 : World} (hB : Below w.heap.size w w2) (hu : Upon S.Q w2 w3) (nm b : List UInt8) {V : World} (hV : Below w3.heap.size w3 V) : Calls Tryz.prog 79 #[.slice S.an S.L.length S.nc, nv nm, nv b] V fun e w' => ∃ a c, e = .returned (.slice a (putP S.L nm b).length c) ∧ w'.ownsRow w3.heap.size 69 2 (.slice a (putP S.L nm b).length c) (putP S.L nm b).length (flatP (putP S.L nm b)) ∧ Below w3.heap.size w3 w' :=
  (put_any S.an S.nc S.L nm b V (((h.nl.later hB).upon hu (fun k hk hq => (h.na k hk).1 (.inl hq))).later hV) (by have := h.ll; omega)).mono (fun e w' hh => by
    obtain ⟨v, he, ho, hb⟩ := hh
    obtain ⟨a, c, rfl, _⟩ := own_shape ho
    exact ⟨a, c, he, own_mono ho hV.size, hV.trans (hb.mono hV.size)⟩)
attribute [local go_sem] Oper.semAt_some
set_option maxHeartbeats 4000000 in
set_option maxRecDepth 100000 in
theorem play_k0 (h : Play B p cnt i w S) (hi : i ≤ 59) (nm b : List UInt8) (ab : Option Addr) (bc : Nat) (hb : Lies w ab (b.map bv)) (hbl : b.length ≤ 1000) (h1 : 1 ≤ nm.length) (h2 : nm.length ≤ 32) :
    Calls Tryz.prog 45 #[.pointer (some ⟨p, 0, none⟩), .agg #[.int .i64 0, nv nm, .slice ab b.length bc]] w fun e w' => e = .returned (.bool true) ∧ Step B p cnt (i + 1) S w w' := by
  obtain ⟨sn, hsn⟩ : ∃ s : ByteArray, nv nm = .string s := ⟨_, rfl⟩
  have hss : sn.size = nm.length := size_sv (show sv nm = .string sn from hsn)
  obtain ⟨sb, hsb⟩ : ∃ s : ByteArray, nv b = .string s := ⟨_, rfl⟩
  have hsbs : sb.size = b.length := size_sv (show sv b = .string sb from hsb)
  obtain ⟨bn, hbn⟩ : ∃ n, n = b.length := ⟨_, rfl⟩
  obtain ⟨W1, hW1⟩ : ∃ W1, W1 = w.alloc (.cells #[.int .i64 0, .string sn, .slice ab bn bc] 48) := ⟨_, rfl⟩
  obtain ⟨rb, hrb⟩ : ∃ b, b = w.heap.size := ⟨_, rfl⟩
  have hB1 : Below w.heap.size w W1 := by rw [hW1]; exact (Below.refl _ w).alloc (Nat.le_refl _) _
  have hbr : Blk W1 rb 48 #[.int .i64 0, .string sn, .slice ab bn bc] := by rw [hW1, hrb]; exact Blk.new w _ _
  have hP1 := h.later hB1
  have hfd : ∀ n', _ := fun n' => (hP1.later (drewN_below (Below.refl _ W1) n')).find (by omega) nm
  rw [hsn] at hfd
  obtain ⟨fi, hfi⟩ : ∃ y : Int, y = (if findP S.L nm < S.L.length then (findP S.L nm : Int) else 0) := ⟨_, rfl⟩
  obtain ⟨tf, htf⟩ : ∃ y, y = decide (findP S.L nm < S.L.length) := ⟨_, rfl⟩
  rw [← hfi, ← htf] at hfd
  clear hfi htf
  have c6 := hP1.cells.2.2.2.2.2.2.1
  have r1 := hbr.cell 1
  simp only [List.getElem?_toArray, List.getElem?_cons_zero, List.getElem?_cons_succ] at r1
  obtain ⟨sL, hsL⟩ : ∃ y, y = S.L.length := ⟨_, rfl⟩
  obtain ⟨sa, hsa⟩ : ∃ y, y = S.an := ⟨_, rfl⟩
  obtain ⟨sc, hsc⟩ : ∃ y, y = S.nc := ⟨_, rfl⟩
  rw [← hsL, ← hsa, ← hsc] at c6 hfd
  have HP := Lib.hid h
  have HB := Lib.hid hb
  have HB1 := Lib.hid hB1
  have HBR := Lib.hid hbr
  have HFD := Lib.hid hfd
  have HSN := Lib.hid hsn
  have HSB := Lib.hid hsb
  have HBN := Lib.hid hbn
  have HS := Lib.hid (And.intro hsL (And.intro hsa hsc))
  have hrbw := Lib.hid hrb
  have g1 : decide ((0 : Int) < (sn.size : Int)) = true := decide_eq_true (by omega)
  have g1b : decide (0 < sn.size) = true := decide_eq_true (by omega)
  have g2 : decide ((sn.size : Int) ≤ 32) = true := decide_eq_true (by omega)
  have g2b : decide (sn.size ≤ 32) = true := decide_eq_true (by omega)
  rw [hsn, ← hbn]
  clear h hb hB1 hbr hP1 hfd hsn hsb hbn hsL hsa hsc hss
  go_enter Tryz.func45, Tryz.ntmps45
  go_wp2_with fail
  rw [← hW1, ← hrb]
  clear hW1 hrb
  go_quiet ((go_at_call 46; refine Calls.quiet_of_same (HFD.out _)))
  obtain ⟨V, hV⟩ : ∃ V, V = W1.drewN nq := ⟨_, rfl⟩
  have hBV : Below W1.heap.size W1 V := by rw [hV]; exact drewN_below (Below.refl _ _) _
  rw [← hV]
  clear hV HFD c6 r1
  have hB0V : Below w.heap.size w V := HB1.out.trans (hBV.mono HB1.out.size)
  have hPV := HP.out.later hB0V
  have hbrV := HBR.out.below hBV HBR.out.lt
  have r0 := hbrV.cell 0
  have r1 := hbrV.cell 1
  have r2 := hbrV.cell 2
  simp only [List.getElem?_toArray, List.getElem?_cons_zero, List.getElem?_cons_succ] at r0 r1 r2
  have c0 := hPV.cells.1
  have hcv := conv_any (vc := bc) (HB.out.later hB0V)
  rw [← HBN.out, HSB.out] at hcv
  obtain ⟨ss, hss⟩ : ∃ y, y = S.s := ⟨_, rfl⟩
  rw [← hss] at c0
  have hB2 : Below w.heap.size w V.drew := hB0V.drew
  have hwr := on_write (hPV.later (Below.refl _ V).drew).on (by omega) nm h1 h2 ab bc b (HB.out.later hB2) (by omega)
  rw [HSN.out, ← HBN.out, ← hss] at hwr
  have HWR : Hid (Calls Tryz.prog 11 #[.pointer (some ⟨ss, 0, none⟩), .string sn, .slice ab bn bc] V.drew fun e w' => e = .returned (.int .i64 0) ∧ ∃ Q', On B S.s S.d S.g S.cm w' Q' S.m S.ver S.next S.fs (setC S.C nm (some (some b))) S.H (i + 1) ∧ (∀ k, Q' k → S.Q k ∨ V.drew.heap.size ≤ k) ∧ Upon S.Q V.drew w') := Lib.hid (by rw [hss]; rw [hss] at hwr; exact hwr)
  have HPV := Lib.hid hPV
  have HB2 := Lib.hid hB2
  have HBRV := Lib.hid hbrV
  clear hPV hbrV hB0V hwr hss hB2 hBV
  go_wp2_with fail
  go_still_tail 8, (by kernel_rfl)
  change wpList _ _ _ _ _ V.drew
  have hltV := HPV.out.blk.lt
  obtain ⟨w2, hw2⟩ : ∃ w2, w2 = V.drew := ⟨_, rfl⟩
  have HBV2 : Hid (Below V.heap.size V w2) := Lib.hid (by rw [hw2]; exact (Below.refl _ V).drew)
  rw [← hw2] at HWR HB2 ⊢
  clear hw2
  go_wp2_with fail
  refine HWR.out.mono ?_
  rintro e w3 ⟨rfl, Q3, hon3, hq3, hu3⟩
  have hrq : ¬ S.Q rb := fun hk => by have := HP.out.on.lt rb hk; have := hrbw.out; omega
  have hbr3 := (HBRV.out.below HBV2.out HBRV.out.lt).upon hu3 hrq
  have hpb3 := (HPV.out.blk.below HBV2.out HPV.out.blk.lt).upon hu3 HP.out.pq
  have r0 := hbr3.cell 0
  have r1 := hbr3.cell 1
  have c6 := hpb3.cell 6
  have c7 := hpb3.cell 7
  unfold PD.cells at c6 c7
  simp only [List.getElem?_toArray, List.getElem?_cons_zero, List.getElem?_cons_succ] at r0 r1 c6 c7
  rw [← HS.out.1, ← HS.out.2.1, ← HS.out.2.2] at c6
  obtain ⟨bnew, hbnew⟩ : ∃ y, y = b := ⟨_, rfl⟩
  have hsnew : nv bnew = .string sb := by rw [hbnew]; exact HSB.out
  have hnewl : bnew.length ≤ 1000 * (i + 1) := by rw [hbnew]; omega
  rw [← hbnew] at hon3
  clear hbnew
  have hput := HP.out.put (by omega) HB2.out hu3 nm bnew (V := w3.drew) (Below.refl _ w3).drew
  rw [HSN.out, hsnew, ← HS.out.1, ← HS.out.2.1, ← HS.out.2.2] at hput
  have HPUT : Hid (Calls Tryz.prog 79 #[.slice sa sL sc, .string sn, .string sb] w3.drew fun e w' => ∃ a c, e = .returned (.slice a (putP S.L nm bnew).length c) ∧ w'.ownsRow w3.heap.size 69 2 (.slice a (putP S.L nm bnew).length c) (putP S.L nm bnew).length (flatP (putP S.L nm bnew)) ∧ Below w3.heap.size w3 w') := Lib.hid hput
  have HON3 := Lib.hid (And.intro hon3 (And.intro hq3 hu3))
  have HBR3 := Lib.hid hbr3
  have HPB3 := Lib.hid hpb3
  have HNEWL := Lib.hid hnewl
  clear hon3 hq3 hu3 hbr3 hpb3 hput hsnew hnewl HWR hcv c0 r2
  go_wp2_with fail
  go_cut [] (fun wx => ∃ (w4 : World) (ap : Option Addr) (pn cp : Nat), Hid (pn = (putP S.L nm bnew).length) ∧ Hid (w4.ownsRow w3.heap.size 69 2 (.slice ap (putP S.L nm bnew).length cp) (putP S.L nm bnew).length (flatP (putP S.L nm bnew))) ∧ Hid (Below w3.heap.size w3 w4) ∧ wx = w4.setCell ⟨p, 6, none⟩ (.slice ap pn cp))
  case first =>
    go_region_law ((first | (go_simp; go_at_call 79; refine HPUT.out.mono ?_; rintro e w4 ⟨ap, cp, rfl, hO4, hB4⟩; obtain ⟨pn, hpn⟩ : ∃ y, y = (putP S.L nm bnew).length := ⟨_, rfl⟩; have hpb4 := HPB3.out.below hB4 HPB3.out.lt; have z6 := hpb4.frozen 6; have k6 := hpb4.cell 6; unfold PD.cells at k6; simp only [List.getElem?_toArray, List.getElem?_cons_zero, List.getElem?_cons_succ] at k6; have HO4 := Lib.hid hO4; have HB4 := Lib.hid hB4; have HPN := Lib.hid hpn; rw [← hpn]; clear hO4 hB4 hpn hpb4; dsimp only)))
    all_goals go_wp2_with fail
    all_goals go_meet
    all_goals exact ⟨_, _, _, _, HPN, HO4, HB4, rfl⟩
  case rest =>
    obtain ⟨w4, ap, pn, cp, HPN, HO4, HB4, hwc⟩ := hcut
    have hpb4 := HPB3.out.below HB4.out HPB3.out.lt
    have hbr4 := HBR3.out.below HB4.out HBR3.out.lt
    have hpb5 := hpb4.set 6 (.slice ap pn cp)
    have hprn : rb ≠ p := by have := HP.out.blk.lt; have := hrbw.out; omega
    have hbr5 := hbr4.far (p := ⟨p, 6, none⟩) hprn (.slice ap pn cp)
    obtain ⟨w5, hw5⟩ : ∃ w5, w5 = w4.setCell ⟨p, 6, none⟩ (.slice ap pn cp) := ⟨_, rfl⟩
    rw [← hw5] at hpb5 hbr5 hwc
    subst hwc
    have hB35 : Upon (fun g => g = p) w3 wc := by rw [hw5]; exact (Upon.of_below (P := fun g => g = p) HB4.out).set (p := ⟨p, 6, none⟩) (.inl rfl) _
    have hB05 : Upon (S.D p) w wc := ((Upon.of_below (P := S.D p) HB2.out).trans (HON3.out.2.2.mono (fun k hk => Or.inl hk)) (fun k hk => .inl hk)).trans (hB35.mono (fun k hk => Or.inr (Or.inl hk))) (fun k hk => .inl hk)
    have hO5 : wc.ownsRow B 9 1 S.vc S.ch.length (S.ch.map nv) := own_upon (own_upon (own_later HP.out.own HB2.out) HON3.out.2.2 HP.out.chq) hB35 (fun g hg e => HP.out.pv (by rw [← e]; exact hg))
    obtain ⟨va, vcp, hvc, _, _, _, _⟩ := own_shape hO5
    have hBd : Below wc.heap.size wc wc.drew := (Below.refl _ wc).drew
    have hwB : B ≤ wc.heap.size := by have := HP.out.on.low; have := hB05.size; omega
    obtain ⟨v', w6, hr6, hrow6, hg6, hat6⟩ := append_nv wc.drew 36 S.vc S.ch (own_later hO5 hBd) nm (by have := HP.out.chl; omega) hwB
    have hg6' : wc.grownBy w6 S.vc.ownBlock := grown_trans grown_drew hg6
    rw [HSN.out] at hr6
    have q7 : wc.drew.cell? ⟨p, 7, none⟩ = some S.vc := hpb5.cell 7
    have q7b : (wc.alloc (.cells #[.string sn] 9)).cell? ⟨p, 7, none⟩ = some S.vc := (hpb5.alloc _).cell 7
    have r1 : wc.cell? ⟨rb, 1, none⟩ = some (.string sn) := hbr5.cell 1
    have hpb6 := hpb5.grown hg6' (fun e => HP.out.pv e.symm)
    have k7 : w6.cell? ⟨p, 7, none⟩ = some S.vc := hpb6.cell 7
    have k8 : w6.cell? ⟨p, 8, none⟩ = some (.bool S.wt) := hpb6.cell 8
    have z7 := hpb6.frozen 7
    have z8 := hpb6.frozen 8
    obtain ⟨va2, vcp2, hvc2, _, _, _, _⟩ := own_shape hrow6
    have hend := HP.out.wrote (w3 := w3) (w4 := w4) (w5 := wc) (w6 := w6) (w7 := w6.setCell ⟨p, 7, none⟩ v') (w8 := (w6.setCell ⟨p, 7, none⟩ v').setCell ⟨p, 8, none⟩ (.bool true)) nm bnew h1 h2 HNEWL.out HB2.out HON3.out.1 HON3.out.2.1 HON3.out.2.2 HO4.out HB4.out (by rw [hw5, HPN.out]) hrow6 hg6' hat6 rfl rfl
    rw [hvc] at hr6 q7 q7b k7
    obtain ⟨swt, hswt⟩ : ∃ y, y = S.wt := ⟨_, rfl⟩
    rw [← hswt] at k8
    obtain ⟨vn, hvn⟩ : ∃ y, y = S.ch.length := ⟨_, rfl⟩
    rw [← hvn] at hr6 q7 q7b k7
    obtain ⟨vn2, hvn2⟩ : ∃ y, y = (S.ch ++ [nm]).length := ⟨_, rfl⟩
    rw [← hvn2] at hvc2
    subst hvc2
    have HEND := Lib.hid hend
    clear hend hrow6 hg6 hg6' hat6 hpb6 hvc hO5 hB05 hB35 hpb5 hbr5 hpb4 hbr4 hw5 hBd hswt hvn hvn2
    go_wp2_with fail
    go_region_law ((first | (refine step_append_run rfl (.tmp 90) (.tmp 93) 36 36 rfl _ _ rfl rfl hr6 ?_)))
    all_goals go_wp2_with fail
    all_goals go_ret
    all_goals exact ⟨rfl, HEND.out⟩
set_option maxHeartbeats 4000000 in
set_option maxRecDepth 100000 in
theorem play_k1t (h : Play B p cnt i w S) (hi : i ≤ 59) (nm b : List UInt8) (ab : Option Addr) (bc : Nat) (hb : Lies w ab (b.map bv)) (hbl : b.length ≤ 1000) (h1 : 1 ≤ nm.length) (h2 : nm.length ≤ 32) (hth : findP S.L nm < S.L.length) :
    Calls Tryz.prog 45 #[.pointer (some ⟨p, 0, none⟩), .agg #[.int .i64 1, nv nm, .slice ab b.length bc]] w fun e w' => e = .returned (.bool true) ∧ Step B p cnt (i + 1) S w w' := by
  obtain ⟨sn, hsn⟩ : ∃ s : ByteArray, nv nm = .string s := ⟨_, rfl⟩
  have hss : sn.size = nm.length := size_sv (show sv nm = .string sn from hsn)
  obtain ⟨sb, hsb⟩ : ∃ s : ByteArray, nv b = .string s := ⟨_, rfl⟩
  have hsbs : sb.size = b.length := size_sv (show sv b = .string sb from hsb)
  obtain ⟨bn, hbn⟩ : ∃ n, n = b.length := ⟨_, rfl⟩
  obtain ⟨W1, hW1⟩ : ∃ W1, W1 = w.alloc (.cells #[.int .i64 1, .string sn, .slice ab bn bc] 48) := ⟨_, rfl⟩
  obtain ⟨rb, hrb⟩ : ∃ b, b = w.heap.size := ⟨_, rfl⟩
  have hB1 : Below w.heap.size w W1 := by rw [hW1]; exact (Below.refl _ w).alloc (Nat.le_refl _) _
  have hbr : Blk W1 rb 48 #[.int .i64 1, .string sn, .slice ab bn bc] := by rw [hW1, hrb]; exact Blk.new w _ _
  have hP1 := h.later hB1
  have hfd : ∀ n', _ := fun n' => (hP1.later (drewN_below (Below.refl _ W1) n')).find (by omega) nm
  rw [hsn] at hfd
  rw [if_pos hth, decide_eq_true hth] at hfd
  obtain ⟨fi, hfi⟩ : ∃ y, y = findP S.L nm := ⟨_, rfl⟩
  rw [← hfi] at hfd
  have c6 := hP1.cells.2.2.2.2.2.2.1
  have r1 := hbr.cell 1
  simp only [List.getElem?_toArray, List.getElem?_cons_zero, List.getElem?_cons_succ] at r1
  obtain ⟨sL, hsL⟩ : ∃ y, y = S.L.length := ⟨_, rfl⟩
  obtain ⟨sa, hsa⟩ : ∃ y, y = S.an := ⟨_, rfl⟩
  obtain ⟨sc, hsc⟩ : ∃ y, y = S.nc := ⟨_, rfl⟩
  rw [← hsL, ← hsa, ← hsc] at c6 hfd
  have HP := Lib.hid h
  have HB := Lib.hid hb
  have HB1 := Lib.hid hB1
  have HBR := Lib.hid hbr
  have HFD := Lib.hid hfd
  have HSN := Lib.hid hsn
  have HSB := Lib.hid hsb
  have HBN := Lib.hid hbn
  have HS := Lib.hid (And.intro hsL (And.intro hsa hsc))
  have hrbw := Lib.hid hrb
  have HTH := Lib.hid hth
  have HFI := Lib.hid hfi
  have g1 : decide ((0 : Int) < (sn.size : Int)) = true := decide_eq_true (by omega)
  have g1b : decide (0 < sn.size) = true := decide_eq_true (by omega)
  have g2 : decide ((sn.size : Int) ≤ 32) = true := decide_eq_true (by omega)
  have g2b : decide (sn.size ≤ 32) = true := decide_eq_true (by omega)
  rw [hsn, ← hbn]
  clear h hb hB1 hbr hP1 hfd hsn hsb hbn hsL hsa hsc hss hth hfi
  go_enter Tryz.func45, Tryz.ntmps45
  go_wp2_with fail
  rw [← hW1, ← hrb]
  clear hW1 hrb
  go_quiet ((go_at_call 46; refine Calls.quiet_of_same (HFD.out _)))
  obtain ⟨V, hV⟩ : ∃ V, V = W1.drewN nq := ⟨_, rfl⟩
  have hBV : Below W1.heap.size W1 V := by rw [hV]; exact drewN_below (Below.refl _ _) _
  rw [← hV]
  clear hV HFD c6 r1
  have hB0V : Below w.heap.size w V := HB1.out.trans (hBV.mono HB1.out.size)
  have hPV := HP.out.later hB0V
  have hbrV := HBR.out.below hBV HBR.out.lt
  have r0 := hbrV.cell 0
  have r1 := hbrV.cell 1
  have r2 := hbrV.cell 2
  simp only [List.getElem?_toArray, List.getElem?_cons_zero, List.getElem?_cons_succ] at r0 r1 r2
  have c0 := hPV.cells.1
  have hcv := conv_any (vc := bc) (HB.out.later hB0V)
  rw [← HBN.out, HSB.out] at hcv
  obtain ⟨ss, hss⟩ : ∃ y, y = S.s := ⟨_, rfl⟩
  rw [← hss] at c0
  have hB2 : Below w.heap.size w V.drew := hB0V.drew
  have hwas := HP.out.wasle nm
  have hwr := on_append (hPV.later (Below.refl _ V).drew).on (by omega) nm h1 h2 ab bc b (HB.out.later hB2) (by omega)
  rw [HSN.out, ← HBN.out, ← hss] at hwr
  have HWR : Hid (Calls Tryz.prog 26 #[.pointer (some ⟨ss, 0, none⟩), .string sn, .slice ab bn bc] V.drew fun e w' => e = .returned (.int .i64 0) ∧ ∃ Q', On B S.s S.d S.g S.cm w' Q' S.m S.ver S.next S.fs (setC S.C nm (some (some ((ansF (nowF S.C S.H nm)).1 ++ b)))) S.H (i + 1) ∧ (∀ k, Q' k → S.Q k ∨ V.drew.heap.size ≤ k) ∧ Upon S.Q V.drew w') := Lib.hid (by rw [hss]; rw [hss] at hwr; exact hwr)
  have HPV := Lib.hid hPV
  have HB2 := Lib.hid hB2
  have HBRV := Lib.hid hbrV
  clear hPV hbrV hB0V hwr hss hB2 hBV
  go_wp2_with fail
  go_still_tail 8, (by kernel_rfl)
  change wpList _ _ _ _ _ V.drew
  have hltV := HPV.out.blk.lt
  obtain ⟨w2, hw2⟩ : ∃ w2, w2 = V.drew := ⟨_, rfl⟩
  have HBV2 : Hid (Below V.heap.size V w2) := Lib.hid (by rw [hw2]; exact (Below.refl _ V).drew)
  rw [← hw2] at HWR HB2 ⊢
  clear hw2
  go_wp2_with fail
  refine HWR.out.mono ?_
  rintro e w3 ⟨rfl, Q3, hon3, hq3, hu3⟩
  have hrq : ¬ S.Q rb := fun hk => by have := HP.out.on.lt rb hk; have := hrbw.out; omega
  have hbr3 := (HBRV.out.below HBV2.out HBRV.out.lt).upon hu3 hrq
  have hpb3 := (HPV.out.blk.below HBV2.out HPV.out.blk.lt).upon hu3 HP.out.pq
  have r0 := hbr3.cell 0
  have r1 := hbr3.cell 1
  have c6 := hpb3.cell 6
  have c7 := hpb3.cell 7
  unfold PD.cells at c6 c7
  simp only [List.getElem?_toArray, List.getElem?_cons_zero, List.getElem?_cons_succ] at r0 r1 c6 c7
  rw [← HS.out.1, ← HS.out.2.1, ← HS.out.2.2] at c6
  have hnl3 : Lies w3 sa (flatP S.L) := by
    rw [HS.out.2.1]
    exact ((HP.out.nl.later HB2.out).upon hu3 (fun k hk hq => (HP.out.na k hk).1 (.inl hq)))
  obtain ⟨fx, hfx⟩ : ∃ x, S.L[fi]? = some x := ⟨S.L[fi]'(by rw [HFI.out]; exact HTH.out), List.getElem?_eq_getElem _⟩
  obtain ⟨gn, on, hsa2, n0, n1⟩ := cells_at hnl3 hfx
  rw [hsa2] at c6
  obtain ⟨so, hso⟩ : ∃ s : ByteArray, nv fx.2 = .string s := ⟨_, rfl⟩
  rw [hso] at n1
  have hbo : (ansF (nowF S.C S.H nm)).1 = fx.2 := by
    rw [HP.out.rowN.was nm, if_pos HTH.out, List.getD_eq_getElem?_getD, ← HFI.out, hfx]
    rfl
  have hsol : so.size = fx.2.length := size_sv (show sv fx.2 = .string so from hso)
  have hfxl : fx.2.length ≤ 1000 * i := (HP.out.each fx (List.mem_of_getElem? hfx)).2
  have hadd := add_str 9 so sb (by rw [hsol, hsbs]; omega)
  have hfil : fi < sL := by rw [HFI.out, HS.out.1]; exact HTH.out
  have hfib : sL ≤ 1000 := by rw [HS.out.1]; have := HP.out.ll; omega
  have hfd1 : decide ((fi : Int) < (sL : Int)) = true := decide_eq_true (by omega)
  obtain ⟨bnew, hbnew⟩ : ∃ y, y = fx.2 ++ b := ⟨_, rfl⟩
  have hsnew : nv bnew = .string (so ++ sb) := by rw [hbnew]; exact nv_append hso HSB.out
  have hnewl : bnew.length ≤ 1000 * (i + 1) := by rw [hbnew, List.length_append]; omega
  rw [hbo, ← hbnew] at hon3
  obtain ⟨sN, hsN⟩ : ∃ y, y = so ++ sb := ⟨_, rfl⟩
  have HSA2 := Lib.hid hsa2
  rw [← hsN] at hsnew hadd
  have hput := HP.out.put (by omega) HB2.out hu3 nm bnew (V := w3.drew) (Below.refl _ w3).drew
  rw [HSN.out, hsnew, ← HS.out.1, ← HS.out.2.1, ← HS.out.2.2, hsa2] at hput
  have HPUT : Hid (Calls Tryz.prog 79 #[.slice (some ⟨gn, on, none⟩) sL sc, .string sn, .string sN] w3.drew fun e w' => ∃ a c, e = .returned (.slice a (putP S.L nm bnew).length c) ∧ w'.ownsRow w3.heap.size 69 2 (.slice a (putP S.L nm bnew).length c) (putP S.L nm bnew).length (flatP (putP S.L nm bnew)) ∧ Below w3.heap.size w3 w') := Lib.hid hput
  have HON3 := Lib.hid (And.intro hon3 (And.intro hq3 hu3))
  have HBR3 := Lib.hid hbr3
  have HPB3 := Lib.hid hpb3
  have HNEWL := Lib.hid hnewl
  clear hon3 hq3 hu3 hbr3 hpb3 hput hsnew hnewl HWR hcv c0 r2 hnl3 hfx hsa2 hso hbo hsol hfxl hbnew hsN
  go_wp2_with fail
  go_cut [] (fun wx => ∃ (w4 : World) (ap : Option Addr) (pn cp : Nat), Hid (pn = (putP S.L nm bnew).length) ∧ Hid (w4.ownsRow w3.heap.size 69 2 (.slice ap (putP S.L nm bnew).length cp) (putP S.L nm bnew).length (flatP (putP S.L nm bnew))) ∧ Hid (Below w3.heap.size w3 w4) ∧ wx = w4.setCell ⟨p, 6, none⟩ (.slice ap pn cp))
  case first =>
    go_region_law ((first | (go_simp; go_at_call 79; refine HPUT.out.mono ?_; rintro e w4 ⟨ap, cp, rfl, hO4, hB4⟩; obtain ⟨pn, hpn⟩ : ∃ y, y = (putP S.L nm bnew).length := ⟨_, rfl⟩; have hpb4 := HPB3.out.below hB4 HPB3.out.lt; have z6 := hpb4.frozen 6; have k6 := hpb4.cell 6; unfold PD.cells at k6; simp only [List.getElem?_toArray, List.getElem?_cons_zero, List.getElem?_cons_succ] at k6; have HO4 := Lib.hid hO4; have HB4 := Lib.hid hB4; have HPN := Lib.hid hpn; rw [← hpn]; clear hO4 hB4 hpn hpb4; dsimp only)))
    all_goals go_wp2_with fail
    all_goals go_meet
    all_goals exact ⟨_, _, _, _, HPN, HO4, HB4, rfl⟩
  case rest =>
    obtain ⟨w4, ap, pn, cp, HPN, HO4, HB4, hwc⟩ := hcut
    have hpb4 := HPB3.out.below HB4.out HPB3.out.lt
    have hbr4 := HBR3.out.below HB4.out HBR3.out.lt
    have hpb5 := hpb4.set 6 (.slice ap pn cp)
    have hprn : rb ≠ p := by have := HP.out.blk.lt; have := hrbw.out; omega
    have hbr5 := hbr4.far (p := ⟨p, 6, none⟩) hprn (.slice ap pn cp)
    obtain ⟨w5, hw5⟩ : ∃ w5, w5 = w4.setCell ⟨p, 6, none⟩ (.slice ap pn cp) := ⟨_, rfl⟩
    rw [← hw5] at hpb5 hbr5 hwc
    subst hwc
    have hB35 : Upon (fun g => g = p) w3 wc := by rw [hw5]; exact (Upon.of_below (P := fun g => g = p) HB4.out).set (p := ⟨p, 6, none⟩) (.inl rfl) _
    have hB05 : Upon (S.D p) w wc := ((Upon.of_below (P := S.D p) HB2.out).trans (HON3.out.2.2.mono (fun k hk => Or.inl hk)) (fun k hk => .inl hk)).trans (hB35.mono (fun k hk => Or.inr (Or.inl hk))) (fun k hk => .inl hk)
    have hO5 : wc.ownsRow B 9 1 S.vc S.ch.length (S.ch.map nv) := own_upon (own_upon (own_later HP.out.own HB2.out) HON3.out.2.2 HP.out.chq) hB35 (fun g hg e => HP.out.pv (by rw [← e]; exact hg))
    obtain ⟨va, vcp, hvc, _, _, _, _⟩ := own_shape hO5
    have hBd : Below wc.heap.size wc wc.drew := (Below.refl _ wc).drew
    have hwB : B ≤ wc.heap.size := by have := HP.out.on.low; have := hB05.size; omega
    obtain ⟨v', w6, hr6, hrow6, hg6, hat6⟩ := append_nv wc.drew 36 S.vc S.ch (own_later hO5 hBd) nm (by have := HP.out.chl; omega) hwB
    have hg6' : wc.grownBy w6 S.vc.ownBlock := grown_trans grown_drew hg6
    rw [HSN.out] at hr6
    have q7 : wc.drew.cell? ⟨p, 7, none⟩ = some S.vc := hpb5.cell 7
    have q7b : (wc.alloc (.cells #[.string sn] 9)).cell? ⟨p, 7, none⟩ = some S.vc := (hpb5.alloc _).cell 7
    have r1 : wc.cell? ⟨rb, 1, none⟩ = some (.string sn) := hbr5.cell 1
    have hpb6 := hpb5.grown hg6' (fun e => HP.out.pv e.symm)
    have k7 : w6.cell? ⟨p, 7, none⟩ = some S.vc := hpb6.cell 7
    have k8 : w6.cell? ⟨p, 8, none⟩ = some (.bool S.wt) := hpb6.cell 8
    have z7 := hpb6.frozen 7
    have z8 := hpb6.frozen 8
    obtain ⟨va2, vcp2, hvc2, _, _, _, _⟩ := own_shape hrow6
    have hend := HP.out.wrote (w3 := w3) (w4 := w4) (w5 := wc) (w6 := w6) (w7 := w6.setCell ⟨p, 7, none⟩ v') (w8 := (w6.setCell ⟨p, 7, none⟩ v').setCell ⟨p, 8, none⟩ (.bool true)) nm bnew h1 h2 HNEWL.out HB2.out HON3.out.1 HON3.out.2.1 HON3.out.2.2 HO4.out HB4.out (by rw [hw5, HPN.out]) hrow6 hg6' hat6 rfl rfl
    rw [hvc] at hr6 q7 q7b k7
    obtain ⟨swt, hswt⟩ : ∃ y, y = S.wt := ⟨_, rfl⟩
    rw [← hswt] at k8
    obtain ⟨vn, hvn⟩ : ∃ y, y = S.ch.length := ⟨_, rfl⟩
    rw [← hvn] at hr6 q7 q7b k7
    obtain ⟨vn2, hvn2⟩ : ∃ y, y = (S.ch ++ [nm]).length := ⟨_, rfl⟩
    rw [← hvn2] at hvc2
    subst hvc2
    have HEND := Lib.hid hend
    clear hend hrow6 hg6 hg6' hat6 hpb6 hvc hO5 hB05 hB35 hpb5 hbr5 hpb4 hbr4 hw5 hBd hswt hvn hvn2
    go_wp2_with fail
    go_region_law ((first | (refine step_append_run rfl (.tmp 90) (.tmp 93) 36 36 rfl _ _ rfl rfl hr6 ?_)))
    all_goals go_wp2_with fail
    all_goals go_ret
    all_goals exact ⟨rfl, HEND.out⟩
set_option maxHeartbeats 4000000 in
set_option maxRecDepth 100000 in
theorem play_k1n (h : Play B p cnt i w S) (hi : i ≤ 59) (nm b : List UInt8) (ab : Option Addr) (bc : Nat) (hb : Lies w ab (b.map bv)) (hbl : b.length ≤ 1000) (h1 : 1 ≤ nm.length) (h2 : nm.length ≤ 32) (hth : ¬ findP S.L nm < S.L.length) :
    Calls Tryz.prog 45 #[.pointer (some ⟨p, 0, none⟩), .agg #[.int .i64 1, nv nm, .slice ab b.length bc]] w fun e w' => e = .returned (.bool true) ∧ Step B p cnt (i + 1) S w w' := by
  obtain ⟨sn, hsn⟩ : ∃ s : ByteArray, nv nm = .string s := ⟨_, rfl⟩
  have hss : sn.size = nm.length := size_sv (show sv nm = .string sn from hsn)
  obtain ⟨sb, hsb⟩ : ∃ s : ByteArray, nv b = .string s := ⟨_, rfl⟩
  have hsbs : sb.size = b.length := size_sv (show sv b = .string sb from hsb)
  obtain ⟨bn, hbn⟩ : ∃ n, n = b.length := ⟨_, rfl⟩
  obtain ⟨W1, hW1⟩ : ∃ W1, W1 = w.alloc (.cells #[.int .i64 1, .string sn, .slice ab bn bc] 48) := ⟨_, rfl⟩
  obtain ⟨rb, hrb⟩ : ∃ b, b = w.heap.size := ⟨_, rfl⟩
  have hB1 : Below w.heap.size w W1 := by rw [hW1]; exact (Below.refl _ w).alloc (Nat.le_refl _) _
  have hbr : Blk W1 rb 48 #[.int .i64 1, .string sn, .slice ab bn bc] := by rw [hW1, hrb]; exact Blk.new w _ _
  have hP1 := h.later hB1
  have hfd : ∀ n', _ := fun n' => (hP1.later (drewN_below (Below.refl _ W1) n')).find (by omega) nm
  rw [hsn] at hfd
  rw [if_neg hth, decide_eq_false hth] at hfd
  have c6 := hP1.cells.2.2.2.2.2.2.1
  have r1 := hbr.cell 1
  simp only [List.getElem?_toArray, List.getElem?_cons_zero, List.getElem?_cons_succ] at r1
  obtain ⟨sL, hsL⟩ : ∃ y, y = S.L.length := ⟨_, rfl⟩
  obtain ⟨sa, hsa⟩ : ∃ y, y = S.an := ⟨_, rfl⟩
  obtain ⟨sc, hsc⟩ : ∃ y, y = S.nc := ⟨_, rfl⟩
  rw [← hsL, ← hsa, ← hsc] at c6 hfd
  have HP := Lib.hid h
  have HB := Lib.hid hb
  have HB1 := Lib.hid hB1
  have HBR := Lib.hid hbr
  have HFD := Lib.hid hfd
  have HSN := Lib.hid hsn
  have HSB := Lib.hid hsb
  have HBN := Lib.hid hbn
  have HS := Lib.hid (And.intro hsL (And.intro hsa hsc))
  have hrbw := Lib.hid hrb
  have HTH := Lib.hid hth
  have g1 : decide ((0 : Int) < (sn.size : Int)) = true := decide_eq_true (by omega)
  have g1b : decide (0 < sn.size) = true := decide_eq_true (by omega)
  have g2 : decide ((sn.size : Int) ≤ 32) = true := decide_eq_true (by omega)
  have g2b : decide (sn.size ≤ 32) = true := decide_eq_true (by omega)
  rw [hsn, ← hbn]
  clear h hb hB1 hbr hP1 hfd hsn hsb hbn hsL hsa hsc hss hth
  go_enter Tryz.func45, Tryz.ntmps45
  go_wp2_with fail
  rw [← hW1, ← hrb]
  clear hW1 hrb
  go_quiet ((go_at_call 46; refine Calls.quiet_of_same (HFD.out _)))
  obtain ⟨V, hV⟩ : ∃ V, V = W1.drewN nq := ⟨_, rfl⟩
  have hBV : Below W1.heap.size W1 V := by rw [hV]; exact drewN_below (Below.refl _ _) _
  rw [← hV]
  clear hV HFD c6 r1
  have hB0V : Below w.heap.size w V := HB1.out.trans (hBV.mono HB1.out.size)
  have hPV := HP.out.later hB0V
  have hbrV := HBR.out.below hBV HBR.out.lt
  have r0 := hbrV.cell 0
  have r1 := hbrV.cell 1
  have r2 := hbrV.cell 2
  simp only [List.getElem?_toArray, List.getElem?_cons_zero, List.getElem?_cons_succ] at r0 r1 r2
  have c0 := hPV.cells.1
  have hcv := conv_any (vc := bc) (HB.out.later hB0V)
  rw [← HBN.out, HSB.out] at hcv
  obtain ⟨ss, hss⟩ : ∃ y, y = S.s := ⟨_, rfl⟩
  rw [← hss] at c0
  have hB2 : Below w.heap.size w V.drew := hB0V.drew
  have hwas := HP.out.wasle nm
  have hwr := on_append (hPV.later (Below.refl _ V).drew).on (by omega) nm h1 h2 ab bc b (HB.out.later hB2) (by omega)
  rw [HSN.out, ← HBN.out, ← hss] at hwr
  have HWR : Hid (Calls Tryz.prog 26 #[.pointer (some ⟨ss, 0, none⟩), .string sn, .slice ab bn bc] V.drew fun e w' => e = .returned (.int .i64 0) ∧ ∃ Q', On B S.s S.d S.g S.cm w' Q' S.m S.ver S.next S.fs (setC S.C nm (some (some ((ansF (nowF S.C S.H nm)).1 ++ b)))) S.H (i + 1) ∧ (∀ k, Q' k → S.Q k ∨ V.drew.heap.size ≤ k) ∧ Upon S.Q V.drew w') := Lib.hid (by rw [hss]; rw [hss] at hwr; exact hwr)
  have HPV := Lib.hid hPV
  have HB2 := Lib.hid hB2
  have HBRV := Lib.hid hbrV
  clear hPV hbrV hB0V hwr hss hB2 hBV
  go_wp2_with fail
  go_still_tail 8, (by kernel_rfl)
  change wpList _ _ _ _ _ V.drew
  have hltV := HPV.out.blk.lt
  obtain ⟨w2, hw2⟩ : ∃ w2, w2 = V.drew := ⟨_, rfl⟩
  have HBV2 : Hid (Below V.heap.size V w2) := Lib.hid (by rw [hw2]; exact (Below.refl _ V).drew)
  rw [← hw2] at HWR HB2 ⊢
  clear hw2
  go_wp2_with fail
  refine HWR.out.mono ?_
  rintro e w3 ⟨rfl, Q3, hon3, hq3, hu3⟩
  have hrq : ¬ S.Q rb := fun hk => by have := HP.out.on.lt rb hk; have := hrbw.out; omega
  have hbr3 := (HBRV.out.below HBV2.out HBRV.out.lt).upon hu3 hrq
  have hpb3 := (HPV.out.blk.below HBV2.out HPV.out.blk.lt).upon hu3 HP.out.pq
  have r0 := hbr3.cell 0
  have r1 := hbr3.cell 1
  have c6 := hpb3.cell 6
  have c7 := hpb3.cell 7
  unfold PD.cells at c6 c7
  simp only [List.getElem?_toArray, List.getElem?_cons_zero, List.getElem?_cons_succ] at r0 r1 c6 c7
  rw [← HS.out.1, ← HS.out.2.1, ← HS.out.2.2] at c6
  have hbo : (ansF (nowF S.C S.H nm)).1 = [] := by rw [HP.out.rowN.was nm, if_neg HTH.out]
  obtain ⟨bnew, hbnew⟩ : ∃ y, y = b := ⟨_, rfl⟩
  have hsnew : nv bnew = .string sb := by rw [hbnew]; exact HSB.out
  have hnewl : bnew.length ≤ 1000 * (i + 1) := by rw [hbnew]; omega
  rw [hbo, List.nil_append, ← hbnew] at hon3
  clear hbnew
  have hput := HP.out.put (by omega) HB2.out hu3 nm bnew (V := w3.drew) (Below.refl _ w3).drew
  rw [HSN.out, hsnew, ← HS.out.1, ← HS.out.2.1, ← HS.out.2.2] at hput
  have HPUT : Hid (Calls Tryz.prog 79 #[.slice sa sL sc, .string sn, .string sb] w3.drew fun e w' => ∃ a c, e = .returned (.slice a (putP S.L nm bnew).length c) ∧ w'.ownsRow w3.heap.size 69 2 (.slice a (putP S.L nm bnew).length c) (putP S.L nm bnew).length (flatP (putP S.L nm bnew)) ∧ Below w3.heap.size w3 w') := Lib.hid hput
  have HON3 := Lib.hid (And.intro hon3 (And.intro hq3 hu3))
  have HBR3 := Lib.hid hbr3
  have HPB3 := Lib.hid hpb3
  have HNEWL := Lib.hid hnewl
  clear hon3 hq3 hu3 hbr3 hpb3 hput hsnew hnewl HWR hcv c0 r2
  go_wp2_with fail
  go_cut [] (fun wx => ∃ (w4 : World) (ap : Option Addr) (pn cp : Nat), Hid (pn = (putP S.L nm bnew).length) ∧ Hid (w4.ownsRow w3.heap.size 69 2 (.slice ap (putP S.L nm bnew).length cp) (putP S.L nm bnew).length (flatP (putP S.L nm bnew))) ∧ Hid (Below w3.heap.size w3 w4) ∧ wx = w4.setCell ⟨p, 6, none⟩ (.slice ap pn cp))
  case first =>
    go_region_law ((first | (go_simp; go_at_call 79; refine HPUT.out.mono ?_; rintro e w4 ⟨ap, cp, rfl, hO4, hB4⟩; obtain ⟨pn, hpn⟩ : ∃ y, y = (putP S.L nm bnew).length := ⟨_, rfl⟩; have hpb4 := HPB3.out.below hB4 HPB3.out.lt; have z6 := hpb4.frozen 6; have k6 := hpb4.cell 6; unfold PD.cells at k6; simp only [List.getElem?_toArray, List.getElem?_cons_zero, List.getElem?_cons_succ] at k6; have HO4 := Lib.hid hO4; have HB4 := Lib.hid hB4; have HPN := Lib.hid hpn; rw [← hpn]; clear hO4 hB4 hpn hpb4; dsimp only)))
    all_goals go_wp2_with fail
    all_goals go_meet
    all_goals exact ⟨_, _, _, _, HPN, HO4, HB4, rfl⟩
  case rest =>
    obtain ⟨w4, ap, pn, cp, HPN, HO4, HB4, hwc⟩ := hcut
    have hpb4 := HPB3.out.below HB4.out HPB3.out.lt
    have hbr4 := HBR3.out.below HB4.out HBR3.out.lt
    have hpb5 := hpb4.set 6 (.slice ap pn cp)
    have hprn : rb ≠ p := by have := HP.out.blk.lt; have := hrbw.out; omega
    have hbr5 := hbr4.far (p := ⟨p, 6, none⟩) hprn (.slice ap pn cp)
    obtain ⟨w5, hw5⟩ : ∃ w5, w5 = w4.setCell ⟨p, 6, none⟩ (.slice ap pn cp) := ⟨_, rfl⟩
    rw [← hw5] at hpb5 hbr5 hwc
    subst hwc
    have hB35 : Upon (fun g => g = p) w3 wc := by rw [hw5]; exact (Upon.of_below (P := fun g => g = p) HB4.out).set (p := ⟨p, 6, none⟩) (.inl rfl) _
    have hB05 : Upon (S.D p) w wc := ((Upon.of_below (P := S.D p) HB2.out).trans (HON3.out.2.2.mono (fun k hk => Or.inl hk)) (fun k hk => .inl hk)).trans (hB35.mono (fun k hk => Or.inr (Or.inl hk))) (fun k hk => .inl hk)
    have hO5 : wc.ownsRow B 9 1 S.vc S.ch.length (S.ch.map nv) := own_upon (own_upon (own_later HP.out.own HB2.out) HON3.out.2.2 HP.out.chq) hB35 (fun g hg e => HP.out.pv (by rw [← e]; exact hg))
    obtain ⟨va, vcp, hvc, _, _, _, _⟩ := own_shape hO5
    have hBd : Below wc.heap.size wc wc.drew := (Below.refl _ wc).drew
    have hwB : B ≤ wc.heap.size := by have := HP.out.on.low; have := hB05.size; omega
    obtain ⟨v', w6, hr6, hrow6, hg6, hat6⟩ := append_nv wc.drew 36 S.vc S.ch (own_later hO5 hBd) nm (by have := HP.out.chl; omega) hwB
    have hg6' : wc.grownBy w6 S.vc.ownBlock := grown_trans grown_drew hg6
    rw [HSN.out] at hr6
    have q7 : wc.drew.cell? ⟨p, 7, none⟩ = some S.vc := hpb5.cell 7
    have q7b : (wc.alloc (.cells #[.string sn] 9)).cell? ⟨p, 7, none⟩ = some S.vc := (hpb5.alloc _).cell 7
    have r1 : wc.cell? ⟨rb, 1, none⟩ = some (.string sn) := hbr5.cell 1
    have hpb6 := hpb5.grown hg6' (fun e => HP.out.pv e.symm)
    have k7 : w6.cell? ⟨p, 7, none⟩ = some S.vc := hpb6.cell 7
    have k8 : w6.cell? ⟨p, 8, none⟩ = some (.bool S.wt) := hpb6.cell 8
    have z7 := hpb6.frozen 7
    have z8 := hpb6.frozen 8
    obtain ⟨va2, vcp2, hvc2, _, _, _, _⟩ := own_shape hrow6
    have hend := HP.out.wrote (w3 := w3) (w4 := w4) (w5 := wc) (w6 := w6) (w7 := w6.setCell ⟨p, 7, none⟩ v') (w8 := (w6.setCell ⟨p, 7, none⟩ v').setCell ⟨p, 8, none⟩ (.bool true)) nm bnew h1 h2 HNEWL.out HB2.out HON3.out.1 HON3.out.2.1 HON3.out.2.2 HO4.out HB4.out (by rw [hw5, HPN.out]) hrow6 hg6' hat6 rfl rfl
    rw [hvc] at hr6 q7 q7b k7
    obtain ⟨swt, hswt⟩ : ∃ y, y = S.wt := ⟨_, rfl⟩
    rw [← hswt] at k8
    obtain ⟨vn, hvn⟩ : ∃ y, y = S.ch.length := ⟨_, rfl⟩
    rw [← hvn] at hr6 q7 q7b k7
    obtain ⟨vn2, hvn2⟩ : ∃ y, y = (S.ch ++ [nm]).length := ⟨_, rfl⟩
    rw [← hvn2] at hvc2
    subst hvc2
    have HEND := Lib.hid hend
    clear hend hrow6 hg6 hg6' hat6 hpb6 hvc hO5 hB05 hB35 hpb5 hbr5 hpb4 hbr4 hw5 hBd hswt hvn hvn2
    go_wp2_with fail
    go_region_law ((first | (refine step_append_run rfl (.tmp 90) (.tmp 93) 36 36 rfl _ _ rfl rfl hr6 ?_)))
    all_goals go_wp2_with fail
    all_goals go_ret
    all_goals exact ⟨rfl, HEND.out⟩
set_option maxHeartbeats 4000000 in
set_option maxRecDepth 100000 in
theorem play_k0_bad (h : Play B p cnt i w S) (hi : i ≤ 59) (nm b : List UInt8) (ab : Option Addr) (bc : Nat) (hb : Lies w ab (b.map bv)) (hbl : b.length ≤ 1000) (hbad : nm.length = 0 ∨ 32 < nm.length) (hn100 : nm.length ≤ 100) :
    Calls Tryz.prog 45 #[.pointer (some ⟨p, 0, none⟩), .agg #[.int .i64 0, nv nm, .slice ab b.length bc]] w fun e w' => e = .returned (.bool true) ∧ Step B p cnt (i + 1) S w w' := by
  obtain ⟨sn, hsn⟩ : ∃ s : ByteArray, nv nm = .string s := ⟨_, rfl⟩
  have hss : sn.size = nm.length := size_sv (show sv nm = .string sn from hsn)
  obtain ⟨sb, hsb⟩ : ∃ s : ByteArray, nv b = .string s := ⟨_, rfl⟩
  have hsbs : sb.size = b.length := size_sv (show sv b = .string sb from hsb)
  obtain ⟨bn, hbn⟩ : ∃ n, n = b.length := ⟨_, rfl⟩
  obtain ⟨W1, hW1⟩ : ∃ W1, W1 = w.alloc (.cells #[.int .i64 0, .string sn, .slice ab bn bc] 48) := ⟨_, rfl⟩
  obtain ⟨rb, hrb⟩ : ∃ b, b = w.heap.size := ⟨_, rfl⟩
  have hB1 : Below w.heap.size w W1 := by rw [hW1]; exact (Below.refl _ w).alloc (Nat.le_refl _) _
  have hbr : Blk W1 rb 48 #[.int .i64 0, .string sn, .slice ab bn bc] := by rw [hW1, hrb]; exact Blk.new w _ _
  have hP1 := h.later hB1
  have hfd : ∀ n', _ := fun n' => (hP1.later (drewN_below (Below.refl _ W1) n')).find (by omega) nm
  rw [hsn] at hfd
  obtain ⟨fi, hfi⟩ : ∃ y : Int, y = (if findP S.L nm < S.L.length then (findP S.L nm : Int) else 0) := ⟨_, rfl⟩
  obtain ⟨tf, htf⟩ : ∃ y, y = decide (findP S.L nm < S.L.length) := ⟨_, rfl⟩
  rw [← hfi, ← htf] at hfd
  clear hfi htf
  have c6 := hP1.cells.2.2.2.2.2.2.1
  have r1 := hbr.cell 1
  simp only [List.getElem?_toArray, List.getElem?_cons_zero, List.getElem?_cons_succ] at r1
  obtain ⟨sL, hsL⟩ : ∃ y, y = S.L.length := ⟨_, rfl⟩
  obtain ⟨sa, hsa⟩ : ∃ y, y = S.an := ⟨_, rfl⟩
  obtain ⟨sc, hsc⟩ : ∃ y, y = S.nc := ⟨_, rfl⟩
  rw [← hsL, ← hsa, ← hsc] at c6 hfd
  have HP := Lib.hid h
  have HB := Lib.hid hb
  have HB1 := Lib.hid hB1
  have HBR := Lib.hid hbr
  have HFD := Lib.hid hfd
  have HSN := Lib.hid hsn
  have HSB := Lib.hid hsb
  have HBN := Lib.hid hbn
  have HS := Lib.hid (And.intro hsL (And.intro hsa hsc))
  have hrbw := Lib.hid hrb
  have hg : (decide ((0 : Int) < (sn.size : Int)) = false ∧ decide (0 < sn.size) = false) ∨ (decide ((0 : Int) < (sn.size : Int)) = true ∧ decide (0 < sn.size) = true ∧ decide ((sn.size : Int) ≤ 32) = false ∧ decide (sn.size ≤ 32) = false) := by
    rcases hbad with h0 | h0
    · exact .inl ⟨decide_eq_false (by omega), decide_eq_false (by omega)⟩
    · exact .inr ⟨decide_eq_true (by omega), decide_eq_true (by omega), decide_eq_false (by omega), decide_eq_false (by omega)⟩
  rw [hsn, ← hbn]
  clear h hb hB1 hbr hP1 hfd hsn hsb hbn hsL hsa hsc hss
  go_enter Tryz.func45, Tryz.ntmps45
  go_wp2_with fail
  rw [← hW1, ← hrb]
  clear hW1 hrb
  go_quiet ((go_at_call 46; refine Calls.quiet_of_same (HFD.out _)))
  obtain ⟨V, hV⟩ : ∃ V, V = W1.drewN nq := ⟨_, rfl⟩
  have hBV : Below W1.heap.size W1 V := by rw [hV]; exact drewN_below (Below.refl _ _) _
  rw [← hV]
  clear hV HFD c6 r1
  have hB0V : Below w.heap.size w V := HB1.out.trans (hBV.mono HB1.out.size)
  have hPV := HP.out.later hB0V
  have hbrV := HBR.out.below hBV HBR.out.lt
  have r0 := hbrV.cell 0
  have r1 := hbrV.cell 1
  have r2 := hbrV.cell 2
  simp only [List.getElem?_toArray, List.getElem?_cons_zero, List.getElem?_cons_succ] at r0 r1 r2
  have c0 := hPV.cells.1
  have hcv := conv_any (vc := bc) (HB.out.later hB0V)
  rw [← HBN.out, HSB.out] at hcv
  obtain ⟨ss, hss⟩ : ∃ y, y = S.s := ⟨_, rfl⟩
  rw [← hss] at c0
  have hB2 : Below w.heap.size w V.drew := hB0V.drew
  have hwr := (on_write_name (hPV.later (Below.refl _ V).drew).on nm hbad ab bn bc).mono (R' := fun e w' => e = .returned (.int .i64 8) ∧ Below V.drew.heap.size V.drew w') (fun e w' hh => ⟨hh.1, by rw [hh.2]; exact Below.refl _ _⟩)
  rw [HSN.out, ← hss] at hwr
  have HWR : Hid (Calls Tryz.prog 11 #[.pointer (some ⟨ss, 0, none⟩), .string sn, .slice ab bn bc] V.drew fun e w' => e = .returned (.int .i64 8) ∧ Below V.drew.heap.size V.drew w') := Lib.hid hwr
  have HPV := Lib.hid hPV
  have HB2 := Lib.hid hB2
  have HBRV := Lib.hid hbrV
  clear hPV hbrV hB0V hwr hss hB2 hBV
  all_goals
    rcases hg with ⟨g1, g1b⟩ | ⟨g1, g1b, g2, g2b⟩
    all_goals
      go_wp2_with fail
      go_still_tail 8, (by kernel_rfl)
      change wpList _ _ _ _ _ V.drew
      go_wp2_with fail
      refine HWR.out.mono ?_
      rintro e w3 ⟨rfl, hB3⟩
      have HEND := Lib.hid (HP.out.same (j := i + 1) (by omega) (HB2.out.trans (hB3.mono HB2.out.size)))
      clear hB3
      go_wp2_with fail
      go_ret
      exact ⟨rfl, HEND.out⟩
set_option maxHeartbeats 4000000 in
set_option maxRecDepth 100000 in
theorem play_k1n_bad (h : Play B p cnt i w S) (hi : i ≤ 59) (nm b : List UInt8) (ab : Option Addr) (bc : Nat) (hb : Lies w ab (b.map bv)) (hbl : b.length ≤ 1000) (hbad : nm.length = 0 ∨ 32 < nm.length) (hn100 : nm.length ≤ 100) :
    Calls Tryz.prog 45 #[.pointer (some ⟨p, 0, none⟩), .agg #[.int .i64 1, nv nm, .slice ab b.length bc]] w fun e w' => e = .returned (.bool true) ∧ Step B p cnt (i + 1) S w w' := by
  obtain ⟨sn, hsn⟩ : ∃ s : ByteArray, nv nm = .string s := ⟨_, rfl⟩
  have hss : sn.size = nm.length := size_sv (show sv nm = .string sn from hsn)
  obtain ⟨sb, hsb⟩ : ∃ s : ByteArray, nv b = .string s := ⟨_, rfl⟩
  have hsbs : sb.size = b.length := size_sv (show sv b = .string sb from hsb)
  obtain ⟨bn, hbn⟩ : ∃ n, n = b.length := ⟨_, rfl⟩
  obtain ⟨W1, hW1⟩ : ∃ W1, W1 = w.alloc (.cells #[.int .i64 1, .string sn, .slice ab bn bc] 48) := ⟨_, rfl⟩
  obtain ⟨rb, hrb⟩ : ∃ b, b = w.heap.size := ⟨_, rfl⟩
  have hB1 : Below w.heap.size w W1 := by rw [hW1]; exact (Below.refl _ w).alloc (Nat.le_refl _) _
  have hbr : Blk W1 rb 48 #[.int .i64 1, .string sn, .slice ab bn bc] := by rw [hW1, hrb]; exact Blk.new w _ _
  have hP1 := h.later hB1
  have hfd : ∀ n', _ := fun n' => (hP1.later (drewN_below (Below.refl _ W1) n')).find (by omega) nm
  rw [hsn] at hfd
  have hth : ¬ findP S.L nm < S.L.length := fun hc => by
    have hne := (h.rowN.find nm).1.1 hc
    cases hn : nowF S.C S.H nm with
    | none => exact hne hn
    | some y =>
      have := (h.each (nm, y) ((h.rowN.mem nm y).2 hn)).1
      dsimp only at this
      omega
  rw [if_neg hth, decide_eq_false hth] at hfd
  have c6 := hP1.cells.2.2.2.2.2.2.1
  have r1 := hbr.cell 1
  simp only [List.getElem?_toArray, List.getElem?_cons_zero, List.getElem?_cons_succ] at r1
  obtain ⟨sL, hsL⟩ : ∃ y, y = S.L.length := ⟨_, rfl⟩
  obtain ⟨sa, hsa⟩ : ∃ y, y = S.an := ⟨_, rfl⟩
  obtain ⟨sc, hsc⟩ : ∃ y, y = S.nc := ⟨_, rfl⟩
  rw [← hsL, ← hsa, ← hsc] at c6 hfd
  have HP := Lib.hid h
  have HB := Lib.hid hb
  have HB1 := Lib.hid hB1
  have HBR := Lib.hid hbr
  have HFD := Lib.hid hfd
  have HSN := Lib.hid hsn
  have HSB := Lib.hid hsb
  have HBN := Lib.hid hbn
  have HS := Lib.hid (And.intro hsL (And.intro hsa hsc))
  have hrbw := Lib.hid hrb
  have HTH := Lib.hid hth
  have hg : (decide ((0 : Int) < (sn.size : Int)) = false ∧ decide (0 < sn.size) = false) ∨ (decide ((0 : Int) < (sn.size : Int)) = true ∧ decide (0 < sn.size) = true ∧ decide ((sn.size : Int) ≤ 32) = false ∧ decide (sn.size ≤ 32) = false) := by
    rcases hbad with h0 | h0
    · exact .inl ⟨decide_eq_false (by omega), decide_eq_false (by omega)⟩
    · exact .inr ⟨decide_eq_true (by omega), decide_eq_true (by omega), decide_eq_false (by omega), decide_eq_false (by omega)⟩
  rw [hsn, ← hbn]
  clear h hb hB1 hbr hP1 hfd hsn hsb hbn hsL hsa hsc hss hth
  go_enter Tryz.func45, Tryz.ntmps45
  go_wp2_with fail
  rw [← hW1, ← hrb]
  clear hW1 hrb
  go_quiet ((go_at_call 46; refine Calls.quiet_of_same (HFD.out _)))
  obtain ⟨V, hV⟩ : ∃ V, V = W1.drewN nq := ⟨_, rfl⟩
  have hBV : Below W1.heap.size W1 V := by rw [hV]; exact drewN_below (Below.refl _ _) _
  rw [← hV]
  clear hV HFD c6 r1
  have hB0V : Below w.heap.size w V := HB1.out.trans (hBV.mono HB1.out.size)
  have hPV := HP.out.later hB0V
  have hbrV := HBR.out.below hBV HBR.out.lt
  have r0 := hbrV.cell 0
  have r1 := hbrV.cell 1
  have r2 := hbrV.cell 2
  simp only [List.getElem?_toArray, List.getElem?_cons_zero, List.getElem?_cons_succ] at r0 r1 r2
  have c0 := hPV.cells.1
  have hcv := conv_any (vc := bc) (HB.out.later hB0V)
  rw [← HBN.out, HSB.out] at hcv
  obtain ⟨ss, hss⟩ : ∃ y, y = S.s := ⟨_, rfl⟩
  rw [← hss] at c0
  have hB2 : Below w.heap.size w V.drew := hB0V.drew
  have hwas := HP.out.wasle nm
  have hwr := on_append_name (hPV.later (Below.refl _ V).drew).on nm hbad (by omega) ab bc b (HB.out.later hB2) (by omega)
  rw [← HBN.out] at hwr
  rw [HSN.out, ← hss] at hwr
  have HWR : Hid (Calls Tryz.prog 26 #[.pointer (some ⟨ss, 0, none⟩), .string sn, .slice ab bn bc] V.drew fun e w' => e = .returned (.int .i64 8) ∧ Below V.drew.heap.size V.drew w') := Lib.hid hwr
  have HPV := Lib.hid hPV
  have HB2 := Lib.hid hB2
  have HBRV := Lib.hid hbrV
  clear hPV hbrV hB0V hwr hss hB2 hBV
  all_goals
    rcases hg with ⟨g1, g1b⟩ | ⟨g1, g1b, g2, g2b⟩
    all_goals
      go_wp2_with fail
      go_still_tail 8, (by kernel_rfl)
      change wpList _ _ _ _ _ V.drew
      go_wp2_with fail
      refine HWR.out.mono ?_
      rintro e w3 ⟨rfl, hB3⟩
      have HEND := Lib.hid (HP.out.same (j := i + 1) (by omega) (HB2.out.trans (hB3.mono HB2.out.size)))
      clear hB3
      go_wp2_with fail
      go_ret
      exact ⟨rfl, HEND.out⟩
end Go.Proofs.YtbfochdoeibofaaGreatDoor.Full

/- palmerlaw10: a play's changes: Remove and Forget. -/
namespace Go.Proofs.YtbfochdoeibofaaGreatDoor.Full
open Go.RowKit Go.Deep Mem Crc Go.Maps Go.Proofs.YtbfochdoeibofaaGreatDoor.Dk Go.Proofs.YtbfochdoeibofaaGreatDoor.Mani Go.Proofs.YtbfochdoeibofaaGreatDoor.RefF
open Go.Proofs.YtbfochdoeibofaaGreatDoor.Store (Chg none' nv Files setC setC_same setC_other)
open Go.Proofs.YtbfochdoeibofaaGreatDoor.Ext (Tab)

variable {B p cnt i : Nat} {w w' : World} {S : PD}
theorem Play.removed (h : Play B p cnt i w S) {w2 w3 w4 w5 w8 : World} (nm : List UInt8) (hB2 : Below w.heap.size w w2) {Q3 : Nat → Prop}
    (hon : On B S.s S.d S.g S.cm w3 Q3 S.m S.ver S.next S.fs (setC S.C nm (some none)) S.H (i + 1)) (hq3 : ∀ k, Q3 k → S.Q k ∨ w2.heap.size ≤ k) (hu3 : Upon S.Q w2 w3)
    {ap : Option Addr} {cp : Nat} (hput : w4.ownsRow w3.heap.size 69 2 (.slice ap (withoutP S.L nm).length cp) (withoutP S.L nm).length (flatP (withoutP S.L nm))) (hB4 : Below w3.heap.size w3 w4)
    (h5 : w5 = w4.setCell ⟨p, 6, none⟩ (.slice ap (withoutP S.L nm).length cp)) (h8 : w8 = w5.setCell ⟨p, 8, none⟩ (.bool true)) :
    Step B p cnt (i + 1) S w w8 := by
  have hlt3 := hon.lt
  have hz2 := hB2.size
  have hz3 := hu3.size
  have hz4 := hB4.size
  have hpl := h.blk.lt
  have hlow := h.on.low
  have hpb3 := (h.blk.below hB2 hpl).upon hu3 h.pq
  have hpb4 := hpb3.below hB4 hpb3.lt
  have hpb8 := (hpb4.set 6 (.slice ap (withoutP S.L nm).length cp)).set 8 (.bool true)
  rw [← h5, ← h8] at hpb8
  have hu48 : Upon (fun g => g = p) w4 w8 := by rw [h8, h5]; exact ((Upon.refl (fun g => g = p) w4).set (p := ⟨p, 6, none⟩) (.inl rfl) _).set (p := ⟨p, 8, none⟩) (.inl rfl) _
  have hu38 : Upon (fun g => g = p) w3 w8 := (Upon.of_below (P := fun g => g = p) hB4).trans hu48 (fun k hk => .inl hk)
  have hz38 := hu48.size
  have hpq3 : ¬ Q3 p := fun hk => (hq3 p hk).elim h.pq (fun h4 => by omega)
  have hvq3 : ∀ k, S.vc.ownBlock = some k → ¬ Q3 k := fun k hk hk2 => (hq3 k hk2).elim (h.chq k hk) (fun h4 => by have := (h.own.lt k hk).2; omega)
  have hpos := h.on.pos
  have hon8 := hon.keep hu38 (fun k hk => by
    rw [hk]
    exact ⟨hpq3, by have := h.pb; omega⟩)
  have hu8 : Upon (S.D p) w w8 := ((Upon.of_below (P := S.D p) hB2).trans (hu3.mono (fun k hk => Or.inl hk)) (fun k hk => .inl hk)).trans (hu38.mono (fun k hk => Or.inr (Or.inl hk))) (fun k hk => .inl hk)
  obtain ⟨a', c', e', hcap, hLp, hbp, _⟩ := own_shape hput
  injection e' with e1 e2 e3
  subst e1 e3
  have hnp : ∀ k, Mem.blk ap = some k → ¬ k = p := fun k hk => by
    have := hbp k hk
    have := hpb3.lt
    omega
  have hL8 : Lies w8 ap (flatP (withoutP S.L nm)) := hLp.upon hu48 hnp
  have hO8 : w8.ownsRow B 9 1 S.vc S.ch.length (S.ch.map nv) := own_upon (own_upon (own_later h.own hB2) hu3 h.chq) hu38 (fun g hg e => h.pv (by rw [← e]; exact hg))
  have hll := h.ll
  have hchl := h.chl
  have hwl : (withoutP S.L nm).length ≤ S.L.length := List.length_filter_le _ _
  refine h.next (j := i + 1) (Q' := Q3) (C' := setC S.C nm (some none)) (L' := withoutP S.L nm) (ch' := S.ch) (wt' := true) (an' := ap) (nc' := cp) (vc' := S.vc) hu8 (Nat.le_succ i) hon8 (fun k hk => (hq3 k hk).imp id (fun h4 => by omega)) hpb8 hvq3 (fun k hk => .inl hk) hO8 hL8 (fun k hk => ?_) (h.rowN.remove nm) ⟨fun x hx => ?_, fun x y hx => ?_⟩ ⟨fun e => (by cases e), fun hx => ?_⟩ (by omega) (by omega) (fun x hx => ?_) hcap
  · have h9 := hbp k hk
    refine ⟨fun hD => ?_, by omega, by omega⟩
    rcases hD with hD | hD | hD
    · have := hlt3 k hD; omega
    · exact hnp k hk hD
    · have := (h.own.lt k hD).2; omega
  · by_cases e : x = nm
    · rw [e, setC_same]
      simp
    · rw [setC_other _ e]
      exact h.chok.some_ x hx
  · by_cases e : x = nm
    · rw [e, setC_same] at hx
      cases hx
    · rw [setC_other _ e] at hx
      exact h.chok.all_ x y hx
  · have := hx nm
    rw [setC_same] at this
    cases this
  · have := h.each x (List.mem_filter.1 hx).1
    exact ⟨this.1, by omega⟩
theorem Play.forgot (h : Play B p cnt i w S) {w1 w2 w3 w8 : World} {nb : Nat}
    (hB1 : Below w.heap.size w w1) (hon : On B S.s S.d S.g S.cm w2 S.Q S.m S.ver S.next S.fs none' S.H 0) (hu2 : Upon S.Q w1 w2)
    (h3 : w3 = (w2.setCell ⟨p, 6, none⟩ (.slice S.ah S.LH.length S.hc)).alloc (.cells #[] 9)) (hnb : nb = w2.heap.size) (h8 : w8 = (w3.setCell ⟨p, 7, none⟩ (.slice (some ⟨nb, 0, none⟩) 0 0)).setCell ⟨p, 8, none⟩ (.bool false)) :
    Step B p cnt (i + 1) S w w8 := by
  have hz1 := hB1.size
  have hz2 := hu2.size
  have hpl := h.blk.lt
  have hlow := h.on.low
  have hlt2 := hon.lt
  have hpb2 := (h.blk.below hB1 hpl).upon hu2 h.pq
  have hpbs := hpb2.set 6 (.slice S.ah S.LH.length S.hc)
  have hss : (w2.setCell ⟨p, 6, none⟩ (.slice S.ah S.LH.length S.hc)).heap.size = w2.heap.size := by simp [World.setCell]
  have hpb3 := hpbs.alloc (.cells #[] 9)
  rw [← h3] at hpb3
  have hpb8 := (hpb3.set 7 (.slice (some ⟨nb, 0, none⟩) 0 0)).set 8 (.bool false)
  rw [← h8] at hpb8
  have hu23 : Upon (fun g => g = p) w2 w3 := by rw [h3]; exact ((Upon.refl (fun g => g = p) w2).set (p := ⟨p, 6, none⟩) (.inl rfl) _).alloc _
  have hu38 : Upon (fun g => g = p) w3 w8 := by rw [h8]; exact ((Upon.refl (fun g => g = p) w3).set (p := ⟨p, 7, none⟩) (.inl rfl) _).set (p := ⟨p, 8, none⟩) (.inl rfl) _
  have hu28 := hu23.trans hu38 (fun k hk => .inl hk)
  have hO3 : w3.ownsRow B 9 1 (.slice (some ⟨nb, 0, none⟩) 0 0) 0 [] := by
    rw [h3, hnb, ← hss]
    exact World.ownsRow_lit _ #[] 0 (by rw [hss]; omega) (by decide) rfl
  have hO8 := own_upon hO3 hu38 (fun g hg e => by
    have e1 : nb = g := by simpa [Value.ownBlock] using hg
    have := hpb2.lt
    omega)
  have hpos := h.on.pos
  have hon8 := hon.keep hu28 (fun k hk => by
    rw [hk]
    exact ⟨h.pq, by have := h.pb; omega⟩)
  have hu8 : Upon (S.D p) w w8 := ((Upon.of_below (P := S.D p) hB1).trans (hu2.mono (fun k hk => Or.inl hk)) (fun k hk => .inl hk)).trans (hu28.mono (fun k hk => Or.inr (Or.inl hk))) (fun k hk => .inl hk)
  have hvb : ∀ k, (Value.slice (some ⟨nb, 0, none⟩) 0 0).ownBlock = some k → k = nb := fun k hk => by
    have : nb = k := by simpa [Value.ownBlock] using hk
    exact this.symm
  have hd : ∀ k, PD.D {S with Q := S.Q, C := none', L := S.LH, ch := [], wt := false, an := S.ah, nc := S.hc, vc := .slice (some ⟨nb, 0, none⟩) 0 0} p k → S.D p k ∨ w.heap.size ≤ k := fun k hk => by
    rcases hk with hk | rfl | hk
    · exact .inl (.inl hk)
    · exact .inl (.inr (.inl rfl))
    · have := hvb k hk
      exact .inr (by omega)
  obtain ⟨l1, l2⟩ := h.keepH hu8 hd
  have hlh := h.lh
  refine h.next (j := i + 1) (Q' := S.Q) (C' := none') (L' := S.LH) (ch' := []) (wt' := false) (an' := S.ah) (nc' := S.hc) (vc' := .slice (some ⟨nb, 0, none⟩) 0 0) hu8 (Nat.le_succ i) (hon8.mono (Nat.zero_le _)) (fun k hk => .inl hk) hpb8 (fun k hk hq => by have := hvb k hk; have := h.on.lt k hq; omega) (fun k hk => .inr (by have := hvb k hk; omega)) hO8 l1 l2 (by rw [nowF_none]; exact h.rowH) ⟨(fun x hx => (by cases hx)), (fun x b hx => (by cases hx))⟩ ⟨(fun _ _ => rfl), (fun _ => rfl)⟩ (Nat.zero_le _) (by omega) (fun x hx => ?_) h.capH
  have := h.eachH x hx
  exact ⟨this.1, by omega⟩
attribute [local go_sem] Oper.semAt_some
set_option maxHeartbeats 2000000 in
set_option maxRecDepth 100000 in
theorem play_forget (h : Play B p cnt i w S) (nm b : List UInt8) (ab : Option Addr) (bc : Nat) (kd : Int) (hk0 : (kd == 0) = false) (hk1 : (kd == 1) = false) (hk2 : (kd == 2) = false) (hi : i ≤ 59) :
    Calls Tryz.prog 45 #[.pointer (some ⟨p, 0, none⟩), .agg #[.int .i64 kd, nv nm, .slice ab b.length bc]] w fun e w' => e = .returned (.bool true) ∧ Step B p cnt (i + 1) S w w' := by
  obtain ⟨sn, hsn⟩ : ∃ s : ByteArray, nv nm = .string s := ⟨_, rfl⟩
  obtain ⟨bn, hbn⟩ : ∃ n, n = b.length := ⟨_, rfl⟩
  obtain ⟨W1, hW1⟩ : ∃ W1, W1 = w.alloc (.cells #[.int .i64 kd, .string sn, .slice ab bn bc] 48) := ⟨_, rfl⟩
  obtain ⟨rb, hrb⟩ : ∃ b, b = w.heap.size := ⟨_, rfl⟩
  have hB1 : Below w.heap.size w W1 := by rw [hW1]; exact (Below.refl _ w).alloc (Nat.le_refl _) _
  have hbr : Blk W1 rb 48 #[.int .i64 kd, .string sn, .slice ab bn bc] := by rw [hW1, hrb]; exact Blk.new w _ _
  have hP1 := h.later hB1
  have hfd : ∀ n', _ := fun n' => (hP1.later (drewN_below (Below.refl _ W1) n')).find (by omega) nm
  rw [hsn] at hfd
  obtain ⟨fi, hfi⟩ : ∃ y : Int, y = (if findP S.L nm < S.L.length then (findP S.L nm : Int) else 0) := ⟨_, rfl⟩
  obtain ⟨tf, htf⟩ : ∃ y, y = decide (findP S.L nm < S.L.length) := ⟨_, rfl⟩
  rw [← hfi, ← htf] at hfd
  clear hfi htf
  have c6 := hP1.cells.2.2.2.2.2.2.1
  have r1 := hbr.cell 1
  simp only [List.getElem?_toArray, List.getElem?_cons_zero, List.getElem?_cons_succ] at r1
  obtain ⟨sL, hsL⟩ : ∃ y, y = S.L.length := ⟨_, rfl⟩
  obtain ⟨sa, hsa⟩ : ∃ y, y = S.an := ⟨_, rfl⟩
  obtain ⟨sc, hsc⟩ : ∃ y, y = S.nc := ⟨_, rfl⟩
  rw [← hsL, ← hsa, ← hsc] at c6 hfd
  obtain ⟨gt, hgt⟩ : ∃ b, b = decide ((0 : Int) < (sn.size : Int)) := ⟨_, rfl⟩
  obtain ⟨gu, hgu⟩ : ∃ b, b = decide ((sn.size : Int) ≤ 32) := ⟨_, rfl⟩
  have HP := Lib.hid h
  have HB1 := Lib.hid hB1
  have HBR := Lib.hid hbr
  have HFD := Lib.hid hfd
  rw [hsn, ← hbn]
  clear h hB1 hbr hP1 hfd hsn hbn hsL hsa hsc
  go_enter Tryz.func45, Tryz.ntmps45
  go_wp2_with fail
  rw [← hW1, ← hrb]
  have hrbw := Lib.hid hrb
  clear hW1 hrb
  go_quiet ((go_at_call 46; refine Calls.quiet_of_same (HFD.out _)))
  obtain ⟨V, hV⟩ : ∃ V, V = W1.drewN nq := ⟨_, rfl⟩
  have hBV : Below W1.heap.size W1 V := by rw [hV]; exact drewN_below (Below.refl _ _) _
  rw [← hV]
  clear hV HFD c6 r1
  have hB0V : Below w.heap.size w V := HB1.out.trans (hBV.mono HB1.out.size)
  have hPV := HP.out.later hB0V
  have hbrV := HBR.out.below hBV HBR.out.lt
  have r0 := hbrV.cell 0
  have r1 := hbrV.cell 1
  simp only [List.getElem?_toArray, List.getElem?_cons_zero, List.getElem?_cons_succ] at r0 r1
  have c0 := hPV.cells.1
  have hfg := on_forget hPV.on
  obtain ⟨ss, hss⟩ : ∃ y, y = S.s := ⟨_, rfl⟩
  have HFG : Hid (Calls Tryz.prog 24 #[.pointer (some ⟨ss, 0, none⟩)] V fun e w' => e = .returned (.tuple #[]) ∧ On B S.s S.d S.g S.cm w' S.Q S.m S.ver S.next S.fs none' S.H 0 ∧ Upon S.Q V w') := Lib.hid (by rw [hss]; exact hfg)
  rw [← hss] at c0
  have HPV := Lib.hid hPV
  have HB0V := Lib.hid hB0V
  clear hPV hbrV hfg hss hB0V hBV
  go_wp2_with fail
  all_goals
    refine HFG.out.mono ?_
    rintro e w2 ⟨rfl, hon2, hu2⟩
    have hpb2 := HPV.out.blk.upon hu2 HP.out.pq
    have k5 := hpb2.cell 5
    have k6 := hpb2.cell 6
    have k7 := hpb2.cell 7
    have k8 := hpb2.cell 8
    have z6 := hpb2.frozen 6
    unfold PD.cells at k5 k6 k7 k8
    simp only [List.getElem?_toArray, List.getElem?_cons_zero, List.getElem?_cons_succ] at k5 k6 k7 k8
    obtain ⟨la, hla⟩ : ∃ y, y = S.ah := ⟨_, rfl⟩
    obtain ⟨ln, hln⟩ : ∃ y, y = S.LH.length := ⟨_, rfl⟩
    obtain ⟨lc, hlc⟩ : ∃ y, y = S.hc := ⟨_, rfl⟩
    rw [← hla, ← hln, ← hlc] at k5
    have hpb3 := (hpb2.set 6 (.slice la ln lc)).alloc (.cells #[] 9)
    have j7 := hpb3.cell 7
    have j8 := hpb3.cell 8
    have y7 := hpb3.frozen 7
    have y8 := hpb3.frozen 8
    have e7 : (S.cells.setIfInBounds 6 (.slice la ln lc))[7]? = some S.vc := by unfold PD.cells; rfl
    have e8 : (S.cells.setIfInBounds 6 (.slice la ln lc))[8]? = some (.bool S.wt) := by unfold PD.cells; rfl
    rw [e7] at j7
    rw [e8] at j8
    obtain ⟨nb, hnb⟩ : ∃ b, b = w2.heap.size := ⟨_, rfl⟩
    have hend := HP.out.forgot (nb := nb) (w3 := (w2.setCell ⟨p, 6, none⟩ (.slice S.ah S.LH.length S.hc)).alloc (.cells #[] 9)) HB0V.out hon2 hu2 rfl hnb rfl
    rw [← hla, ← hln, ← hlc, hnb] at hend
    obtain ⟨vc, hvc⟩ : ∃ y, y = S.vc := ⟨_, rfl⟩
    obtain ⟨wt, hwt⟩ : ∃ y, y = S.wt := ⟨_, rfl⟩
    rw [← hvc] at j7 k7
    rw [← hwt] at j8 k8
    have HEND := Lib.hid hend
    clear hend hpb2 hpb3 e7 e8 hon2 hu2 hla hln hlc hnb hvc hwt HFG
    go_wp2_with fail
    go_ret
    exact ⟨rfl, HEND.out⟩
end Go.Proofs.YtbfochdoeibofaaGreatDoor.Full

/- palmerlaw10: a play's changes: the walks of Remove. Printed by gen/changes7.py. -/
namespace Go.Proofs.YtbfochdoeibofaaGreatDoor.Full
open Go.RowKit Go.Deep Mem Crc Go.Maps Go.Proofs.YtbfochdoeibofaaGreatDoor.Dk Go.Proofs.YtbfochdoeibofaaGreatDoor.Mani Go.Proofs.YtbfochdoeibofaaGreatDoor.RefF
open Go.Proofs.YtbfochdoeibofaaGreatDoor.Store (Chg none' nv Files setC setC_same setC_other)
open Go.Proofs.YtbfochdoeibofaaGreatDoor.Ext (Tab)

variable {B p cnt i : Nat} {w w' : World} {S : PD}
theorem Play.without (h : Play B p cnt i w S) (hi : i ≤ 60) {w2 w3 : World} (hB : Below w.heap.size w w2) (hu : Upon S.Q w2 w3) (nm : List UInt8) {V : World} (hV : Below w3.heap.size w3 V) : Calls Tryz.prog 80 #[.slice S.an S.L.length S.nc, nv nm] V fun e w' => ∃ a c, e = .returned (.slice a (withoutP S.L nm).length c) ∧ w'.ownsRow w3.heap.size 69 2 (.slice a (withoutP S.L nm).length c) (withoutP S.L nm).length (flatP (withoutP S.L nm)) ∧ Below w3.heap.size w3 w' :=
  (without_any S.an S.nc S.L nm V (((h.nl.later hB).upon hu (fun k hk hq => (h.na k hk).1 (.inl hq))).later hV) (by have := h.ll; omega)).mono (fun e w' hh => by
    obtain ⟨v, he, ho, hb⟩ := hh
    obtain ⟨a, c, rfl, _⟩ := own_shape ho
    exact ⟨a, c, he, own_mono ho hV.size, hV.trans (hb.mono hV.size)⟩)
attribute [local go_sem] Oper.semAt_some
set_option maxHeartbeats 4000000 in
set_option maxRecDepth 100000 in
theorem play_k2t (h : Play B p cnt i w S) (hi : i ≤ 59) (nm b : List UInt8) (ab : Option Addr) (bc : Nat) (hn100 : nm.length ≤ 100) (hth : findP S.L nm < S.L.length) :
    Calls Tryz.prog 45 #[.pointer (some ⟨p, 0, none⟩), .agg #[.int .i64 2, nv nm, .slice ab b.length bc]] w fun e w' => e = .returned (.bool true) ∧ Step B p cnt (i + 1) S w w' := by
  obtain ⟨sn, hsn⟩ : ∃ s : ByteArray, nv nm = .string s := ⟨_, rfl⟩
  have hss : sn.size = nm.length := size_sv (show sv nm = .string sn from hsn)
  obtain ⟨bn, hbn⟩ : ∃ n, n = b.length := ⟨_, rfl⟩
  have hne := (h.rowN.find nm).1
  have hnf := hne.1 hth
  have hnl : 1 ≤ nm.length ∧ nm.length ≤ 32 := by
    cases hn : nowF S.C S.H nm with
    | none => exact absurd hn hnf
    | some y => exact (h.each (nm, y) ((h.rowN.mem nm y).2 hn)).1
  have g1 : decide ((0 : Int) < (sn.size : Int)) = true := decide_eq_true (by omega)
  have g1b : decide (0 < sn.size) = true := decide_eq_true (by omega)
  have g2 : decide ((sn.size : Int) ≤ 32) = true := decide_eq_true (by omega)
  have g2b : decide (sn.size ≤ 32) = true := decide_eq_true (by omega)
  obtain ⟨W1, hW1⟩ : ∃ W1, W1 = w.alloc (.cells #[.int .i64 2, .string sn, .slice ab bn bc] 48) := ⟨_, rfl⟩
  obtain ⟨rb, hrb⟩ : ∃ b, b = w.heap.size := ⟨_, rfl⟩
  have hB1 : Below w.heap.size w W1 := by rw [hW1]; exact (Below.refl _ w).alloc (Nat.le_refl _) _
  have hbr : Blk W1 rb 48 #[.int .i64 2, .string sn, .slice ab bn bc] := by rw [hW1, hrb]; exact Blk.new w _ _
  have hP1 := h.later hB1
  have hfd : ∀ n', _ := fun n' => (hP1.later (drewN_below (Below.refl _ W1) n')).find (by omega) nm
  rw [hsn] at hfd
  rw [if_pos hth, decide_eq_true hth] at hfd
  obtain ⟨fi, hfi⟩ : ∃ y, y = findP S.L nm := ⟨_, rfl⟩
  rw [← hfi] at hfd
  have c6 := hP1.cells.2.2.2.2.2.2.1
  have r1 := hbr.cell 1
  simp only [List.getElem?_toArray, List.getElem?_cons_zero, List.getElem?_cons_succ] at r1
  obtain ⟨sL, hsL⟩ : ∃ y, y = S.L.length := ⟨_, rfl⟩
  obtain ⟨sa, hsa⟩ : ∃ y, y = S.an := ⟨_, rfl⟩
  obtain ⟨sc, hsc⟩ : ∃ y, y = S.nc := ⟨_, rfl⟩
  rw [← hsL, ← hsa, ← hsc] at c6 hfd
  have HP := Lib.hid h
  have HB1 := Lib.hid hB1
  have HBR := Lib.hid hbr
  have HFD := Lib.hid hfd
  have HSN := Lib.hid hsn
  have HNF := Lib.hid hnf
  have HS := Lib.hid (And.intro hsL (And.intro hsa hsc))
  have hrbw := Lib.hid hrb
  rw [hsn, ← hbn]
  clear h hB1 hbr hP1 hfd hsn hbn hsL hsa hsc hss hth hne hfi
  go_enter Tryz.func45, Tryz.ntmps45
  go_wp2_with fail
  rw [← hW1, ← hrb]
  clear hW1 hrb hnf
  go_quiet ((go_at_call 46; refine Calls.quiet_of_same (HFD.out _)))
  obtain ⟨V, hV⟩ : ∃ V, V = W1.drewN nq := ⟨_, rfl⟩
  have hBV : Below W1.heap.size W1 V := by rw [hV]; exact drewN_below (Below.refl _ _) _
  rw [← hV]
  clear hV HFD c6 r1
  have hB0V : Below w.heap.size w V := HB1.out.trans (hBV.mono HB1.out.size)
  have hPV := HP.out.later hB0V
  have hbrV := HBR.out.below hBV HBR.out.lt
  have r0 := hbrV.cell 0
  have r1 := hbrV.cell 1
  simp only [List.getElem?_toArray, List.getElem?_cons_zero, List.getElem?_cons_succ] at r0 r1
  have c0 := hPV.cells.1
  obtain ⟨ss, hss⟩ : ∃ y, y = S.s := ⟨_, rfl⟩
  rw [← hss] at c0
  have hB2 : Below w.heap.size w V.drew := hB0V.drew
  have hP2 := hPV.later (Below.refl _ V).drew
  have hwr := on_remove hP2.on (by omega) nm hnl.2 HNF.out
  rw [HSN.out] at hwr
  have HWR : Hid (Calls Tryz.prog 27 #[.pointer (some ⟨ss, 0, none⟩), .string sn] V.drew fun e w' => e = .returned (.int .i64 0) ∧ ∃ Q', On B S.s S.d S.g S.cm w' Q' S.m S.ver S.next S.fs (setC S.C nm (some none)) S.H (i + 1) ∧ (∀ k, Q' k → S.Q k ∨ V.drew.heap.size ≤ k) ∧ Upon S.Q V.drew w') := Lib.hid (by rw [hss]; exact hwr)
  have HPV := Lib.hid hPV
  have HB2 := Lib.hid hB2
  have HBRV := Lib.hid hbrV
  clear hPV hbrV hB0V hwr hss hB2 hBV hP2
  go_wp2_with fail
  go_still_tail 6, (by kernel_rfl)
  change wpList _ _ _ _ _ V.drew
  have hltV := HPV.out.blk.lt
  obtain ⟨w2, hw2⟩ : ∃ w2, w2 = V.drew := ⟨_, rfl⟩
  have HBV2 : Hid (Below V.heap.size V w2) := Lib.hid (by rw [hw2]; exact (Below.refl _ V).drew)
  rw [← hw2] at HWR HB2 ⊢
  clear hw2
  go_wp2_with fail
  refine HWR.out.mono ?_
  rintro e w3 ⟨rfl, Q3, hon3, hq3, hu3⟩
  have hrq : ¬ S.Q rb := fun hk => by have := HP.out.on.lt rb hk; have := hrbw.out; omega
  have hbr3 := (HBRV.out.below HBV2.out HBRV.out.lt).upon hu3 hrq
  have hpb3 := (HPV.out.blk.below HBV2.out HPV.out.blk.lt).upon hu3 HP.out.pq
  have r0 := hbr3.cell 0
  have r1 := hbr3.cell 1
  have c6 := hpb3.cell 6
  unfold PD.cells at c6
  simp only [List.getElem?_toArray, List.getElem?_cons_zero, List.getElem?_cons_succ] at r0 r1 c6
  rw [← HS.out.1, ← HS.out.2.1, ← HS.out.2.2] at c6
  have hput := HP.out.without (by omega) HB2.out hu3 nm (V := w3.drew) (Below.refl _ w3).drew
  rw [HSN.out, ← HS.out.1, ← HS.out.2.1, ← HS.out.2.2] at hput
  have HPUT : Hid (Calls Tryz.prog 80 #[.slice sa sL sc, .string sn] w3.drew fun e w' => ∃ a c, e = .returned (.slice a (withoutP S.L nm).length c) ∧ w'.ownsRow w3.heap.size 69 2 (.slice a (withoutP S.L nm).length c) (withoutP S.L nm).length (flatP (withoutP S.L nm)) ∧ Below w3.heap.size w3 w') := Lib.hid hput
  have HON3 := Lib.hid (And.intro hon3 (And.intro hq3 hu3))
  have HBR3 := Lib.hid hbr3
  have HPB3 := Lib.hid hpb3
  clear hon3 hq3 hu3 hbr3 hpb3 hput HWR c0
  go_wp2_with fail
  go_cut [] (fun wx => ∃ (w4 : World) (ap : Option Addr) (pn cp : Nat), Hid (pn = (withoutP S.L nm).length) ∧ Hid (w4.ownsRow w3.heap.size 69 2 (.slice ap (withoutP S.L nm).length cp) (withoutP S.L nm).length (flatP (withoutP S.L nm))) ∧ Hid (Below w3.heap.size w3 w4) ∧ wx = w4.setCell ⟨p, 6, none⟩ (.slice ap pn cp))
  case first =>
    go_region_law ((first | (go_simp; go_at_call 80; refine HPUT.out.mono ?_; rintro e w4 ⟨ap, cp, rfl, hO4, hB4⟩; obtain ⟨pn, hpn⟩ : ∃ y, y = (withoutP S.L nm).length := ⟨_, rfl⟩; have hpb4 := HPB3.out.below hB4 HPB3.out.lt; have z6 := hpb4.frozen 6; have k6 := hpb4.cell 6; unfold PD.cells at k6; simp only [List.getElem?_toArray, List.getElem?_cons_zero, List.getElem?_cons_succ] at k6; have HO4 := Lib.hid hO4; have HB4 := Lib.hid hB4; have HPN := Lib.hid hpn; rw [← hpn]; clear hO4 hB4 hpn hpb4; dsimp only)))
    all_goals go_wp2_with fail
    all_goals go_meet
    all_goals exact ⟨_, _, _, _, HPN, HO4, HB4, rfl⟩
  case rest =>
    obtain ⟨w4, ap, pn, cp, HPN, HO4, HB4, hwc⟩ := hcut
    have hpb4 := HPB3.out.below HB4.out HPB3.out.lt
    have hpb5 := hpb4.set 6 (.slice ap pn cp)
    have hwc2 := hwc
    rw [← hwc] at hpb5
    have k8 := hpb5.cell 8
    have z8 := hpb5.frozen 8
    have e8 : (S.cells.setIfInBounds 6 (.slice ap pn cp))[8]? = some (.bool S.wt) := by unfold PD.cells; rfl
    rw [e8] at k8
    obtain ⟨wt, hwt⟩ : ∃ y, y = S.wt := ⟨_, rfl⟩
    rw [← hwt] at k8
    have hend := HP.out.removed (w5 := wc) (w8 := wc.setCell ⟨p, 8, none⟩ (.bool true)) nm HB2.out HON3.out.1 HON3.out.2.1 HON3.out.2.2 HO4.out HB4.out (by rw [hwc, HPN.out]) rfl
    have HEND := Lib.hid hend
    clear hend hpb4 hpb5 hwc hwc2 e8 hwt
    go_wp2_with fail
    go_ret
    exact ⟨rfl, HEND.out⟩
set_option maxHeartbeats 4000000 in
set_option maxRecDepth 100000 in
theorem play_k2n (h : Play B p cnt i w S) (hi : i ≤ 59) (nm b : List UInt8) (ab : Option Addr) (bc : Nat) (hn100 : nm.length ≤ 100) (hth : ¬ findP S.L nm < S.L.length) :
    Calls Tryz.prog 45 #[.pointer (some ⟨p, 0, none⟩), .agg #[.int .i64 2, nv nm, .slice ab b.length bc]] w fun e w' => e = .returned (.bool true) ∧ Step B p cnt (i + 1) S w w' := by
  obtain ⟨sn, hsn⟩ : ∃ s : ByteArray, nv nm = .string s := ⟨_, rfl⟩
  have hss : sn.size = nm.length := size_sv (show sv nm = .string sn from hsn)
  obtain ⟨bn, hbn⟩ : ∃ n, n = b.length := ⟨_, rfl⟩
  have hne := (h.rowN.find nm).1
  have hnf : nowF S.C S.H nm = none := Classical.byContradiction fun hc => hth (hne.2 hc)
  have hg : (decide ((0 : Int) < (sn.size : Int)) = false ∧ decide (0 < sn.size) = false) ∨ (decide ((0 : Int) < (sn.size : Int)) = true ∧ decide (0 < sn.size) = true ∧ decide ((sn.size : Int) ≤ 32) = false ∧ decide (sn.size ≤ 32) = false) ∨ (decide ((0 : Int) < (sn.size : Int)) = true ∧ decide (0 < sn.size) = true ∧ decide ((sn.size : Int) ≤ 32) = true ∧ decide (sn.size ≤ 32) = true) := by
    by_cases h0 : sn.size = 0
    · exact .inl ⟨decide_eq_false (by omega), decide_eq_false (by omega)⟩
    · by_cases h1 : sn.size ≤ 32
      · exact .inr (.inr ⟨decide_eq_true (by omega), decide_eq_true (by omega), decide_eq_true (by omega), decide_eq_true (by omega)⟩)
      · exact .inr (.inl ⟨decide_eq_true (by omega), decide_eq_true (by omega), decide_eq_false (by omega), decide_eq_false (by omega)⟩)
  obtain ⟨W1, hW1⟩ : ∃ W1, W1 = w.alloc (.cells #[.int .i64 2, .string sn, .slice ab bn bc] 48) := ⟨_, rfl⟩
  obtain ⟨rb, hrb⟩ : ∃ b, b = w.heap.size := ⟨_, rfl⟩
  have hB1 : Below w.heap.size w W1 := by rw [hW1]; exact (Below.refl _ w).alloc (Nat.le_refl _) _
  have hbr : Blk W1 rb 48 #[.int .i64 2, .string sn, .slice ab bn bc] := by rw [hW1, hrb]; exact Blk.new w _ _
  have hP1 := h.later hB1
  have hfd : ∀ n', _ := fun n' => (hP1.later (drewN_below (Below.refl _ W1) n')).find (by omega) nm
  rw [hsn] at hfd
  rw [if_neg hth, decide_eq_false hth] at hfd
  have c6 := hP1.cells.2.2.2.2.2.2.1
  have r1 := hbr.cell 1
  simp only [List.getElem?_toArray, List.getElem?_cons_zero, List.getElem?_cons_succ] at r1
  obtain ⟨sL, hsL⟩ : ∃ y, y = S.L.length := ⟨_, rfl⟩
  obtain ⟨sa, hsa⟩ : ∃ y, y = S.an := ⟨_, rfl⟩
  obtain ⟨sc, hsc⟩ : ∃ y, y = S.nc := ⟨_, rfl⟩
  rw [← hsL, ← hsa, ← hsc] at c6 hfd
  have HP := Lib.hid h
  have HB1 := Lib.hid hB1
  have HBR := Lib.hid hbr
  have HFD := Lib.hid hfd
  have HSN := Lib.hid hsn
  have HNF := Lib.hid hnf
  have HS := Lib.hid (And.intro hsL (And.intro hsa hsc))
  have hrbw := Lib.hid hrb
  rw [hsn, ← hbn]
  clear h hB1 hbr hP1 hfd hsn hbn hsL hsa hsc hss hth hne
  go_enter Tryz.func45, Tryz.ntmps45
  go_wp2_with fail
  rw [← hW1, ← hrb]
  clear hW1 hrb hnf
  go_quiet ((go_at_call 46; refine Calls.quiet_of_same (HFD.out _)))
  obtain ⟨V, hV⟩ : ∃ V, V = W1.drewN nq := ⟨_, rfl⟩
  have hBV : Below W1.heap.size W1 V := by rw [hV]; exact drewN_below (Below.refl _ _) _
  rw [← hV]
  clear hV HFD c6 r1
  have hB0V : Below w.heap.size w V := HB1.out.trans (hBV.mono HB1.out.size)
  have hPV := HP.out.later hB0V
  have hbrV := HBR.out.below hBV HBR.out.lt
  have r0 := hbrV.cell 0
  have r1 := hbrV.cell 1
  simp only [List.getElem?_toArray, List.getElem?_cons_zero, List.getElem?_cons_succ] at r0 r1
  have c0 := hPV.cells.1
  obtain ⟨ss, hss⟩ : ∃ y, y = S.s := ⟨_, rfl⟩
  rw [← hss] at c0
  have hB2 : Below w.heap.size w V.drew := hB0V.drew
  have hP2 := hPV.later (Below.refl _ V).drew
  have hwr := on_remove_none hP2.on (by omega) nm HNF.out
  rw [HSN.out] at hwr
  have HWR : Hid (Calls Tryz.prog 27 #[.pointer (some ⟨ss, 0, none⟩), .string sn] V.drew fun e w' => e = .returned (.int .i64 8) ∧ Below V.drew.heap.size V.drew w') := Lib.hid (by rw [hss]; exact hwr)
  have HPV := Lib.hid hPV
  have HB2 := Lib.hid hB2
  have HBRV := Lib.hid hbrV
  clear hPV hbrV hB0V hwr hss hB2 hBV hP2
  rcases hg with ⟨g1, g1b⟩ | ⟨g1, g1b, g2, g2b⟩ | ⟨g1, g1b, g2, g2b⟩
  all_goals
    go_wp2_with fail
    go_still_tail 6, (by kernel_rfl)
    change wpList _ _ _ _ _ V.drew
    go_wp2_with fail
    refine HWR.out.mono ?_
    rintro e w3 ⟨rfl, hB3⟩
    have HEND := Lib.hid (HP.out.same (j := i + 1) (by omega) (HB2.out.trans (hB3.mono HB2.out.size)))
    clear hB3
    go_wp2_with fail
    go_ret
    exact ⟨rfl, HEND.out⟩
end Go.Proofs.YtbfochdoeibofaaGreatDoor.Full

/- palmerlaw10: a play's acts: any change; opened anew. -/
namespace Go.Proofs.YtbfochdoeibofaaGreatDoor.Full
open Go.RowKit Go.Deep Mem Crc Go.Maps Go.Proofs.YtbfochdoeibofaaGreatDoor.Dk Go.Proofs.YtbfochdoeibofaaGreatDoor.Mani Go.Proofs.YtbfochdoeibofaaGreatDoor.RefF
open Go.Proofs.YtbfochdoeibofaaGreatDoor.Store (Chg none' nv Files setC setC_same setC_other)
open Go.Proofs.YtbfochdoeibofaaGreatDoor.Ext (Tab)

variable {B p cnt i : Nat} {w w' : World} {S : PD}
theorem play_changes (h : Play B p cnt i w S) (hi : i ≤ 59) (kd : Int) (nm b : List UInt8) (ab : Option Addr) (bc : Nat) (hb : Lies w ab (b.map bv)) (hbl : b.length ≤ 1000) (hn : nm.length ≤ 100) :
    Calls Tryz.prog 45 #[.pointer (some ⟨p, 0, none⟩), .agg #[.int .i64 kd, nv nm, .slice ab b.length bc]] w fun e w' => e = .returned (.bool true) ∧ Step B p cnt (i + 1) S w w' := by
  by_cases hth : findP S.L nm < S.L.length
  · by_cases k0 : kd = 0
    · subst k0
      by_cases hg : 1 ≤ nm.length ∧ nm.length ≤ 32
      · exact play_k0 h hi nm b ab bc hb hbl hg.1 hg.2
      · exact play_k0_bad h hi nm b ab bc hb hbl (by omega) hn
    · by_cases k1 : kd = 1
      · subst k1
        by_cases hg : 1 ≤ nm.length ∧ nm.length ≤ 32
        · exact play_k1t h hi nm b ab bc hb hbl hg.1 hg.2 hth
        · exact play_k1n_bad h hi nm b ab bc hb hbl (by omega) hn
      · by_cases k2 : kd = 2
        · subst k2
          exact play_k2t h hi nm b ab bc hn hth
        · exact play_forget h nm b ab bc kd (by simpa using k0) (by simpa using k1) (by simpa using k2) hi
  · by_cases k0 : kd = 0
    · subst k0
      by_cases hg : 1 ≤ nm.length ∧ nm.length ≤ 32
      · exact play_k0 h hi nm b ab bc hb hbl hg.1 hg.2
      · exact play_k0_bad h hi nm b ab bc hb hbl (by omega) hn
    · by_cases k1 : kd = 1
      · subst k1
        by_cases hg : 1 ≤ nm.length ∧ nm.length ≤ 32
        · exact play_k1n h hi nm b ab bc hb hbl hg.1 hg.2 hth
        · exact play_k1n_bad h hi nm b ab bc hb hbl (by omega) hn
      · by_cases k2 : kd = 2
        · subst k2
          exact play_k2n h hi nm b ab bc hn hth
        · exact play_forget h nm b ab bc kd (by simpa using k0) (by simpa using k1) (by simpa using k2) hi
/-- A play whose store was opened anew. -/
theorem Play.opened (h : Play B p cnt i w S) {w1 w2 w3 w8 : World} {nb s' cm' : Nat} {Q' : Nat → Prop} {m' : DM}
    (hB1 : Below w.heap.size w w1) (hon : On B s' S.d S.g cm' w2 Q' m' S.ver S.next S.fs none' S.H 0) (hsl : Slots m'.bl S.ver S.next S.fs) (hlen : m'.bl.length = cnt) (hq2 : ∀ k, Q' k → S.Q k ∨ w1.heap.size ≤ k) (hu2 : Upon S.Q w1 w2)
    (h3 : w3 = ((w2.setCell ⟨p, 0, none⟩ (.pointer (some ⟨s', 0, none⟩))).setCell ⟨p, 6, none⟩ (.slice S.ah S.LH.length S.hc)).alloc (.cells #[] 9)) (hnb : nb = w2.heap.size) (h8 : w8 = (w3.setCell ⟨p, 7, none⟩ (.slice (some ⟨nb, 0, none⟩) 0 0)).setCell ⟨p, 8, none⟩ (.bool false)) :
    Step B p cnt (i + 1) S w w8 := by
  have hz1 := hB1.size
  have hz2 := hu2.size
  have hpl := h.blk.lt
  have hlow := h.on.low
  have hlt2 := hon.lt
  have hpb2 := (h.blk.below hB1 hpl).upon hu2 h.pq
  have hpbs := (hpb2.set 0 (.pointer (some ⟨s', 0, none⟩))).set 6 (.slice S.ah S.LH.length S.hc)
  have hss : ((w2.setCell ⟨p, 0, none⟩ (.pointer (some ⟨s', 0, none⟩))).setCell ⟨p, 6, none⟩ (.slice S.ah S.LH.length S.hc)).heap.size = w2.heap.size := by simp [World.setCell]
  have hpb3 := hpbs.alloc (.cells #[] 9)
  rw [← h3] at hpb3
  have hpb8 := (hpb3.set 7 (.slice (some ⟨nb, 0, none⟩) 0 0)).set 8 (.bool false)
  rw [← h8] at hpb8
  have hu23 : Upon (fun g => g = p) w2 w3 := by rw [h3]; exact (((Upon.refl (fun g => g = p) w2).set (p := ⟨p, 0, none⟩) (.inl rfl) _).set (p := ⟨p, 6, none⟩) (.inl rfl) _).alloc _
  have hu38 : Upon (fun g => g = p) w3 w8 := by rw [h8]; exact ((Upon.refl (fun g => g = p) w3).set (p := ⟨p, 7, none⟩) (.inl rfl) _).set (p := ⟨p, 8, none⟩) (.inl rfl) _
  have hu28 := hu23.trans hu38 (fun k hk => .inl hk)
  have hO3 : w3.ownsRow B 9 1 (.slice (some ⟨nb, 0, none⟩) 0 0) 0 [] := by
    rw [h3, hnb, ← hss]
    exact World.ownsRow_lit _ #[] 0 (by rw [hss]; omega) (by decide) rfl
  have hO8 := own_upon hO3 hu38 (fun g hg e => by
    have e1 : nb = g := by simpa [Value.ownBlock] using hg
    have := hpb2.lt
    omega)
  have hpos := h.on.pos
  have hpq : ¬ Q' p := fun hk => (hq2 p hk).elim h.pq (fun h4 => by omega)
  have hon8 := hon.keep hu28 (fun k hk => by
    rw [hk]
    exact ⟨hpq, by have := h.pb; omega⟩)
  have hu8 : Upon (S.D p) w w8 := ((Upon.of_below (P := S.D p) hB1).trans (hu2.mono (fun k hk => Or.inl hk)) (fun k hk => .inl hk)).trans (hu28.mono (fun k hk => Or.inr (Or.inl hk))) (fun k hk => .inl hk)
  have hvb : ∀ k, (Value.slice (some ⟨nb, 0, none⟩) 0 0).ownBlock = some k → k = nb := fun k hk => by
    have : nb = k := by simpa [Value.ownBlock] using hk
    exact this.symm
  have hq : ∀ k, Q' k → S.Q k ∨ w.heap.size ≤ k := fun k hk => (hq2 k hk).imp id (fun h4 => by omega)
  have hd : ∀ k, PD.D {S with s := s', cm := cm', Q := Q', m := m', C := none', L := S.LH, ch := [], wt := false, an := S.ah, nc := S.hc, vc := .slice (some ⟨nb, 0, none⟩) 0 0} p k → S.D p k ∨ w.heap.size ≤ k := fun k hk => by
    rcases hk with hk | rfl | hk
    · exact (hq k hk).imp (fun h1 => .inl h1) id
    · exact .inl (.inr (.inl rfl))
    · have := hvb k hk
      exact .inr (by omega)
  obtain ⟨l1, l2⟩ := h.keepH hu8 hd
  obtain ⟨f1, f2, f3⟩ := h.keepF hu8 hd
  have hm := h.mono (Nat.le_succ i)
  refine ⟨{S with s := s', cm := cm', Q := Q', m := m', C := none', L := S.LH, ch := [], wt := false, an := S.ah, nc := S.hc, vc := .slice (some ⟨nb, 0, none⟩) 0 0}, ?_, hd, hu8⟩
  exact ⟨hon8.mono (Nat.zero_le _), hsl, hlen, hpb8, hpq, h.pb, (fun k hk hq5 => by have := hvb k hk; have := hlt2 k hq5; omega), hO8, h.fl, f1, f2, f3, l1, l2, l1, l2, h.rowH, (by dsimp only; rw [nowF_none]; exact h.rowH), ⟨(fun x hx => (by cases hx)), (fun x b hx => (by cases hx))⟩, ⟨(fun _ _ => rfl), (fun _ => rfl)⟩, hm.vi, hm.ni, Nat.zero_le _, hm.lh, hm.lh, hm.eachH, hm.eachH, h.capH, h.capH⟩
/-- store.Open of a play's disk. -/
theorem Play.open (h : Play B p cnt i w S) : Calls Tryz.prog 23 #[.pointer (some ⟨S.d, 0, none⟩)] w fun e w' => ∃ s' cm' Q' m', e = .returned (.tuple #[.pointer (some ⟨s', 0, none⟩), .int .i64 0]) ∧ On B s' S.d S.g cm' w' Q' m' S.ver S.next S.fs none' S.H 0 ∧ Slots m'.bl S.ver S.next S.fs ∧ m'.bl.length = cnt ∧ (∀ k, Q' k → S.Q k ∨ w.heap.size ≤ k) ∧ Upon S.Q w w' := by
  have := on_open h.on h.slots
  rw [h.len] at this
  exact this
attribute [local go_sem] Oper.semAt_some
set_option maxHeartbeats 2000000 in
set_option maxRecDepth 100000 in
theorem play_does3 (h : Play B p cnt i w S) (hi : i ≤ 59) (nm : List UInt8) (bv_ : Value) (hbv : ∃ a k c, bv_ = .slice a k c) :
    Calls Tryz.prog 15 #[.pointer (some ⟨p, 0, none⟩), .agg #[.int .i64 3, nv nm, bv_]] w fun e w' => e = .returned (.bool true) ∧ Step B p cnt (i + 1) S w w' := by
  obtain ⟨ab, bn, bc, rfl⟩ := hbv
  obtain ⟨sn, hsn⟩ : ∃ s : ByteArray, nv nm = .string s := ⟨_, rfl⟩
  obtain ⟨W1, hW1⟩ : ∃ W1, W1 = w.alloc (.cells #[.int .i64 3, .string sn, .slice ab bn bc] 48) := ⟨_, rfl⟩
  have hB1 : Below w.heap.size w W1 := by rw [hW1]; exact (Below.refl _ w).alloc (Nat.le_refl _) _
  have HC := Lib.hid (play_commits (h.later hB1) hi)
  have HB1 := Lib.hid hB1
  rw [hsn]
  clear h hB1 hsn
  go_enter Tryz.func15, Tryz.ntmps15
  go_wp2_with fail
  rw [← hW1]
  clear hW1
  refine HC.out.mono ?_
  rintro e w1 ⟨k, rfl, hk, hS⟩
  have hk2 : (k != 6) = true := by simp only [bne, hk, Bool.not_false]
  have HS := Lib.hid (hS.above HB1.out)
  clear hS
  go_wp2_with fail
  go_ret
  exact ⟨rfl, HS.out⟩
end Go.Proofs.YtbfochdoeibofaaGreatDoor.Full

/- palmerlaw10: a play's acts: does. -/
namespace Go.Proofs.YtbfochdoeibofaaGreatDoor.Full
open Go.RowKit Go.Deep Mem Crc Go.Maps Go.Proofs.YtbfochdoeibofaaGreatDoor.Dk Go.Proofs.YtbfochdoeibofaaGreatDoor.Mani Go.Proofs.YtbfochdoeibofaaGreatDoor.RefF
open Go.Proofs.YtbfochdoeibofaaGreatDoor.Store (Chg none' nv Files setC setC_same setC_other)
open Go.Proofs.YtbfochdoeibofaaGreatDoor.Ext (Tab)

variable {B p cnt i : Nat} {w w' : World} {S : PD}
attribute [local go_sem] Oper.semAt_some
set_option maxHeartbeats 2000000 in
set_option maxRecDepth 100000 in
theorem play_does5 (h : Play B p cnt i w S) (hi : i ≤ 59) (nm : List UInt8) (ab : Option Addr) (bn bc : Nat) :
    Calls Tryz.prog 15 #[.pointer (some ⟨p, 0, none⟩), .agg #[.int .i64 5, nv nm, .slice ab bn bc]] w fun e w' => e = .returned (.bool true) ∧ Step B p cnt (i + 1) S w w' := by
  obtain ⟨sn, hsn⟩ : ∃ s : ByteArray, nv nm = .string s := ⟨_, rfl⟩
  obtain ⟨W1, hW1⟩ : ∃ W1, W1 = w.alloc (.cells #[.int .i64 5, .string sn, .slice ab bn bc] 48) := ⟨_, rfl⟩
  have hB1 : Below w.heap.size w W1 := by rw [hW1]; exact (Below.refl _ w).alloc (Nat.le_refl _) _
  have hP1 := h.later hB1
  have hop := hP1.open
  have c1 := hP1.cells.2.1
  obtain ⟨sd, hsd⟩ : ∃ y, y = S.d := ⟨_, rfl⟩
  rw [← hsd] at c1
  have HOP : Hid (Calls Tryz.prog 23 #[.pointer (some ⟨sd, 0, none⟩)] W1 fun e w' => ∃ s' cm' Q' m', e = .returned (.tuple #[.pointer (some ⟨s', 0, none⟩), .int .i64 0]) ∧ On B s' S.d S.g cm' w' Q' m' S.ver S.next S.fs none' S.H 0 ∧ Slots m'.bl S.ver S.next S.fs ∧ m'.bl.length = cnt ∧ (∀ k, Q' k → S.Q k ∨ W1.heap.size ≤ k) ∧ Upon S.Q W1 w') := Lib.hid (by rw [hsd]; exact hop)
  have HP := Lib.hid h
  have HP1 := Lib.hid hP1
  have HB1 := Lib.hid hB1
  rw [hW1] at c1
  rw [hsn]
  clear h hP1 hB1 hsn hop hsd
  go_enter Tryz.func15, Tryz.ntmps15
  go_wp2_with fail
  rw [← hW1]
  clear hW1 c1
  refine HOP.out.mono ?_
  rintro e w2 ⟨s', cm', Q', m', rfl, hon2, hsl2, hln2, hq2, hu2⟩
  have hpb2 := HP1.out.blk.upon hu2 HP.out.pq
  have k0 := hpb2.cell 0
  have k5 := hpb2.cell 5
  have k6 := hpb2.cell 6
  have z0 := hpb2.frozen 0
  have z6 := hpb2.frozen 6
  unfold PD.cells at k0 k5 k6
  simp only [List.getElem?_toArray, List.getElem?_cons_zero, List.getElem?_cons_succ] at k0 k5 k6
  obtain ⟨la, hla⟩ : ∃ y, y = S.ah := ⟨_, rfl⟩
  obtain ⟨ln, hln⟩ : ∃ y, y = S.LH.length := ⟨_, rfl⟩
  obtain ⟨lc, hlc⟩ : ∃ y, y = S.hc := ⟨_, rfl⟩
  rw [← hla, ← hln, ← hlc] at k5
  have hpb3 := ((hpb2.set 0 (.pointer (some ⟨s', 0, none⟩))).set 6 (.slice la ln lc)).alloc (.cells #[] 9)
  have j7 := hpb3.cell 7
  have j8 := hpb3.cell 8
  have y7 := hpb3.frozen 7
  have y8 := hpb3.frozen 8
  have e7 : ((S.cells.setIfInBounds 0 (.pointer (some ⟨s', 0, none⟩))).setIfInBounds 6 (.slice la ln lc))[7]? = some S.vc := by unfold PD.cells; rfl
  have e8 : ((S.cells.setIfInBounds 0 (.pointer (some ⟨s', 0, none⟩))).setIfInBounds 6 (.slice la ln lc))[8]? = some (.bool S.wt) := by unfold PD.cells; rfl
  rw [e7] at j7
  rw [e8] at j8
  obtain ⟨nb, hnb⟩ : ∃ b, b = w2.heap.size := ⟨_, rfl⟩
  have hend := HP.out.opened (nb := nb) (w3 := ((w2.setCell ⟨p, 0, none⟩ (.pointer (some ⟨s', 0, none⟩))).setCell ⟨p, 6, none⟩ (.slice S.ah S.LH.length S.hc)).alloc (.cells #[] 9)) HB1.out hon2 hsl2 hln2 hq2 hu2 rfl hnb rfl
  rw [← hla, ← hln, ← hlc, hnb] at hend
  obtain ⟨vc, hvc⟩ : ∃ y, y = S.vc := ⟨_, rfl⟩
  obtain ⟨wt, hwt⟩ : ∃ y, y = S.wt := ⟨_, rfl⟩
  rw [← hvc] at j7
  rw [← hwt] at j8
  have HEND := Lib.hid hend
  clear hend hpb2 hpb3 e7 e8 hon2 hsl2 hln2 hq2 hu2 hla hln hlc hnb hvc hwt HOP
  go_wp2_with fail
  go_ret
  exact ⟨rfl, HEND.out⟩
set_option maxHeartbeats 2000000 in
set_option maxRecDepth 100000 in
theorem play_doesC (h : Play B p cnt i w S) (hi : i ≤ 59) (kd : Int) (hkd : kd = 0 ∨ kd = 1 ∨ kd = 2 ∨ kd = 4) (nm b : List UInt8) (ab : Option Addr) (bc : Nat) (hb : Lies w ab (b.map bv)) (hbl : b.length ≤ 1000) (hn : nm.length ≤ 100) :
    Calls Tryz.prog 15 #[.pointer (some ⟨p, 0, none⟩), .agg #[.int .i64 kd, nv nm, .slice ab b.length bc]] w fun e w' => e = .returned (.bool true) ∧ Step B p cnt (i + 1) S w w' := by
  obtain ⟨W1, hW1⟩ : ∃ W1, W1 = w.alloc (.cells #[.int .i64 kd, nv nm, .slice ab b.length bc] 48) := ⟨_, rfl⟩
  have hB1 : Below w.heap.size w W1 := by rw [hW1]; exact (Below.refl _ w).alloc (Nat.le_refl _) _
  have hC := play_changes (h.later hB1) hi kd nm b ab bc (hb.later hB1) hbl hn
  have HB1 := Lib.hid hB1
  obtain ⟨sn, hsn⟩ : ∃ s : ByteArray, nv nm = .string s := ⟨_, rfl⟩
  obtain ⟨bn, hbn⟩ : ∃ n, n = b.length := ⟨_, rfl⟩
  rw [hsn, ← hbn] at hC hW1 ⊢
  have HC := Lib.hid hC
  clear h hb hC hB1 hsn hbn
  rcases hkd with rfl | rfl | rfl | rfl
  all_goals
    go_enter Tryz.func15, Tryz.ntmps15
    go_wp2_with fail
    rw [← hW1]
    refine HC.out.mono ?_
    rintro e w1 ⟨rfl, hS⟩
    have HS := Lib.hid (hS.above HB1.out)
    clear hS hW1
    go_wp2_with fail
    go_ret
    exact ⟨rfl, HS.out⟩
end Go.Proofs.YtbfochdoeibofaaGreatDoor.Full

/- palmerlaw10: a play's acts: Read. -/
namespace Go.Proofs.YtbfochdoeibofaaGreatDoor.Full
open Go.RowKit Go.Deep Mem Crc Go.Maps Go.Proofs.YtbfochdoeibofaaGreatDoor.Dk Go.Proofs.YtbfochdoeibofaaGreatDoor.Mani Go.Proofs.YtbfochdoeibofaaGreatDoor.RefF
open Go.Proofs.YtbfochdoeibofaaGreatDoor.Store (Chg none' nv Files setC setC_same setC_other)
open Go.Proofs.YtbfochdoeibofaaGreatDoor.Ext (Tab)

variable {B p cnt i : Nat} {w w' : World} {S : PD}
attribute [local go_sem] eql_str
attribute [local go_sem] Oper.semAt_some
set_option maxHeartbeats 4000000 in
set_option maxRecDepth 100000 in
theorem play_doesR (h : Play B p cnt i w S) (hi : i ≤ 59) (kd : Int) (hk0 : (kd == 0) = false) (hk1 : (kd == 1) = false) (hk2 : (kd == 2) = false) (hk3 : (kd == 3) = false) (hk4 : (kd == 4) = false) (hk5 : (kd == 5) = false) (nm : List UInt8) (ab : Option Addr) (bn bc : Nat) (hn : nm.length ≤ 100) :
    Calls Tryz.prog 15 #[.pointer (some ⟨p, 0, none⟩), .agg #[.int .i64 kd, nv nm, .slice ab bn bc]] w fun e w' => e = .returned (.bool true) ∧ Step B p cnt (i + 1) S w w' := by
  obtain ⟨sn, hsn⟩ : ∃ s : ByteArray, nv nm = .string s := ⟨_, rfl⟩
  obtain ⟨W1, hW1⟩ : ∃ W1, W1 = w.alloc (.cells #[.int .i64 kd, .string sn, .slice ab bn bc] 48) := ⟨_, rfl⟩
  obtain ⟨rb, hrb⟩ : ∃ b, b = w.heap.size := ⟨_, rfl⟩
  have hB1 : Below w.heap.size w W1 := by rw [hW1]; exact (Below.refl _ w).alloc (Nat.le_refl _) _
  have hbr : Blk W1 rb 48 #[.int .i64 kd, .string sn, .slice ab bn bc] := by rw [hW1, hrb]; exact Blk.new w _ _
  have hP1 := h.later hB1
  have hrd := on_read (hP1.later (Below.refl _ W1).drew).on nm (by omega)
  obtain ⟨rl, hrl⟩ : ∃ y, y = (ansF (nowF S.C S.H nm)).1 := ⟨_, rfl⟩
  obtain ⟨ek, hek⟩ : ∃ y, y = (ansF (nowF S.C S.H nm)).2 := ⟨_, rfl⟩
  rw [hsn, ← hrl, ← hek] at hrd
  obtain ⟨ss, hss⟩ : ∃ y, y = S.s := ⟨_, rfl⟩
  have c0 := hP1.cells.1
  have r1 := hbr.cell 1
  simp only [List.getElem?_toArray, List.getElem?_cons_zero, List.getElem?_cons_succ] at r1
  rw [← hss] at c0
  have HRD : Hid (Calls Tryz.prog 12 #[.pointer (some ⟨ss, 0, none⟩), .string sn] W1.drew fun e w' => ∃ v, e = .returned (.tuple #[v, .int .i64 ek]) ∧ OwnB w' W1.drew.heap.size v rl ∧ Below W1.drew.heap.size W1.drew w') := Lib.hid (by rw [hss]; exact hrd)
  have HP := Lib.hid h
  have HP1 := Lib.hid hP1
  have HB1 := Lib.hid hB1
  have HBR := Lib.hid hbr
  have HSN := Lib.hid hsn
  have HRL := Lib.hid (And.intro hrl hek)
  rw [hsn]
  clear h hP1 hB1 hbr hsn hrd hss hrl hek
  go_enter Tryz.func15, Tryz.ntmps15
  go_wp2_with fail
  rw [← hW1, ← hrb]
  clear hW1 hrb
  go_wp2_with fail
  go_cut [9, 10] (fun s9 s10 wx => ∃ (ra : Option Addr) (rc rn : Nat), s9 = .slice ra rn rc ∧ s10 = .int .i64 ek ∧ Hid (rn = rl.length) ∧ Hid (OwnB wx W1.heap.size (.slice ra rl.length rc) rl) ∧ Hid (Below W1.heap.size W1 wx))
  case first =>
    go_region_law ((first | (go_simp; go_at_call 12; refine HRD.out.mono ?_; rintro e w4 ⟨v, rfl, hO4, hB4⟩; obtain ⟨ra, rc, rfl, _, _, _, _⟩ := own_shape hO4; obtain ⟨rn, hrn⟩ : ∃ y, y = rl.length := ⟨_, rfl⟩; have HO4 := Lib.hid hO4; have HB4 : Hid (Below W1.heap.size W1 w4) := Lib.hid ⟨hB4.os, hB4.tape, hB4.output, hB4.size, hB4.block⟩; have HRN := Lib.hid hrn; rw [← hrn]; clear hO4 hB4 hrn; dsimp only)))
    all_goals go_wp2_with fail
    all_goals go_meet
    all_goals exact ⟨_, _, _, rfl, rfl, HRN, HO4, HB4⟩
  case rest =>
    obtain ⟨ra, rc, rn, rfl, rfl, HRN, HO4, HB4⟩ := hcut
    have hP4 := HP1.out.later HB4.out
    have hbr4 := HBR.out.below HB4.out HBR.out.lt
    have c6 := hP4.cells.2.2.2.2.2.2.1
    have r1 := hbr4.cell 1
    simp only [List.getElem?_toArray, List.getElem?_cons_zero, List.getElem?_cons_succ] at r1
    have hfd : ∀ n', _ := fun n' => (hP4.later (drewN_below (Below.refl _ wc) n')).find (by omega) nm
    rw [HSN.out] at hfd
    by_cases hth : findP S.L nm < S.L.length
    · rw [if_pos hth, decide_eq_true hth] at hfd
      obtain ⟨fi, hfi⟩ : ∃ y, y = findP S.L nm := ⟨_, rfl⟩
      rw [← hfi] at hfd
      obtain ⟨fx, hfx⟩ : ∃ x, S.L[fi]? = some x := ⟨S.L[fi]'(by rw [hfi]; exact hth), List.getElem?_eq_getElem _⟩
      obtain ⟨gn, on, hsa2, n0, n1⟩ := cells_at hP4.nl hfx
      have hbo : rl = fx.2 := by
        rw [HRL.out.1, HP.out.rowN.was nm, if_pos hth, List.getD_eq_getElem?_getD, ← hfi, hfx]
        rfl
      have he0 : ek = 0 := by
        rw [HRL.out.2]
        cases hnn : nowF S.C S.H nm with
        | none => exact absurd hnn ((HP.out.rowN.find nm).1.1 hth)
        | some y => rfl
      have hee : (ek == 0) = true := by rw [he0]; rfl
      obtain ⟨so, hso⟩ : ∃ s : ByteArray, nv fx.2 = .string s := ⟨_, rfl⟩
      rw [hso] at n1
      obtain ⟨a', c', e', _, hLr, _, _⟩ := own_shape HO4.out
      injection e' with e1 e2 e3
      subst e1 e3
      have hcv : ∀ V : World, Below wc.heap.size wc V → (convert 22 9 (.slice ra rn rc)).run Tryz.prog V = .ok (.string so) V := fun V hV => by
        have := conv_any (vc := rc) (hLr.later hV)
        rw [← HRN.out, hbo, hso] at this
        exact this
      have hcv2 : ∀ n', (convert 22 9 (.slice ra rn rc)).run Tryz.prog ((wc.drewN n')) = .ok (.string so) (wc.drewN n') := fun n' => hcv _ (drewN_below (Below.refl _ _) _)
      obtain ⟨sL, hsL⟩ : ∃ y, y = S.L.length := ⟨_, rfl⟩
      obtain ⟨sc, hsc⟩ : ∃ y, y = S.nc := ⟨_, rfl⟩
      rw [← hsL, ← hsc] at c6 hfd
      rw [hsa2] at c6 hfd
      have hfil : fi < sL := by rw [hfi, hsL]; exact hth
      have hfib : sL ≤ 1000 := by rw [hsL]; have := HP.out.ll; omega
      have HFD := Lib.hid hfd
      have HCV := Lib.hid hcv
      have HEND := Lib.hid (fun (V : World) (hV : Below wc.heap.size wc V) => HP.out.same (j := i + 1) (by omega) (HB1.out.trans ((HB4.out.trans (hV.mono HB4.out.size)).mono HB1.out.size)))
      have HP4 := Lib.hid hP4
      have HNL := Lib.hid hP4.nl
      have HSA2 := Lib.hid hsa2
      have HFX := Lib.hid hfx
      have HSO := Lib.hid hso
      clear hfd hcv hP4 hbr4 hfi hfx hsa2 hbo he0 hso hLr hsL hsc hth
      go_wp2_with fail
      go_quiet ((go_at_call 46; refine Calls.quiet_of_same (HFD.out _)))
      obtain ⟨V, hV⟩ : ∃ V, V = wc.drewN nq := ⟨_, rfl⟩
      have hBV : Below wc.heap.size wc V := by rw [hV]; exact drewN_below (Below.refl _ _) _
      rw [← hV]
      clear hV c6 n0 n1 r1 hcv2
      have c6 := (HP4.out.later hBV).cells.2.2.2.2.2.2.1
      obtain ⟨g3, o3, e3, n0, n1⟩ := cells_at (HNL.out.later hBV) HFX.out
      rw [HSA2.out] at e3
      cases e3
      rw [HSO.out] at n1
      have hcv3 : ∀ n', (convert 22 9 (.slice ra rn rc)).run Tryz.prog (V.drewN n') = .ok (.string so) (V.drewN n') := fun n' => HCV.out _ (drewN_below hBV _)
      have hcv4 : (convert 22 9 (.slice ra rn rc)).run Tryz.prog V = .ok (.string so) V := HCV.out _ hBV
      obtain ⟨sL2, hsL2⟩ : ∃ y, y = S.L.length := ⟨_, rfl⟩
      obtain ⟨sc2, hsc2⟩ : ∃ y, y = S.nc := ⟨_, rfl⟩
      rw [← hsL2, ← hsc2, HSA2.out] at c6
      have hfil2 : fi < sL2 := by
        rw [hsL2]
        exact (List.getElem?_eq_some_iff.1 HFX.out).1
      have hfib2 : sL2 ≤ 1000 := by rw [hsL2]; have := HP.out.ll; omega
      have HBV := Lib.hid hBV
      clear hBV hsL2 hsc2 hfil hfib
      go_wp2_with fail
      go_quiet (fail)
      go_wp2_with fail
      go_ret
      exact ⟨rfl, HEND.out _ (drewN_below HBV.out _)⟩
    · rw [if_neg hth, decide_eq_false hth] at hfd
      have hbo : rl = [] := by rw [HRL.out.1, HP.out.rowN.was nm, if_neg hth]
      have hrn0 : rn = 0 := by rw [HRN.out, hbo]; rfl
      have he8 : ek = 8 := by
        rw [HRL.out.2]
        cases hnn : nowF S.C S.H nm with
        | none => rfl
        | some y => exact absurd ((HP.out.rowN.find nm).1.2 (by rw [hnn]; exact fun e => by cases e)) hth
      subst hrn0 he8
      obtain ⟨sL, hsL⟩ : ∃ y, y = S.L.length := ⟨_, rfl⟩
      obtain ⟨sa, hsa⟩ : ∃ y, y = S.an := ⟨_, rfl⟩
      obtain ⟨sc, hsc⟩ : ∃ y, y = S.nc := ⟨_, rfl⟩
      rw [← hsL, ← hsa, ← hsc] at c6 hfd
      have HFD := Lib.hid hfd
      have HEND := Lib.hid (fun (V : World) (hV : Below wc.heap.size wc V) => HP.out.same (j := i + 1) (by omega) (HB1.out.trans ((HB4.out.trans (hV.mono HB4.out.size)).mono HB1.out.size)))
      clear hfd hP4 hbr4 hth hsL hsa hsc hbo HRN
      go_wp2_with fail
      go_quiet ((go_at_call 46; refine Calls.quiet_of_same (HFD.out _)))
      go_wp2_with fail
      go_ret
      exact ⟨rfl, HEND.out _ (drewN_below (Below.refl _ _) _)⟩
end Go.Proofs.YtbfochdoeibofaaGreatDoor.Full

/- palmerlaw10: great, all. Printed by gen/playb.py. -/
namespace Go.Proofs.YtbfochdoeibofaaGreatDoor.Full
open Go.RowKit Go.Deep Mem Crc Go.Maps Go.Proofs.YtbfochdoeibofaaGreatDoor.Dk Go.Proofs.YtbfochdoeibofaaGreatDoor.Mani Go.Proofs.YtbfochdoeibofaaGreatDoor.RefF
open Go.Proofs.YtbfochdoeibofaaGreatDoor.Store (Chg none' nv Files setC setC_same setC_other)
open Go.Proofs.YtbfochdoeibofaaGreatDoor.Ext (Tab)

/-- An act, and where its bytes lie. -/
structure AR where
  kd : Int
  nm : List UInt8
  b : List UInt8
  a : Option Addr
  c : Nat
def AR.vs (x : AR) : List Value := [.int .i64 x.kd, nv x.nm, .slice x.a x.b.length x.c]
def flatA (l : List AR) : List Value := l.flatMap AR.vs
theorem flatA_len (l : List AR) : (flatA l).length = l.length * 3 := by
  induction l with
  | nil => rfl
  | cons x r ih => unfold flatA at ih ⊢; rw [List.flatMap_cons, List.length_append, ih, List.length_cons]; show 3 + _ = _; omega
theorem flatA_at : ∀ {l : List AR} {k : Nat} {x : AR}, l[k]? = some x → ∀ {j : Nat} {u : Value}, x.vs[j]? = some u → (flatA l)[k * 3 + j]? = some u
  | [], k, x, hx, _, _, _ => by simp at hx
  | y :: r, 0, x, hx, j, u, hu => by
    simp at hx
    subst hx
    unfold flatA
    rw [List.flatMap_cons, List.getElem?_append_left (by have := (List.getElem?_eq_some_iff.1 hu).1; omega)]
    simpa using hu
  | y :: r, k + 1, x, hx, j, u, hu => by
    have := flatA_at (l := r) (k := k) (x := x) (by simpa using hx) hu
    have e : y.vs.length = 3 := rfl
    unfold flatA at this ⊢
    rw [List.flatMap_cons, List.getElem?_append_right (by rw [e]; omega), ← this]
    congr 1
    rw [e]
    omega
/-- Acts as they lie at a. -/
structure ActsIn (w : World) (a : Option Addr) (l : List AR) : Prop where
  row : Lies w a (flatA l)
  bytes : ∀ x ∈ l, Lies w x.a (x.b.map bv)
theorem ActsIn.later {w w' : World} {a : Option Addr} {l : List AR} (h : ActsIn w a l) (hB : Below w.heap.size w w') : ActsIn w' a l := ⟨h.row.later hB, fun x hx => (h.bytes x hx).later hB⟩
theorem ActsIn.cells {w : World} {a : Option Addr} {l : List AR} (h : ActsIn w a l) {k : Nat} {x : AR} (hx : l[k]? = some x) : ∃ g o, a = some ⟨g, o, none⟩ ∧ w.cell? ⟨g, o + k * 3, none⟩ = some (.int .i64 x.kd) ∧ w.cell? ⟨g, o + k * 3 + 1, none⟩ = some (nv x.nm) ∧ w.cell? ⟨g, o + k * 3 + 2, none⟩ = some (.slice x.a x.b.length x.c) := by
  have hne : flatA l ≠ [] := fun e => by
    have := flatA_len l
    have h2 := (List.getElem?_eq_some_iff.1 hx).1
    rw [e] at this
    simp at this
    omega
  obtain ⟨g, o, rfl, _, hc⟩ := h.row.resolve_left hne
  refine ⟨g, o, rfl, ?_, ?_, ?_⟩
  · exact hc _ _ (flatA_at hx (j := 0) rfl)
  · exact hc _ _ (flatA_at hx (j := 1) rfl)
  · exact hc _ _ (flatA_at hx (j := 2) rfl)
/-- Few acts, short names, few bytes. -/
def Small (cnt : Int) (l : List AR) : Prop := 40 ≤ cnt ∧ cnt ≤ 200 ∧ l.length ≤ 60 ∧ ∀ x ∈ l, x.b.length ≤ 1000 ∧ x.nm.length ≤ 100
attribute [local go_sem] Oper.semAt_some
set_option maxHeartbeats 1000000 in
theorem great_any (cnt : Int) (a : Option Addr) (c : Nat) (l : List AR) (w : World) (h : ActsIn w a l) :
    Calls Tryz.prog 14 #[.int .i64 cnt, .slice a l.length c] w fun e w' => w' = w ∧ (e = .returned (.bool true) ∨ (e = .returned (.bool false) ∧ Small cnt l)) := by
  obtain ⟨n, hn⟩ : ∃ n, n = l.length := ⟨_, rfl⟩
  rw [← hn]
  have H := Lib.hid h
  have HN := Lib.hid hn
  clear h hn
  by_cases h1 : cnt < 40
  · have d1 : decide (cnt < 40) = true := decide_eq_true h1
    go_enter Tryz.func14, Tryz.ntmps14
    go_wp2_with fail
    go_ret
    exact ⟨rfl, .inl rfl⟩
  have d1 : decide (cnt < 40) = false := decide_eq_false h1
  by_cases h2 : 200 < cnt
  · have d2 : decide (200 < cnt) = true := decide_eq_true h2
    go_enter Tryz.func14, Tryz.ntmps14
    go_wp2_with fail
    go_ret
    exact ⟨rfl, .inl rfl⟩
  have d2 : decide (200 < cnt) = false := decide_eq_false h2
  by_cases h3 : 60 < n
  · have d3 : decide ((60 : Int) < (n : Int)) = true := decide_eq_true (by omega)
    have d3b : decide (60 < n) = true := decide_eq_true h3
    go_enter Tryz.func14, Tryz.ntmps14
    go_wp2_with fail
    go_ret
    exact ⟨rfl, .inl rfl⟩
  have d3 : decide ((60 : Int) < (n : Int)) = false := decide_eq_false (by omega)
  have d3b : decide (60 < n) = false := decide_eq_false h3
  go_enter Tryz.func14, Tryz.ntmps14
  go_wp2_with fail
  go_loopw [5] (fun i wr => ∃ k : Nat, k ≤ n ∧ i = .int .i64 (k : Int) ∧ wr = w ∧ Hid (∀ j, j < k → ∀ x, l[j]? = some x → x.b.length ≤ 1000 ∧ x.nm.length ≤ 100)) (fun i _ => n - (intOf i).toNat)
  case atStart => exact ⟨0, Nat.zero_le _, rfl, rfl, Lib.hid (fun j hj => absurd hj (Nat.not_lt_zero _))⟩
  case round =>
    obtain ⟨k, hk, rfl, rfl, hp⟩ := hrel
    by_cases hkn : k < n
    · have hkd : decide ((k : Int) < (n : Int)) = true := decide_eq_true (by omega)
      obtain ⟨x, hx⟩ : ∃ x, l[k]? = some x := ⟨l[k]'(by rw [← HN.out]; exact hkn), List.getElem?_eq_getElem _⟩
      obtain ⟨g, o, rfl, c0, c1, c2⟩ := H.out.cells hx
      obtain ⟨sn, hsn⟩ : ∃ s : ByteArray, nv x.nm = .string s := ⟨_, rfl⟩
      have hss : sn.size = x.nm.length := size_sv (show sv x.nm = .string sn from hsn)
      rw [hsn] at c1
      obtain ⟨bn, hbn⟩ : ∃ n, n = x.b.length := ⟨_, rfl⟩
      rw [← hbn] at c2
      have HX := Lib.hid hx
      have HB := Lib.hid (And.intro hbn hss)
      clear hx hsn hss hbn
      by_cases e1 : 1000 < bn
      · have f1 : decide ((1000 : Int) < (bn : Int)) = true := decide_eq_true (by omega)
        have f1b : decide (1000 < bn) = true := decide_eq_true e1
        go_wp2_with fail
        go_ret
        exact ⟨rfl, .inl rfl⟩
      have f1 : decide ((1000 : Int) < (bn : Int)) = false := decide_eq_false (by omega)
      have f1b : decide (1000 < bn) = false := decide_eq_false e1
      by_cases e2 : 100 < sn.size
      · have f2 : decide ((100 : Int) < (sn.size : Int)) = true := decide_eq_true (by omega)
        have f2b : decide (100 < sn.size) = true := decide_eq_true e2
        go_wp2_with fail
        go_ret
        exact ⟨rfl, .inl rfl⟩
      have f2 : decide ((100 : Int) < (sn.size : Int)) = false := decide_eq_false (by omega)
      have f2b : decide (100 < sn.size) = false := decide_eq_false e2
      go_wp2_with fail
      exact ⟨⟨k + 1, hkn, by simp, by first | rfl | trivial, Lib.hid (fun j hj y hy => by
        rcases Nat.lt_or_eq_of_le (Nat.le_of_lt_succ hj) with h4 | h4
        · exact hp.out j h4 y hy
        · subst h4
          rw [HX.out] at hy
          cases hy
          have := HB.out
          omega)⟩, by simp [intOf]; omega⟩
    · obtain rfl : n = k := by omega
      have hkd : decide ((n : Int) < (n : Int)) = false := decide_eq_false (by omega)
      go_wp2_with fail
      go_ret
      exact ⟨rfl, .inr ⟨rfl, by omega, by omega, by rw [← HN.out]; omega, fun x hx => by
        obtain ⟨j, hj⟩ := List.mem_iff_getElem?.1 hx
        exact hp.out j (by rw [HN.out]; exact (List.getElem?_eq_some_iff.1 hj).1) x hj⟩⟩
variable {B s d g cm : Nat} {w : World} {Q : Nat → Prop} {m : DM} {ver next : Nat} {fs : List Fil} {C : Chg} {H : Files} {n : Nat}
set_option maxHeartbeats 4000000 in
set_option maxRecDepth 100000 in
theorem all_on (h : On B s d g cm w Q m ver next fs C H n) (hn : n ≤ 1000) (L : List FF) (hL : IsRow L (nowF C H)) (hll : L.length ≤ 1000) (hnm : ∀ x ∈ L, x.1.length ≤ 100) :
    Calls Tryz.prog 19 #[.pointer (some ⟨s, 0, none⟩)] w fun e w' => ∃ a c, e = .returned (.tuple #[.slice a L.length c, .bool true]) ∧ Lies w' a (flatP L) ∧ Below w.heap.size w w' := by
  obtain ⟨W1, hW1⟩ : ∃ W1, W1 = w.alloc (.cells #[] 69) := ⟨_, rfl⟩
  obtain ⟨ob, hob⟩ : ∃ b, b = w.heap.size := ⟨_, rfl⟩
  have hB1 : Below w.heap.size w W1 := by rw [hW1]; exact (Below.refl _ w).alloc (Nat.le_refl _) _
  have hO1 : W1.ownsRow w.heap.size 69 2 (.slice (some ⟨ob, 0, none⟩) 0 0) (L.take 0).length (flatP (L.take 0)) := by
    rw [hW1, hob]
    exact World.ownsRow_lit w #[] 0 (Nat.le_refl _) (by decide) rfl
  have HNM := Lib.hid (on_names (h.later hB1) (by omega))
  have HON := Lib.hid h
  have HL := Lib.hid hL
  have HNL := Lib.hid hnm
  have HB1 := Lib.hid hB1
  have HO1 := Lib.hid hO1
  obtain ⟨nl, hnl⟩ : ∃ k, k = L.length := ⟨_, rfl⟩
  rw [← hnl] at hll ⊢
  have HNN := Lib.hid hnl
  clear h hL hnm hB1 hO1 hnl
  go_enter Tryz.func19, Tryz.ntmps19
  go_wp2_with fail
  rw [← hW1, ← hob]
  clear hW1 hob
  refine HNM.out.mono ?_
  rintro e w2 ⟨v, ss, rfl, hown, hmem, hpw, _, hB2⟩
  have hss : L.map Prod.fst = ss := HL.out.names hpw hmem
  have hsn : ss.length = nl := by rw [← hss, List.length_map, HNN.out]
  rw [hsn] at hown
  obtain ⟨an, cn, rfl, hcn, hLn, hbn, _⟩ := own_shape hown
  have HLN := Lib.hid (own_mono hown (show w.heap.size ≤ W1.heap.size from HB1.out.size))
  have HB2 := Lib.hid hB2
  have HSS := Lib.hid hss
  have HO2 : Hid (w2.ownsRow w.heap.size 69 2 (.slice (some ⟨ob, 0, none⟩) 0 0) (L.take 0).length (flatP (L.take 0))) := Lib.hid (own_later HO1.out hB2)
  have hB02 := HB1.out.trans (HB2.out.mono HB1.out.size)
  have HB02 := Lib.hid hB02
  clear hown hmem hpw hss hsn hLn hbn HNM HO1 hB02
  go_wp2_with fail
  go_loopw [4, 6] (fun o i wr => ∃ k : Nat, k ≤ nl ∧ i = .int .i64 (k : Int) ∧ Hid (Below w.heap.size w wr) ∧ Hid (wr.ownsRow w.heap.size 69 2 o (L.take k).length (flatP (L.take k))) ∧ Hid (wr.ownsRow w.heap.size 9 1 (.slice an nl cn) nl (ss.map encStr))) (fun _ i _ => nl - (intOf i).toNat)
  case atStart => exact ⟨0, Nat.zero_le _, rfl, HB02, HO2, HLN⟩
  case round =>
    clear HO2 HLN
    obtain ⟨k, hk, rfl, HB, HO, HLN⟩ := hrel
    by_cases hkn : k < nl
    · have hkd : decide ((k : Int) < (nl : Int)) = true := decide_eq_true (by omega)
      obtain ⟨x, hx⟩ : ∃ x, L[k]? = some x := ⟨L[k]'(by rw [← HNN.out]; exact hkn), List.getElem?_eq_getElem _⟩
      obtain ⟨sx, hsx⟩ : ∃ s : ByteArray, nv x.1 = .string s := ⟨_, rfl⟩
      obtain ⟨sy, hsy⟩ : ∃ s : ByteArray, nv x.2 = .string s := ⟨_, rfl⟩
      obtain ⟨_, _, e8, _, hLnn, _, _⟩ := own_shape HLN.out
      cases e8
      obtain ⟨gn, on, rfl, c0⟩ := lies_at hLnn (k := k) (u := .string sx) (by
        rw [← HSS.out, List.map_map, List.getElem?_map, hx, ← hsx]
        rfl)
      have hxm := List.mem_of_getElem? hx
      have hfx : nowF C H x.1 = some x.2 := (HL.out.mem x.1 x.2).1 hxm
      have hrd := on_read (HON.out.later HB.out) x.1 (by have := HNL.out x hxm; omega)
      rw [hfx, hsx] at hrd
      have HRD : Hid (Calls Tryz.prog 12 #[.pointer (some ⟨s, 0, none⟩), .string sx] wr fun e w' => ∃ v, e = .returned (.tuple #[v, .int .i64 0]) ∧ OwnB w' wr.heap.size v x.2 ∧ Below wr.heap.size wr w') := Lib.hid hrd
      have HX := Lib.hid hx
      have HSX := Lib.hid hsx
      have HSY := Lib.hid hsy
      clear hx hsx hsy hxm hfx hrd
      go_wp2_with fail
      refine HRD.out.mono ?_
      rintro e w3 ⟨v, rfl, hO3, hB3⟩
      obtain ⟨ra, rc, rfl, _, hLr, _, _⟩ := own_shape hO3
      obtain ⟨rn, hrn⟩ : ∃ y, y = x.2.length := ⟨_, rfl⟩
      have hB03 : Below w.heap.size w w3 := HB.out.trans (hB3.mono HB.out.size)
      have hlk : (L.take k).length ≤ 1000 := by rw [List.length_take]; omega
      have hN3 := own_later HLN.out hB3
      have hN3d := own_later hN3 (Below.refl _ w3).drew
      have hcat : ∀ V : World, Lies V ra (x.2.map bv) → (convert 22 9 (.slice ra rn rc)).run Tryz.prog V = .ok (.string sy) V := fun V hV => by
        have := conv_any (vc := rc) hV
        rw [← hrn, HSY.out] at this
        exact this
      have hnat : ∀ V : World, V.ownsRow w.heap.size 9 1 (.slice (some ⟨gn, on, none⟩) nl cn) nl (ss.map encStr) → V.cell? ⟨gn, on + k, none⟩ = some (.string sx) := fun V hV => by
        obtain ⟨_, _, e8, _, hLv, _, _⟩ := own_shape hV
        cases e8
        obtain ⟨g7, o7, e7, c7⟩ := lies_at hLv (k := k) (u := .string sx) (by
          rw [← HSS.out, List.map_map, List.getElem?_map, HX.out, ← HSX.out]
          rfl)
        cases e7
        exact c7
      have hO3r := own_later (own_later HO.out hB3) (Below.refl _ w3).drew
      obtain ⟨va, vcc, rfl, _, _, _, _⟩ := own_shape HO.out
      obtain ⟨v4, w4, hr4, hrow4, hg4⟩ := append_F w3.drew 35 _ (L.take k) hO3r x (by omega) (show w.heap.size ≤ w3.drew.heap.size from hB03.size)
      rw [HSX.out, HSY.out] at hr4
      have hsuc : L.take k ++ [x] = L.take (k + 1) := by rw [List.take_add_one, HX.out]; rfl
      rw [hsuc] at hrow4
      have hB4 : Below w.heap.size w w4 := hB03.trans ((Below.refl w3.heap.size w3).drew.mono hB03.size) |>.grown hg4 (show w.heap.size ≤ w3.drew.heap.size from hB03.size) (fun q hq => (hO3r.lt q hq).1)
      have hg34 : w3.grownBy w4 (Value.slice va (L.take k).length vcc).ownBlock := grown_trans grown_drew hg4
      have hu4 : Upon (fun q => (Value.slice va (L.take k).length vcc).ownBlock = some q) w3.drew w4 := Upon.of_grown hg4 (fun q hq => .inl hq)
      have hN4 := own_upon hN3d hu4 (fun q hq e => own_ne_own hO3r hN3d (by decide) e hq)
      have hR4 := own_upon (own_later hO3 (Below.refl _ w3).drew) hu4 (fun q hq e => own_ne_own hO3r (own_later hO3 (Below.refl _ w3).drew) (by decide) e hq)
      obtain ⟨_, _, e9, _, hLr4, _, _⟩ := own_shape hR4
      injection e9 with e91 _ e93
      subst e91 e93
      have hal := (Below.refl w3.drew.heap.size w3.drew).alloc (Nat.le_refl _) (Obj.cells #[.string sx, .string sy] 69)
      have hS3 : w3.drew.cell? ⟨gn, on + k, none⟩ = some (.string sx) ∧ (convert 22 9 (.slice ra rn rc)).run Tryz.prog w3.drew = .ok (.string sy) w3.drew := ⟨hnat _ hN3d, hcat _ (hLr.later (Below.refl _ w3).drew)⟩
      have hS5 : (w3.drew.alloc (.cells #[.string sx, .string sy] 69)).cell? ⟨gn, on + k, none⟩ = some (.string sx) ∧ (convert 22 9 (.slice ra rn rc)).run Tryz.prog (w3.drew.alloc (.cells #[.string sx, .string sy] 69)) = .ok (.string sy) (w3.drew.alloc (.cells #[.string sx, .string sy] 69)) := ⟨hnat _ (own_later hN3d hal), hcat _ ((hLr.later (Below.refl _ w3).drew).later hal)⟩
      have hS4 : w4.cell? ⟨gn, on + k, none⟩ = some (.string sx) ∧ (convert 22 9 (.slice ra rn rc)).run Tryz.prog w4 = .ok (.string sy) w4 := ⟨hnat _ hN4, hcat _ hLr4⟩
      have c3 : w3.cell? ⟨gn, on + k, none⟩ = some (.string sx) := hnat _ hN3
      obtain ⟨ln4, hln4⟩ : ∃ y, y = (L.take (k + 1)).length := ⟨_, rfl⟩
      obtain ⟨ln3, hln3⟩ : ∃ y, y = (L.take k).length := ⟨_, rfl⟩
      rw [← hln3] at hr4
      have HROW4 := Lib.hid hrow4
      have HB4 := Lib.hid hB4
      have HN4 := Lib.hid hN4
      rw [← hrn, ← hln3]
      obtain ⟨w5, hw5⟩ : ∃ w5, w5 = w3.drew := ⟨_, rfl⟩
      have HRN := Lib.hid hrn
      have HL3 := Lib.hid hln3
      clear hrn hO3 hLr hB3 hN3 hN3d hcat hnat hO3r hrow4 hg4 hg34 hB4 hu4 hN4 hR4 hLr4 hal hB03 hsuc hln4 hln3 c0
      go_wp2_with fail
      refine wp_region_noPanic ?_
      refine wp_region_held_drew (S := fun w' => w'.cell? ⟨gn, on + k, none⟩ = some (.string sx) ∧ (convert 22 9 (.slice ra rn rc)).run Tryz.prog w' = .ok (.string sy) w') (by kernel_rfl) hS3 (fun hHeld => ?_)
      refine' wpAnyH_take (i := 0) (oi := ?oi1) (v := ?v1) ?hi1 (by kernel_rfl) (by kernel_rfl) (by kernel_rfl) (fun _ _ _ h => h) (Or.inl ⟨?hh1, ?hy1⟩) (by assumption) ?rest1
      case hi1 => (simp only [List.getElem?_toArray, List.getElem?_cons_succ, List.getElem?_cons_zero]; rfl)
      case hh1 => rfl
      case hy1 => (intro w' hSw; (try dsimp only at hSw); go_simp; try with_reducible rfl)
      try simp only [Act.put, List.setIfInBounds_toArray, List.set_cons_zero, List.set_cons_succ]
      refine' wpAnyH_take (i := 1) (oi := ?oi2) (v := ?v2) ?hi2 (by kernel_rfl) (by kernel_rfl) (by kernel_rfl) (fun _ _ _ h => h) (Or.inl ⟨?hh2, ?hy2⟩) (by assumption) ?rest2
      case hi2 => (simp only [List.getElem?_toArray, List.getElem?_cons_succ, List.getElem?_cons_zero]; rfl)
      case hh2 => rfl
      case hy2 => (intro w' hSw; (try dsimp only at hSw); go_simp; try with_reducible rfl)
      try simp only [Act.put, List.setIfInBounds_toArray, List.set_cons_zero, List.set_cons_succ]
      refine' wpAnyH_take (i := 2) (oi := ?oi3) (v := ?v3) ?hi3 (by kernel_rfl) (by kernel_rfl) (by kernel_rfl) (fun _ _ _ h => h) (Or.inl ⟨?hh3, ?hy3⟩) (by assumption) ?rest3
      case hi3 => (simp only [List.getElem?_toArray, List.getElem?_cons_succ, List.getElem?_cons_zero]; rfl)
      case hh3 => rfl
      case hy3 => (intro w' hSw; (try dsimp only at hSw); go_simp; try with_reducible rfl)
      try simp only [Act.put, List.setIfInBounds_toArray, List.set_cons_zero, List.set_cons_succ]
      refine' wpAnyH_take (i := 3) (oi := ?oi4) (v := ?v4) ?hi4 (by kernel_rfl) (by kernel_rfl) (by kernel_rfl) (fun _ _ _ h => h) (Or.inl ⟨?hh4, ?hy4⟩) (by assumption) ?rest4
      case hi4 => (simp only [List.getElem?_toArray, List.getElem?_cons_succ, List.getElem?_cons_zero]; rfl)
      case hh4 => rfl
      case hy4 => (intro w' hSw; (try dsimp only at hSw); go_simp; try with_reducible rfl)
      try simp only [Act.put, List.setIfInBounds_toArray, List.set_cons_zero, List.set_cons_succ]
      refine' wpAnyH_take (i := 4) (oi := ?oi5) (v := ?v5) ?hi5 (by kernel_rfl) (by kernel_rfl) (by kernel_rfl) (fun _ _ _ h => h) (Or.inl ⟨?hh5, ?hy5⟩) (by assumption) ?rest5
      case hi5 => (simp only [List.getElem?_toArray, List.getElem?_cons_succ, List.getElem?_cons_zero]; rfl)
      case hh5 => rfl
      case hy5 => (intro w' hSw; (try dsimp only at hSw); go_simp; try with_reducible rfl)
      try simp only [Act.put, List.setIfInBounds_toArray, List.set_cons_zero, List.set_cons_succ]
      refine' wpAnyH_take (i := 5) (oi := ?oi6) (v := ?v6) ?hi6 (by kernel_rfl) (by kernel_rfl) (by kernel_rfl) (fun _ _ _ h => h) (Or.inl ⟨?hh6, ?hy6⟩) (by assumption) ?rest6
      case hi6 => (simp only [List.getElem?_toArray, List.getElem?_cons_succ, List.getElem?_cons_zero]; rfl)
      case hh6 => rfl
      case hy6 => (intro w' hSw; (try dsimp only at hSw); go_simp; try with_reducible rfl)
      try simp only [Act.put, List.setIfInBounds_toArray, List.set_cons_zero, List.set_cons_succ]
      refine' wpAnyH_take (i := 6) (oi := ?oi7) (v := ?v7) ?hi7 (by kernel_rfl) (by kernel_rfl) (by kernel_rfl) (fun _ _ _ h => h) (Or.inl ⟨?hh7, ?hy7⟩) (by assumption) ?rest7
      case hi7 => (simp only [List.getElem?_toArray, List.getElem?_cons_succ, List.getElem?_cons_zero]; rfl)
      case hh7 => rfl
      case hy7 => (intro w' hSw; obtain ⟨_, hSw2⟩ := hSw; go_simp; try with_reducible rfl)
      try simp only [Act.put, List.setIfInBounds_toArray, List.set_cons_zero, List.set_cons_succ]
      refine' wpAnyH_take (i := 7) (oi := ?oi8) (v := ?v8) ?hi8 (by kernel_rfl) (by kernel_rfl) (by kernel_rfl) (fun _ _ _ h => h) (Or.inl ⟨?hh8, ?hy8⟩) (by assumption) ?rest8
      case hi8 => (simp only [List.getElem?_toArray, List.getElem?_cons_succ, List.getElem?_cons_zero]; rfl)
      case hh8 => rfl
      case hy8 => (intro w' hSw; (try dsimp only at hSw); go_simp; try with_reducible rfl)
      try simp only [Act.put, List.setIfInBounds_toArray, List.set_cons_zero, List.set_cons_succ]
      refine wpAnyH_ready (rs := [8]) (by kernel_rfl) (by simp) ?_
      refine' AllReadyH.cons (o := ?o9) ?ho9 (fun K hK => ?step9) ?more9
      case ho9 => (simp only [List.getElem?_toArray, List.getElem?_cons_succ, List.getElem?_cons_zero]; rfl)
      case step9 =>
        go_simp
        refine hK.out _ _ ?_ (fun hHeld => ?_)
        · (first | exact hS3 | exact hS5 | exact hS4)
        clear hK K
        try simp only [Act.put, List.setIfInBounds_toArray, List.set_cons_zero, List.set_cons_succ]
        refine wpAnyH_ready (rs := [9]) (by kernel_rfl) (by simp) ?_
        refine' AllReadyH.cons (o := ?o10) ?ho10 (fun K hK => ?step10) ?more10
        case ho10 => (simp only [List.getElem?_toArray, List.getElem?_cons_succ, List.getElem?_cons_zero]; rfl)
        case step10 =>
          refine step_append_run rfl (.tmp 30) (.tmp 38) 35 35 rfl _ _ rfl rfl hr4 ?_
          refine hK.out _ _ ?_ (fun hHeld => ?_)
          · (first | exact hS3 | exact hS5 | exact hS4)
          clear hK K
          try simp only [Act.put, List.setIfInBounds_toArray, List.set_cons_zero, List.set_cons_succ]
          refine wpAnyH_ready (rs := [10]) (by kernel_rfl) (by simp) ?_
          refine' AllReadyH.cons (o := ?o11) ?ho11 (fun K hK => ?step11) ?more11
          case ho11 => (simp only [List.getElem?_toArray, List.getElem?_cons_succ, List.getElem?_cons_zero]; rfl)
          case step11 =>
            go_simp
            refine hK.out _ _ ?_ (fun hHeld => ?_)
            · (first | exact hS3 | exact hS5 | exact hS4)
            clear hK K
            try simp only [Act.put, List.setIfInBounds_toArray, List.set_cons_zero, List.set_cons_succ]
            refine wpAnyH_done (by kernel_rfl) ?_ _
            refine NoPanic.normal ?_
            clear hS3 hS5 hS4 hHeld
            go_wp2_with fail
            exact ⟨⟨k + 1, hkn, by simp, HB4, HROW4, HN4⟩, by simp [intOf]; omega⟩
          exact AllReadyH.nil
        exact AllReadyH.nil
      exact AllReadyH.nil
    · obtain rfl : nl = k := by omega
      have hkd : decide ((nl : Int) < (nl : Int)) = false := decide_eq_false (by omega)
      have hO := HO.out
      rw [List.take_of_length_le (l := L) (by rw [HNN.out]; exact Nat.le_refl _)] at hO
      obtain ⟨oa, oc, rfl, _, hLo, _, _⟩ := own_shape hO
      have HLO := Lib.hid hLo
      rw [← HNN.out]
      clear hO hLo
      go_wp2_with fail
      go_ret2
      exact ⟨oa, oc, rfl, HLO.out, HB.out⟩
end Go.Proofs.YtbfochdoeibofaaGreatDoor.Full

/- palmerlaw10: StorePlays, the walk. Printed by gen/playc.py. -/
namespace Go.Proofs.YtbfochdoeibofaaGreatDoor.Full
open Go.RowKit Go.Deep Mem Crc Go.Maps Go.Proofs.YtbfochdoeibofaaGreatDoor.Dk Go.Proofs.YtbfochdoeibofaaGreatDoor.Mani Go.Proofs.YtbfochdoeibofaaGreatDoor.RefF Go.Proofs.YtbfochdoeibofaaGreatDoor.Read
open Go.Proofs.YtbfochdoeibofaaGreatDoor.Store (Chg none' nv Files setC setC_same setC_other)
open Go.Proofs.YtbfochdoeibofaaGreatDoor.Ext (Tab)

variable {B p cnt i : Nat} {w w' : World} {S : PD}
theorem play_does (h : Play B p cnt i w S) (hi : i ≤ 59) (x : AR) (hb : Lies w x.a (x.b.map bv)) (hbl : x.b.length ≤ 1000) (hn : x.nm.length ≤ 100) :
    Calls Tryz.prog 15 #[.pointer (some ⟨p, 0, none⟩), .agg #[.int .i64 x.kd, nv x.nm, .slice x.a x.b.length x.c]] w fun e w' => e = .returned (.bool true) ∧ Step B p cnt (i + 1) S w w' := by
  by_cases k3 : x.kd = 3
  · rw [k3]
    exact play_does3 h hi x.nm _ ⟨_, _, _, rfl⟩
  by_cases k5 : x.kd = 5
  · rw [k5]
    exact play_does5 h hi x.nm x.a x.b.length x.c
  by_cases k : x.kd = 0 ∨ x.kd = 1 ∨ x.kd = 2 ∨ x.kd = 4
  · exact play_doesC h hi x.kd k x.nm x.b x.a x.c hb hbl hn
  · have k0 : x.kd ≠ 0 := fun e => k (.inl e)
    have k1 : x.kd ≠ 1 := fun e => k (.inr (.inl e))
    have k2 : x.kd ≠ 2 := fun e => k (.inr (.inr (.inl e)))
    have k4 : x.kd ≠ 4 := fun e => k (.inr (.inr (.inr e)))
    exact play_doesR h hi x.kd (by simpa using k0) (by simpa using k1) (by simpa using k2) (by simpa using k3) (by simpa using k4) (by simpa using k5) x.nm x.a x.b.length x.c hn
/-- What is asked behind each act. -/
theorem Play.asks (h : Play B p cnt i w S) : (Calls Tryz.prog 16 #[.pointer (some ⟨S.s, 0, none⟩)] w fun e w' => e = .returned (.int .u64 (S.ver : Int)) ∧ w' = w) ∧
    (Calls Tryz.prog 17 #[.pointer (some ⟨S.s, 0, none⟩)] w fun e w' => e = .returned (.int .i64 ((freeB cnt S.fs).length : Int)) ∧ Below w.heap.size w w') ∧
    Calls Tryz.prog 18 #[.agg #[.int .u64 (S.ver : Int), .int .u32 (S.next : Int), .slice S.a S.l.length S.c], .int .i64 (cnt : Int)] w fun e w' => ∃ a c, e = .returned (.slice a (freeB cnt S.fs).length c) ∧ Below w.heap.size w w' := by
  have hbig := h.on.big
  rw [h.len] at hbig
  have hsm := h.on.small
  rw [h.len] at hsm
  have hok := h.on.ok
  rw [h.len] at hok
  have hfl := h.fl
  have hfew := hok.few
  have hll2 : S.l.length = S.fs.length := by rw [← hfl, List.length_map]
  refine ⟨on_version h.on, ?_, ?_⟩
  · have := on_free h.on
    rw [h.len] at this
    exact this
  · have := free10_any S.ver S.next S.a S.c S.l cnt w h.files (by omega) (fun x hx => by
      have hm : x.f ∈ S.fs := by rw [← hfl]; exact List.mem_map.2 ⟨x, hx, rfl⟩
      have := bksL_mem (l := S.fs) hm
      exact ⟨by omega, hok.in_ x.f hm⟩) (by omega) hsm
    rw [hfl] at this
    exact this.mono (fun e w' hh => by
      obtain ⟨v, he, ho, hb⟩ := hh
      obtain ⟨a, c, rfl, _⟩ := own_shape ho
      exact ⟨a, c, he, hb⟩)
attribute [local go_sem] Oper.semAt_some
set_option maxHeartbeats 8000000 in
set_option maxRecDepth 200000 in
theorem plays_law (cnt : Int) (a : Option Addr) (c : Nat) (l : List AR) (w : World) (h : ActsIn w a l) (hT : Tab w) :
    Calls Tryz.prog 4 #[.int .i64 cnt, .slice a l.length c] w fun e w' => e = .returned (.bool true) ∧ Below w.heap.size w w' := by
  have HG := Lib.hid (great_any cnt a c l w h)
  have HA := Lib.hid (awake_any w hT)
  have H := Lib.hid h
  have HT := Lib.hid hT
  obtain ⟨n, hn⟩ : ∃ n, n = l.length := ⟨_, rfl⟩
  rw [← hn] at HG ⊢
  have HN := Lib.hid hn
  clear h hT hn
  go_enter Tryz.func4, Tryz.ntmps4
  go_wp2_with fail
  refine HG.out.mono ?_
  rintro e w1 ⟨rfl, hcase⟩
  rcases hcase with rfl | ⟨rfl, hsm⟩
  · go_wp2_with fail
    refine HA.out.mono ?_
    rintro e w2 ⟨rfl, hB⟩
    have HB := Lib.hid hB
    clear hB
    go_wp2_with fail
    go_ret
    exact ⟨rfl, HB.out⟩
  · obtain ⟨s1, s2, s3, s4⟩ := hsm
    obtain ⟨N, rfl⟩ : ∃ N : Nat, cnt = (N : Int) := ⟨cnt.toNat, by omega⟩
    have HS4 := Lib.hid s4
    rw [← HN.out] at s3
    have HBE : Hid (Calls Tryz.prog 10 #[.int .i64 (N : Int)] w1 fun e w' => ∃ p s d g cm Q, e = .returned (.tuple #[.pointer (some ⟨p, 0, none⟩), .bool true]) ∧ Blk w' p 38 #[.pointer (some ⟨s, 0, none⟩), .pointer (some ⟨d, 0, none⟩), .int .u64 0, .int .u32 0, .slice none 0 0, .slice none 0 0, .slice none 0 0, .slice none 0 0, .bool false] ∧ On w1.heap.size s d g cm w' Q (D0 N) 0 0 [] none' (fun _ => none) 0 ∧ ¬ Q p ∧ w1.heap.size ≤ p ∧ Below w1.heap.size w1 w') := Lib.hid (begin_on N (by omega) (by omega) w1 HT.out)
    clear s4 HG HA
    go_wp2_with fail
    refine HBE.out.mono ?_
    rintro e w2 ⟨p, s, d, g, cm, Q, rfl, hp, hon, hqp, hpl, hB2⟩
    have HPL := Lib.hid (play_zero (N := N) (by omega) hp hon hqp hpl)
    have HB2 := Lib.hid hB2
    clear hp hon hqp hpl hB2 HBE
    go_wp2_with fail
    go_loopw [7] (fun i wr => ∃ (k : Nat) (S : PD), k ≤ n ∧ i = .int .i64 (k : Int) ∧ Hid (Play w1.heap.size p N k wr S) ∧ Hid (Below w1.heap.size w1 wr)) (fun i _ => n - (intOf i).toNat)
    case atStart => exact ⟨0, _, Nat.zero_le _, rfl, HPL, HB2⟩
    case round =>
      clear HPL HB2
      obtain ⟨k, S, hk, rfl, HP, HB⟩ := hrel
      by_cases hkn : k < n
      · have hkd : decide ((k : Int) < (n : Int)) = true := decide_eq_true (by omega)
        obtain ⟨x, hx⟩ : ∃ x, l[k]? = some x := ⟨l[k]'(by rw [← HN.out]; exact hkn), List.getElem?_eq_getElem _⟩
        have hxm := List.mem_of_getElem? hx
        have hBd : Below wr.heap.size wr wr.drew := (Below.refl _ wr).drew
        have hAr := (H.out.later HB.out).later hBd
        obtain ⟨gl, ol, rfl, c0, c1, c2⟩ := hAr.cells hx
        have hD := play_does (HP.out.later hBd) (by omega) x (hAr.bytes x hxm) (HS4.out x hxm).1 (HS4.out x hxm).2
        obtain ⟨sn, hsn⟩ : ∃ s : ByteArray, nv x.nm = .string s := ⟨_, rfl⟩
        obtain ⟨bn, hbn⟩ : ∃ k, k = x.b.length := ⟨_, rfl⟩
        obtain ⟨kd, hkdd⟩ : ∃ k, k = x.kd := ⟨_, rfl⟩
        obtain ⟨xa, hxa⟩ : ∃ k, k = x.a := ⟨_, rfl⟩
        obtain ⟨xc, hxc⟩ : ∃ k, k = x.c := ⟨_, rfl⟩
        rw [hsn] at c1 hD
        rw [← hbn, ← hxa, ← hxc] at c2 hD
        rw [← hkdd] at c0 hD
        have HD := Lib.hid hD
        clear hx hxm hBd hAr hD hsn hbn hkdd hxa hxc
        go_wp2_with fail
        refine wp_region_noPanic ?_
        refine wp_region_any (by kernel_rfl) ?_
        try (change wpAny _ _ _ _ _ _ _ (World.drew _))
        refine wpAny_take (i := 0) (v := ?v1) rfl (by kernel_rfl) (by kernel_rfl) (by kernel_rfl) (fun _ _ _ h => h) (Or.inl ⟨by rfl, ?hy1⟩) ?rest1
        case hy1 => (intro w; go_simp; try with_reducible rfl)
        change wpAny _ _ _ _ _ _ (Act.put _ (some 33) _) _
        try simp only [Act.put, List.setIfInBounds_toArray, List.set_cons_zero, List.set_cons_succ]
        refine wpAny_take (i := 1) (v := ?v2) rfl (by kernel_rfl) (by kernel_rfl) (by kernel_rfl) (fun _ _ _ h => h) (Or.inl ⟨by rfl, ?hy2⟩) ?rest2
        case hy2 => (intro w; go_simp; try with_reducible rfl)
        change wpAny _ _ _ _ _ _ (Act.put _ (some 34) _) _
        try simp only [Act.put, List.setIfInBounds_toArray, List.set_cons_zero, List.set_cons_succ]
        refine wpAny_take (i := 2) (v := ?v3) rfl (by kernel_rfl) (by kernel_rfl) (by kernel_rfl) (fun _ _ _ h => h) (Or.inl ⟨by rfl, ?hy3⟩) ?rest3
        case hy3 => (intro w; go_simp; try with_reducible rfl)
        change wpAny _ _ _ _ _ _ (Act.put _ (some 35) _) _
        try simp only [Act.put, List.setIfInBounds_toArray, List.set_cons_zero, List.set_cons_succ]
        refine wpAny_take (i := 3) (v := ?v4) rfl (by kernel_rfl) (by kernel_rfl) (by kernel_rfl) (fun _ _ _ h => h) (Or.inl ⟨by rfl, ?hy4⟩) ?rest4
        case hy4 => (intro w; go_simp; try with_reducible rfl)
        change wpAny _ _ _ _ _ _ (Act.put _ (some 36) _) _
        try simp only [Act.put, List.setIfInBounds_toArray, List.set_cons_zero, List.set_cons_succ]
        refine wpAny_ready (rs := [4]) (by kernel_rfl) (by simp) ?_
        refine' AllReady.cons (o := ?o5) ?ho5 (fun K hK => ?step5) ?more5
        case ho5 => (simp only [List.getElem?_toArray, List.getElem?_cons_succ, List.getElem?_cons_zero]; rfl)
        case step5 =>
          go_simp
          refine hK _ _ ?_
          clear hK K
          try simp only [Act.put, List.setIfInBounds_toArray, List.set_cons_zero, List.set_cons_succ]
          refine wpAny_ready (rs := [5]) (by kernel_rfl) (by simp) ?_
          refine' AllReady.cons (o := ?o6) ?ho6 (fun K hK => ?step6) ?more6
          case ho6 => (simp only [List.getElem?_toArray, List.getElem?_cons_succ, List.getElem?_cons_zero]; rfl)
          case step6 =>
            go_simp
            go_at_call 15
            refine HD.out.mono ?_
            rintro e w5 ⟨rfl, hS⟩
            obtain ⟨S5, hP5, _, hu5⟩ := hS
            have hB5 : Below w1.heap.size w1 w5 := HB.out.drew.trans ((hu5.below (show w1.heap.size ≤ wr.drew.heap.size from HB.out.size) (fun k hk => ((HP.out.later (Below.refl _ wr).drew).dlt k hk).1)))
            have HP5 := Lib.hid hP5
            have HB5 := Lib.hid hB5
            clear hP5 hB5 hu5
            dsimp only
            refine hK _ _ ?_
            clear hK K
            try simp only [Act.put, List.setIfInBounds_toArray, List.set_cons_zero, List.set_cons_succ]
            obtain ⟨ss, hss⟩ : ∃ y, y = S5.s := ⟨_, rfl⟩
            obtain ⟨sv, hsv⟩ : ∃ y, y = S5.ver := ⟨_, rfl⟩
            obtain ⟨sx, hsx⟩ : ∃ y, y = S5.next := ⟨_, rfl⟩
            obtain ⟨sa, hsa⟩ : ∃ y, y = S5.a := ⟨_, rfl⟩
            obtain ⟨sl, hsl⟩ : ∃ y, y = S5.l.length := ⟨_, rfl⟩
            obtain ⟨sc, hsc⟩ : ∃ y, y = S5.c := ⟨_, rfl⟩
            obtain ⟨fl, hfl⟩ : ∃ y, y = (freeB N S5.fs).length := ⟨_, rfl⟩
            have hat : ∀ V : World, Below w5.heap.size w5 V → (V.cell? ⟨p, 0, none⟩ = some (.pointer (some ⟨ss, 0, none⟩)) ∧ V.cell? ⟨p, 2, none⟩ = some (.int .u64 (sv : Int)) ∧ V.cell? ⟨p, 3, none⟩ = some (.int .u32 (sx : Int)) ∧ V.cell? ⟨p, 4, none⟩ = some (.slice sa sl sc)) ∧ (Calls Tryz.prog 16 #[.pointer (some ⟨ss, 0, none⟩)] V fun e w' => e = .returned (.int .u64 (sv : Int)) ∧ w' = V) ∧ (Calls Tryz.prog 17 #[.pointer (some ⟨ss, 0, none⟩)] V fun e w' => e = .returned (.int .i64 (fl : Int)) ∧ Below V.heap.size V w') ∧ (Calls Tryz.prog 18 #[.agg #[.int .u64 (sv : Int), .int .u32 (sx : Int), .slice sa sl sc], .int .i64 (N : Int)] V fun e w' => ∃ a c, e = .returned (.slice a fl c) ∧ Below V.heap.size V w') := fun V hV => by
              have hPV := HP5.out.later hV
              obtain ⟨q0, _, q2, q3, q4, _⟩ := hPV.cells
              obtain ⟨a1, a2, a3⟩ := hPV.asks
              rw [← hss] at q0 a1 a2
              rw [← hsv] at q2 a1 a3
              rw [← hsx] at q3 a3
              rw [← hsa, ← hsl, ← hsc] at q4 a3
              rw [← hfl] at a2 a3
              exact ⟨⟨q0, q2, q3, q4⟩, a1, a2, a3⟩
            have hS5 := (hat w5 (Below.refl _ _)).1
            have HAT := Lib.hid hat
            clear hat hss hsv hsx hsa hsl hsc hfl HP HB HD c0 c1 c2
            refine wpAny_of_held (S := fun w' => w'.cell? ⟨p, 0, none⟩ = some (.pointer (some ⟨ss, 0, none⟩)) ∧ w'.cell? ⟨p, 2, none⟩ = some (.int .u64 (sv : Int)) ∧ w'.cell? ⟨p, 3, none⟩ = some (.int .u32 (sx : Int)) ∧ w'.cell? ⟨p, 4, none⟩ = some (.slice sa sl sc)) _ _ _ _ ?_
            have hHeld := hS5
            refine' wpAnyH_take (i := 6) (oi := ?oi7) (v := ?v7) ?hi7 (by kernel_rfl) (by kernel_rfl) (by kernel_rfl) (fun _ _ _ h => h) (Or.inl ⟨?hh7, ?hy7⟩) (by assumption) ?rest7
            case hi7 => (simp only [List.getElem?_toArray, List.getElem?_cons_succ, List.getElem?_cons_zero]; rfl)
            case hh7 => rfl
            case hy7 => (intro w' hSw; (try dsimp only at hSw); go_simp; try with_reducible rfl)
            try simp only [Act.put, List.setIfInBounds_toArray, List.set_cons_zero, List.set_cons_succ]
            refine' wpAnyH_take (i := 7) (oi := ?oi8) (v := ?v8) ?hi8 (by kernel_rfl) (by kernel_rfl) (by kernel_rfl) (fun _ _ _ h => h) (Or.inl ⟨?hh8, ?hy8⟩) (by assumption) ?rest8
            case hi8 => (simp only [List.getElem?_toArray, List.getElem?_cons_succ, List.getElem?_cons_zero]; rfl)
            case hh8 => rfl
            case hy8 => (intro w' hSw; (try dsimp only at hSw); go_simp; try with_reducible rfl)
            try simp only [Act.put, List.setIfInBounds_toArray, List.set_cons_zero, List.set_cons_succ]
            refine' wpAnyH_take (i := 8) (oi := ?oi9) (v := ?v9) ?hi9 (by kernel_rfl) (by kernel_rfl) (by kernel_rfl) (fun _ _ _ h => h) (Or.inl ⟨?hh9, ?hy9⟩) (by assumption) ?rest9
            case hi9 => (simp only [List.getElem?_toArray, List.getElem?_cons_succ, List.getElem?_cons_zero]; rfl)
            case hh9 => rfl
            case hy9 => (intro w' hSw; (try dsimp only at hSw); go_simp; try with_reducible rfl)
            try simp only [Act.put, List.setIfInBounds_toArray, List.set_cons_zero, List.set_cons_succ]
            refine' wpAnyH_take (i := 9) (oi := ?oi10) (v := ?v10) ?hi10 (by kernel_rfl) (by kernel_rfl) (by kernel_rfl) (fun _ _ _ h => h) (Or.inl ⟨?hh10, ?hy10⟩) (by assumption) ?rest10
            case hi10 => (simp only [List.getElem?_toArray, List.getElem?_cons_succ, List.getElem?_cons_zero]; rfl)
            case hh10 => rfl
            case hy10 => (intro w' hSw; (try dsimp only at hSw); go_simp; try with_reducible rfl)
            try simp only [Act.put, List.setIfInBounds_toArray, List.set_cons_zero, List.set_cons_succ]
            refine' wpAnyH_take (i := 10) (oi := ?oi11) (v := ?v11) ?hi11 (by kernel_rfl) (by kernel_rfl) (by kernel_rfl) (fun _ _ _ h => h) (Or.inl ⟨?hh11, ?hy11⟩) (by assumption) ?rest11
            case hi11 => (simp only [List.getElem?_toArray, List.getElem?_cons_succ, List.getElem?_cons_zero]; rfl)
            case hh11 => rfl
            case hy11 => (intro w' hSw; (try dsimp only at hSw); go_simp; try with_reducible rfl)
            try simp only [Act.put, List.setIfInBounds_toArray, List.set_cons_zero, List.set_cons_succ]
            refine' wpAnyH_take (i := 11) (oi := ?oi12) (v := ?v12) ?hi12 (by kernel_rfl) (by kernel_rfl) (by kernel_rfl) (fun _ _ _ h => h) (Or.inl ⟨?hh12, ?hy12⟩) (by assumption) ?rest12
            case hi12 => (simp only [List.getElem?_toArray, List.getElem?_cons_succ, List.getElem?_cons_zero]; rfl)
            case hh12 => rfl
            case hy12 => (intro w' hSw; (try dsimp only at hSw); go_simp; try with_reducible rfl)
            try simp only [Act.put, List.setIfInBounds_toArray, List.set_cons_zero, List.set_cons_succ]
            refine' wpAnyH_take (i := 13) (oi := ?oi13) (v := ?v13) ?hi13 (by kernel_rfl) (by kernel_rfl) (by kernel_rfl) (fun _ _ _ h => h) (Or.inl ⟨?hh13, ?hy13⟩) (by assumption) ?rest13
            case hi13 => (simp only [List.getElem?_toArray, List.getElem?_cons_succ, List.getElem?_cons_zero]; rfl)
            case hh13 => rfl
            case hy13 => (intro w' hSw; (try dsimp only at hSw); go_simp; try with_reducible rfl)
            try simp only [Act.put, List.setIfInBounds_toArray, List.set_cons_zero, List.set_cons_succ]
            refine' wpAnyH_take (i := 14) (oi := ?oi14) (v := ?v14) ?hi14 (by kernel_rfl) (by kernel_rfl) (by kernel_rfl) (fun _ _ _ h => h) (Or.inl ⟨?hh14, ?hy14⟩) (by assumption) ?rest14
            case hi14 => (simp only [List.getElem?_toArray, List.getElem?_cons_succ, List.getElem?_cons_zero]; rfl)
            case hh14 => rfl
            case hy14 => (intro w' hSw; (try dsimp only at hSw); go_simp; try with_reducible rfl)
            try simp only [Act.put, List.setIfInBounds_toArray, List.set_cons_zero, List.set_cons_succ]
            refine' wpAnyH_take (i := 15) (oi := ?oi15) (v := ?v15) ?hi15 (by kernel_rfl) (by kernel_rfl) (by kernel_rfl) (fun _ _ _ h => h) (Or.inl ⟨?hh15, ?hy15⟩) (by assumption) ?rest15
            case hi15 => (simp only [List.getElem?_toArray, List.getElem?_cons_succ, List.getElem?_cons_zero]; rfl)
            case hh15 => rfl
            case hy15 => (intro w' hSw; (try dsimp only at hSw); go_simp; try with_reducible rfl)
            try simp only [Act.put, List.setIfInBounds_toArray, List.set_cons_zero, List.set_cons_succ]
            refine' wpAnyH_take (i := 16) (oi := ?oi16) (v := ?v16) ?hi16 (by kernel_rfl) (by kernel_rfl) (by kernel_rfl) (fun _ _ _ h => h) (Or.inl ⟨?hh16, ?hy16⟩) (by assumption) ?rest16
            case hi16 => (simp only [List.getElem?_toArray, List.getElem?_cons_succ, List.getElem?_cons_zero]; rfl)
            case hh16 => rfl
            case hy16 => (intro w' hSw; (try dsimp only at hSw); go_simp; try with_reducible rfl)
            try simp only [Act.put, List.setIfInBounds_toArray, List.set_cons_zero, List.set_cons_succ]
            refine' wpAnyH_take (i := 17) (oi := ?oi17) (v := ?v17) ?hi17 (by kernel_rfl) (by kernel_rfl) (by kernel_rfl) (fun _ _ _ h => h) (Or.inl ⟨?hh17, ?hy17⟩) (by assumption) ?rest17
            case hi17 => (simp only [List.getElem?_toArray, List.getElem?_cons_succ, List.getElem?_cons_zero]; rfl)
            case hh17 => rfl
            case hy17 => (intro w' hSw; (try dsimp only at hSw); go_simp; try with_reducible rfl)
            try simp only [Act.put, List.setIfInBounds_toArray, List.set_cons_zero, List.set_cons_succ]
            refine wpAnyH_ready (rs := [12]) (by kernel_rfl) (by simp) ?_
            refine' AllReadyH.cons (o := ?o18) ?ho18 (fun K hK => ?step18) ?more18
            case ho18 => (simp only [List.getElem?_toArray, List.getElem?_cons_succ, List.getElem?_cons_zero]; rfl)
            case step18 =>
              go_simp
              go_at_call 16
              refine (HAT.out w5 (Below.refl _ _)).2.1.mono ?_
              rintro e w6 ⟨rfl, hw6⟩
              obtain rfl : w5 = w6 := hw6.symm
              dsimp only
              refine hK.out _ _ ?_ (fun hHeld => ?_)
              · (first | exact hS5 | exact hS6 | exact hS7)
              clear hK K
              try simp only [Act.put, List.setIfInBounds_toArray, List.set_cons_zero, List.set_cons_succ]
              refine' wpAnyH_take (i := 18) (oi := ?oi19) (v := ?v19) ?hi19 (by kernel_rfl) (by kernel_rfl) (by kernel_rfl) (fun _ _ _ h => h) (Or.inl ⟨?hh19, ?hy19⟩) (by assumption) ?rest19
              case hi19 => (simp only [List.getElem?_toArray, List.getElem?_cons_succ, List.getElem?_cons_zero]; rfl)
              case hh19 => rfl
              case hy19 => (intro w' hSw; (try dsimp only at hSw); go_simp; try with_reducible rfl)
              try simp only [Act.put, List.setIfInBounds_toArray, List.set_cons_zero, List.set_cons_succ]
              refine' wpAnyH_take (i := 19) (oi := ?oi20) (v := ?v20) ?hi20 (by kernel_rfl) (by kernel_rfl) (by kernel_rfl) (fun _ _ _ h => h) (Or.inl ⟨?hh20, ?hy20⟩) (by assumption) ?rest20
              case hi20 => (simp only [List.getElem?_toArray, List.getElem?_cons_succ, List.getElem?_cons_zero]; rfl)
              case hh20 => rfl
              case hy20 => (intro w' hSw; (try dsimp only at hSw); go_simp; try with_reducible rfl)
              try simp only [Act.put, List.setIfInBounds_toArray, List.set_cons_zero, List.set_cons_succ]
              refine' wpAnyH_take (i := 20) (oi := ?oi21) (v := ?v21) ?hi21 (by kernel_rfl) (by kernel_rfl) (by kernel_rfl) (fun _ _ _ h => h) (Or.inl ⟨?hh21, ?hy21⟩) (by assumption) ?rest21
              case hi21 => (simp only [List.getElem?_toArray, List.getElem?_cons_succ, List.getElem?_cons_zero]; rfl)
              case hh21 => rfl
              case hy21 => (intro w' hSw; (try dsimp only at hSw); go_simp; try with_reducible rfl)
              try simp only [Act.put, List.setIfInBounds_toArray, List.set_cons_zero, List.set_cons_succ]
              refine' wpAnyH_take (i := 21) (oi := ?oi22) (v := ?v22) ?hi22 (by kernel_rfl) (by kernel_rfl) (by kernel_rfl) (fun _ _ _ h => h) (Or.inl ⟨?hh22, ?hy22⟩) (by assumption) ?rest22
              case hi22 => (simp only [List.getElem?_toArray, List.getElem?_cons_succ, List.getElem?_cons_zero]; rfl)
              case hh22 => rfl
              case hy22 => (intro w' hSw; (try dsimp only at hSw); go_simp; try with_reducible rfl)
              try simp only [Act.put, List.setIfInBounds_toArray, List.set_cons_zero, List.set_cons_succ]
              refine' wpAnyH_take (i := 22) (oi := ?oi23) (v := ?v23) ?hi23 (by kernel_rfl) (by kernel_rfl) (by kernel_rfl) (fun _ _ _ h => h) (Or.inl ⟨?hh23, ?hy23⟩) (by assumption) ?rest23
              case hi23 => (simp only [List.getElem?_toArray, List.getElem?_cons_succ, List.getElem?_cons_zero]; rfl)
              case hh23 => rfl
              case hy23 => (intro w' hSw; (try dsimp only at hSw); go_simp; try with_reducible rfl)
              try simp only [Act.put, List.setIfInBounds_toArray, List.set_cons_zero, List.set_cons_succ]
              refine' wpAnyH_take (i := 23) (oi := ?oi24) (v := ?v24) ?hi24 (by kernel_rfl) (by kernel_rfl) (by kernel_rfl) (fun _ _ _ h => h) (Or.inl ⟨?hh24, ?hy24⟩) (by assumption) ?rest24
              case hi24 => (simp only [List.getElem?_toArray, List.getElem?_cons_succ, List.getElem?_cons_zero]; rfl)
              case hh24 => rfl
              case hy24 => (intro w' hSw; (try dsimp only at hSw); go_simp; try with_reducible rfl)
              try simp only [Act.put, List.setIfInBounds_toArray, List.set_cons_zero, List.set_cons_succ]
              refine' wpAnyH_take (i := 24) (oi := ?oi25) (v := ?v25) ?hi25 (by kernel_rfl) (by kernel_rfl) (by kernel_rfl) (fun _ _ _ h => h) (Or.inl ⟨?hh25, ?hy25⟩) (by assumption) ?rest25
              case hi25 => (simp only [List.getElem?_toArray, List.getElem?_cons_succ, List.getElem?_cons_zero]; rfl)
              case hh25 => rfl
              case hy25 => (intro w' hSw; (try dsimp only at hSw); go_simp; try with_reducible rfl)
              try simp only [Act.put, List.setIfInBounds_toArray, List.set_cons_zero, List.set_cons_succ]
              refine' wpAnyH_take (i := 26) (oi := ?oi26) (v := ?v26) ?hi26 (by kernel_rfl) (by kernel_rfl) (by kernel_rfl) (fun _ _ _ h => h) (Or.inl ⟨?hh26, ?hy26⟩) (by assumption) ?rest26
              case hi26 => (simp only [List.getElem?_toArray, List.getElem?_cons_succ, List.getElem?_cons_zero]; rfl)
              case hh26 => rfl
              case hy26 => (intro w' hSw; (try dsimp only at hSw); go_simp; try with_reducible rfl)
              try simp only [Act.put, List.setIfInBounds_toArray, List.set_cons_zero, List.set_cons_succ]
              refine' wpAnyH_take (i := 27) (oi := ?oi27) (v := ?v27) ?hi27 (by kernel_rfl) (by kernel_rfl) (by kernel_rfl) (fun _ _ _ h => h) (Or.inl ⟨?hh27, ?hy27⟩) (by assumption) ?rest27
              case hi27 => (simp only [List.getElem?_toArray, List.getElem?_cons_succ, List.getElem?_cons_zero]; rfl)
              case hh27 => rfl
              case hy27 => (intro w' hSw; (try dsimp only at hSw); go_simp; try with_reducible rfl)
              try simp only [Act.put, List.setIfInBounds_toArray, List.set_cons_zero, List.set_cons_succ]
              refine' wpAnyH_take (i := 28) (oi := ?oi28) (v := ?v28) ?hi28 (by kernel_rfl) (by kernel_rfl) (by kernel_rfl) (fun _ _ _ h => h) (Or.inl ⟨?hh28, ?hy28⟩) (by assumption) ?rest28
              case hi28 => (simp only [List.getElem?_toArray, List.getElem?_cons_succ, List.getElem?_cons_zero]; rfl)
              case hh28 => rfl
              case hy28 => (intro w' hSw; (try dsimp only at hSw); go_simp; try with_reducible rfl)
              try simp only [Act.put, List.setIfInBounds_toArray, List.set_cons_zero, List.set_cons_succ]
              refine' wpAnyH_take (i := 29) (oi := ?oi29) (v := ?v29) ?hi29 (by kernel_rfl) (by kernel_rfl) (by kernel_rfl) (fun _ _ _ h => h) (Or.inl ⟨?hh29, ?hy29⟩) (by assumption) ?rest29
              case hi29 => (simp only [List.getElem?_toArray, List.getElem?_cons_succ, List.getElem?_cons_zero]; rfl)
              case hh29 => rfl
              case hy29 => (intro w' hSw; (try dsimp only at hSw); go_simp; try with_reducible rfl)
              try simp only [Act.put, List.setIfInBounds_toArray, List.set_cons_zero, List.set_cons_succ]
              refine' wpAnyH_take (i := 30) (oi := ?oi30) (v := ?v30) ?hi30 (by kernel_rfl) (by kernel_rfl) (by kernel_rfl) (fun _ _ _ h => h) (Or.inl ⟨?hh30, ?hy30⟩) (by assumption) ?rest30
              case hi30 => (simp only [List.getElem?_toArray, List.getElem?_cons_succ, List.getElem?_cons_zero]; rfl)
              case hh30 => rfl
              case hy30 => (intro w' hSw; (try dsimp only at hSw); go_simp; try with_reducible rfl)
              try simp only [Act.put, List.setIfInBounds_toArray, List.set_cons_zero, List.set_cons_succ]
              refine wpAnyH_ready (rs := [25]) (by kernel_rfl) (by simp) ?_
              refine' AllReadyH.cons (o := ?o31) ?ho31 (fun K hK => ?step31) ?more31
              case ho31 => (simp only [List.getElem?_toArray, List.getElem?_cons_succ, List.getElem?_cons_zero]; rfl)
              case step31 =>
                go_simp
                go_at_call 17
                refine (HAT.out w5 (Below.refl _ _)).2.2.1.mono ?_
                rintro e w6 ⟨rfl, hbw6⟩
                have hBw6 : Below w5.heap.size w5 w6 := ((Below.refl _ _) : Below w5.heap.size w5 w5).trans (hbw6.mono ((Below.refl _ _) : Below w5.heap.size w5 w5).size)
                have hS6 := (HAT.out w6 hBw6).1
                dsimp only
                refine hK.out _ _ ?_ (fun hHeld => ?_)
                · (first | exact hS5 | exact hS6 | exact hS7)
                clear hK K
                try simp only [Act.put, List.setIfInBounds_toArray, List.set_cons_zero, List.set_cons_succ]
                refine wpAnyH_ready (rs := [31]) (by kernel_rfl) (by simp) ?_
                refine' AllReadyH.cons (o := ?o32) ?ho32 (fun K hK => ?step32) ?more32
                case ho32 => (simp only [List.getElem?_toArray, List.getElem?_cons_succ, List.getElem?_cons_zero]; rfl)
                case step32 =>
                  go_simp
                  go_at_call 18
                  refine (HAT.out w6 hBw6).2.2.2.mono ?_
                  rintro e w7 ⟨fa, fc, rfl, hbw7⟩
                  have hBw7 : Below w5.heap.size w5 w7 := (hBw6 : Below w5.heap.size w5 w6).trans (hbw7.mono (hBw6 : Below w5.heap.size w5 w6).size)
                  have hS7 := (HAT.out w7 hBw7).1
                  dsimp only
                  refine hK.out _ _ ?_ (fun hHeld => ?_)
                  · (first | exact hS5 | exact hS6 | exact hS7)
                  clear hK K
                  try simp only [Act.put, List.setIfInBounds_toArray, List.set_cons_zero, List.set_cons_succ]
                  refine' wpAnyH_take (i := 32) (oi := ?oi33) (v := ?v33) ?hi33 (by kernel_rfl) (by kernel_rfl) (by kernel_rfl) (fun _ _ _ h => h) (Or.inl ⟨?hh33, ?hy33⟩) (by assumption) ?rest33
                  case hi33 => (simp only [List.getElem?_toArray, List.getElem?_cons_succ, List.getElem?_cons_zero]; rfl)
                  case hh33 => rfl
                  case hy33 => (intro w' hSw; (try dsimp only at hSw); go_simp; try with_reducible rfl)
                  try simp only [Act.put, List.setIfInBounds_toArray, List.set_cons_zero, List.set_cons_succ]
                  refine' wpAnyH_take (i := 33) (oi := ?oi34) (v := ?v34) ?hi34 (by kernel_rfl) (by kernel_rfl) (by kernel_rfl) (fun _ _ _ h => h) (Or.inl ⟨?hh34, ?hy34⟩) (by assumption) ?rest34
                  case hi34 => (simp only [List.getElem?_toArray, List.getElem?_cons_succ, List.getElem?_cons_zero]; rfl)
                  case hh34 => rfl
                  case hy34 => (intro w' hSw; (try dsimp only at hSw); go_simp; try with_reducible rfl)
                  try simp only [Act.put, List.setIfInBounds_toArray, List.set_cons_zero, List.set_cons_succ]
                  refine' wpAnyH_take (i := 34) (oi := ?oi35) (v := ?v35) ?hi35 (by kernel_rfl) (by kernel_rfl) (by kernel_rfl) (fun _ _ _ h => h) (Or.inl ⟨?hh35, ?hy35⟩) (by assumption) ?rest35
                  case hi35 => (simp only [List.getElem?_toArray, List.getElem?_cons_succ, List.getElem?_cons_zero]; rfl)
                  case hh35 => rfl
                  case hy35 => (intro w' hSw; (try dsimp only at hSw); go_simp; try with_reducible rfl)
                  try simp only [Act.put, List.setIfInBounds_toArray, List.set_cons_zero, List.set_cons_succ]
                  refine wpAnyH_done (by kernel_rfl) ?_ _
                  refine NoPanic.normal ?_
                  have HPF := Lib.hid (HP5.out.later hBw7)
                  have HBF := Lib.hid (HB5.out.trans (hBw7.mono HB5.out.size))
                  clear hS5 hS6 hS7 hHeld hBw6 hBw7 hbw6 hbw7 HAT
                  go_wp2_with fail
                  exact ⟨⟨k + 1, S5, hkn, by simp, HPF, HBF⟩, by simp [intOf]; omega⟩
                exact AllReadyH.nil
              exact AllReadyH.nil
            exact AllReadyH.nil
          exact AllReady.nil
        exact AllReady.nil
      · obtain rfl : n = k := by omega
        have hkd : decide ((n : Int) < (n : Int)) = false := decide_eq_false (by omega)
        have hP := HP.out
        have hlle : S.L.length ≤ 60 := by have := hP.ll; omega
        have hlhe : S.LH.length ≤ 60 := by have := hP.lh; omega
        have HAL := Lib.hid (all_on hP.on (by omega) S.L hP.rowN (by omega) (fun x hx => by have := (hP.each x hx).1; omega))
        obtain ⟨ss, hss⟩ : ∃ y, y = S.s := ⟨_, rfl⟩
        obtain ⟨sL, hsL⟩ : ∃ y, y = S.L.length := ⟨_, rfl⟩
        have c0 := hP.cells.1
        rw [← hss] at c0 HAL
        rw [← hsL] at HAL
        have HSL := Lib.hid hsL
        clear hP hss hsL
        go_wp2_with fail
        refine HAL.out.mono ?_
        rintro e w3 ⟨ax, cx, rfl, hLx, hB3⟩
        have hP3 := HP.out.later hB3
        have hmr := on_mread hP3.on hP3.slots
        have c1 := hP3.cells.2.1
        obtain ⟨sd, hsd⟩ : ∃ y, y = S.d := ⟨_, rfl⟩
        rw [← hsd] at c1 hmr
        have HMR := Lib.hid hmr
        have HP3 := Lib.hid hP3
        have HB3 := Lib.hid hB3
        have HLX := Lib.hid hLx
        have HSD := Lib.hid hsd
        clear hP3 hmr hB3 hLx hsd HAL c0
        go_wp2_with fail
        refine HMR.out.mono ?_
        rintro e w4 ⟨v, rfl, ⟨am, cm, ml, rfl, hmf, hF4, _, _⟩, hB4⟩
        obtain ⟨sv, hsv⟩ : ∃ y, y = S.ver := ⟨_, rfl⟩
        obtain ⟨sx, hsx⟩ : ∃ y, y = S.next := ⟨_, rfl⟩
        obtain ⟨mn, hmn⟩ : ∃ y, y = ml.length := ⟨_, rfl⟩
        rw [← hsv, ← hsx, ← hmn]
        obtain ⟨w5, hw5⟩ : ∃ w5, w5 = w4.alloc (.cells #[.int .u64 (sv : Int), .int .u32 (sx : Int), .slice am mn cm] 34) := ⟨_, rfl⟩
        obtain ⟨mb, hmb⟩ : ∃ b, b = w4.heap.size := ⟨_, rfl⟩
        have hB45 : Below w4.heap.size w4 w5 := by rw [hw5]; exact (Below.refl _ w4).alloc (Nat.le_refl _) _
        have hbm : Blk w5 mb 34 #[.int .u64 (sv : Int), .int .u32 (sx : Int), .slice am mn cm] := by rw [hw5, hmb]; exact Blk.new w4 _ _
        have hB35 : Below w3.heap.size w3 w5 := hB4.trans (hB45.mono hB4.size)
        have hP5 := HP3.out.later hB35
        have hL5 := HLX.out.later hB35
        have hF5 := hF4.later hB45
        have hfl5 := hP5.fl
        have hok := hP5.on.ok
        have hfew := hok.few
        have hmll : ml.length = S.fs.length := by rw [← hmf, List.length_map]
        have hsll : S.l.length = S.fs.length := by rw [← hfl5, List.length_map]
        obtain ⟨sa, hsa⟩ : ∃ y, y = S.a := ⟨_, rfl⟩
        obtain ⟨sc, hsc⟩ : ∃ y, y = S.c := ⟨_, rfl⟩
        obtain ⟨sN, hsN⟩ : ∃ y, y = S.an := ⟨_, rfl⟩
        obtain ⟨sM, hsM⟩ : ∃ y, y = S.nc := ⟨_, rfl⟩
        have hat : ∀ V : World, Below w5.heap.size w5 V → (V.cell? ⟨p, 2, none⟩ = some (.int .u64 (sv : Int)) ∧ V.cell? ⟨p, 3, none⟩ = some (.int .u32 (sx : Int)) ∧ V.cell? ⟨p, 4, none⟩ = some (.slice sa mn sc) ∧ V.cell? ⟨p, 6, none⟩ = some (.slice sN sL sM) ∧ V.cell? ⟨mb, 0, none⟩ = some (.int .u64 (sv : Int)) ∧ V.cell? ⟨mb, 1, none⟩ = some (.int .u32 (sx : Int)) ∧ V.cell? ⟨mb, 2, none⟩ = some (.slice am mn cm)) ∧ (Calls Tryz.prog 21 #[.slice ax sL cx, .slice sN sL sM] V fun e w' => e = .returned (.bool true) ∧ Below V.heap.size V w') ∧ (Calls Tryz.prog 22 #[.agg #[.int .u64 (sv : Int), .int .u32 (sx : Int), .slice am mn cm], .agg #[.int .u64 (sv : Int), .int .u32 (sx : Int), .slice sa mn sc]] V fun e w' => e = .returned (.bool true) ∧ Below V.heap.size V w') := fun V hV => by
          have hPV := hP5.later hV
          obtain ⟨_, _, q2, q3, q4, _, q6, _, _⟩ := hPV.cells
          have hbV := hbm.below hV hbm.lt
          have hsame := same_any ax S.an cx S.nc S.L S.L V (hL5.later hV) hPV.nl (by omega) (by omega)
          rw [decide_eq_true (rfl : S.L = S.L), ← hsN, ← hsM, ← HSL.out] at hsame
          have hs9 := same09_yes S.ver S.next am S.a cm S.c ml S.l V (hF5.later hV) hPV.files (by rw [hmf, hfl5]) (by omega) (fun x hx => by
            have hm : x.f ∈ S.fs := by rw [← hmf]; exact List.mem_map.2 ⟨x, hx, rfl⟩
            have := bksL_mem (l := S.fs) hm
            omega)
          rw [← hsv, ← hsx, ← hsa, ← hsc, show S.l.length = ml.length by omega, ← hmn] at hs9
          rw [← hsv] at q2
          rw [← hsx] at q3
          rw [← hsa, ← hsc, show S.l.length = ml.length by omega, ← hmn] at q4
          rw [← hsN, ← hsM, ← HSL.out] at q6
          exact ⟨⟨q2, q3, q4, q6, hbV.cell 0, hbV.cell 1, hbV.cell 2⟩, hsame, hs9⟩
        have HAT := Lib.hid hat
        have HP5 := Lib.hid hP5
        have HB5 := Lib.hid (HB.out.trans ((HB3.out.trans (hB35.mono HB3.out.size)).mono HB.out.size))
        have HLE := Lib.hid (And.intro hlle hlhe)
        clear hat hP5 hL5 hF5 hF4 hmf hfl5 hok hfew hmll hsll hsv hsx hmn hsa hsc hsN hsM hbm hB35 hB45 hB4 HMR HLX HP3 HB3 c1 hlle hlhe
        go_wp2_with fail
        rw [← hw5, ← hmb]
        clear hw5 hmb
        have hS5 := (HAT.out w5.drew (Below.refl _ w5).drew).1
        go_region_held3 (fun w' => w'.cell? ⟨p, 2, none⟩ = some (.int .u64 (sv : Int)) ∧ w'.cell? ⟨p, 3, none⟩ = some (.int .u32 (sx : Int)) ∧ w'.cell? ⟨p, 4, none⟩ = some (.slice sa mn sc) ∧ w'.cell? ⟨p, 6, none⟩ = some (.slice sN sL sM) ∧ w'.cell? ⟨mb, 0, none⟩ = some (.int .u64 (sv : Int)) ∧ w'.cell? ⟨mb, 1, none⟩ = some (.int .u32 (sx : Int)) ∧ w'.cell? ⟨mb, 2, none⟩ = some (.slice am mn cm)) (first | exact hS5 | exact hS6 | exact hS7) (first | (go_at_call 21; refine (HAT.out w5.drew (Below.refl _ w5).drew).2.1.mono ?_; rintro e w6 ⟨rfl, hb6⟩; have hB6 : Below w5.heap.size w5 w6 := (Below.refl _ w5).drew.trans hb6; have hS6 := (HAT.out w6 hB6).1; dsimp only) | (go_at_call 22; refine (HAT.out w6 hB6).2.2.mono ?_; rintro e w7 ⟨rfl, hb7⟩; have hB7 : Below w5.heap.size w5 w7 := hB6.trans (hb7.mono hB6.size); have hS7 := (HAT.out w7 hB7).1; dsimp only))
        have hP7 := HP5.out.later hB7
        have hop := hP7.open
        have c1 := hP7.cells.2.1
        rw [← HSD.out] at c1
        have HOP : Hid (Calls Tryz.prog 23 #[.pointer (some ⟨sd, 0, none⟩)] w7 fun e w' => ∃ s' cm' Q' m', e = .returned (.tuple #[.pointer (some ⟨s', 0, none⟩), .int .i64 0]) ∧ On w1.heap.size s' S.d S.g cm' w' Q' m' S.ver S.next S.fs none' S.H 0 ∧ Slots m'.bl S.ver S.next S.fs ∧ m'.bl.length = N ∧ (∀ k, Q' k → S.Q k ∨ w7.heap.size ≤ k) ∧ Upon S.Q w7 w') := Lib.hid (by rw [HSD.out]; exact hop)
        have HP7 := Lib.hid hP7
        have HB7 := Lib.hid (HB5.out.trans (hB7.mono HB5.out.size))
        clear hP7 hop hS5 hS6 hS7 hb6 hb7 hB6 hB7 HAT
        go_wp2_with fail
        refine HOP.out.mono ?_
        rintro e w8 ⟨s', cm', Q', m', rfl, hon8, _, _, _, hu8⟩
        have hal := all_on hon8 (by omega) S.LH (by rw [nowF_none]; exact HP7.out.rowH) (by have := HLE.out.2; omega) (fun x hx => by have := (HP7.out.eachH x hx).1; omega)
        obtain ⟨sh, hsh⟩ : ∃ y, y = S.LH.length := ⟨_, rfl⟩
        rw [← hsh] at hal
        have hpb8 := HP7.out.blk.upon hu8 HP7.out.pq
        have hh8 : Lies w8 S.ah (flatP S.LH) := HP7.out.hl.upon hu8 (fun k hk hq => (HP7.out.ha k hk).1 (.inl hq))
        have hB8 : Below w1.heap.size w1 w8 := HB7.out.trans (hu8.below HB7.out.size (fun k hk => HP7.out.on.base k hk))
        have HAL2 := Lib.hid hal
        have HPB8 := Lib.hid hpb8
        have HH8 := Lib.hid hh8
        have HB8 := Lib.hid hB8
        have HSH := Lib.hid hsh
        clear hal hpb8 hh8 hB8 hsh hon8 hu8 HOP c1
        go_wp2_with fail
        refine HAL2.out.mono ?_
        rintro e w9 ⟨ay, cy, rfl, hLy, hB9⟩
        have hpb9 := HPB8.out.below hB9 HPB8.out.lt
        have c5 := hpb9.cell 5
        unfold PD.cells at c5
        simp only [List.getElem?_toArray, List.getElem?_cons_zero, List.getElem?_cons_succ] at c5
        have hsame := same_any ay S.ah cy S.hc S.LH S.LH w9 hLy (HH8.out.later hB9) (by have := HLE.out.2; omega) (by have := HLE.out.2; omega)
        rw [decide_eq_true (rfl : S.LH = S.LH)] at hsame
        obtain ⟨sA, hsA⟩ : ∃ y, y = S.ah := ⟨_, rfl⟩
        obtain ⟨sC, hsC⟩ : ∃ y, y = S.hc := ⟨_, rfl⟩
        rw [← hsA, ← hsC, ← HSH.out] at hsame c5
        have HSM := Lib.hid hsame
        have HB9 := Lib.hid (HB8.out.trans (hB9.mono HB8.out.size))
        clear hsame hB9 hpb9 hLy hsA hsC HAL2
        go_wp2_with fail
        refine HSM.out.mono ?_
        rintro e w10 ⟨rfl, hB10⟩
        have HB10 := Lib.hid (HB9.out.trans (hB10.mono HB9.out.size))
        have HAW := Lib.hid (awake_any w10 (HT.out.below HB10.out HT.out.lt))
        clear hB10 c5
        go_wp2_with fail
        refine HAW.out.mono ?_
        rintro e w11 ⟨rfl, hB11⟩
        have HB11 := Lib.hid (HB10.out.trans (hB11.mono HB10.out.size))
        clear hB11
        go_wp2_with fail
        go_ret
        exact ⟨rfl, HB11.out⟩
end Go.Proofs.YtbfochdoeibofaaGreatDoor.Full
