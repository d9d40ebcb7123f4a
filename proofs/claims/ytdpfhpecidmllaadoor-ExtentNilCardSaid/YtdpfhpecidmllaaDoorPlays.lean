/- Layer 7: the law ExtentPlays, walked. -/
import Derived.Test.YtdpfhpecidmllaaDoorAwake
namespace Go.Proofs.YtdpfhpecidmllaaDoor.Ext
open Go.RowKit Go.Shelf Go.Deep Mem

theorem free_freeN {C g cap : Nat} {k : List Bool} {w : World} (h : Holds C g cap k w) :
    Calls Tryd.prog 12 #[.pointer (some ⟨C, 0, none⟩)] w fun e w' => e = .returned (.int .i64 (freeN k)) ∧ ∃ n, w' = w.drewN n := by
  have := free_holds h
  have h2 := tak_le k
  rw [show ((k.length : Int) - tak k) = freeN k by unfold freeN; omega] at this
  exact this
theorem BK.drewN {B g cp : Nat} {k : List Bool} {w : World} (h : BK B g cp k w) (n : Nat) : BK B g cp k (w.drewN n) := h
theorem Own.drewN {B C g cap : Nat} {k : List Bool} {w : World} (h : Own B C g cap k w) (n : Nat) : Own B C g cap k (w.drewN n) := h.later (below_drewN (Below.refl _ _) _)
theorem made_flags (w : World) (m : Nat) (hm : m ≤ 65536) : BK w.heap.size w.heap.size m (List.replicate m false) (w.alloc (.cells (madeCells #[.bool false] m) 4)) := by
  have := World.ownsRow_lit (base := w.heap.size) (e := 4) (size := 1) w (madeCells #[.bool false] m) m (Nat.le_refl _) (by unfold maxLen; omega) (by rw [size_madeCells, Nat.mul_one])
  rw [toList_madeCells_one] at this
  unfold BK
  rw [List.length_replicate, List.map_replicate]
  exact this
theorem isK_at {k : List Bool} {n : Nat} {x : Bool} (h : k[n]? = some x) : isK k n = x := by
  unfold isK
  rw [Int.toNat_natCast, getD_set_of h]
  simp
theorem isK_out {k : List Bool} {i : Int} (h : i < 0 ∨ (k.length : Int) ≤ i) : isK k i = false := by
  unfold isK
  rcases h with h | h
  · simp; intro; omega
  · rw [List.getD_eq_getElem?_getD, List.getElem?_eq_none (by omega)]
    simp

theorem does_same (B C g cap gk cp cl : Nat) (a : Option Addr) (k : List Bool) (kind n : Int) (l : List Int) (w : World) (h : Own B C g cap k w) (hk : BK B gk cp k w) (hkl : k.length ≤ 65536) (hl : ARow B w a cl l) :
    Calls Tryd.prog 11 #[.pointer (some ⟨C, 0, none⟩), .slice (some ⟨gk, 0, none⟩) k.length cp, .agg #[.int .i64 kind, .int .i64 n, .slice a l.length cl]] w fun e w' => ∃ gk' cp', e = .returned (.tuple #[.bool true, .slice (some ⟨gk', 0, none⟩) (actK k kind n l).length cp']) ∧ Own B C g cap (actK k kind n l) w' ∧ BK B gk' cp' (actK k kind n l) w' ∧ Only [C, g] w w' :=
  (does_any B C g cap gk cp cl a k k kind n l w h hk hkl hl).mono fun e w' ⟨x, gk', cp', he, hx, r⟩ => ⟨gk', cp', by rw [he, hx rfl], r⟩
set_option maxHeartbeats 1000000 in
theorem plays_walk (count : Int) (a : Option Addr) (len cp : Nat) (l : List Act) (w : World) (hT : Tab w) (ha : Acts w a len l) :
    Calls Tryd.prog 3 #[.int .i64 count, .slice a len cp] w fun e w' => e = .returned (.bool true) ∧ Below w.heap.size w w' := by
  have HG := Lib.hid (great_any count a len cp l w ha)
  have HTAB := Lib.hid hT
  rcases hg : greatB count l with _ | _
  · rw [hg] at HG
    obtain ⟨g1, g2, g3⟩ := great_no hg
    have hlen := ha.len
    obtain ⟨c, hc⟩ : ∃ c : Nat, cnt count = c := ⟨(cnt count).toNat, by unfold cnt; omega⟩
    have hc2 : min (max count 0) 65536 = (c : Int) := hc
    have hc3 : c ≤ 300 := by unfold cnt at hc; omega
    obtain ⟨cap, hcap⟩ : ∃ cap, cap = ((cnt count + 63) / 64).toNat := ⟨_, rfl⟩
    have hnew := new_own count w hT
    rw [← hcap, hc, Int.toNat_natCast] at hnew
    have HN := Lib.hid hnew
    have hmk : ∀ w, (Instr.makeSlice 27 (.int .i64 c) (.int .i64 c)).run Tryd.prog w = .ok (.slice (some ⟨w.heap.size, 0, none⟩) c c) (w.alloc (.cells (madeCells #[.bool false] c) 4)) := fun w =>
      run_make_row' 27 4 (.bool false) 1 Tryd.underlying27 infoB rfl .i64 .i64 c (by omega) (by omega) w
    have HA := Lib.hid ha.cells
    have HG3 := Lib.hid g3
    clear hg ha hT hc g3 hcap hnew
    subst hlen
    go_enter Tryd.func3, Tryd.ntmps3
    go_wp2_with fail
    refine HG.out.mono ?_
    rintro e w' ⟨rfl, rfl⟩
    go_wp2_with fail
    refine HN.out.mono ?_
    rintro e w1 ⟨rfl, hO, hB⟩
    have hO1 := hO.later ((Below.refl w1.heap.size w1).alloc (Nat.le_refl _) (.cells (madeCells #[.bool false] c) 4))
    have hK1 := (made_flags w1 c (by omega)).mono hB.size
    have hB1 := hB.trans (((Below.refl w1.heap.size w1).alloc (Nat.le_refl _) (.cells (madeCells #[.bool false] c) 4)).mono hB.size)
    have HO := Lib.hid hO1
    have HK := Lib.hid hK1
    have HB := Lib.hid hB1
    clear hO hO1 hK1 hB hB1
    go_wp2_with fail
    refine (count_any count _).mono ?_
    rintro e w' ⟨rfl, rfl⟩
    rw [hc2]
    go_wp2_with fail
    go_loopw [6, 7] (fun v i wr => ∃ (n : Nat) (k : List Bool) (gk ck : Nat), n ≤ l.length ∧ i = .int .i64 n ∧ v = .slice (some ⟨gk, 0, none⟩) k.length ck ∧ Hid (k.length = c) ∧ Hid (Own w.heap.size (w.heap.size + 1) w.heap.size cap k wr) ∧ Hid (BK w.heap.size gk ck k wr) ∧ Hid (Below w.heap.size w wr)) (fun _ i _ => l.length - (intOf i).toNat)
    case atStart => exact ⟨0, List.replicate c false, _, c, Nat.zero_le _, rfl, by simp, Lib.hid (by simp), HO, HK, HB⟩
    case round =>
      obtain ⟨n, k, gk, ck, hn, rfl, rfl, hkl, hO, hK, hB⟩ := hrel
      have hkb : k.length ≤ 300 := by rw [hkl.out]; exact hc3
      by_cases hlt : n < l.length
      · obtain ⟨t, ht⟩ : ∃ t, l[n]? = some t := ⟨_, List.getElem?_eq_getElem hlt⟩
        have hact := HA.out n t ht
        have htl := HG3.out t (List.mem_of_getElem? ht)
        obtain ⟨b, off, rfl, hb, a0, a1, a2⟩ := hact.at_
        have HCL := Lib.hid (clone_any _ _ _ k wr hO.out.map)
        have hlt1 := hO.out.map.lt
        have HACT := Lib.hid hact
        have HA0 := Lib.hid a0
        have HA1 := Lib.hid a1
        have HA2 := Lib.hid a2
        clear ht hact a0 a1 a2
        go_wp2_with fail
        refine HCL.out.mono ?_
        rintro e w2 ⟨C', g', cap', rfl, hcl, hC', hg', hB2⟩
        have hB02 := hB.out.trans (hB2.mono (by omega))
        have b0 := (hB02.cell (p := ⟨b, off + n * 3, none⟩) hb).trans HA0.out
        have b1 := (hB02.cell (p := ⟨b, off + n * 3 + 1, none⟩) hb).trans HA1.out
        have b2 := (hB02.cell (p := ⟨b, off + n * 3 + 2, none⟩) hb).trans HA2.out
        have hO2 := hO.out.later hB2
        have hK2 := hK.out.later hB2
        have hgk := hK2.lt
        have hgn := hK2.ne hO2.map
        have HD := Lib.hid (does_same _ _ _ _ gk ck t.cp t.a k t.kind t.n t.l w2 hO2 hK2 (by omega) (HACT.out.row htl hB02))
        have HCL2 := Lib.hid hcl
        have HB02 := Lib.hid hB02
        have HK2 := Lib.hid hK2
        have hs2 := hB2.size
        clear hB02 hO2 hK2 hcl hB2
        go_wp2_with fail
        refine HD.out.mono ?_
        rintro e w3 ⟨gk', ck', rfl, hO3, hK3, ho3⟩
        have hcl3 : Holds C' g' cap' k w3 := HCL2.out.only ho3 (by simp; omega) (by simp; omega)
        have hB3 : Below w.heap.size w2 w3 := Only.below ho3 (by omega) (by simp)
        have hK3' := HK2.out.only ho3 hgn
        have HO3 := Lib.hid hO3
        have HK3 := Lib.hid hK3
        have HB3 := Lib.hid (HB02.out.trans hB3)
        have HF1 := Lib.hid (free_freeN hcl3)
        have HF2 := fun q => Lib.hid (ref_free _ gk ck k (w3.drewN q) (hK3'.drewN q) (by omega))
        have HF3 := fun q => Lib.hid (free_freeN (hO3.map.drewN q))
        have hkl3 : Hid ((actK k t.kind t.n t.l).length = c) := Lib.hid (by rw [actK_length]; exact hkl.out)
        have hkb3 : (actK k t.kind t.n t.l).length ≤ 300 := by rw [actK_length]; exact hkb
        have HF4 := fun q => Lib.hid (ref_free _ gk' ck' (actK k t.kind t.n t.l) (w3.drewN q) (hK3.drewN q) (by omega))
        obtain ⟨k2, hk2⟩ : ∃ k2, k2 = actK k t.kind t.n t.l := ⟨_, rfl⟩
        rw [← hk2] at HO3 HK3 HF3 HF4 hkl3 hkb3 ⊢
        clear hk2 hO3 hK3 ho3 hcl3 hB3 hK3'
        go_wp2_with fail
        refine HF1.out.mono ?_
        rintro e w4 ⟨rfl, q1, rfl⟩
        go_wp2_with fail
        refine (HF2 _).out.mono ?_
        rintro e w4 ⟨rfl, rfl⟩
        go_wp2_with fail
        refine (HF3 _).out.mono ?_
        rintro e w4 ⟨rfl, q2, rfl⟩
        go_wp2_with fail
        refine (HF4 _).out.mono ?_
        rintro e w4 ⟨rfl, rfl⟩
        clear HF1 HF2 HF3 HF4 HD HCL HCL2 HK2
        go_wp2_with fail
        refine ⟨⟨n + 1, k2, gk', ck', by omega, by simp, rfl, hkl3, Lib.hid (HO3.out.drewN _), Lib.hid (HK3.out.drewN _), Lib.hid (below_drewN HB3.out _)⟩, ?_⟩
        simp [intOf]; omega
      · obtain rfl : n = l.length := by omega
        go_wp2_with fail
        go_loopw [11] (fun i wq => ∃ m : Int, -1 ≤ m ∧ m ≤ (k.length : Int) + 1 ∧ i = .int .i64 m ∧ wr = wq) (fun i _ => ((k.length : Int) + 1 - intOf i).toNat)
        case atStart => exact ⟨-1, by omega, by omega, rfl, rfl⟩
        case round =>
          obtain ⟨m, hm1, hm2, rfl, rfl⟩ := hrel
          have HI := is_holds hO.out.map m
          have hw9 : IntKind.i64.wrap (m + 1) = m + 1 := IntWalk.i64_in _ (by omega)
          by_cases h0 : m < 0
          · rw [isK_out (.inl h0)] at HI
            have HI := Lib.hid HI
            have d0 : decide (0 ≤ m) = false := by simp; omega
            have d1 : decide (m ≤ (k.length : Int)) = true := by simp; omega
            go_wp2_with fail
            refine HI.out.mono ?_
            rintro e w' ⟨rfl, rfl⟩
            go_wp2_with fail
            refine ⟨⟨m + 1, by omega, by omega, rfl, trivial⟩, ?_⟩
            simp [intOf]; omega
          · obtain ⟨j, rfl⟩ : ∃ j : Nat, m = j := ⟨m.toNat, by omega⟩
            by_cases h1 : j < k.length
            · obtain ⟨x, hx⟩ : ∃ x, k[j]? = some x := ⟨_, List.getElem?_eq_getElem h1⟩
              rw [isK_at hx] at HI
              have c0 := hK.out.cell j x hx
              have HI := Lib.hid HI
              clear hx
              go_wp2_with fail
              refine HI.out.mono ?_
              rintro e w' ⟨rfl, rfl⟩
              cases x
              · go_wp2_with fail
                refine ⟨⟨(j : Int) + 1, by omega, by omega, rfl, trivial⟩, ?_⟩
                simp [intOf]; omega
              · go_wp2_with fail
                refine ⟨⟨(j : Int) + 1, by omega, by omega, rfl, trivial⟩, ?_⟩
                simp [intOf]; omega
            · by_cases h2 : j = k.length
              · rw [isK_out (.inr (by omega))] at HI
                have HI := Lib.hid HI
                have h3 : j ≤ k.length := by omega
                have h4 : k.length ≤ j := by omega
                clear h0 hm1 hm2 h2
                go_wp2_with fail
                refine HI.out.mono ?_
                rintro e w' ⟨rfl, rfl⟩
                go_wp2_with fail
                refine ⟨⟨(j : Int) + 1, by omega, by omega, rfl, trivial⟩, ?_⟩
                simp [intOf]; omega
              · have HAW := Lib.hid (awake_any wr hO.out.tab)
                have hs := hB.out.size
                clear HI
                go_wp2_with fail
                refine HAW.out.mono ?_
                rintro e w9 ⟨rfl, hB9⟩
                go_wp2_with fail
                go_ret
                exact ⟨rfl, hB.out.trans (hB9.mono hs)⟩
  · rw [hg] at HG
    have HAW := Lib.hid (awake_any w hT)
    clear hg ha hT
    go_enter Tryd.func3, Tryd.ntmps3
    go_wp2_with fail
    refine HG.out.mono ?_
    rintro e w' ⟨rfl, rfl⟩
    go_wp2_with fail
    refine HAW.out.mono ?_
    rintro e w1 ⟨rfl, hB⟩
    go_wp2_with fail
    go_ret
    exact ⟨rfl, hB⟩
end Go.Proofs.YtdpfhpecidmllaaDoor.Ext
