/- Layer 7: the reference's Take. -/
import Derived.Test.YtdpfhpecidmllaaDoorRefTurn
namespace Go.Proofs.YtdpfhpecidmllaaDoor.Ext
open Go.RowKit Go.Shelf Go.Deep Mem

/-- What the reference's Take leaves. -/
structure RTook (B : Nat) (k : List Bool) (n : Int) (w : World) (e : Ending) (w' : World) : Prop where
  out : ∃ g cp a cl, e = .returned (.tuple #[.slice (some ⟨g, 0, none⟩) (takeK k n).length cp, .slice a (takeL k n).length cl, .int .i64 (takeEr k n)]) ∧ BK B g cp (takeK k n) w' ∧ w'.ownsRow w.heap.size 3 1 (.slice a (takeL k n).length cl) (takeL k n).length ((takeL k n).map (Value.int .i64))
  below : Below w.heap.size w w'
theorem ownsI_nil (w : World) : (w.alloc (.cells #[] 3)).ownsRow w.heap.size 3 1 (.slice (some ⟨w.heap.size, 0, none⟩) 0 0) 0 [] := World.ownsRow_lit w #[] 0 (Nat.le_refl _) (by decide) rfl
set_option maxHeartbeats 1000000 in
theorem rtake_no (B g cp : Nat) (k : List Bool) (n : Int) (w : World) (h : BK B g cp k w) (hk : k.length ≤ 65536) (hn : n < 0 ∨ (freeN k : Int) < n) :
    Calls Tryd.prog 20 #[.slice (some ⟨g, 0, none⟩) k.length cp, .int .i64 n] w fun e w' => RTook B k n w e w' := by
  have e1 : takeL k n = [] := by unfold takeL; rw [if_pos hn]
  have e2 : takeK k n = k := by unfold takeK; rw [e1]; rfl
  have hal := (Below.refl w.heap.size w).alloc (Nat.le_refl _) (.cells #[] 3)
  have fin : ∀ e, e = .returned (.tuple #[.slice (some ⟨g, 0, none⟩) k.length cp, .slice (some ⟨w.heap.size, 0, none⟩) 0 0, .int .i64 (takeEr k n)]) → RTook B k n w e (w.alloc (.cells #[] 3)) := fun e he =>
    ⟨⟨g, cp, some ⟨w.heap.size, 0, none⟩, 0, by rw [e2, e1]; exact he, by rw [e2]; exact h.later hal, by rw [e1]; exact ownsI_nil w⟩, hal⟩
  have FIN := Lib.hid fin
  have HF := Lib.hid (ref_free B g cp k w h hk)
  clear fin h e1 e2 hal
  by_cases h0 : n < 0
  · have d : decide (n < 0) = true := by simpa using h0
    have e : takeEr k n = 1 := if_pos h0
    rw [e] at FIN
    go_enter Tryd.func20, Tryd.ntmps20
    go_wp2_with fail
    go_ret3
    exact FIN.out _ rfl
  · have d : decide (n < 0) = false := by simpa using h0
    have h1 : (freeN k : Int) < n := by omega
    have d2 : decide ((freeN k : Int) < n) = true := by simpa using h1
    have e : takeEr k n = 7 := by unfold takeEr; rw [if_neg h0, if_pos h1]
    rw [e] at FIN
    go_enter Tryd.func20, Tryd.ntmps20
    go_wp2_with (go_at_call 13; refine HF.out.mono ?_; rintro e w' ⟨rfl, rfl⟩)
    go_ret3
    exact FIN.out _ rfl

/-- A flag that was not taken yet. -/
theorem flips_other (l : List Int) : ∀ (k : List Bool) (m : Nat), (∀ x ∈ l, x.toNat ≠ m) → (flips k l)[m]? = k[m]? := by
  induction l with
  | nil => intro k m _; rfl
  | cons a r ih =>
    intro k m h
    show (flips (flipK k a.toNat) r)[m]? = _
    rw [ih _ m (fun x hx => h x (List.mem_cons_of_mem _ hx)), flipK_at, if_neg (h a (List.mem_cons_self ..))]
theorem flips_app (k : List Bool) (l : List Int) (m : Nat) : flips k (l ++ [(m : Int)]) = flipK (flips k l) m := by
  unfold flips
  rw [List.foldl_append]
  rfl
set_option maxHeartbeats 4000000 in
theorem rtake_yes (B g cp : Nat) (k : List Bool) (N : Nat) (w : World) (h : BK B g cp k w) (hk : k.length ≤ 65536) (hN : N ≤ freeN k) :
    Calls Tryd.prog 20 #[.slice (some ⟨g, 0, none⟩) k.length cp, .int .i64 N] w fun e w' => RTook B k N w e w' := by
  obtain ⟨i0, hi0, hz0, hz1, hz2⟩ := info_parts infoB
  obtain ⟨j0, hj0, hy0, hy1, hy2⟩ := info_parts infoI
  have hBw : B ≤ w.heap.size := Nat.le_trans h.lt.1 (Nat.le_of_lt h.lt.2)
  have hal := (Below.refl w.heap.size w).alloc (Nat.le_refl _) (.cells #[] 4)
  have hown : (w.alloc (.cells #[] 4)).ownsRow w.heap.size 4 1 (.slice (some ⟨w.heap.size, 0, none⟩) 0 0) 0 [] := World.ownsRow_lit w #[] 0 (Nat.le_refl _) (by decide) rfl
  have HS := Lib.hid (flags_src h (.cells #[] 4))
  have H1 := Lib.hid (flags_one k)
  have HA := Lib.hid hal
  have HF := Lib.hid (ref_free B g cp k w h hk)
  obtain ⟨f, hf⟩ : ∃ f : Nat → Bool, f = fun i => k.getD i true := ⟨_, rfl⟩
  have e1 : takeL k N = (frees f k.length).take N := by
    unfold takeL
    rw [if_neg (by omega), hf]
    rfl
  have e3 : takeEr k N = 0 := by unfold takeEr; rw [if_neg (by omega), if_neg (by omega)]
  have hfl : (frees f k.length).length = freeN k := by rw [hf]; exact freeL_length k
  have HFD := Lib.hid hf
  have E1 := Lib.hid e1
  have E3 := Lib.hid e3
  have hN2 : N ≤ 65536 := by unfold freeN at hN; omega
  have d : decide ((N : Int) < 0) = false := by simp
  have d2 : decide (freeN k < N) = false := by simp; omega
  clear hal h hf e1 e3
  go_enter Tryd.func20, Tryd.ntmps20
  go_wp2_with fail
  refine HF.out.mono ?_
  rintro e w' ⟨rfl, rfl⟩
  go_wp2_with (first | (at_builtin; refine wpList_append_own _ rfl _ _ 27 rfl w.heap.size 4 i0 (.bool false) 1 1 Tryd.underlying27 hi0 hz0 hz1 hz2 rfl (by decide) _ _ _ rfl hown ⟨g, 0, none⟩ k.length cp (k.map Value.bool) rfl ?c1 HS.out H1.out ?c3 ?c4 ?c5 ?_))
  case c1 => simp
  case c3 => unfold maxLen; omega
  case c4 => omega
  case c5 => simp
  intro v' w1 hown1 hgrow1 hv
  have hB1 : Below w.heap.size w w1 := HA.out.grown hgrow1 (by simp) (fun q hq => (hown.lt q hq).1)
  obtain ⟨g', cp', e⟩ : ∃ g' cap', v' = .slice (some ⟨g', 0, none⟩) k.length cap' := by
    rcases hown1.2 with ⟨h0, _⟩ | ⟨g', cap', cur, e, _⟩
    · exact absurd h0 hv
    · exact ⟨g', cap', e⟩
  subst e
  have hbk : BK w.heap.size g' cp' k w1 := hown1
  have hal2 := (Below.refl w1.heap.size w1).alloc (Nat.le_refl _) (.cells #[] 3)
  have HO := Lib.hid (hbk.later hal2)
  have HB := Lib.hid (hB1.trans (hal2.mono hB1.size))
  have HNI := Lib.hid (own_mono (ownsI_nil w1) hB1.size)
  clear hown1 hgrow1 hv hown HS H1 HA hB1 hbk hal2
  go_wp2_with fail
  go_loopw [8, 26] (fun o i wr => ∃ (n : Nat) (a : Option Addr) (cl : Nat) (L : List Int), n ≤ k.length ∧ i = .int .i64 n ∧ o = .slice a L.length cl ∧ L.length ≤ N ∧ Hid (L = (frees f n).take N) ∧ Hid (BK w.heap.size g' cp' (flips k L) wr) ∧ Hid (wr.ownsRow w.heap.size 3 1 (.slice a L.length cl) L.length (L.map (Value.int .i64))) ∧ Hid (Below w.heap.size w wr)) (fun _ i _ => k.length - (intOf i).toNat)
  case atStart => exact ⟨0, _, 0, [], Nat.zero_le _, rfl, rfl, Nat.zero_le _, Lib.hid (by simp [frees]), HO, HNI, HB⟩
  case round =>
    obtain ⟨n, a, cl, L, hn, rfl, rfl, hLN, hL, hbk, hown, hB⟩ := hrel
    by_cases hlt : n < k.length
    · obtain ⟨x, hx⟩ : ∃ x, k[n]? = some x := ⟨_, List.getElem?_eq_getElem hlt⟩
      have hfx : f n = x := by rw [HFD.out]; show k.getD n true = x; rw [List.getD_eq_getElem?_getD, hx]; rfl
      by_cases hLl : L.length < N
      · have hL2 : L = frees f n := by
          have := hL.out
          rw [this, List.length_take] at hLl
          rw [this, List.take_of_length_le (by omega)]
        have hxx : (flips k L)[n]? = some x := by
          rw [flips_other L k n (fun y hy => ?_), hx]
          rw [hL2, frees_mem] at hy
          obtain ⟨i, rfl, h1, _⟩ := hy
          omega
        have c0 := hbk.out.cell n x hxx
        have c1 := hbk.out.frozen n
        have hg2 := hbk.out.lt
        have HX := Lib.hid hxx
        have HL2 := Lib.hid hL2
        have HFX := Lib.hid hfx
        clear hx hxx hL2 hfx hL
        cases x
        · have hset := hbk.out.set n true
          rw [show (flips k L).set n true = flipK (flips k L) n from flipK_is HX.out, ← flips_app] at hset
          have hne : ∀ q, (Value.slice a L.length cl).ownBlock = some q → q ≠ g' := fun q hq e => by
            subst e
            have h1 := hown.out
            have h2 := hbk.out
            rcases h1.2 with ⟨h0, _⟩ | ⟨g1, cap1, cur1, e1, _, hb1, _⟩
            · rw [h0] at hq; cases hq
            · rw [e1] at hq
              simp [Value.ownBlock] at hq
              subst hq
              rcases h2.2 with ⟨h0, _⟩ | ⟨g2, cap2, cur2, e2, _, hb2, _⟩
              · cases h0
              · cases e2
                rw [hb1] at hb2
                cases hb2
          have hown2 : (wr.setCell ⟨g', n, none⟩ (.bool true)).ownsRow w.heap.size 3 1 (.slice a L.length cl) L.length (L.map (Value.int .i64)) := own_far hown.out (fun e => hne _ e rfl) _
          have HSET := Lib.hid hset
          have hbw := hB.out.setCell (show w.heap.size ≤ (⟨g', n, none⟩ : Addr).block from hg2.1) (.bool true)
          have hbs := hbw.size
          have HBW := Lib.hid hbw
          have hbg : g' < (wr.setCell ⟨g', n, none⟩ (.bool true)).heap.size := hset.lt.2
          clear hset hbw hown
          go_wp2_with (first | (at_builtin; refine wpList_append_own _ rfl _ _ 32 rfl w.heap.size 3 j0 (.int .i64 0) 1 8 Tryd.underlying32 hj0 hy0 hy1 hy2 rfl (by decide) _ _ _ rfl (hown2.alloc _) ⟨wr.heap.size, 0, none⟩ 1 1 [.int .i64 n] rfl rfl ?d1 ?d2 ?d3 ?d4 ?d5 ?_))
          case d1 =>
            intro j u hj
            match j, hj with
            | 0, hj =>
              simp at hj
              subst hj
              have h9 := (Blk.new (wr.setCell ⟨g', n, none⟩ (.bool true)) 3 #[.int .i64 n]).cell 0
              rw [show (wr.setCell ⟨g', n, none⟩ (.bool true)).heap.size = wr.heap.size by simp [World.setCell]] at h9
              exact h9
          case d2 => intro u hu; simp at hu; subst hu; rfl
          case d3 => unfold maxLen; omega
          case d4 => omega
          case d5 => simp at hbs ⊢; omega
          intro v' w2 hown3 hgrow3 _
          obtain ⟨a1, cl1, rfl, _, _⟩ := own_form hown3
          have hgne : ∀ q, (Value.slice a L.length cl).ownBlock = some q → q ≠ g' := hne
          have hb3 : Below w.heap.size w w2 := (HBW.out.alloc hbs _).grown hgrow3 (by simp at hbs ⊢; omega) (fun q hq => (hown2.lt q hq).1)
          have hbk3 : BK w.heap.size g' cp' (flips k (L ++ [(n : Int)])) w2 := by
            have h1 : BK w.heap.size g' cp' (flips k (L ++ [(n : Int)])) ((wr.setCell ⟨g', n, none⟩ (.bool true)).alloc (.cells #[.int .i64 n] 3)) := HSET.out.later ((Below.refl _ _).alloc (Nat.le_refl _) _)
            exact World.ownsRow.kept h1 hgrow3 (.inr (fun e => hne g' (by rw [← e]; rfl) rfl))
          have hown4 : w2.ownsRow w.heap.size 3 1 (.slice a1 (L ++ [(n : Int)]).length cl1) (L ++ [(n : Int)]).length ((L ++ [(n : Int)]).map (Value.int .i64)) := by
            rw [List.map_append, List.length_append]
            exact hown3
          have hstep : L ++ [(n : Int)] = (frees f (n + 1)).take N := by
            rw [frees_succ, HFX.out, ← HL2.out, List.take_of_length_le (by simp; omega)]
            rfl
          have hl1 : (L ++ [(n : Int)]).length = L.length + 1 := by simp
          have B3 := Lib.hid hb3
          have K3 := Lib.hid hbk3
          have O4 := Lib.hid hown4
          have S3 := Lib.hid hstep
          clear hown3 hgrow3 hb3 hbk3 hown4 hstep hgne hne hown2
          go_wp2_with fail
          go_roundw
          case rel => exact ⟨n + 1, a1, cl1, L ++ [(n : Int)], by omega, by simp, by rw [hl1], by omega, S3, K3, O4, B3⟩
          case measure => simp [intOf]; omega
        · have hstep : L = (frees f (n + 1)).take N := by
            rw [frees_succ, HFX.out]
            simp only [if_true, List.append_nil]
            rw [← HL2.out, List.take_of_length_le hLN]
          have S3 := Lib.hid hstep
          clear hstep
          go_wp2_with fail
          go_roundw
          case rel => exact ⟨n + 1, a, cl, L, by omega, by simp, rfl, by omega, S3, hbk, hown, hB⟩
          case measure => simp [intOf]; omega
      · have hstep : L = (frees f (n + 1)).take N := by
          have := hL.out
          rw [frees_take f n 1 N (by rw [this, List.length_take] at hLl; omega)]
          exact this
        have S3 := Lib.hid hstep
        clear hstep hL hx hfx
        go_wp2_with fail
        go_roundw
        case rel => exact ⟨n + 1, a, cl, L, by omega, by simp, rfl, by omega, S3, hbk, hown, hB⟩
        case measure => simp [intOf]; omega
    · obtain rfl : n = k.length := by omega
      have hLk : L = takeL k N := by rw [E1.out]; exact hL.out
      subst hLk
      clear hL hLN
      go_wp2_with fail
      go_ret3
      refine ⟨⟨g', cp', a, cl, ?_, hbk.out.mono hBw, hown.out⟩, hB.out⟩
      rw [E3.out]
      show Ending.returned (.tuple #[.slice (some ⟨g', 0, none⟩) k.length cp', _, _]) = _
      have e : (takeK k N).length = k.length := flips_length _ _
      rw [e]
      rfl
end Go.Proofs.YtdpfhpecidmllaaDoor.Ext
