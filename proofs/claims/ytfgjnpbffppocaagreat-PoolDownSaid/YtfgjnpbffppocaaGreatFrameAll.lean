/- Layer 5: All sections. -/
import Derived.Test.YtfgjnpbffppocaaGreatFrameGet
namespace Go.Proofs.YtfgjnpbffppocaaGreat.Frame
open Go.RowKit Go.Deep Mem Crc

/-- All sections, or the first error. -/
def allF : Nat → List UInt8 → List (UInt8 × List UInt8) × Int
  | 0, _ => ([], 0)
  | f + 1, bs =>
    if bs = [] then ([], 0)
    else if (got bs).2.2.2 = 0 then
      let r := allF f (bs.drop (got bs).2.2.1)
      if r.2 = 0 then (((got bs).1, (got bs).2.1) :: r.1, 0) else ([], r.2)
    else ([], (got bs).2.2.2)
/-- A section as a row holds it. -/
structure Sec where
  kind : UInt8
  body : List UInt8
  a : Option Addr
  cp : Nat
def Sec.vs (s : Sec) : List Value := [bv s.kind, .slice s.a s.body.length s.cp]
def flatS (l : List Sec) : List Value := l.flatMap Sec.vs
theorem flatS_length (l : List Sec) : (flatS l).length = l.length * 2 := by
  unfold flatS
  induction l with
  | nil => rfl
  | cons s r ih => rw [List.flatMap_cons, List.length_append, ih]; simp [Sec.vs]; omega
theorem flatS_snoc (l : List Sec) (s : Sec) : flatS (l ++ [s]) = flatS l ++ s.vs := by unfold flatS; rw [List.flatMap_append]; simp
def Sec.kb (s : Sec) : UInt8 × List UInt8 := (s.kind, s.body)
/-- The bodies lie there, each at or above B. -/
def Bodies (B : Nat) (w : World) (l : List Sec) : Prop := ∀ s ∈ l, OwnB w B (.slice s.a s.body.length s.cp) s.body
theorem Bodies.later {B : Nat} {w w' : World} {l : List Sec} (h : Bodies B w l) (hB : Below w.heap.size w w') : Bodies B w' l := fun s hs => own_later (h s hs) hB
theorem got_pos {bs : List UInt8} (h : (got bs).2.2.2 = 0) : 13 ≤ (got bs).2.2.1 ∧ (got bs).2.2.1 ≤ bs.length := by
  unfold got at h ⊢
  split at h
  · cases h
  · rename_i h1
    rw [if_neg h1]
    split at h
    · cases h
    · rename_i h2
      rw [if_neg h2]
      split at h
      · cases h
      · rename_i h3
        rw [if_neg h3]
        split at h
        · cases h
        · rename_i h4
          rw [if_neg h4]
          split at h
          · cases h
          · rename_i h5
            rw [if_neg h5]
            constructor
            · show 13 ≤ 13 + _; omega
            · show 13 + _ ≤ _; omega
theorem allF_fuel : ∀ (f f' : Nat) (bs : List UInt8), bs.length < f → bs.length < f' → allF f bs = allF f' bs
  | 0, _, _, h, _ => absurd h (Nat.not_lt_zero _)
  | _ + 1, 0, _, _, h => absurd h (Nat.not_lt_zero _)
  | f + 1, f' + 1, bs, h, h' => by
    unfold allF
    split
    · rfl
    · rename_i hne
      split
      · rename_i h0
        have hp := got_pos h0
        have hl : (bs.drop (got bs).2.2.1).length < bs.length := by rw [List.length_drop]; omega
        rw [allF_fuel f f' _ (by omega) (by omega)]
      · rfl
/-- Sections ahead of what is left. -/
def glue (l : List (UInt8 × List UInt8)) (r : List (UInt8 × List UInt8) × Int) : List (UInt8 × List UInt8) × Int := if r.2 = 0 then (l ++ r.1, 0) else ([], r.2)
theorem allF_nil (F : Nat) : allF F [] = ([], 0) := by cases F <;> rfl
theorem allF_bad {F : Nat} {bs : List UInt8} (hF : bs.length < F) (hne : bs ≠ []) (h : ¬ (got bs).2.2.2 = 0) : allF F bs = ([], (got bs).2.2.2) := by
  cases F with
  | zero => omega
  | succ f => unfold allF; rw [if_neg hne, if_neg h]
theorem allF_step {F : Nat} {bs : List UInt8} (hF : bs.length < F) (hne : bs ≠ []) (h : (got bs).2.2.2 = 0) (l : List (UInt8 × List UInt8)) : glue l (allF F bs) = glue (l ++ [((got bs).1, (got bs).2.1)]) (allF F (bs.drop (got bs).2.2.1)) := by
  cases F with
  | zero => omega
  | succ f =>
    have hp := got_pos h
    have hl : (bs.drop (got bs).2.2.1).length < bs.length := by rw [List.length_drop]; omega
    have e : allF (f + 1) bs = if (allF (f + 1) (bs.drop (got bs).2.2.1)).2 = 0 then (((got bs).1, (got bs).2.1) :: (allF (f + 1) (bs.drop (got bs).2.2.1)).1, 0) else ([], (allF (f + 1) (bs.drop (got bs).2.2.1)).2) := by
      rw [allF_fuel (f + 1) f (bs.drop (got bs).2.2.1) (by omega) (by omega)]
      conv => lhs; unfold allF
      rw [if_neg hne, if_pos h]
    rw [e]
    generalize allF (f + 1) (bs.drop (got bs).2.2.1) = r
    obtain ⟨r1, r2⟩ := r
    unfold glue
    by_cases hr : r2 = 0
    · subst hr
      simp
    · simp [hr]
theorem infoS : (Tryz.prog.info? 104).map (fun i => (i.zero, i.size, i.bytes)) = some (some (.agg #[.int .u8 0, .slice none 0 0]), 2, 32) := by kernel_rfl
def lenOf : Value → Nat
  | .slice _ n _ => n
  | _ => 0
theorem glue_nil (r : List (UInt8 × List UInt8) × Int) (h : r.2 = 0 ∨ r.1 = []) : glue [] r = r := by
  obtain ⟨r1, r2⟩ := r
  unfold glue
  by_cases hr : r2 = 0
  · subst hr; simp
  · rcases h with h | h
    · exact absurd h hr
    · simp at h; subst h; simp [hr]
theorem allF_shape (F : Nat) (bs : List UInt8) : (allF F bs).2 = 0 ∨ (allF F bs).1 = [] := by
  cases F with
  | zero => exact .inl rfl
  | succ f =>
    unfold allF
    split
    · exact .inl rfl
    · split
      · dsimp only
        split
        · exact .inl rfl
        · exact .inr rfl
      · exact .inr rfl
/-- What All leaves. -/
structure AllGot (bs : List UInt8) (w : World) (e : Ending) (w' : World) : Prop where
  out : ∃ v l, e = .returned (.tuple #[v, .int .i64 (allF (bs.length + 1) bs).2]) ∧ w'.ownsRow w.heap.size 104 2 v l.length (flatS l) ∧ l.map Sec.kb = (allF (bs.length + 1) bs).1 ∧ Bodies w.heap.size w' l
  below : Below w.heap.size w w'
set_option maxHeartbeats 400000 in
set_option maxRecDepth 100000 in
theorem all_any (a : Option Addr) (cp : Nat) (bs : List UInt8) (w : World) (h : Lies w a (bs.map bv)) (hcp : bs.length ≤ cp) (hm : bs.length ≤ 3000000) :
    Calls Tryz.prog 39 #[.slice a bs.length cp] w fun e w' => AllGot bs w e w' := by
  obtain ⟨i0, hi0, hz0, hz1, hz2⟩ := info_parts infoS
  have HL := Lib.hid h
  clear h
  go_enter Tryz.func39, Tryz.ntmps39
  go_wp2_with fail
  go_loopw [0, 4] (fun b o wr => ∃ (a' : Option Addr) (cp' : Nat) (l : List Sec) (rest : List UInt8), b = .slice a' rest.length cp' ∧ rest.length ≤ cp' ∧ l.length + rest.length ≤ bs.length ∧ Hid (Lies w a' (rest.map bv)) ∧ Hid (wr.ownsRow w.heap.size 104 2 o l.length (flatS l)) ∧ Hid (Bodies w.heap.size wr l) ∧ Hid (allF (bs.length + 1) bs = glue (l.map Sec.kb) (allF (bs.length + 1) rest)) ∧ Hid (Below w.heap.size w wr)) (fun b _ _ => lenOf b)
  case atStart => exact ⟨a, cp, [], bs, rfl, hcp, by simp, HL, Lib.hid (World.ownsRow_nil _ _ _ _), Lib.hid (fun s hs => by simp at hs), Lib.hid (glue_nil _ (allF_shape _ _)).symm, Lib.hid (Below.refl _ _)⟩
  case round =>
    obtain ⟨a', cp', l, rest, rfl, hc', hlr, hL, hO, hBo, hA, hB⟩ := hrel
    have hBs := hB.out.size
    obtain ⟨n, hn⟩ : ∃ n, n = rest.length := ⟨_, rfl⟩
    rw [← hn] at hc' hlr ⊢
    have HN := Lib.hid hn
    by_cases h0 : 0 < n
    · have hne : rest ≠ [] := fun e => by subst e; simp at hn; omega
      have hgt := get_any a' cp' rest wr (hL.out.later hB.out) (by omega) (by omega)
      rw [← hn] at hgt
      have HG := Lib.hid hgt
      have HNE := Lib.hid hne
      have hd0 : decide ((0 : Int) < (n : Int)) = true := by simp; omega
      clear hgt hne hn
      go_wp2_with fail
      refine HG.out.mono ?_
      rintro e w1 ⟨⟨v, rfl, hown⟩, hB1⟩
      obtain ⟨va, vc, ev, hvc, hvl, hvb, _⟩ := own_shape hown
      subst ev
      obtain ⟨kd, hkd⟩ : ∃ kd, kd = (got rest).1 := ⟨_, rfl⟩
      obtain ⟨bd, hbd⟩ : ∃ bd, bd = (got rest).2.1 := ⟨_, rfl⟩
      obtain ⟨m, hm'⟩ : ∃ m, m = (got rest).2.2.1 := ⟨_, rfl⟩
      obtain ⟨er, her⟩ : ∃ er, er = (got rest).2.2.2 := ⟨_, rfl⟩
      rw [← hbd] at hvc hvl
      rw [← hkd, ← hbd, ← hm', ← her]
      unfold bv
      have HOWN := Lib.hid (show OwnB w1 wr.heap.size (.slice va bd.length vc) bd by rw [hbd]; exact hown)
      have HVL := Lib.hid hvl
      have HVB := Lib.hid hvb
      have HKD := Lib.hid hkd
      have HBD := Lib.hid hbd
      have HM' := Lib.hid hm'
      have HER := Lib.hid her
      have HB1 := Lib.hid hB1
      clear hown hvl hvb hkd hbd hm' her hB1
      by_cases he : er = 0
      · subst he
        have hgp := got_pos (bs := rest) (by rw [← HER.out])
        have hm13 : 13 ≤ m := by rw [HM'.out]; exact hgp.1
        have hmn : m ≤ n := by rw [HM'.out, HN.out]; exact hgp.2
        have halA := (Below.refl w1.heap.size w1).alloc (Nat.le_refl _) (.cells #[.int .u8 (kd.toNat : Int), .slice va bd.length vc] 104)
        have halB := halA.alloc (by simp) (.cells #[.int .u8 (kd.toNat : Int), .slice va bd.length vc] 104)
        have hO1 := own_later (own_later hO.out HB1.out) halB
        have hBs1 := HB1.out.size
        have hcel : ∀ j u, ([.int .u8 (kd.toNat : Int), .slice va bd.length vc] : List Value)[j]? = some u → ((w1.alloc (.cells #[.int .u8 (kd.toNat : Int), .slice va bd.length vc] 104)).alloc (.cells #[.int .u8 (kd.toNat : Int), .slice va bd.length vc] 104)).cell? ((⟨w1.heap.size + 1, 0, none⟩ : Addr).add j) = some u := fun j u hu => by
          have h9 := lies_add (new_lies (w1.alloc (.cells #[.int .u8 (kd.toNat : Int), .slice va bd.length vc] 104)) 104 #[.int .u8 (kd.toNat : Int), .slice va bd.length vc]) j u hu
          rw [World.size_alloc] at h9
          exact h9
        have HCEL := Lib.hid hcel
        have HALB := Lib.hid halB
        clear hcel halA halB
        go_wp2_with (first | (at_builtin; refine wpList_append_own _ rfl _ _ 100 rfl w.heap.size 104 i0 (.agg #[.int .u8 0, .slice none 0 0]) 2 32 Tryz.underlying100 hi0 hz0 hz1 hz2 rfl (by decide) _ _ _ rfl hO1 ⟨w1.heap.size + 1, 0, none⟩ 1 1 [.int .u8 (kd.toNat : Int), .slice va bd.length vc] rfl rfl HCEL.out ?c2 ?c3 ?c4 ?c5 ?_))
        case c2 => intro u hu; simp at hu; rcases hu with rfl | rfl <;> rfl
        case c3 => unfold maxLen; omega
        case c4 => omega
        case c5 => simp; omega
        intro v' w2 hown2 hgrow2 _
        have hB2 : Below w.heap.size w w2 := ((hB.out.trans (HB1.out.mono hBs)).trans (HALB.out.mono (by omega))).grown hgrow2 (by simp; omega) (fun q hq => (hO1.lt q hq).1)
        have hBo2 : Bodies w.heap.size w2 (l ++ [⟨(got rest).1, bd, va, vc⟩]) := fun x hx => by
          have h1 : OwnB ((w1.alloc (.cells #[.int .u8 (kd.toNat : Int), .slice va bd.length vc] 104)).alloc (.cells #[.int .u8 (kd.toNat : Int), .slice va bd.length vc] 104)) w.heap.size (.slice x.a x.body.length x.cp) x.body := by
            rcases List.mem_append.1 hx with hx | hx
            · exact own_later (own_later (hBo.out x hx) HB1.out) HALB.out
            · obtain rfl : x = (⟨(got rest).1, bd, va, vc⟩ : Sec) := by simpa using hx
              exact own_mono (own_later HOWN.out HALB.out) hBs
          exact World.ownsRow.kept h1 hgrow2 (own_apart h1 hO1 (by decide))
        have hO2 : w2.ownsRow w.heap.size 104 2 v' (l ++ [(⟨(got rest).1, bd, va, vc⟩ : Sec)]).length (flatS (l ++ [(⟨(got rest).1, bd, va, vc⟩ : Sec)])) := by
          rw [List.length_append, flatS_snoc, Sec.vs, ← HKD.out]
          exact hown2
        have hA2 : allF (bs.length + 1) bs = glue ((l ++ [(⟨(got rest).1, bd, va, vc⟩ : Sec)]).map Sec.kb) (allF (bs.length + 1) (rest.drop m)) := by
          have hne : rest ≠ [] := HNE.out
          rw [hA.out, allF_step (by have := HN.out; omega) hne HER.out.symm, List.map_append, ← HM'.out, ← HBD.out]
          rfl
        have hdl : (rest.drop m).length = n - m := by rw [List.length_drop, ← HN.out]
        obtain ⟨ga, oa, ea, hga, hca⟩ := hL.out.resolve_left (fun e => HNE.out (by simpa using e))
        have hLd : Lies w (some ⟨ga, oa + m, none⟩) ((rest.drop m).map bv) := by
          rw [List.map_drop]
          exact Lies.drop (.inr ⟨ga, oa, rfl, hga, hca⟩) m
        have HLD := Lib.hid hLd
        have HBO2 := Lib.hid hBo2
        have HO2 := Lib.hid hO2
        have HA2 := Lib.hid hA2
        have HB2 := Lib.hid hB2
        have HDL := Lib.hid hdl
        subst ea
        clear hown2 hgrow2 hO1 hB2 hBo2 hO2 hA2 hdl hLd hca hgp HALB HCEL
        have hmc : m ≤ cp' := by omega
        by_cases hlast : m = cp'
        · subst hlast
          obtain rfl : n = m := by omega
          have hnil : rest.drop n = [] := List.eq_nil_of_length_eq_zero (by rw [HDL.out]; omega)
          have hA3 := HA2.out
          rw [hnil] at hA3
          have HA3 := Lib.hid hA3
          clear hnil hA3
          go_wp2_with fail
          go_roundw
          case rel => exact ⟨_, _, l ++ [(⟨(got rest).1, bd, va, vc⟩ : Sec)], [], by simp; exact ⟨rfl, rfl⟩, Nat.zero_le _, by simp; omega, Lib.hid (.inl rfl), HO2, HBO2, HA3, HB2⟩
          case measure => simp [lenOf]; omega
        · have hlt9 : m < cp' := by omega
          go_wp2_with fail
          go_roundw
          case rel => exact ⟨_, _, l ++ [(⟨(got rest).1, bd, va, vc⟩ : Sec)], rest.drop m, by rw [HDL.out], by rw [HDL.out]; omega, by rw [HDL.out]; simp; omega, HLD, HO2, HBO2, HA2, HB2⟩
          case measure => simp [lenOf]; omega
      · have hbad : allF (bs.length + 1) bs = ([], er) := by
          rw [hA.out, allF_bad (by have := HN.out; omega) HNE.out (by rw [← HER.out]; exact he), ← HER.out]
          unfold glue
          rw [if_neg he]
        have HBAD := Lib.hid hbad
        have hs1 := HB1.out.size
        have hde : (er == 0) = false := by simpa using he
        clear hbad
        go_wp2_with fail
        go_ret2
        refine ⟨⟨_, [], by rw [HBAD.out]; rfl, World.ownsRow_nil _ _ _ _, by rw [HBAD.out]; rfl, fun x hx => by simp at hx⟩, ?_⟩
        exact (hB.out.trans (HB1.out.mono hBs)).trans ((Below.refl w1.heap.size w1).alloc (Nat.le_refl _) _ |>.mono (by omega))
    · obtain rfl : n = 0 := by omega
      have hr : rest = [] := List.eq_nil_of_length_eq_zero hn.symm
      have hfin : allF (bs.length + 1) bs = (l.map Sec.kb, 0) := by
        rw [hA.out, hr, allF_nil]
        unfold glue
        simp
      have HFIN := Lib.hid hfin
      clear hfin hr hn
      go_wp2_with fail
      go_ret2
      exact ⟨⟨_, l, by rw [HFIN.out]; rfl, hO.out, by rw [HFIN.out], hBo.out⟩, hB.out⟩
end Go.Proofs.YtfgjnpbffppocaaGreat.Frame
