/- MergeW, Sorter, SorterPut, SorterPut2, SorterPut3, SorterNew, SorterRun, SorterRows, SorterSmall, Few, Same, RunsLaw, RunsLive, RunsAwake, RunsNil, in one text. -/
import Derived.Test.YtcdcnhecimajkaaGreatG2
import Derived.Sort.QuietIn
import Derived.WalkMore
import Derived.Deep.RegionHeld3
import Derived.Laws.IdiomStrings
import Derived.Deep.RegionLaw
import Derived.Deep.AppendLies
import Derived.Deep.QuietTactic
import Derived.BigQuiet
/- runs.merge's iterator: the walk. -/
namespace Go.Proofs.YtcdcnhecimajkaaGreat.Runs
open Go.RowKit Go.Deep Go.Shelf Mem Crc Go.Proofs.YtcdcnhecimajkaaGreat.Merge Go.Proofs.YtcdcnhecimajkaaGreat.Heap

attribute [local go_sem] Oper.semAt_some
/-- A record that is told: a slice, and what it reads as. -/
abbrev Told := SL × B
def told (x : Told) : Array Value := #[sl x.1]
/-- What whoever is told knows of it. -/
def Tells (s : List B) (B0 : Nat) (pre : List Told) (x : Told) (W : World) : Prop := pre.map Prod.snd ++ [x.2] <+: s ∧ OwnB W B0 (sl x.1) x.2
/-- The state at a loop's head. -/
structure Going (w0 : Base) (wr : World) (hb g n c : Nat) (f : Nat → El) (all : List B) (pre : List Told) : Prop where
  heads : Heads w0 wr hb g n c (fun k => (f k).1)
  up : Up w0 f n
  inv : Inv all (pre.map Prod.snd) (rw2 f) n
def AtHead (w0 : Base) (hb g c : Nat) (all : List B) (J : List Told → World → Prop) (wr : World) : Prop :=
  ∃ (n : Nat) (f : Nat → El) (pre : List Told), Going w0 wr hb g n c f all pre ∧ J pre wr
theorem own_rows {w : World} {base : Nat} {v : Value} {xs : List SL} (h : OwnR w base v xs) (hp : 0 < xs.length) : ∃ g cap, v = .slice (some ⟨g, 0, none⟩) xs.length cap ∧ xs.length ≤ cap ∧ RowsAt w g xs ∧ base ≤ g ∧ g < w.heap.size := by
  rcases h.2 with ⟨_, e⟩ | ⟨g, cap, cur, rfl, hb, hg, h2, h3, h4, h5⟩
  · omega
  · refine ⟨g, cap, rfl, h2, ⟨cur, hg, fun k y hy => ?_⟩, hb, Blk.lt (t := 22) hg⟩
    have hk := (List.getElem?_eq_some_iff.1 hy).1
    rw [← Array.getElem?_toList]
    have e : (cur.toList.take (xs.length * 1))[k]? = some (sl y) := by rw [h5, List.getElem?_map, hy]; rfl
    rw [List.getElem?_take] at e
    split at e
    · exact e
    · cases e
theorem heads_made {w0 : Base} {w : World} {g c : Nat} {xs : List SL} {x : Nat → SL} (h : RowsAt w g xs) (hb : Keeps w0 w) (hg : w0.w.heap.size ≤ g) (hgl : g < w.heap.size) (hc : xs.length ≤ c) (hf : xs.length ≤ 1000000) (hx : ∀ (k : Nat) (y : SL), xs[k]? = some y → x k = y) :
    Heads w0 (w.alloc (.cells #[.slice (some ⟨g, 0, none⟩) xs.length c] 115)) w.heap.size g xs.length c x := by
  obtain ⟨cs, h1, h2⟩ := h.row
  refine ⟨Blk.new w _ _, ⟨cs, h1.alloc _, fun k hk => ?_⟩, hc, hb.below ((Below.refl _ w).alloc (Nat.le_refl _) _) hb.size, ⟨hb.size, hg⟩, hf⟩
  obtain ⟨y, hy⟩ : ∃ y, xs[k]? = some y := ⟨xs[k], List.getElem?_eq_getElem hk⟩
  rw [hx k y hy]
  exact h2 k y hy
/-- How many records are left, as the heads tell. -/
def left (hb g : Nat) (w : World) : Nat :=
  match w.cell? ⟨hb, 0, none⟩ with
  | some (.slice _ n _) => ((List.range n).map (fun k => match w.cell? ⟨g, k, none⟩ with | some (.slice _ m _) => m | _ => 0)).sum
  | _ => 0
theorem len_recs (f : Nat → El) (n : Nat) : (recs (rw2 f) n).length = ((List.range n).map (fun k => (f k).2.1.length)).sum := by
  unfold recs row rw2
  simp [List.length_flatten, Function.comp_def]
theorem left_is {w0 : Base} {w : World} {hb g n c : Nat} {f : Nat → El} (h : Heads w0 w hb g n c (fun k => (f k).1)) (hu : Up w0 f n) : left hb g w = (recs (rw2 f) n).length := by
  have c0 : w.cell? ⟨hb, 0, none⟩ = some (.slice (some ⟨g, 0, none⟩) n c) := (Down.refl 0 h hu).cell
  obtain ⟨cs, h1, h2⟩ := h.row
  unfold left
  rw [c0, len_recs]
  show (List.map _ _).sum = _
  congr 1
  apply List.map_congr_left
  intro k hk
  have hk := List.mem_range.1 hk
  have c1 := (h1.cell k).trans (h2 k hk)
  obtain ⟨a, q, vs, e, _⟩ := (hu k hk).at_
  rw [c1, e]
theorem Going.left {w0 : Base} {wr : World} {hb g n c : Nat} {f : Nat → El} {all : List B} {pre : List Told} (h : Going w0 wr hb g n c f all pre) : pre.length + left hb g wr = all.length := by
  rw [left_is h.heads h.up]
  have := h.inv.same.length_eq
  simpa using this
theorem Going.ends {w0 : Base} {wr : World} {hb g n c : Nat} {f : Nat → El} {all s : List B} {pre : List Told} (h : Going w0 wr hb g n c f all pre) (hn : n = 0) (h1 : Rises s) (h2 : s.Perm all) : pre.map Prod.snd = s := by
  subst hn
  have hd := Merge.done h.inv
  exact sorted_one hd.1 h1 (hd.2.trans h2.symm)
/-- The front's first record, as it lies. -/
theorem front_lies {w : World} {x : SL} {r : Row} (h : RowAt w (sl x) r.1) : ∃ (p : Addr) (ra : Option Addr) (rc : Nat), x.1 = some p ∧ x.2.1 = r.1.length ∧ x.2.1 ≤ x.2.2 ∧ w.cell? p = some (.slice ra (hd r).length rc) ∧ Lies w ra ((hd r).map bv) := by
  obtain ⟨a, c, vs, e, h1, h2, h3⟩ := h
  have hr : 0 < r.1.length := List.length_pos_iff.2 r.2
  have hl := h3.len
  obtain ⟨xa, xn, xc⟩ := x
  unfold sl at e
  injection e with ea en ec
  dsimp only at ea en ec ⊢
  subst ea en ec
  rcases h2 with h2 | ⟨q, o, eq, _, hc⟩
  · rw [h2] at hl
    simp at hl
    omega
  · obtain ⟨v, hv⟩ : ∃ v, vs[0]? = some v := ⟨vs[0], List.getElem?_eq_getElem (by omega)⟩
    have h0 : r.1[0]? = some (hd r) := by
      have := hd_some r
      rwa [List.head?_eq_getElem?] at this
    obtain ⟨ra, rc, rfl, hrc, hL⟩ := h3.at_ 0 v _ hv h0
    exact ⟨⟨q, o, none⟩, ra, rc, eq, rfl, h1, hc 0 _ hv, hL⟩
theorem row_cons (r : Row) : ∃ t, r.1 = hd r :: t := ⟨r.1.tail, by
  obtain ⟨l, hl⟩ := r
  cases l with
  | nil => exact absurd rfl hl
  | cons a t => rfl⟩
/-- Behind the store of what is left of the front. -/
theorem Heads.front {w0 : Base} {w : World} {hb g N c : Nat} {x : Nat → SL} (h : Heads w0 w hb g N c x) (hN : 0 < N) (y : SL) : Heads w0 ((w.setCell ⟨g, 0, none⟩ (sl y)).drew) hb g N c (put x 0 y) ∧ Only [g] w ((w.setCell ⟨g, 0, none⟩ (sl y)).drew) := by
  obtain ⟨cs, h1, h2⟩ := h.row
  have hne := h.ne
  have ho : Only [g] w ((w.setCell ⟨g, 0, none⟩ (sl y)).drew) := ((Only.refl [g] w).set (p := ⟨g, 0, none⟩) (.inl (by simp)) _).drew
  have hsz := (Array.getElem?_eq_some_iff.1 (h2 0 hN)).1
  refine ⟨⟨Blk.only h.cell ho (by simpa using hne), ⟨_, (h1.set 0 (sl y)).drew, fun j hj => ?_⟩, h.le, h.below.only ho (by simpa using h.old.2), h.old, h.few⟩, ho⟩
  rw [Array.getElem?_setIfInBounds]
  unfold put
  by_cases e : j = 0
  · subst e
    rw [if_pos rfl, if_pos rfl, if_pos hsz]
  · rw [if_neg (Ne.symm e), if_neg e]
    exact h2 j hj
/-- A record comes out next. -/
theorem Going.next {w0 : Base} {wr : World} {hb g n c : Nat} {f : Nat → El} {all s : List B} {pre : List Told} (h : Going w0 wr hb g (n + 1) c f all pre) (h1 : Rises s) (h2 : s.Perm all) : pre.map Prod.snd ++ [hd (f 0).2] <+: s ∧ pre.length < s.length := by
  have hst := prefix_of h.inv h1 h2
  obtain ⟨t, ht⟩ := hst
  have hlen : s.length = all.length := h2.length_eq
  have hl := h.inv.same.length_eq
  have hpos : 0 < (recs (rw2 f) (n + 1)).length := List.length_pos_iff.2 (fun e => by
    have : hd (f 0).2 ∈ recs (rw2 f) (n + 1) := mem_recs.2 ⟨0, by omega, by
      obtain ⟨t, ht⟩ := row_cons (f 0).2
      rw [show (rw2 f 0).1 = (f 0).2.1 from rfl, ht]
      simp⟩
    rw [e] at this
    cases this)
  simp at hl
  refine ⟨?_, by omega⟩
  have hls := congrArg List.length ht
  simp at hls
  cases t with
  | nil => simp at hls; omega
  | cons x t =>
    have hx : x = hd (f 0).2 := by
      have hp : (x :: t).Perm (recs (rw2 f) (n + 1)) := by
        have h3 := (h2.trans h.inv.same.symm)
        rw [← ht] at h3
        exact (List.perm_append_left_iff _).1 h3
      have hr : Rises (x :: t) := by
        rw [← ht] at h1
        exact (List.pairwise_append.1 h1).2.1
      have hm1 : hd (f 0).2 ∈ x :: t := hp.mem_iff.2 (mem_recs.2 ⟨0, by omega, by
        obtain ⟨t, ht⟩ := row_cons (f 0).2
        rw [show (rw2 f 0).1 = (f 0).2.1 from rfl, ht]
        simp⟩)
      have hm2 : hd (f 0).2 ≤ x := least h.inv x (hp.mem_iff.1 (by simp))
      rcases List.mem_cons.1 hm1 with e | hm
      · exact e.symm
      · exact List.le_antisymm ((List.pairwise_cons.1 hr).1 _ hm) hm2
    exact ⟨t, by rw [← ht, hx]; simp⟩
set_option maxRecDepth 100000 in
set_option maxHeartbeats 2000000 in
theorem merge1_in (n : Nat) (hn : 2 ≤ n) (l Bs : Nat) {w0 : Base} {rs : List (SL × List B)} {ad : Addr} {c : Nat} {all s : List B} (hL : Lies w0.w (some ad) (rs.map (fun r => sl r.1))) (hlc : rs.length ≤ c) (hpos : 0 < rs.length) (hmax : rs.length ≤ 1000000)
    (hrow : ∀ r ∈ rs, RowB w0.w w0.U r ∧ Rises r.2) (hall : ((rs.map Prod.snd).flatten).Perm all) (hs1 : Rises s) (hs2 : s.Perm all) (hsh : ∀ b ∈ all, b.length ≤ 1000000) (hBs : Bs < w0.w.heap.size) (J Jx : List Told → World → Prop)
    (hJ : ∀ s X Y, J s X → Fr w0.w.heap.size mineT X Y → J s Y) (hJx : ∀ s X Y, Jx s X → Fr w0.w.heap.size mineT X Y → Jx s Y)
    (hY : ∀ pre x W, J pre W → pre.length < s.length → Tells s w0.w.heap.size pre x W → YieldAt Fence.wide (n - 1) Tryz.prog l (told x) W fun e W' =>
      (e = .returned (.bool true) ∧ J (pre ++ [x]) W' ∧ KeepT w0.U mineT W W') ∨ (e = .returned (.bool false) ∧ Jx (pre ++ [x]) W'))
    (W : World) (hB : Below w0.w.heap.size w0.w W) (hcs : W.cell? ⟨Bs, 0, none⟩ = some (.slice (some ad) rs.length c)) (h0 : J [] W) :
    CallsIn Fence.wide n Tryz.prog 55 #[.func (.yield l) #[] #[], .pointer (some ⟨Bs, 0, none⟩)] W fun e W' => (∃ v, e = .returned v) ∧
      ((∃ xs, xs.map Prod.snd = s ∧ J xs W') ∨ (∃ pre, pre.map Prod.snd <+: s ∧ Jx pre W')) := by
  have HC := Lib.hid (cloneRows_any ad c (rs.map Prod.fst) W (by rw [List.map_map]; exact (hL.later hB)) (by simpa using hmax))
  rw [List.length_map] at HC
  have HB := Lib.hid hB
  have HROW := Lib.hid hrow
  have HALL := Lib.hid hall
  have HS1 := Lib.hid hs1
  have HS2 := Lib.hid hs2
  have HSH := Lib.hid hsh
  have HY := Lib.hid hY
  have HJ := Lib.hid hJ
  have HJX := Lib.hid hJx
  have H0 := Lib.hid h0
  clear hL hB hrow hall hs1 hs2 hsh hY hJ hJx h0
  refine callsIn_of_wp Tryz.func55 rfl trivial ?_ rfl
  simp only [Tryz.ntmps55, List.size_toArray, List.length_cons, List.length_nil, Nat.reduceAdd, Nat.reduceSub, Array.replicate_succ, Array.replicate_zero, List.push_toArray, List.append_toArray, List.nil_append, List.cons_append]
  refine wpIn_wide.2 (wp_scope_straight ((wpIn_wide (n := n)).1 ?_))
  gi_wp2_with fail
  refine ⟨trivial, (fun h => by cases h), CallsIn.mono (callsIn_wide.2 HC.out) ?_⟩
  rintro e w1 ⟨v, rfl, hO, hB1⟩
  have hOR := own_rows hO (by simpa using hpos)
  rw [List.length_map] at hOR
  obtain ⟨g, cap, rfl, hcap, hR1, hg1, hgl1⟩ := hOR
  have HD := Lib.hid (deleteFunc_any w1 g rs.length cap (rs.map Prod.fst) (by simp) hR1 hmax hcap)
  have HB1 := Lib.hid hB1
  clear hR1 hO hB1 HC
  gi_wp2_with fail
  refine ⟨trivial, (fun h => by cases h), CallsIn.mono (callsIn_wide.2 HD.out) ?_⟩
  rintro e w2 ⟨rfl, hR2, hO2⟩
  obtain ⟨L, hL1, hL2, hL3⟩ := kept_rows w0.w w0.U rs HROW.out
  have hLm : L.length ≤ rs.length := by
    have h1 : (L.map Prod.fst).length ≤ (rs.map Prod.fst).length := by rw [hL1]; exact List.length_filter_le _ _
    simpa using h1
  have hLl : ((rs.map Prod.fst).filter keep).length = L.length := by rw [← hL1, List.length_map]
  rw [← hL1] at hR2
  have hb2 : Below W.heap.size W w2 := HB1.out.trans (hO2.below HB1.out.size (by simpa using hg1))
  have hW0 := HB.out.size
  have hHM := heads_made (w0 := w0) (c := cap) (x := fun k => (places L k).1) hR2 (show Keeps w0 w2 from ⟨Nat.le_trans hW0 hb2.size, fun k hk => (hb2.block k (Nat.lt_of_lt_of_le (w0.lt k hk) hW0)).trans (HB.out.block k (w0.lt k hk))⟩) (by omega) (Nat.lt_of_lt_of_le hgl1 hO2.size) (by rw [List.length_map]; omega) (by rw [List.length_map]; omega) (fun k y hy => by
    rw [List.getElem?_map, Option.map_eq_some_iff] at hy
    obtain ⟨e, he, rfl⟩ := hy
    rw [places_at L he])
  rw [List.length_map] at hHM
  rw [hLl]
  have HHM := Lib.hid hHM
  have HB2 := Lib.hid hb2
  have HL := Lib.hid (And.intro hL2 hL3)
  clear hR2 hO2 hL1 hL2 hL3 hLl hHM hb2 HD
  gi_wp2_with fail
  refine ⟨trivial, (fun h => by cases h), CallsIn.mono (callsIn_wide.2 (init_any HHM.out (fun k hk => by
    obtain ⟨e, he⟩ : ∃ e, L[k]? = some e := ⟨L[k], List.getElem?_eq_getElem hk⟩
    rw [places_at L he]
    exact (HL.out.1 e (List.mem_of_getElem? he)).1))) ?_⟩
  rintro e w4 ⟨rfl, f0, hHp, hperm, honly⟩
  have hb4 : Below W.heap.size W w4 := (HB2.out.alloc HB2.out.size _).trans (honly.below (by have := HB2.out.size; simp; omega) (by simpa using hg1))
  have hst : AtHead w0 w2.heap.size g cap all J w4 := ⟨L.length, f0, [], ⟨hHp.heads, hHp.up, inv_start hHp.heap hperm (by rw [row_places]; exact fun e he => (HL.out.1 e he).2) (by
    unfold recs
    rw [← row_rw2, row_places, List.map_map]
    have := HL.out.2
    rw [show (L.map (Subtype.val ∘ Prod.snd)).flatten = (rs.map Prod.snd).flatten from this]
    exact HALL.out)⟩, HJ.out _ _ _ H0.out (Fr.of_below hb4)⟩
  have HST := Lib.hid hst
  obtain ⟨hb, hhb⟩ : ∃ hb, hb = w2.heap.size := ⟨_, rfl⟩
  rw [← hhb] at HST ⊢
  clear hHp hperm honly hb4 hst HHM HB2 HL hhb H0 hgl1 hg1 hW0
  gi_wp2_with fail
  refine wpIn_label ?_
  gi_wp2_with fail
  gi_loopw [] (AtHead w0 hb g cap all J) (fun wr => left hb g wr)
  case atStart => exact HST.out
  case round =>
    obtain ⟨m, f, pre, hG, hJp⟩ := hrel
    have c0 : wr.cell? ⟨hb, 0, none⟩ = some (.slice (some ⟨g, 0, none⟩) m cap) := (Down.refl 0 hG.heads hG.up).cell
    have hfew := hG.heads.few
    have HG := Lib.hid hG
    have HJP := Lib.hid hJp
    have HLEN := Lib.hid (len_of wr (some ⟨g, 0, none⟩) m cap)
    clear hG hJp
    cases m with
    | zero =>
      have HE := Lib.hid (HG.out.ends rfl HS1.out HS2.out)
      gi_wp2_with fail
      refine ⟨trivial, (fun h => by cases h), CallsIn.mono (callsIn_wide.2 HLEN.out) ?_⟩
      rintro e w5 ⟨rfl, rfl⟩
      gi_wp2_with fail
      simp only [Exit.noGoto_normal]
      go_end0
      exact ⟨⟨_, rfl⟩, .inl ⟨pre, HE.out, HJP.out⟩⟩
    | succ m =>
      obtain ⟨cs, g1, g2⟩ := HG.out.heads.row
      have c1 := (g1.cell 0).trans (g2 0 (by omega))
      obtain ⟨p, ra, rc, ep, en, enc, c2, hLr⟩ := front_lies ((HG.out.up 0 (by omega)).keep HG.out.heads.below).at_
      obtain ⟨x0, hx0⟩ : ∃ x0, x0 = (f 0).1 := ⟨_, rfl⟩
      obtain ⟨b, hb0⟩ : ∃ b, b = hd (f 0).2 := ⟨_, rfl⟩
      rw [← hx0] at c1 ep en enc
      rw [← hb0] at c2 hLr
      have hSL := slice_tl x0 (by rw [en]; exact List.length_pos_iff.2 (f 0).2.2) enc
      have HX0 := Lib.hid hx0
      have HB0 := Lib.hid hb0
      have HEN := Lib.hid en
      have HENC := Lib.hid enc
      obtain ⟨nx, hnx⟩ : ∃ nx, nx = m + 1 := ⟨_, rfl⟩
      have hb100 : b.length ≤ 1000000 := HSH.out b (HG.out.inv.same.mem_iff.1 (List.mem_append_right _ (mem_recs.2 ⟨0, by omega, by
        obtain ⟨t, ht⟩ := row_cons (f 0).2
        rw [show (rw2 f 0).1 = (f 0).2.1 from rfl, ht, hb0]
        simp⟩)))
      have HCL := Lib.hid (clone_any ra rc b wr hLr (by omega))
      obtain ⟨xa, xn, xc⟩ := x0
      dsimp only at ep
      subst ep
      unfold sl at c1 hSL
      dsimp only at c1 hSL
      have hxn : 1 ≤ xn := by have := HEN.out; dsimp only at this; rw [this]; exact List.length_pos_iff.2 (f 0).2.2
      obtain ⟨q, rfl⟩ : ∃ q, xn = q + 1 := ⟨xn - 1, by omega⟩
      obtain ⟨ta, hta⟩ : ∃ ta, ta = (tl ((some p, q + 1, xc) : SL)).1 := ⟨_, rfl⟩
      have htl : tl ((some p, q + 1, xc) : SL) = (ta, q, xc - 1) := by rw [hta]; rfl
      rw [htl] at hSL
      dsimp only at hSL
      have HTL := Lib.hid htl
      clear hta htl
      have fz := g1.frozen 0
      clear g1 g2 hx0 hb0 en enc hLr
      gi_wp2_with fail
      refine ⟨trivial, (fun h => by cases h), CallsIn.mono (callsIn_wide.2 HLEN.out) ?_⟩
      rintro e w5 ⟨rfl, rfl⟩
      gi_wp2_with fail
      refine ⟨trivial, (fun h => by cases h), CallsIn.mono (callsIn_wide.2 HCL.out) ?_⟩
      rintro e w6 ⟨v6, rfl, hO6, hB6⟩
      obtain ⟨va, vc, rfl, _, _, _, _⟩ := own_shape hO6
      have hnext := HG.out.next HS1.out HS2.out
      rw [← HB0.out] at hnext
      have hJ6 := HJ.out _ _ _ HJP.out (Fr.of_below hB6)
      have hw0 := HG.out.heads.below.size
      obtain ⟨fn, tmps, assign, body, hy, hR⟩ := HY.out pre ((va, b.length, vc), b) w6 hJ6 hnext.2 ⟨hnext.1, own_mono hO6 hw0⟩
      have HH6 := Lib.hid (HG.out.heads.keep (KeepT.of_below hB6))
      have HNX := Lib.hid hnext.1
      unfold told sl at hy
      dsimp only at hy
      clear hO6 hB6 hnext hJ6 HCL
      gi_wp2_with fail
      refine ⟨(fun h => by cases h), hR.mono ?_⟩
      rintro e W3 (⟨rfl, hJ3, hk3⟩ | ⟨rfl, hJx3⟩)
      · have hh3 := HH6.out.keep hk3
        have hfr := hh3.front (by omega) ((ta, q, xc - 1) : SL)
        obtain ⟨cs3, g1, g2⟩ := hh3.row
        have c13 := (g1.cell 0).trans (g2 0 (by omega))
        rw [← HX0.out] at c13
        unfold sl at c13
        dsimp only at c13
        have fz3 := g1.frozen 0
        have c03 : W3.cell? ⟨hb, 0, none⟩ = some (.slice (some ⟨g, 0, none⟩) (m + 1) cap) := by
          have := hh3.cell.cell 0
          simpa using this
        have HFR := Lib.hid hfr
        have HJ3 := Lib.hid hJ3
        have HH3 := Lib.hid hh3
        clear hk3 hh3 hfr hJ3 g1 g2 hy HH6 c0 c1 c2 fz
        gi_wp2_with fail
        gi_region
        obtain ⟨W4, hW4⟩ : ∃ W4, W4 = (W3.setCell ⟨g, 0, none⟩ (.slice ta q (xc - 1))).drew := ⟨_, rfl⟩
        have hfr := HFR.out
        unfold sl at hfr
        dsimp only at hfr
        rw [← hW4] at hfr ⊢
        obtain ⟨hh4, ho4⟩ := hfr
        obtain ⟨cs4, g1, g2⟩ := hh4.row
        have c14 := (g1.cell 0).trans (g2 0 (by omega))
        rw [put_same] at c14
        unfold sl at c14
        dsimp only at c14
        have c04 : W4.cell? ⟨hb, 0, none⟩ = some (.slice (some ⟨g, 0, none⟩) (m + 1) cap) := by
          have := hh4.cell.cell 0
          simpa using this
        have hJ4 := HJ.out _ _ _ HJ3.out (HH3.out.fr ho4 (by simp))
        have HH4 := Lib.hid hh4
        have HJ4 := Lib.hid hJ4
        clear hW4 hh4 ho4 g1 g2 hJ4 HFR HJ3 HH3 c03 c13 fz3
        by_cases hq : q = 0
        · subst hq
          have HPOP := Lib.hid (heapPop_any (w := W4) (n := m) (f := f) (x0 := (ta, 0, xc - 1)) HH4.out (fun k h0 hk => HG.out.up k hk) HG.out.inv.heap)
          have h1 : (f 0).2.1 = [hd (f 0).2] := by
            obtain ⟨t, ht⟩ := row_cons (f 0).2
            have := HEN.out
            try dsimp only at this
            rw [ht] at this ⊢
            simp only [List.length_cons] at this
            rw [List.eq_nil_of_length_eq_zero (show t.length = 0 by omega)]
          have HONE := Lib.hid h1
          clear h1
          gi_wp2_with fail
          refine ⟨trivial, (fun h => by cases h), CallsIn.mono (callsIn_wide.2 HPOP.out) ?_⟩
          rintro e w7 ⟨⟨v7, rfl⟩, f7, hHp, hperm, honly⟩
          have HR := Lib.hid (show AtHead w0 hb g cap all J w7 ∧ left hb g w7 < left hb g wr from by
            have hgo : Going w0 w7 hb g m cap f7 all (pre ++ [((va, b.length, vc), b)]) := ⟨hHp.heads, hHp.up, by
              rw [List.map_append, show [((va, b.length, vc), b)].map Prod.snd = [hd (f 0).2] by rw [← HB0.out]; rfl]
              exact inv_pop HG.out.inv HONE.out hHp.heap hperm⟩
            refine ⟨⟨m, f7, _, hgo, HJ.out _ _ _ HJ4.out (HH4.out.fr honly (by simp))⟩, ?_⟩
            have e1 := hgo.left
            have e2 := HG.out.left
            simp at e1
            omega)
          clear hHp hperm honly
          gi_wp2_with fail
          go_roundw
          case rel => exact HR.out.1
          case measure => exact HR.out.2
        · have hq0 : ((q : Int) == 0) = false := by simpa using hq
          obtain ⟨t, ht⟩ := row_cons (f 0).2
          have htl : t.length = q := by
            have := HEN.out
            try dsimp only at this
            rw [ht] at this
            simp only [List.length_cons] at this
            omega
          have ht0 : t ≠ [] := fun e => hq (by rw [← htl, e]; rfl)
          obtain ⟨y, hy0⟩ : ∃ y : El, y = ((ta, q, xc - 1), ⟨t, ht0⟩) := ⟨_, rfl⟩
          have hput : (fun k => (put f 0 y k).1) = put (fun k => (f k).1) 0 (ta, q, xc - 1) := by
            funext k
            unfold put
            split
            · rw [hy0]
            · rfl
          have hH4 := HH4.out
          rw [← hput] at hH4
          have hup : Up w0 (put f 0 y) (m + 1) := fun k hk => by
            by_cases e : k = 0
            · subst e
              rw [put_same, hy0]
              have h0 := HG.out.up 0 hk
              rw [← HX0.out, ht] at h0
              have h1 := rowB_tl h0
              rw [HTL.out] at h1
              exact h1
            · rw [put_other _ _ e]
              exact HG.out.up k hk
          have HFIX := Lib.hid (fix_any hH4 hup (heap_put HG.out.inv.heap))
          have HTT := Lib.hid (show (f 0).2.1 = hd (f 0).2 :: y.2.1 by rw [hy0]; exact ht)
          clear hH4 hup hput hy0 htl ht ht0
          gi_wp2_with fail
          refine ⟨trivial, (fun h => by cases h), CallsIn.mono (callsIn_wide.2 HFIX.out) ?_⟩
          rintro e w7 ⟨rfl, f7, hHp, hperm, honly⟩
          have HR := Lib.hid (show AtHead w0 hb g cap all J w7 ∧ left hb g w7 < left hb g wr from by
            have hgo : Going w0 w7 hb g (m + 1) cap f7 all (pre ++ [((va, b.length, vc), b)]) := ⟨hHp.heads, hHp.up, by
              rw [List.map_append, show [((va, b.length, vc), b)].map Prod.snd = [hd (f 0).2] by rw [← HB0.out]; rfl]
              exact inv_fix HG.out.inv (by omega) HTT.out hHp.heap hperm⟩
            refine ⟨⟨m + 1, f7, _, hgo, HJ.out _ _ _ HJ4.out (HH4.out.fr honly (by simp))⟩, ?_⟩
            have e1 := hgo.left
            have e2 := HG.out.left
            simp at e1
            omega)
          clear hHp hperm honly
          gi_wp2_with fail
          go_roundw
          case rel => exact HR.out.1
          case measure => exact HR.out.2
      · gi_wp2_with fail
        simp only [Exit.noGoto_ret]
        refine bodyPost_ret (results_none rfl _ _ _) rfl ?_
        exact ⟨⟨_, rfl⟩, .inr ⟨pre ++ [((va, b.length, vc), b)], by rw [List.map_append]; exact HNX.out, hJx3⟩⟩
set_option maxHeartbeats 400000 in
/-- What merge hands back. -/
theorem merge_any (w : World) (a : Option Addr) (n c : Nat) : Calls Tryz.prog 32 #[.slice a n c] w fun e w' => e = .returned (.func (.func 55) #[] #[.pointer (some ⟨w.heap.size, 0, none⟩)]) ∧ w' = w.alloc (.cells #[.slice a n c] 65) := by
  go_enter Tryz.func32, Tryz.ntmps32
  go_wp2_with fail
  go_ret
  exact ⟨rfl, rfl⟩
open Go.Proofs.YtcdcnhecimajkaaGreat.Sees in
/-- A merge, ranged over. -/
theorem merge_sees (n : Nat) (hn : 2 ≤ n) (Bs : Nat) {w0 : Base} {rs : List (SL × List B)} {ad : Addr} {c : Nat} {all s : List B} (hL : Lies w0.w (some ad) (rs.map (fun r => sl r.1))) (hlc : rs.length ≤ c) (hpos : 0 < rs.length) (hmax : rs.length ≤ 1000000)
    (hrow : ∀ r ∈ rs, RowB w0.w w0.U r ∧ Rises r.2) (hall : ((rs.map Prod.snd).flatten).Perm all) (hs1 : Rises s) (hs2 : s.Perm all) (hsh : ∀ b ∈ all, b.length ≤ 1000000) (hBs : Bs < w0.w.heap.size) (hcs : w0.w.cell? ⟨Bs, 0, none⟩ = some (.slice (some ad) rs.length c)) :
    SeqSees Fence.wide n Tryz.prog 55 #[.pointer (some ⟨Bs, 0, none⟩)] told (Fr w0.w.heap.size mineT) (KeepT w0.U mineT) (Tells s w0.w.heap.size) (fun xs => xs.map Prod.snd = s) (fun pre => pre.map Prod.snd <+: s) s.length w0.w :=
  fun l J Jx W hB hJ hJx hY h0 => merge1_in n hn l Bs hL hlc hpos hmax hrow hall hs1 hs2 hsh hBs J Jx hJ hJx hY W hB ((hB.cell (p := ⟨Bs, 0, none⟩) hBs).trans hcs) h0
end Go.Proofs.YtcdcnhecimajkaaGreat.Runs

/- Layer 13: a sorter's representation; the runs' names. -/
namespace Go.Proofs.YtcdcnhecimajkaaGreat.Runs
open Go.RowKit Go.Deep Go.Shelf Mem Crc Go.Proofs.YtcdcnhecimajkaaGreat.Merge
open Go.Proofs.YtcdcnhecimajkaaGreat.Store (Sto Files setF nv)
open Go.Proofs.YtcdcnhecimajkaaGreat.Text (dec)

attribute [local go_sem] Oper.semAt_some
/-- A run's name. -/
def rname (pf : List UInt8) (k : Nat) : List UInt8 := pf ++ dec k
/-- A sorter's fields. -/
structure Fi where
  s : Nat
  pf : List UInt8
  wd : Nat
  rm : Nat
def Fi.ok (A : Fi) : Prop := 1 ≤ A.pf.length ∧ A.pf.length ≤ 16 ∧ 1 ≤ A.wd ∧ A.wd ≤ 64 ∧ 1 ≤ A.rm ∧ A.rm ≤ 4096
def sorterC (A : Fi) (fi ne : Nat) (hv : Value) : Array Value := #[.pointer (some ⟨A.s, 0, none⟩), nv A.pf, .int .i64 A.wd, .int .i64 A.rm, .int .i64 fi, .int .i64 ne, hv]
/-- The memory's records: their row is hv's block, the records' blocks are in R. -/
structure HeldAt (w : World) (R : Nat → Prop) (wd : Nat) (hv : Value) (vs : List SL) (held : List B) : Prop where
  own : OwnL w 0 hv vs
  recs : RecsIn w (vs.map sl) held
  wide : ∀ b ∈ held, b.length = wd
  rb : ∀ y ∈ vs, ∀ g, Mem.blk y.1 = some g → R g
  rlt : ∀ g, R g → g < w.heap.size
  apart : ∀ g, R g → hv.ownBlock ≠ some g
/-- A sorter at block x over a store in Q. -/
structure Srt {s : Nat} (S : Store.Sto s) (A : Fi) (w : World) (Q R : Nat → Prop) (off : Bool) (F : Files) (n : Nat) (x ne : Nat) (hv : Value) (vs : List SL) (held : List B) : Prop where
  sIs : A.s = s
  blk : Blk w x 56 (sorterC A 0 ne hv)
  sto : S.At w Q off F n
  mem : HeldAt w R A.wd hv vs held
  rq : ∀ g, R g → ¬ Q g ∧ g ≠ x
  hq : ∀ g, hv.ownBlock = some g → ¬ Q g ∧ g ≠ x
  xq : ¬ Q x
  ok : A.ok
  room : List.length held ≤ A.rm
  few : ne ≤ 1000000
theorem HeldAt.keep {w w' : World} {R : Nat → Prop} {wd : Nat} {hv : Value} {vs : List SL} {held : List B} (h : HeldAt w R wd hv vs held) {P : Nat → Prop} (hu : Upon P w w') (hR : ∀ g, R g → ¬ P g) (hh : ∀ g, hv.ownBlock = some g → ¬ P g) : HeldAt w' R wd hv vs held :=
  ⟨own_upon h.own hu hh, ⟨h.recs.len, fun i v b hv' hb => by
    obtain ⟨a, c, e, h1, h2⟩ := h.recs.at_ i v b hv' hb
    refine ⟨a, c, e, h1, h2.upon hu (fun g hg => ?_)⟩
    rw [List.getElem?_map, Option.map_eq_some_iff] at hv'
    obtain ⟨y, hy, e2⟩ := hv'
    have ey : y.1 = a := by
      rw [e] at e2
      unfold sl at e2
      injection e2
    exact hR g (h.rb y (List.mem_of_getElem? hy) g (by rw [ey]; exact hg))⟩, h.wide, h.rb, fun g hg => Nat.lt_of_lt_of_le (h.rlt g hg) hu.size, h.apart⟩
theorem Srt.keep {s : Nat} {S : Sto s} {A : Fi} {w w' : World} {Q R : Nat → Prop} {off : Bool} {F : Files} {n x ne : Nat} {hv : Value} {vs : List SL} {held : List B} (h : Srt S A w Q R off F n x ne hv vs held) {P : Nat → Prop} (hu : Upon P w w') (hQ : ∀ g, Q g → ¬ P g) (hR : ∀ g, R g → ¬ P g) (hh : ∀ g, hv.ownBlock = some g → ¬ P g) (hx : ¬ P x) : Srt S A w' Q R off F n x ne hv vs held :=
  ⟨h.sIs, h.blk.upon hu hx, S.upon h.sto hu (fun k hp hq => hQ k hq hp), h.mem.keep hu hR hh, h.rq, h.hq, h.xq, h.ok, h.room, h.few⟩
theorem Srt.later {s : Nat} {S : Sto s} {A : Fi} {w w' : World} {Q R : Nat → Prop} {off : Bool} {F : Files} {n x ne : Nat} {hv : Value} {vs : List SL} {held : List B} (h : Srt S A w Q R off F n x ne hv vs held) (hB : Below w.heap.size w w') : Srt S A w' Q R off F n x ne hv vs held :=
  h.keep (P := fun _ => False) (Upon.of_below hB) (fun _ _ h => h) (fun _ _ h => h) (fun _ _ h => h) (fun h => h)
theorem Srt.cell {s : Nat} {S : Sto s} {A : Fi} {w : World} {Q R : Nat → Prop} {off : Bool} {F : Files} {n x ne : Nat} {hv : Value} {vs : List SL} {held : List B} (h : Srt S A w Q R off F n x ne hv vs held) (i : Nat) : w.cell? ⟨x, i, none⟩ = (sorterC A 0 ne hv)[i]? := h.blk.cell i
theorem app_name (pf ds : List UInt8) : ((⟨pf.toArray⟩ : ByteArray) ++ (⟨ds.toArray⟩ : ByteArray)) = ⟨(pf ++ ds).toArray⟩ := by
  apply ByteArray.ext
  simp
theorem dec_ne (k : Nat) : dec k ≠ [] := by
  have h : ∀ (f n : Nat) (acc : List UInt8), (f ≠ 0 ∨ acc ≠ []) → Go.Proofs.YtcdcnhecimajkaaGreat.Text.decA f n acc ≠ [] := by
    intro f
    induction f with
    | zero =>
      intro n acc h
      rcases h with h | h
      · exact absurd rfl h
      · exact h
    | succ f ih =>
      intro n acc _
      unfold Go.Proofs.YtcdcnhecimajkaaGreat.Text.decA
      split
      · simp
      · exact ih _ _ (.inr (by simp))
  exact h 20 k [] (.inl (by decide))
theorem dec_len (k : Nat) : (dec k).length ≤ 20 := by
  have := Go.Proofs.YtcdcnhecimajkaaGreat.Text.decA_length 20 k []
  rw [List.length_nil, Nat.zero_add] at this
  exact this
theorem conv_dec (k : Nat) {va : Option Addr} {vc : Nat} {w : World} (hL : Lies w va ((dec k).map bv)) : (convert 36 9 (.slice va (dec k).length vc)).run Tryz.prog w = .ok (.string ⟨(dec k).toArray⟩) w := by
  obtain ⟨g, off, rfl, _, hc⟩ := hL.resolve_left (fun e => by
    rw [List.map_eq_nil_iff] at e
    exact dec_ne k e)
  exact run_convert_bytes_back w 36 9 5 _ vc _ Tryz.underlying36 Tryz.underlying5 Tryz.underlying9 (fun j hj => lies_add (.inr ⟨g, off, rfl, by assumption, hc⟩) j _ (by simp [hj, bv]))
set_option maxHeartbeats 1000000 in
set_option maxRecDepth 100000 in
theorem name_any (pf : List UInt8) (hpf : pf.length ≤ 16) (k : Nat) (hk : k ≤ 1000000) (x : Nat) (w : World) (h : w.cell? ⟨x, 1, none⟩ = some (nv pf)) (hx : x < w.heap.size) :
    Calls Tryz.prog 26 #[.pointer (some ⟨x, 0, none⟩), .int .i64 k] w fun e w' => e = .returned (nv (rname pf k)) ∧ Below w.heap.size w w' := by
  have hw : IntKind.u64.wrap (k : Int) = k := IntWalk.u64_in _ (by omega)
  have HP := Lib.hid (Go.Proofs.YtcdcnhecimajkaaGreat.Text.put_nil k w.drew (by omega))
  have HX := Lib.hid hx
  have HD := Lib.hid (fun (va : Option Addr) (vc : Nat) (w2 : World) (hL : Lies w2 va ((dec k).map bv)) => conv_dec k (vc := vc) hL)
  obtain ⟨ds, hds⟩ : ∃ ds, ds = dec k := ⟨_, rfl⟩
  have hlim : pf.length + ds.length ≤ 9223372036854775807 := by rw [hds]; have := dec_len k; omega
  have HN := Lib.hid (show nv (rname pf k) = .string ((⟨pf.toArray⟩ : ByteArray) ++ (⟨ds.toArray⟩ : ByteArray)) by rw [app_name, hds]; rfl)
  rw [← hds] at HP HD
  unfold nv at h
  clear hx hds
  go_enter Tryz.func26, Tryz.ntmps26
  go_wp2_with fail
  go_region_with ((go_at_call 43; refine HP.out.mono ?_; rintro e w2 ⟨v, rfl, hO, hB2⟩; obtain ⟨va, vc, rfl, _, hL, _, _⟩ := own_shape hO; have hk2 := (hB2.cell (p := ⟨x, 1, none⟩) HX.out).trans h; have hcv := HD.out va vc w2 hL; clear hO hL))
  all_goals
    go_wp2_with fail
    go_ret
    exact ⟨by rw [HN.out]; rfl, ((Below.refl w.heap.size w).drew).trans hB2⟩
end Go.Proofs.YtcdcnhecimajkaaGreat.Runs

/- Layer 13: Put and Flush of a sorter. -/
namespace Go.Proofs.YtcdcnhecimajkaaGreat.Runs
open Go.RowKit Go.Deep Go.Shelf Mem Crc Go.Proofs.YtcdcnhecimajkaaGreat.Merge
open Go.Proofs.YtcdcnhecimajkaaGreat.Store (Sto Files setF nv)
open Go.Proofs.YtcdcnhecimajkaaGreat.Text (dec)

attribute [local go_sem] Oper.semAt_some
/-- The memory's records, rising, as a fresh row. -/
structure SortedAt (w w' : World) (vs : List SL) (held : List B) (v : Value) (vs' : List SL) (l' : List B) : Prop where
  len : vs'.length = vs.length
  own : OwnL w' w.heap.size v vs'
  recs : RecsIn w' (vs'.map sl) l'
  perm : l'.Perm held
  rises : Rises l'
  sub : ∀ y ∈ vs', y ∈ vs
  below : Below w.heap.size w w'
set_option maxHeartbeats 1000000 in
theorem sorted_any (x : Nat) {w : World} {R : Nat → Prop} {wd : Nat} {hv : Value} {vs : List SL} {held : List B} (h : HeldAt w R wd hv vs held) (hx : w.cell? ⟨x, 6, none⟩ = some hv) (hne : 1 ≤ wd) (hn : vs.length ≤ 1000000) :
    Calls Tryz.prog 29 #[.pointer (some ⟨x, 0, none⟩)] w fun e w' => ∃ v vs' l', e = .returned v ∧ SortedAt w w' vs held v vs' l' := by
  obtain ⟨a, c, rfl, hc, hL, _, _⟩ := own_shape h.own
  have HV := Lib.hid (callsIn_wide.1 (values_in Fence.wide 0 trivial rfl a vs.length c w))
  obtain ⟨W, hW⟩ : ∃ W, W = w.alloc (.cells #[.slice a vs.length c] 22) := ⟨_, rfl⟩
  have hB : Below w.heap.size w W := by rw [hW]; exact (Below.refl _ w).alloc (Nat.le_refl _) _
  have hbc : W.cell? ⟨w.heap.size, 0, none⟩ = some (.slice a vs.length c) := by rw [hW, (Blk.new w _ _).cell]; rfl
  have hsz : w.heap.size < W.heap.size := by rw [hW]; simp
  have HS := Lib.hid (sortedFunc_any (w0 := w) (l := held) W w.heap.size hsz hL hc hn hB hbc (h.recs.later hB) (fun b hb e => by
    have := h.wide b hb
    rw [e] at this
    simp at this
    omega))
  have HB := Lib.hid hB
  rw [← hW] at HV
  clear h hL hB hbc hsz hW
  go_enter Tryz.func29, Tryz.ntmps29
  go_wp2_with fail
  refine HV.out.mono ?_
  rintro e w1 ⟨rfl, rfl⟩
  go_wp2_with fail
  refine HS.out.mono ?_
  rintro e w2 ⟨v, vs', l', rfl, h1, h2, h3, h4, h5, h6, h7⟩
  have HR := Lib.hid (show SortedAt w w2 vs held v vs' l' from ⟨h1, own_mono h2 HB.out.size, h3, h4, h5, h6, HB.out.trans (h7.mono HB.out.size)⟩)
  clear h1 h2 h3 h4 h5 h6 h7
  go_wp2_with fail
  go_ret
  exact ⟨_, vs', l', rfl, HR.out⟩
/-- Records, rising. -/
def sortB (l : List B) : List B := l.mergeSort (fun x y => decide (x ≤ y))
theorem sortB_perm (l : List B) : (sortB l).Perm l := List.mergeSort_perm _ _
theorem sortB_rises (l : List B) : Rises (sortB l) := by
  have := List.pairwise_mergeSort (le := fun x y : B => decide (x ≤ y)) (fun a b c h k => by simp at h k ⊢; exact List.le_trans h k) (fun a b => by simp; exact List.le_total a b) l
  exact this.imp (fun h => by simpa using h)
theorem sortB_eq {l l' : List B} (h1 : l'.Perm l) (h2 : Rises l') : l' = sortB l := sorted_one h2 (sortB_rises l) (h1.trans (sortB_perm l).symm)
/-- A run's bytes. -/
def runB (l : List B) : List UInt8 := Go.Proofs.YtcdcnhecimajkaaGreat.Frame.frameL 82 (sortB l).flatten
theorem flat_wide {l : List B} {wd : Nat} (h : ∀ b ∈ l, b.length = wd) : l.flatten.length = l.length * wd := by
  induction l with
  | nil => simp
  | cons a t ih =>
    rw [List.flatten_cons, List.length_append, ih (fun b hb => h b (List.mem_cons_of_mem _ hb)), h a (by simp), List.length_cons, Nat.succ_mul]
    omega
theorem sort_wide {l : List B} {wd : Nat} (h : ∀ b ∈ l, b.length = wd) : ∀ b ∈ sortB l, b.length = wd := fun b hb => h b ((sortB_perm l).mem_iff.1 hb)
theorem flat_sort {l : List B} {wd : Nat} (h : ∀ b ∈ l, b.length = wd) : (sortB l).flatten.length = l.length * wd := by rw [flat_wide (sort_wide h), (sortB_perm l).length_eq]
theorem runB_len {l : List B} {wd : Nat} (h : ∀ b ∈ l, b.length = wd) : (runB l).length = l.length * wd + 13 := by unfold runB; rw [Go.Proofs.YtcdcnhecimajkaaGreat.Frame.frameL_length, flat_sort h]
theorem decA_digits : ∀ (d f n : Nat) (acc : List UInt8), n < 10 ^ (d + 1) → d < f → (Go.Proofs.YtcdcnhecimajkaaGreat.Text.decA f n acc).length ≤ acc.length + d + 1
  | _, 0, _, _, _, h => absurd h (Nat.not_lt_zero _)
  | 0, f + 1, n, acc, hn, _ => by
    unfold Go.Proofs.YtcdcnhecimajkaaGreat.Text.decA
    rw [if_pos (by omega)]
    simp
  | d + 1, f + 1, n, acc, hn, hf => by
    unfold Go.Proofs.YtcdcnhecimajkaaGreat.Text.decA
    split
    · simp
    · have := decA_digits d f (n / 10) (Go.Proofs.YtcdcnhecimajkaaGreat.Text.dig n :: acc) (by rw [Nat.div_lt_iff_lt_mul (by decide), ← Nat.pow_succ]; exact hn) (by omega)
      simp at this
      omega
theorem rname_len {A : Fi} (h : A.ok) (k : Nat) (hk : k ≤ 1000000) : 1 ≤ (rname A.pf k).length ∧ (rname A.pf k).length ≤ 32 := by
  have h1 : (dec k).length ≤ 7 := by
    have := decA_digits 6 20 k [] (by omega) (by decide)
    unfold dec
    simpa using this
  obtain ⟨h2, h3, _⟩ := h
  unfold rname
  rw [List.length_append]
  omega
/-- A state and its files, behind a flush. -/
structure Flushed {s : Nat} (S : Store.Sto s) (A : Fi) (w w' : World) (Q : Nat → Prop) (F : Files) (n x ne : Nat) (held : List B) (Q' : Nat → Prop) : Prop where
  srt : Srt S A w' Q' (fun _ => False) false (setF F (rname A.pf ne) (some (runB held))) (n + 1) x (ne + 1) (.slice none 0 0) [] []
  q : ∀ k, Q' k → Q k ∨ w.heap.size ≤ k
  upon : Upon (fun k => Q k ∨ k = x) w w'
theorem held_none (w : World) (wd : Nat) : HeldAt w (fun _ => False) wd (.slice none 0 0) [] [] :=
  ⟨World.ownsRow_nil _ _ _ _, recsIn_nil w, fun _ h => by simp at h, fun _ h => by simp at h, fun _ h => h.elim, fun _ h => h.elim⟩
set_option maxHeartbeats 2000000 in
set_option maxRecDepth 100000 in
theorem flush_any {s : Nat} {S : Store.Sto s} {A : Fi} {w : World} {Q R : Nat → Prop} {F : Files} {n x ne : Nat} {hv : Value} {vs : List SL} {held : List B} (h : Srt S A w Q R false F n x ne hv vs held) (h0 : held ≠ []) (hn : n < 100000) (hne : ne < 100000) :
    Calls Tryz.prog 12 #[.pointer (some ⟨x, 0, none⟩)] w fun e w' => e = .returned (.int .i64 0) ∧ ∃ Q', Flushed S A w w' Q F n x ne held Q' := by
  obtain rfl := h.sIs
  have hok := h.ok
  obtain ⟨k1, k2, k3, k4, k5, k6⟩ := id hok
  have hlv : vs.length = held.length := by simpa using h.mem.recs.len
  have hroom := h.room
  have hpos : 0 < held.length := List.length_pos_iff.2 h0
  have c6 := h.cell 6
  simp [sorterC] at c6
  have HS := Lib.hid (sorted_any x h.mem c6 k3 (by omega))
  obtain ⟨a, c, rfl, hc, _, _, _⟩ := own_shape h.mem.own
  have h00 : ((vs.length : Int) == 0) = false := by
    have : ¬ (vs.length : Int) = 0 := by omega
    simpa using this
  have HXL := Lib.hid h.blk.lt
  have H := Lib.hid h
  have HLV := Lib.hid hlv
  clear h hlv
  go_enter Tryz.func12, Tryz.ntmps12
  go_wp2_with fail
  refine HS.out.mono ?_
  rintro e w1 ⟨v, vs', l', rfl, hS⟩
  have hl' : l' = sortB held := sortB_eq hS.perm hS.rises
  subst hl'
  obtain ⟨va, vc, rfl, hvc, hL, _, _⟩ := own_shape hS.own
  have HSEC := Lib.hid (section_any w1 hL hvc hS.recs (fun b hb e => by
    have := sort_wide H.out.mem.wide b hb
    rw [e] at this
    simp at this
    omega) (by
    rw [flat_sort H.out.mem.wide]
    have h2 := Nat.mul_le_mul (Nat.le_trans hroom k6) k4
    omega) (by rw [(sortB_perm held).length_eq]; omega))
  have HSR := Lib.hid hS.below
  clear hS hL HS c6
  go_wp2_with fail
  refine HSEC.out.mono ?_
  rintro e w2 ⟨v2, rfl, hO2, hB2⟩
  have h2 := H.out.later (HSR.out.trans (hB2.mono HSR.out.size))
  have hBB : Below w.heap.size w w2 := HSR.out.trans (hB2.mono HSR.out.size)
  obtain ⟨va2, vc2, rfl, hvc2, hL2, _, _⟩ := own_shape hO2
  have HH2 := Lib.hid h2
  have HBB := Lib.hid hBB
  have HL2 := Lib.hid hL2
  clear hBB hL2 hO2 hB2 h2 HSEC HSR
  obtain ⟨bs, hbs⟩ : ∃ bs, bs = Go.Proofs.YtcdcnhecimajkaaGreat.Frame.frameL 82 (sortB held).flatten := ⟨_, rfl⟩
  rw [← hbs] at HL2 ⊢
  have hbl : bs.length ≤ 1048576 := by
    rw [hbs, Go.Proofs.YtcdcnhecimajkaaGreat.Frame.frameL_length, flat_sort H.out.mem.wide]
    have h2 := Nat.mul_le_mul (Nat.le_trans hroom k6) k4
    omega
  have hnl := rname_len hok ne (by omega)
  have q0 := HH2.out.cell 0
  have q1 := HH2.out.cell 1
  have q5 := HH2.out.cell 5
  simp [sorterC] at q0 q1 q5
  have hxl : x < w2.heap.size := HH2.out.blk.lt
  have HNM := Lib.hid (name_any A.pf k2 ne (by omega) x w2.drew q1 hxl)
  have HWR := Lib.hid (fun (w3 : World) (hB3 : Below w2.heap.size w2 w3) => S.write (S.later HH2.out.sto hB3) hn (rname A.pf ne) hnl.1 hnl.2 va2 vc2 bs (HL2.out.later hB3) hbl)
  obtain ⟨nm, hnm⟩ : ∃ nm, nm = nv (rname A.pf ne) := ⟨_, rfl⟩
  rw [← hnm] at HNM HWR
  have HXQ := Lib.hid H.out.xq
  have HBS := Lib.hid hbs
  have HXL2 := Lib.hid hxl
  have HDR := Lib.hid ((Below.refl w2.heap.size w2).drew)
  clear hbs hnm hxl q1 hbl hnl HXL
  go_wp2_with fail
  go_region_held3 (fun w' => w'.cell? ⟨x, 0, none⟩ = some (.pointer (some ⟨A.s, 0, none⟩)) ∧ w'.cell? ⟨x, 5, none⟩ = some (.int .i64 (ne : Int))) (first | exact ⟨q0, q5⟩ | exact hk3 | exact hk4) ((first | (go_at_call 26; refine HNM.out.mono ?_; rintro e w3 ⟨rfl, hB3⟩; have hB3 := HDR.out.trans hB3; have hk3 := And.intro ((hB3.cell (p := ⟨x, 0, none⟩) HXL2.out).trans q0) ((hB3.cell (p := ⟨x, 5, none⟩) HXL2.out).trans q5); dsimp only) | (go_at_call 30; refine (HWR.out w3 hB3).mono ?_; rintro e w4 ⟨rfl, Q4, hst4, hq4, hu4⟩; have hk4 := And.intro ((World.cell?_of_block (a := ⟨x, 0, none⟩) (hu4.block x (Nat.lt_of_lt_of_le HXL2.out hB3.size) HXQ.out)).trans hk3.1) ((World.cell?_of_block (a := ⟨x, 5, none⟩) (hu4.block x (Nat.lt_of_lt_of_le HXL2.out hB3.size) HXQ.out)).trans hk3.2); dsimp only)))
  have hb4 : Blk w4 x 56 (sorterC A 0 ne (.slice a vs.length c)) := (HH2.out.blk.below hB3 HXL2.out).upon hu4 HXQ.out
  have hqx : ¬ Q4 x := fun h => (hq4 x h).elim HXQ.out (fun h => by have := Nat.lt_of_lt_of_le HXL2.out hB3.size; omega)
  have f5 := hb4.frozen 5
  have f6 := hb4.frozen 6
  have g5 := hk4.2
  have g6 := hb4.cell 6
  simp [sorterC] at g6
  have HE : Hid (∃ Q', Flushed S A w ((w4.setCell ⟨x, 5, none⟩ (.int .i64 ((ne : Int) + 1))).setCell ⟨x, 6, none⟩ (.slice none 0 0)) Q F n x ne held Q') := Lib.hid (by
    obtain ⟨W, hW⟩ : ∃ W, W = (w4.setCell ⟨x, 5, none⟩ (.int .i64 ((ne : Int) + 1))).setCell ⟨x, 6, none⟩ (.slice none 0 0) := ⟨_, rfl⟩
    have ho : Only [x] w4 W := by rw [hW]; exact ((Only.refl [x] w4).set (p := ⟨x, 5, none⟩) (.inl (by simp)) _).set (p := ⟨x, 6, none⟩) (.inl (by simp)) _
    have hbW : Blk W x 56 (sorterC A 0 (ne + 1) (.slice none 0 0)) := by
      have := (hb4.set 5 (.int .i64 ((ne : Int) + 1))).set 6 (.slice none 0 0)
      rw [← hW] at this
      simpa [sorterC] using this
    rw [← hW]
    refine ⟨Q4, ⟨⟨rfl, hbW, ?_, held_none W A.wd, fun _ h => h.elim, (fun _ h => by cases h), hqx, hok, by simp, by omega⟩, fun k hk => ?_, ?_⟩⟩
    · have := S.keep hst4 ho.size (fun k hk => ho.block k (S.lt hst4 k hk) (by rintro h; rw [List.mem_singleton.1 h] at hk; exact hqx hk))
      rw [HBS.out] at this
      exact this
    · rcases hq4 k hk with h | h
      · exact .inl h
      · right
        have := HBB.out.size
        have := hB3.size
        omega
    · have h1 : Upon (fun k => Q k ∨ k = x) w w2 := Upon.of_below HBB.out
      have h2 : Upon (fun k => Q k ∨ k = x) w2 w4 := ((Upon.of_below (P := fun k => Q k ∨ k = x) hB3).trans (hu4.mono (fun k h => .inl h)) (fun g h => .inl h))
      have h3 : Upon (fun k => Q k ∨ k = x) w4 W := Upon.of_only ho (fun g hg => .inl (.inr (List.mem_singleton.1 hg)))
      exact (h1.trans h2 (fun g h => .inl h)).trans h3 (fun g h => .inl h))
  clear hst4 hq4 hu4 hb4 hqx hB3 hk3 hk4 q0 q5 HWR HNM
  go_wp2_with fail
  go_ret
  exact ⟨rfl, HE.out⟩
end Go.Proofs.YtcdcnhecimajkaaGreat.Runs

/- Layer 13: Put of a sorter. -/
namespace Go.Proofs.YtcdcnhecimajkaaGreat.Runs
open Go.RowKit Go.Deep Go.Shelf Mem Crc Go.Proofs.YtcdcnhecimajkaaGreat.Merge
open Go.Proofs.YtcdcnhecimajkaaGreat.Store (Sto Files setF nv)

attribute [local go_sem] Oper.semAt_some
/-- A record more in memory. -/
structure Putted {s : Nat} (S : Store.Sto s) (A : Fi) (w w' : World) (Q R : Nat → Prop) (off : Bool) (F : Files) (n x ne : Nat) (hv : Value) (held : List B) (R' : Nat → Prop) (hv' : Value) (vs' : List SL) : Prop where
  srt : Srt S A w' Q R' off F n x ne hv' vs' held
  r : ∀ k, R' k → R k ∨ w.heap.size ≤ k
  r0 : ∀ k, R k → R' k
  h : ∀ k, hv'.ownBlock = some k → hv.ownBlock = some k ∨ w.heap.size ≤ k
  upon : Upon (fun k => k = x ∨ hv.ownBlock = some k) w w'
theorem own_len_shape {w : World} {base bl : Nat} {v : Value} {b : B} (h : bl = b.length) (hO : OwnB w base v b) : ∃ a c, v = .slice a bl c := by
  obtain ⟨a, c, e, _⟩ := own_shape hO
  exact ⟨a, c, by rw [e, h]⟩
set_option maxHeartbeats 2000000 in
set_option maxRecDepth 100000 in
theorem put_end {s : Nat} {S : Store.Sto s} {A : Fi} {w w1 w2 : World} {Q R : Nat → Prop} {off : Bool} {F : Files} {n x ne : Nat} {hv : Value} {vs : List SL} {held : List B} {b : B} (h : Srt S A w Q R off F n x ne hv vs held) (hb : b.length = A.wd) (hroom : held.length < A.rm)
    {va : Option Addr} {vc : Nat} (hB1 : Below w.heap.size w w1) (hO1 : OwnB w1 w.heap.size (.slice va b.length vc) b) {g3 cap3 : Nat} (hown : w2.ownsRow 0 36 1 (.slice (some ⟨g3, 0, none⟩) (vs.length + 1) cap3) (vs.length + 1) (vs.map sl ++ [.slice va b.length vc]))
    (hg : (w1.alloc (.cells #[.slice va b.length vc] 36)).grownBy w2 hv.ownBlock) (hat : hv.ownBlock = some g3 ∨ g3 = (w1.alloc (.cells #[.slice va b.length vc] 36)).heap.size) :
    ∃ R' hv' vs', Putted S A w (w2.setCell ⟨x, 6, none⟩ (.slice (some ⟨g3, 0, none⟩) (vs.length + 1) cap3)) Q R off F n x ne hv (held ++ [b]) R' hv' vs' := by
  obtain ⟨W, hW⟩ : ∃ W, W = w2.setCell ⟨x, 6, none⟩ (.slice (some ⟨g3, 0, none⟩) (vs.length + 1) cap3) := ⟨_, rfl⟩
  rw [← hW]
  obtain ⟨_, _, _, _, hL1, hbl, _⟩ := own_shape hO1
  have hz1 := hB1.size
  have hz2 := hg.size
  simp at hz2
  -- what stood before the append
  have hB2 : Below w.heap.size w (w1.alloc (.cells #[.slice va b.length vc] 36)) := hB1.alloc hz1 _
  have h2 := h.later hB2
  have hug : Upon (fun k => hv.ownBlock = some k) (w1.alloc (.cells #[.slice va b.length vc] 36)) w2 := Upon.of_grown hg (fun k hk => .inl hk)
  have huW : Upon (fun k => k = x) w2 W := by rw [hW]; exact (Upon.refl (fun k => k = x) w2).set (p := ⟨x, 6, none⟩) (.inl rfl) _
  have hu : Upon (fun k => k = x ∨ hv.ownBlock = some k) (w1.alloc (.cells #[.slice va b.length vc] 36)) W := (hug.mono (fun k h => .inr h)).trans (huW.mono (fun k h => .inl h)) (fun k h => .inl h)
  have hxo : hv.ownBlock ≠ some x := fun e => (h.hq x e).2 rfl
  have hg3x : g3 ≠ x := fun e => by
    rcases hat with e2 | e2
    · exact hxo (by rw [e2, e])
    · have := h2.blk.lt
      omega
  have hg3r : ∀ k, R k → k ≠ g3 := fun k hk e => by
    rcases hat with e2 | e2
    · exact h.mem.apart k hk (by rw [e2, e])
    · have := h2.mem.rlt k hk
      omega
  refine ⟨fun k => R k ∨ (w.heap.size ≤ k ∧ k < w1.heap.size), .slice (some ⟨g3, 0, none⟩) (vs.length + 1) cap3, vs ++ [(va, b.length, vc)], ⟨⟨h.sIs, ?_, ?_, ⟨?_, ?_, ?_, ?_, ?_, ?_⟩, ?_, ?_, h.xq, h.ok, ?_, h.few⟩, ?_, ?_, ?_, ?_⟩⟩
  · have hb := (h2.blk.upon hug hxo).set 6 (.slice (some ⟨g3, 0, none⟩) (vs.length + 1) cap3)
    rw [← hW] at hb
    simpa [sorterC] using hb
  · exact S.upon h2.sto hu (fun k hk hq => by
      rcases hk with rfl | hk
      · exact h.xq hq
      · exact (h.hq k hk).1 hq)
  · have := own_upon hown huW (fun g hg e => by
      have : g3 = g := by simpa [Value.ownBlock] using hg
      omega)
    simpa [OwnL, sl] using this
  · rw [List.map_append]
    refine RecsIn.snoc (recs_upon h2.mem.recs hu h2.mem.rb (fun g hg e => ?_)) ⟨va, vc, rfl, ?_, ?_⟩
    · rcases e with rfl | e
      · exact (h.rq _ hg).2 rfl
      · exact h.mem.apart g hg e
    · obtain ⟨_, _, e, h1, _⟩ := own_shape hO1
      cases e
      exact h1
    · obtain ⟨_, _, e, _, h3, h4, _⟩ := own_shape hO1
      cases e
      refine Lies.upon (h3.later ((Below.refl _ w1).alloc (Nat.le_refl _) _)) hu (fun g hg e => ?_)
      have := h4 g hg
      have hx := h.blk.lt
      rcases e with rfl | e
      · omega
      · have := (h.mem.own.lt g e).2
        omega
  · intro c hc
    rcases List.mem_append.1 hc with hc | hc
    · exact h.mem.wide c hc
    · rw [List.mem_singleton.1 hc]; exact hb
  · intro y hy g hg
    rcases List.mem_append.1 hy with hy | hy
    · exact .inl (h.mem.rb y hy g hg)
    · rw [List.mem_singleton.1 hy] at hg
      obtain ⟨_, _, e, _, _, h4, _⟩ := own_shape hO1
      cases e
      exact .inr (h4 g hg)
  · intro g hg
    have hs := huW.size
    rcases hg with hg | hg
    · have := h.mem.rlt g hg
      omega
    · omega
  · intro g hg e
    have e2 : g3 = g := by simpa [Value.ownBlock] using e
    rcases hg with hg | hg
    · exact hg3r g hg e2.symm
    · rcases hat with e3 | e3
      · have := (h.mem.own.lt g3 e3).2
        omega
      · simp at e3
        omega
  · intro g hg
    rcases hg with hg | hg
    · exact h.rq g hg
    · refine ⟨fun hq => ?_, ?_⟩
      · have := S.lt h.sto g hq
        omega
      · have := h.blk.lt
        omega
  · intro g hg
    have e2 : g3 = g := by simpa [Value.ownBlock] using hg
    rw [← e2]
    refine ⟨fun hq => ?_, hg3x⟩
    rcases hat with e3 | e3
    · exact (h.hq g3 e3).1 hq
    · have := S.lt h.sto g3 hq
      simp at e3
      omega
  · rw [List.length_append]; simp; omega
  · intro k hk
    rcases hk with hk | hk
    · exact .inl hk
    · exact .inr hk.1
  · exact fun k hk => .inl hk
  · intro k hk
    have e2 : g3 = k := by simpa [Value.ownBlock] using hk
    rw [← e2]
    rcases hat with e3 | e3
    · exact .inl e3
    · right
      simp at e3
      omega
  · exact (Upon.of_below hB2).trans hu (fun g h => .inl h)
set_option maxHeartbeats 2000000 in
set_option maxRecDepth 100000 in
theorem put_room {s : Nat} {S : Store.Sto s} {A : Fi} {w : World} {Q R : Nat → Prop} {off : Bool} {F : Files} {n x ne : Nat} {hv : Value} {vs : List SL} {held : List B} (h : Srt S A w Q R off F n x ne hv vs held) (hroom : held.length < A.rm) {b : B} (hb : b.length = A.wd) (a : Option Addr) (cp : Nat) (hL : Lies w a (b.map bv)) :
    Calls Tryz.prog 10 #[.pointer (some ⟨x, 0, none⟩), .slice a b.length cp] w fun e w' => e = .returned (.int .i64 0) ∧ ∃ R' hv' vs', Putted S A w w' Q R off F n x ne hv (held ++ [b]) R' hv' vs' := by
  obtain ⟨k1, k2, k3, k4, k5, k6⟩ := id h.ok
  have hlv : vs.length = held.length := by simpa using h.mem.recs.len
  have c2 := h.cell 2
  have c3 := h.cell 3
  have c6 := h.cell 6
  simp [sorterC] at c2 c3 c6
  obtain ⟨hva, hvc, ehv, hcc, _, _, hvo⟩ := own_shape h.mem.own
  obtain ⟨i0, hi0, hz0, hz1, hz2⟩ := info_parts infoSl
  have hne : ((vs.length : Int) == (A.rm : Int)) = false := by
    have : ¬ (vs.length : Int) = (A.rm : Int) := by omega
    simpa using this
  have hvl : vs.length ≤ 4096 := by omega
  have HC := Lib.hid (fun w0 (hB0 : Below w.heap.size w w0) => clone_any a cp b w0 (hL.later hB0) (by omega))
  have HXL := Lib.hid h.blk.lt
  have HF := Lib.hid (h.blk.frozen 6)
  have HEND := Lib.hid (fun (w1 w2 : World) (va : Option Addr) (vc g3 cap3 : Nat) (hB1 : Below w.heap.size w w1) hO1 hown hg hat => put_end (w1 := w1) (w2 := w2) (va := va) (vc := vc) (g3 := g3) (cap3 := cap3) h hb hroom hB1 hO1 hown hg hat)
  have HO := Lib.hid (fun (w1 : World) (hB1 : Below w.heap.size w w1) => own_later h.mem.own hB1)
  have HV := Lib.hid (show ∀ k, hv.ownBlock = some k → k < w.heap.size ∧ k ≠ x from fun k hk => ⟨(h.mem.own.lt k hk).2, (h.hq k hk).2⟩)
  have hq0 := Below.refl w.heap.size w
  obtain ⟨bl, hbl⟩ : ∃ bl, bl = b.length := ⟨_, rfl⟩
  rw [← hb, ← hbl] at c2
  rw [← hbl] at HC HEND ⊢
  obtain ⟨ln, hln⟩ : ∃ ln, ln = vs.length := ⟨_, rfl⟩
  rw [← hln] at hne ehv HEND hvl
  have HOL := Lib.hid (show ∀ w1 : World, w1.ownsRow 0 36 1 hv vs.length (vs.map sl) → w1.ownsRow 0 36 1 (.slice hva ln hvc) ln (vs.map sl) from fun w1 h => by rw [← ehv, hln]; exact h)
  subst ehv
  have hbl2 : bl ≤ 64 := by omega
  have HBLE := Lib.hid hbl
  clear h hb hL hbl hln hlv hcc hvo
  go_enter Tryz.func10, Tryz.ntmps10
  go_wp2_with fail
  go_quiet (fail)
  obtain ⟨V, hV⟩ : ∃ V, V = w.drewN nq := ⟨_, rfl⟩
  have hBV : Below w.heap.size w V := by rw [hV]; exact ⟨rfl, rfl, rfl, Nat.le_refl _, fun _ _ => rfl⟩
  have q6 : V.cell? ⟨x, 6, none⟩ = some (.slice hva ln hvc) := (hBV.cell (p := ⟨x, 6, none⟩) HXL.out).trans c6
  rw [← hV]
  have HBV := Lib.hid hBV
  have HDV := Lib.hid (hBV.drew)
  clear hV hBV c2 c3 hne
  go_wp2_with fail
  go_region_law ((first | (go_simp; go_at_call 27; refine (HC.out V.drew HDV.out).mono ?_; rintro e w1 ⟨v1, rfl, hO1, hB1⟩; obtain ⟨va, vc, rfl⟩ := own_len_shape HBLE.out hO1; have hB01 : Below w.heap.size w w1 := HDV.out.trans (hB1.mono HBV.out.size); have hk1 := (hB01.cell (p := ⟨x, 6, none⟩) HXL.out).trans ((hq0.cell (p := ⟨x, 6, none⟩) HXL.out).trans c6); have hB02 := hB01.alloc hB01.size (.cells #[.slice va bl vc] 36); have hk2 := (hB02.cell (p := ⟨x, 6, none⟩) HXL.out).trans c6; have HOW := Lib.hid (HOL.out _ (HO.out _ hB02)); have HB01 := Lib.hid hB01; have HB02 := Lib.hid hB02; have HO1 := Lib.hid (own_mono hO1 HBV.out.size); clear hO1 hB1 hB01 hB02; dsimp only) | (refine step_append_lies _ rfl (.tmp 37) (.tmp 40) 22 rfl 0 36 i0 (.slice none 0 0) 1 24 Tryz.underlying22 hi0 hz0 hz1 hz2 rfl (by decide) (.slice hva ln hvc) ln (vs.map sl) (by simp [Act.eval]) HOW.out ⟨w1.heap.size, 0, none⟩ 1 1 [.slice va bl vc] (by simp [Act.eval]) rfl (one_at rfl) (by simp [Value.oneCell']) (by decide) (by unfold maxLen; omega) (by omega) (Nat.zero_le _) _ rfl ?_; intro g3 cap3 w3 hown3 hgrow3 hat3 hlt3; have hk3 := (hgrow3.cell_far ⟨x, 6, none⟩ (Nat.lt_of_lt_of_le HXL.out HB02.out.size) (fun e => (HV.out x e.symm).2 rfl)).trans hk2; have f3 := (hgrow3.frozen_far ⟨x, 6, none⟩ (Nat.lt_of_lt_of_le HXL.out HB02.out.size) (fun e => (HV.out x e.symm).2 rfl)).trans ((HB02.out.frozen (p := ⟨x, 6, none⟩) HXL.out).trans HF.out))))
  all_goals
    go_wp2_with fail
    go_ret
    exact ⟨rfl, HEND.out w1 w3 va vc g3 cap3 HB01.out HO1.out hown3 hgrow3 hat3⟩
end Go.Proofs.YtcdcnhecimajkaaGreat.Runs

/- Layer 13: Put of a sorter whose memory is full; on a store that is down. -/
namespace Go.Proofs.YtcdcnhecimajkaaGreat.Runs
open Go.RowKit Go.Deep Go.Shelf Mem Crc Go.Proofs.YtcdcnhecimajkaaGreat.Merge
open Go.Proofs.YtcdcnhecimajkaaGreat.Store (Sto Files setF nv)

attribute [local go_sem] Oper.semAt_some
set_option maxHeartbeats 2000000 in
set_option maxRecDepth 100000 in
theorem put_full {s : Nat} {S : Store.Sto s} {A : Fi} {w0 : World} {Q0 R0 : Nat → Prop} {F0 : Files} {n0 x ne0 : Nat} {hv0 : Value} {vs0 : List SL} {held0 : List B} (h0 : Srt S A w0 Q0 R0 false F0 n0 x ne0 hv0 vs0 held0) (hfull : held0.length = A.rm) (hn0 : n0 < 100000) (hne0 : ne0 < 100000) {b : B} (hb : b.length = A.wd) (a : Option Addr) (cp : Nat) (hL0 : Lies w0 a (b.map bv)) (hLQ : ∀ g, Mem.blk a = some g → ¬ Q0 g ∧ g ≠ x) :
    Calls Tryz.prog 10 #[.pointer (some ⟨x, 0, none⟩), .slice a b.length cp] w0 fun e w' => e = .returned (.int .i64 0) ∧ ∃ w1 Q1 R' hv' vs', Flushed S A w0 w1 Q0 F0 n0 x ne0 held0 Q1 ∧ Putted S A w1 w' Q1 (fun _ => False) false (setF F0 (rname A.pf ne0) (some (runB held0))) (n0 + 1) x (ne0 + 1) (.slice none 0 0) [b] R' hv' vs' := by
  obtain ⟨k1, k2, k3, k4, k5, k6⟩ := id h0.ok
  have hlv : vs0.length = held0.length := by simpa using h0.mem.recs.len
  have c2 := h0.cell 2
  have c3 := h0.cell 3
  have c6 := h0.cell 6
  simp [sorterC] at c2 c3 c6
  obtain ⟨hva0, hvc0, ehv0, hcc, _, _, _⟩ := own_shape h0.mem.own
  obtain ⟨i0, hi0, hz0, hz1, hz2⟩ := info_parts infoSl
  have hne : ((vs0.length : Int) == (A.rm : Int)) = true := by
    have : (vs0.length : Int) = (A.rm : Int) := by omega
    simpa using this
  obtain ⟨bl, hbl⟩ : ∃ bl, bl = b.length := ⟨_, rfl⟩
  rw [← hb, ← hbl] at c2
  rw [← hbl]
  obtain ⟨ln0, hln0⟩ : ∃ ln0, ln0 = vs0.length := ⟨_, rfl⟩
  rw [← hln0] at hne ehv0
  subst ehv0
  have hvl0 : ln0 ≤ 4096 := by omega
  have hbl2 : bl ≤ 64 := by omega
  have H0 := Lib.hid h0
  have HFULL := Lib.hid hfull
  have HL0 := Lib.hid hL0
  have HLQ := Lib.hid hLQ
  have HB := Lib.hid hb
  have HBLE := Lib.hid hbl
  clear h0 hfull hL0 hLQ hb hbl hln0 hlv hcc
  go_enter Tryz.func10, Tryz.ntmps10
  go_wp2_with fail
  go_quiet (fail)
  obtain ⟨V0, hV0⟩ : ∃ V0, V0 = w0.drewN nq := ⟨_, rfl⟩
  have hBV0 : Below w0.heap.size w0 V0 := by rw [hV0]; exact ⟨rfl, rfl, rfl, Nat.le_refl _, fun _ _ => rfl⟩
  rw [← hV0]
  have HBV0 := Lib.hid hBV0
  have HFL := Lib.hid (flush_any (H0.out.later hBV0) (fun e => by
    have := HFULL.out
    rw [e] at this
    simp at this
    omega) hn0 hne0)
  clear hV0 hBV0 c2 c3 c6 hne
  go_wp2_with fail
  refine HFL.out.mono ?_
  rintro e w ⟨rfl, Q, hfl⟩
  have HFD := Lib.hid (show Flushed S A w0 w Q0 F0 n0 x ne0 held0 Q from ⟨hfl.srt, fun k hk => (hfl.q k hk).imp id (fun h => Nat.le_trans HBV0.out.size h), (Upon.of_below HBV0.out).trans hfl.upon (fun g h => .inl h)⟩)
  have h := hfl.srt
  obtain ⟨F, hF⟩ : ∃ F, F = setF F0 (rname A.pf ne0) (some (runB held0)) := ⟨_, rfl⟩
  obtain ⟨n, hn⟩ : ∃ n, n = n0 + 1 := ⟨_, rfl⟩
  obtain ⟨ne, hne⟩ : ∃ ne, ne = ne0 + 1 := ⟨_, rfl⟩
  rw [← hF, ← hn, ← hne] at h
  have hL : Lies w a (b.map bv) := (HL0.out.later HBV0.out).upon hfl.upon (fun g hg e => e.elim (HLQ.out g hg).1 (HLQ.out g hg).2)
  obtain ⟨hva, hhva⟩ : ∃ hva : Option Addr, hva = none := ⟨_, rfl⟩
  obtain ⟨hvc, hhvc⟩ : ∃ hvc : Nat, hvc = 0 := ⟨_, rfl⟩
  obtain ⟨ln, hln⟩ : ∃ ln : Nat, ln = 0 := ⟨_, rfl⟩
  obtain ⟨vs, hvs⟩ : ∃ vs : List SL, vs = [] := ⟨_, rfl⟩
  obtain ⟨R, hR⟩ : ∃ R : Nat → Prop, R = fun _ => False := ⟨_, rfl⟩
  obtain ⟨held, hheld⟩ : ∃ held : List B, held = [] := ⟨_, rfl⟩
  have eh : (Value.slice none 0 0) = .slice hva ln hvc := by rw [hhva, hln, hhvc]
  rw [eh, ← hvs, ← hR, ← hheld] at h
  have hlnv : ln = vs.length := by rw [hln, hvs]; rfl
  have hvl : ln ≤ 4096 := by omega
  have c6 := h.cell 6
  simp [sorterC] at c6
  have HC := Lib.hid (fun w0 (hB0 : Below w.heap.size w w0) => clone_any a cp b w0 (hL.later hB0) (by have := HBLE.out; omega))
  have HXL := Lib.hid h.blk.lt
  have HF := Lib.hid (h.blk.frozen 6)
  have HEND := Lib.hid (fun (w1 w2 : World) (va : Option Addr) (vc g3 cap3 : Nat) (hB1 : Below w.heap.size w w1) hO1 hown hg hat => put_end (w1 := w1) (w2 := w2) (va := va) (vc := vc) (g3 := g3) (cap3 := cap3) h HB.out (by rw [hheld]; simp; omega) hB1 hO1 hown hg hat)
  have HO := Lib.hid (fun (w1 : World) (hB1 : Below w.heap.size w w1) => own_later h.mem.own hB1)
  have HV := Lib.hid (show ∀ k, (Value.slice hva ln hvc).ownBlock = some k → k < w.heap.size ∧ k ≠ x from fun k hk => ⟨(h.mem.own.lt k hk).2, (h.hq k hk).2⟩)
  have hq0 := Below.refl w.heap.size w
  rw [← hlnv] at HEND
  rw [← HBLE.out] at HC HEND
  have HOL := Lib.hid (show ∀ w1 : World, w1.ownsRow 0 36 1 (.slice hva ln hvc) vs.length (vs.map sl) → w1.ownsRow 0 36 1 (.slice hva ln hvc) ln (vs.map sl) from fun w1 h => by rw [← hlnv] at h; exact h)
  have HEQ := Lib.hid (And.intro hF (And.intro hn (And.intro hne (And.intro eh (And.intro hR hheld)))))
  clear h hL hF hn hne hhva hhvc hln hvs hR hheld eh hlnv hfl HFL
  go_wp2_with fail
  obtain ⟨V, hV⟩ : ∃ V, V = w := ⟨_, rfl⟩
  have HBV := Lib.hid (show Below w.heap.size w V from hV ▸ hq0)
  have HDV := Lib.hid (HBV.out.drew)
  have q6 : V.cell? ⟨x, 6, none⟩ = some (.slice hva ln hvc) := (HBV.out.cell (p := ⟨x, 6, none⟩) HXL.out).trans c6
  rw [← hV]
  clear hV
  go_region_law ((first | (go_simp; go_at_call 27; refine (HC.out V.drew HDV.out).mono ?_; rintro e w1 ⟨v1, rfl, hO1, hB1⟩; obtain ⟨va, vc, rfl⟩ := own_len_shape HBLE.out hO1; have hB01 : Below w.heap.size w w1 := HDV.out.trans (hB1.mono HBV.out.size); have hk1 := (hB01.cell (p := ⟨x, 6, none⟩) HXL.out).trans ((hq0.cell (p := ⟨x, 6, none⟩) HXL.out).trans c6); have hB02 := hB01.alloc hB01.size (.cells #[.slice va bl vc] 36); have hk2 := (hB02.cell (p := ⟨x, 6, none⟩) HXL.out).trans c6; have HOW := Lib.hid (HOL.out _ (HO.out _ hB02)); have HB01 := Lib.hid hB01; have HB02 := Lib.hid hB02; have HO1 := Lib.hid (own_mono hO1 HBV.out.size); clear hO1 hB1 hB01 hB02; dsimp only) | (refine step_append_lies _ rfl (.tmp 37) (.tmp 40) 22 rfl 0 36 i0 (.slice none 0 0) 1 24 Tryz.underlying22 hi0 hz0 hz1 hz2 rfl (by decide) (.slice hva ln hvc) ln (vs.map sl) (by simp [Act.eval]) HOW.out ⟨w1.heap.size, 0, none⟩ 1 1 [.slice va bl vc] (by simp [Act.eval]) rfl (one_at rfl) (by simp [Value.oneCell']) (by decide) (by unfold maxLen; omega) (by omega) (Nat.zero_le _) _ rfl ?_; intro g3 cap3 w3 hown3 hgrow3 hat3 hlt3; have hk3 := (hgrow3.cell_far ⟨x, 6, none⟩ (Nat.lt_of_lt_of_le HXL.out HB02.out.size) (fun e => (HV.out x e.symm).2 rfl)).trans hk2; have f3 := (hgrow3.frozen_far ⟨x, 6, none⟩ (Nat.lt_of_lt_of_le HXL.out HB02.out.size) (fun e => (HV.out x e.symm).2 rfl)).trans ((HB02.out.frozen (p := ⟨x, 6, none⟩) HXL.out).trans HF.out))))
  all_goals
    go_wp2_with fail
    go_ret
    obtain ⟨R', hv', vs', hp⟩ := HEND.out w1 w3 va vc g3 cap3 HB01.out HO1.out hown3 hgrow3 hat3
    obtain ⟨e1, e2, e3, e4, e5, e6⟩ := HEQ.out
    rw [e6] at hp
    rw [e5] at hp
    rw [← e4] at hp
    rw [e3] at hp
    rw [e2] at hp
    rw [e1] at hp
    exact ⟨rfl, w, Q, R', hv', vs', HFD.out, hp⟩
set_option maxHeartbeats 2000000 in
set_option maxRecDepth 100000 in
/-- On a store that is down: what must be written isn't. -/
theorem flush_off {s : Nat} {S : Store.Sto s} {A : Fi} {w : World} {Q R : Nat → Prop} {F : Files} {n x ne : Nat} {hv : Value} {vs : List SL} {held : List B} (h : Srt S A w Q R true F n x ne hv vs held) (h0 : held ≠ []) (hne : ne < 100000) :
    Calls Tryz.prog 12 #[.pointer (some ⟨x, 0, none⟩)] w fun e w' => e = .returned (.int .i64 6) ∧ Below w.heap.size w w' := by
  obtain rfl := h.sIs
  have hok := h.ok
  obtain ⟨k1, k2, k3, k4, k5, k6⟩ := id hok
  have hlv : vs.length = held.length := by simpa using h.mem.recs.len
  have hroom := h.room
  have hpos : 0 < held.length := List.length_pos_iff.2 h0
  have c6 := h.cell 6
  simp [sorterC] at c6
  have HS := Lib.hid (sorted_any x h.mem c6 k3 (by omega))
  obtain ⟨a, c, rfl, hc, _, _, _⟩ := own_shape h.mem.own
  have h00 : ((vs.length : Int) == 0) = false := by
    have : ¬ (vs.length : Int) = 0 := by omega
    simpa using this
  have HXL := Lib.hid h.blk.lt
  have H := Lib.hid h
  have HLV := Lib.hid hlv
  clear h hlv
  go_enter Tryz.func12, Tryz.ntmps12
  go_wp2_with fail
  refine HS.out.mono ?_
  rintro e w1 ⟨v, vs', l', rfl, hS⟩
  have hl' : l' = sortB held := sortB_eq hS.perm hS.rises
  subst hl'
  obtain ⟨va, vc, rfl, hvc, hL, _, _⟩ := own_shape hS.own
  have HSEC := Lib.hid (section_any w1 hL hvc hS.recs (fun b hb e => by
    have := sort_wide H.out.mem.wide b hb
    rw [e] at this
    simp at this
    omega) (by
    rw [flat_sort H.out.mem.wide]
    have h2 := Nat.mul_le_mul (Nat.le_trans hroom k6) k4
    omega) (by rw [(sortB_perm held).length_eq]; omega))
  have HSR := Lib.hid hS.below
  clear hS hL HS c6
  go_wp2_with fail
  refine HSEC.out.mono ?_
  rintro e w2 ⟨v2, rfl, hO2, hB2⟩
  have h2 := H.out.later (HSR.out.trans (hB2.mono HSR.out.size))
  have hBB : Below w.heap.size w w2 := HSR.out.trans (hB2.mono HSR.out.size)
  obtain ⟨va2, vc2, rfl, hvc2, hL2, _, _⟩ := own_shape hO2
  have HH2 := Lib.hid h2
  have HBB := Lib.hid hBB
  have HL2 := Lib.hid hL2
  clear hBB hL2 hO2 hB2 h2 HSEC HSR
  obtain ⟨bs, hbs⟩ : ∃ bs, bs = Go.Proofs.YtcdcnhecimajkaaGreat.Frame.frameL 82 (sortB held).flatten := ⟨_, rfl⟩
  rw [← hbs] at HL2 ⊢
  have q0 := HH2.out.cell 0
  have q1 := HH2.out.cell 1
  have q5 := HH2.out.cell 5
  simp [sorterC] at q0 q1 q5
  have hxl : x < w2.heap.size := HH2.out.blk.lt
  have HNM := Lib.hid (name_any A.pf k2 ne (by omega) x w2.drew q1 hxl)
  have HWR := Lib.hid (fun (w3 : World) (hB3 : Below w2.heap.size w2 w3) => S.write_off (S.later HH2.out.sto hB3) (nv (rname A.pf ne)) va2 bs.length vc2)
  obtain ⟨nm, hnm⟩ : ∃ nm, nm = nv (rname A.pf ne) := ⟨_, rfl⟩
  rw [← hnm] at HNM HWR
  have HXQ := Lib.hid H.out.xq
  have HBS := Lib.hid hbs
  have HXL2 := Lib.hid hxl
  have HDR := Lib.hid ((Below.refl w2.heap.size w2).drew)
  clear hbs hnm hxl q1 HXL
  go_wp2_with fail
  go_region_held3 (fun w' => w'.cell? ⟨x, 0, none⟩ = some (.pointer (some ⟨A.s, 0, none⟩)) ∧ w'.cell? ⟨x, 5, none⟩ = some (.int .i64 (ne : Int))) (first | exact ⟨q0, q5⟩ | exact hk3 | exact hk4) ((first | (go_at_call 26; refine HNM.out.mono ?_; rintro e w3 ⟨rfl, hB3⟩; have hB3 := HDR.out.trans hB3; have hk3 := And.intro ((hB3.cell (p := ⟨x, 0, none⟩) HXL2.out).trans q0) ((hB3.cell (p := ⟨x, 5, none⟩) HXL2.out).trans q5); dsimp only) | (go_at_call 30; refine (HWR.out w3 hB3).mono ?_; rintro e w4 ⟨rfl, hB4⟩; have hk4 := And.intro ((hB4.cell (p := ⟨x, 0, none⟩) (Nat.lt_of_lt_of_le HXL2.out hB3.size)).trans hk3.1) ((hB4.cell (p := ⟨x, 5, none⟩) (Nat.lt_of_lt_of_le HXL2.out hB3.size)).trans hk3.2); dsimp only)))
  have HE := Lib.hid (HBB.out.trans ((hB3.trans (hB4.mono hB3.size)).mono HBB.out.size))
  clear hB3 hB4 hk3 hk4 q0 q5 HWR HNM
  go_wp2_with fail
  go_ret
  exact ⟨rfl, HE.out⟩
set_option maxHeartbeats 1000000 in
theorem put_down {s : Nat} {S : Store.Sto s} {A : Fi} {w : World} {Q R : Nat → Prop} {F : Files} {n x ne : Nat} {hv : Value} {vs : List SL} {held : List B} (h : Srt S A w Q R true F n x ne hv vs held) (hfull : held.length = A.rm) (hne0 : ne < 100000) {bl : Nat} (hb : bl = A.wd) (a : Option Addr) (cp : Nat) :
    Calls Tryz.prog 10 #[.pointer (some ⟨x, 0, none⟩), .slice a bl cp] w fun e w' => e = .returned (.int .i64 6) ∧ Below w.heap.size w w' := by
  obtain ⟨k1, k2, k3, k4, k5, k6⟩ := id h.ok
  have hlv : vs.length = held.length := by simpa using h.mem.recs.len
  have c2 := h.cell 2
  have c3 := h.cell 3
  have c6 := h.cell 6
  simp [sorterC] at c2 c3 c6
  obtain ⟨hva0, hvc0, ehv0, hcc, _, _, _⟩ := own_shape h.mem.own
  have hne : ((vs.length : Int) == (A.rm : Int)) = true := by
    have : (vs.length : Int) = (A.rm : Int) := by omega
    simpa using this
  rw [← hb] at c2
  obtain ⟨ln0, hln0⟩ : ∃ ln0, ln0 = vs.length := ⟨_, rfl⟩
  rw [← hln0] at hne ehv0
  subst ehv0
  have hvl0 : ln0 ≤ 4096 := by omega
  have hbl2 : bl ≤ 64 := by omega
  have H0 := Lib.hid h
  have hpos : held ≠ [] := fun e => by
    rw [e] at hfull
    simp at hfull
    omega
  clear h hfull hb hln0 hlv hcc
  go_enter Tryz.func10, Tryz.ntmps10
  go_wp2_with fail
  go_quiet (fail)
  obtain ⟨V0, hV0⟩ : ∃ V0, V0 = w.drewN nq := ⟨_, rfl⟩
  have hBV0 : Below w.heap.size w V0 := by rw [hV0]; exact ⟨rfl, rfl, rfl, Nat.le_refl _, fun _ _ => rfl⟩
  rw [← hV0]
  have HBV0 := Lib.hid hBV0
  have HFL := Lib.hid (flush_off (H0.out.later hBV0) hpos hne0)
  clear hV0 hBV0 c2 c3 c6 hne
  go_wp2_with fail
  refine HFL.out.mono ?_
  rintro e w2 ⟨rfl, hB2⟩
  have HE := Lib.hid (HBV0.out.trans (hB2.mono HBV0.out.size))
  clear hB2 HFL
  go_wp2_with fail
  go_ret
  exact ⟨rfl, HE.out⟩
end Go.Proofs.YtcdcnhecimajkaaGreat.Runs

/- Layer 13: New; and the small ones: Held, Runs, Forget, Flush of nothing; a nil sorter. -/
namespace Go.Proofs.YtcdcnhecimajkaaGreat.Runs
open Go.RowKit Go.Deep Go.Shelf Mem Crc Go.Maps Go.Proofs.YtcdcnhecimajkaaGreat.Merge
open Go.Proofs.YtcdcnhecimajkaaGreat.Store (Sto Files setF nv len_name contains_name)
open Go.Proofs.YtcdcnhecimajkaaGreat.Text (dec decA dig)

attribute [local go_sem] Oper.semAt_some
/-- What digits tell. -/
def val : List UInt8 → Nat
  | [] => 0
  | c :: t => (c.toNat - 48) * 10 ^ t.length + val t
theorem val_decA : ∀ (f n : Nat) (acc : List UInt8), n < 10 ^ f → val (decA f n acc) = n * 10 ^ acc.length + val acc
  | 0, n, acc, h => by
    have : n = 0 := by simpa using h
    subst this
    simp [decA]
  | f + 1, n, acc, h => by
    have hd : val (dig n :: acc) = (n % 10) * 10 ^ acc.length + val acc := by
      have := Go.Proofs.YtcdcnhecimajkaaGreat.Text.dig_nat n
      show ((dig n).toNat - 48) * 10 ^ acc.length + val acc = _
      rw [this]
      congr 2
      omega
    unfold decA
    split
    · rw [hd, show n % 10 = n by omega]
    · rw [val_decA f (n / 10) _ (by rw [Nat.div_lt_iff_lt_mul (by decide), ← Nat.pow_succ]; exact h), hd, List.length_cons, Nat.pow_succ, ← Nat.add_assoc]
      congr 1
      have : n * 10 ^ acc.length = (n / 10 * 10 + n % 10) * 10 ^ acc.length := by rw [Nat.div_add_mod' n 10]
      rw [this, Nat.add_mul, Nat.mul_assoc, Nat.mul_comm 10 (10 ^ acc.length)]
theorem val_dec (n : Nat) (h : n < 10 ^ 20) : val (dec n) = n := by
  unfold dec
  rw [val_decA 20 n [] h]
  simp [val]
theorem dec_inj {i j : Nat} (hi : i < 10 ^ 20) (hj : j < 10 ^ 20) (h : dec i = dec j) : i = j := by rw [← val_dec i hi, ← val_dec j hj, h]
theorem rname_inj {pf : List UInt8} {i j : Nat} (hi : i < 10 ^ 20) (hj : j < 10 ^ 20) (h : rname pf i = rname pf j) : i = j := dec_inj hi hj (by unfold rname at h; exact List.append_cancel_left h)
/-- So many names among others are no more than these. -/
theorem among_le {α : Type} [DecidableEq α] (g : Nat → α) : ∀ (k : Nat) (l : List α), (∀ i j, i < k → j < k → g i = g j → i = j) → (∀ j, j < k → g j ∈ l) → k ≤ l.length
  | 0, _, _, _ => Nat.zero_le _
  | k + 1, l, hi, hm => by
    have hk := hm k (by omega)
    have := among_le g k (l.erase (g k)) (fun i j h1 h2 => hi i j (by omega) (by omega)) (fun j hj => by
      have hne : g j ≠ g k := fun e => by have := hi j k (by omega) (by omega) e; omega
      exact (List.mem_erase_of_ne hne).2 (hm j (by omega)))
    rw [List.length_erase_of_mem hk] at this
    have hpos : 0 < l.length := List.length_pos_of_mem hk
    omega
/-- Contains, on a row of names. -/
theorem contains_any (v : Value) (B0 : Nat) (ss : List (List UInt8)) (nm : List UInt8) (w : World) (h : w.ownsRow B0 9 1 v ss.length (ss.map encStr)) (hm : ss.length ≤ 1000000) :
    Calls Tryz.prog 25 #[v, nv nm] w fun e w' => ∃ b : Bool, e = .returned (.bool b) ∧ (b = true ↔ nm ∈ ss) ∧ w = w' := by
  obtain ⟨a, cap, rfl, hc, hL, _, _⟩ := own_shape h
  by_cases h0 : ss = []
  · subst h0
    refine (Tryz.slices_Contains_string_empty a cap ⟨nm.toArray⟩ w).mono ?_
    rintro e w' ⟨rfl, rfl⟩
    exact ⟨false, rfl, by simp, rfl⟩
  · obtain ⟨g, off, rfl, _, hcs⟩ := hL.resolve_left (fun e => by
      rw [List.map_eq_nil_iff] at e
      exact h0 e)
    refine (Tryz.slices_Contains_string g off ss.length cap (ss.map fun l => (⟨l.toArray⟩ : ByteArray)) ⟨nm.toArray⟩ w (by simp) (by omega) (fun j hj => by
      rw [List.length_map] at hj
      have := hcs j (encStr ss[j]) (by simp [hj])
      rw [this]
      simp [hj])).mono ?_
    rintro e w' ⟨rfl, rfl⟩
    refine ⟨_, rfl, ?_, rfl⟩
    rw [Lib.containsS_iff, List.take_of_length_le (by simp), List.mem_map]
    constructor
    · rintro ⟨l, hl, e⟩
      have : l = nm := by
        have := congrArg (fun b : ByteArray => b.data.toList) e
        simpa using this
      rw [← this]; exact hl
    · exact fun h => ⟨nm, h, rfl⟩
/-- A new sorter. -/
structure Newed {s : Nat} (S : Store.Sto s) (A : Fi) (w w' : World) (Q : Nat → Prop) (off : Bool) (F : Files) (n x ne : Nat) : Prop where
  srt : Srt S A w' Q (fun _ => False) off F n x ne (.slice none 0 0) [] []
  fresh : w.heap.size ≤ x
  below : Below w.heap.size w w'
  runs : ∀ j, j < ne → F (rname A.pf j) ≠ none
  last : F (rname A.pf ne) = none
/-- The loop's head. -/
structure Counts {s : Nat} (S : Store.Sto s) (A : Fi) (w wr : World) (Q : Nat → Prop) (off : Bool) (F : Files) (n x k : Nat) (v : Value) (ss : List (List UInt8)) : Prop where
  srt : Srt S A wr Q (fun _ => False) off F n x k (.slice none 0 0) [] []
  below : Below w.heap.size w wr
  runs : ∀ j, j < k → F (rname A.pf j) ≠ none
  names : wr.ownsRow w.heap.size 9 1 v ss.length (ss.map encStr)
  few : k ≤ ss.length
/-- x.next, read. -/
def nextOf (x : Nat) (w : World) : Nat := match w.cell? ⟨x, 5, none⟩ with
  | some (.int _ i) => i.toNat
  | _ => 0
theorem Counts.next {s : Nat} {S : Store.Sto s} {A : Fi} {w wr : World} {Q : Nat → Prop} {off : Bool} {F : Files} {n x k : Nat} {v : Value} {ss : List (List UInt8)} (h : Counts S A w wr Q off F n x k v ss) : nextOf x wr = k := by
  have c := h.srt.cell 5
  simp [sorterC] at c
  unfold nextOf
  rw [c]
  simp
set_option maxHeartbeats 2000000 in
set_option maxRecDepth 100000 in
theorem new_any {s : Nat} (S : Store.Sto s) (A : Fi) (hs : A.s = s) (hok : A.ok) {w : World} {Q : Nat → Prop} {off : Bool} {F : Files} {n : Nat} (h : S.At w Q off F n) :
    Calls Tryz.prog 7 #[.pointer (some ⟨A.s, 0, none⟩), nv A.pf, .int .i64 A.wd, .int .i64 A.rm] w fun e w' => ∃ x ne, e = .returned (.tuple #[.pointer (some ⟨x, 0, none⟩), .int .i64 0]) ∧ Newed S A w w' Q off F n x ne := by
  subst hs
  obtain ⟨k1, k2, k3, k4, k5, k6⟩ := id hok
  obtain ⟨pf, hpf⟩ : ∃ pf : ByteArray, .string pf = nv A.pf := ⟨_, rfl⟩
  obtain ⟨ln, hln⟩ : ∃ ln, ln = A.pf.length := ⟨_, rfl⟩
  have hlen := len_name A.pf
  rw [← hpf, ← hln] at hlen
  have t1 : ((ln : Int) == 0) = false := by
    have : ¬ (ln : Int) = 0 := by omega
    simpa using this
  have t2 : decide (16 < (ln : Int)) = false := by simp; omega
  have t3 : decide ((A.wd : Int) < 1) = false := by simp; omega
  have t4 : decide (64 < (A.wd : Int)) = false := by simp; omega
  have t5 : decide ((A.rm : Int) < 1) = false := by simp; omega
  have t6 : decide (4096 < (A.rm : Int)) = false := by simp; omega
  rw [← hpf]
  have HPF := Lib.hid hpf
  have H := Lib.hid h
  have HOK := Lib.hid hok
  clear h hpf hln hok
  go_enter Tryz.func7, Tryz.ntmps7
  go_wp2_with fail
  obtain ⟨W, hW⟩ : ∃ W, W = w.alloc (.cells #[.pointer (some ⟨A.s, 0, none⟩), .string pf, .int .i64 A.wd, .int .i64 A.rm, .int .i64 0, .int .i64 0, .slice none 0 0] 56) := ⟨_, rfl⟩
  have hBW : Below w.heap.size w W := by rw [hW]; exact (Below.refl _ w).alloc (Nat.le_refl _) _
  have hbk : Blk W w.heap.size 56 (sorterC A 0 0 (.slice none 0 0)) := by rw [hW]; unfold sorterC; rw [← HPF.out]; exact Blk.new w _ _
  rw [← hW]
  obtain ⟨x, hx⟩ : ∃ x, x = w.heap.size := ⟨_, rfl⟩
  rw [← hx] at hbk ⊢
  have hst : Srt S A W Q (fun _ => False) off F n x 0 (.slice none 0 0) [] [] := ⟨rfl, hbk, S.later H.out hBW, held_none W A.wd, (fun _ h => h.elim), (fun _ h => by cases h), (fun hq => by have := S.lt H.out x hq; omega), HOK.out, by simp, by omega⟩
  have HNM := Lib.hid (S.names hst.sto)
  have HST := Lib.hid hst
  have HBW := Lib.hid hBW
  have HXW := Lib.hid (show w.heap.size ≤ x by omega)
  clear hW hBW hbk hx hst t1 t2 t3 t4 t5 t6 hlen
  refine HNM.out.mono ?_
  rintro e w1 ⟨v, ss, rfl, hO, hmem, hle, hB1⟩
  have HC := Lib.hid (show Counts S A w w1 Q off F n x 0 v ss from ⟨HST.out.later hB1, HBW.out.trans (hB1.mono HBW.out.size), fun j hj => by omega, own_mono hO HBW.out.size, Nat.zero_le _⟩)
  have HMEM := Lib.hid hmem
  clear hO hmem hB1 HNM HST
  go_wp2_with fail
  go_loopw [] (fun wr => ∃ k, Counts S A w wr Q off F n x k v ss) (fun wr => ss.length - nextOf x wr)
  case atStart => exact ⟨0, HC.out⟩
  case round =>
    obtain ⟨k, hk⟩ := hrel
    have hnx := hk.next
    have hkf := hk.few
    have c1 := hk.srt.cell 1
    have c5 := hk.srt.cell 5
    simp [sorterC] at c1 c5
    have HNA := Lib.hid (name_any A.pf k2 k (by omega) x wr c1 hk.srt.blk.lt)
    have HK := Lib.hid hk
    have HNX := Lib.hid hnx
    clear hk hnx c1
    go_wp2_with fail
    refine HNA.out.mono ?_
    rintro e w2 ⟨rfl, hB2⟩
    have HB2 := Lib.hid hB2
    have HCO := Lib.hid (contains_any v _ ss (rname A.pf k) w2 (own_later HK.out.names hB2) (by omega))
    obtain ⟨nm, hnm⟩ : ∃ nm, nm = nv (rname A.pf k) := ⟨_, rfl⟩
    rw [← hnm] at HCO ⊢
    clear hB2 HNA hnm
    go_wp2_with fail
    refine HCO.out.mono ?_
    rintro e w3 ⟨b, rfl, hb, rfl⟩
    have hk2 := HK.out.srt.later HB2.out
    have d5 := hk2.cell 5
    have f5 := hk2.blk.frozen 5
    simp [sorterC] at d5
    cases b
    · have HE := Lib.hid (show Newed S A w w2 Q off F n x k from ⟨hk2, HXW.out, HK.out.below.trans (HB2.out.mono HK.out.below.size), HK.out.runs, by
        have : ¬ rname A.pf k ∈ ss := fun h => by have := hb.2 h; simp at this
        rw [HMEM.out] at this
        simpa using this⟩)
      clear hk2 hb f5 d5
      go_wp2_with fail
      go_ret2
      exact ⟨x, k, rfl, HE.out⟩
    · have hin := hb.1 rfl
      have HE := Lib.hid (show Counts S A w (w2.setCell ⟨x, 5, none⟩ (.int .i64 ((k : Int) + 1))) Q off F n x (k + 1) v ss from by
        have hB2 := HB2.out
        have hal : ∀ j, j < k + 1 → F (rname A.pf j) ≠ none := fun j hj => by
          by_cases e : j = k
          · rw [e]; exact (HMEM.out _).1 hin
          · exact HK.out.runs j (by omega)
        have hku : k + 1 ≤ ss.length := among_le (rname A.pf) (k + 1) ss (fun i j hi hj e => rname_inj (by omega) (by omega) e) (fun j hj => (HMEM.out _).2 (hal j hj))
        have ho : Only [x] w2 (w2.setCell ⟨x, 5, none⟩ (.int .i64 ((k : Int) + 1))) := (Only.refl [x] w2).set (p := ⟨x, 5, none⟩) (.inl (by simp)) _
        have hbk : Blk (w2.setCell ⟨x, 5, none⟩ (.int .i64 ((k : Int) + 1))) x 56 (sorterC A 0 (k + 1) (.slice none 0 0)) := by
          have := hk2.blk.set 5 (.int .i64 ((k : Int) + 1))
          simpa [sorterC] using this
        refine ⟨⟨rfl, hbk, S.keep hk2.sto ho.size (fun q hq => ho.block q (S.lt hk2.sto q hq) (by rintro h; rw [List.mem_singleton.1 h] at hq; exact hk2.xq hq)), held_none _ A.wd, (fun _ h => h.elim), (fun _ h => by cases h), hk2.xq, hk2.ok, by simp, by omega⟩, ?_, hal, ?_, hku⟩
        · exact (HK.out.below.trans (hB2.mono HK.out.below.size)).setCell (by exact HXW.out) _
        · exact own_past (own_later HK.out.names hB2) hk2.blk (by decide) 5 _)
      have HM := Lib.hid (show ss.length - nextOf x (w2.setCell ⟨x, 5, none⟩ (.int .i64 ((k : Int) + 1))) < ss.length - nextOf x wr from by
        rw [HE.out.next, HNX.out]
        have := HE.out.few
        omega)
      clear hk2 hb hin
      go_wp2_with fail
      go_roundw
      case rel => exact ⟨k + 1, HE.out⟩
      case measure => exact HM.out
end Go.Proofs.YtcdcnhecimajkaaGreat.Runs

/- Layer 13: a run is read. -/
namespace Go.Proofs.YtcdcnhecimajkaaGreat.Runs
open Go.RowKit Go.Deep Go.Shelf Mem Crc Go.Proofs.YtcdcnhecimajkaaGreat.Merge
open Go.Proofs.YtcdcnhecimajkaaGreat.Store (Sto Files setF nv)

attribute [local go_sem] Oper.semAt_some
/-- The pieces of records' bytes are the records. -/
theorem pieces_recs {w : World} {g off wd : Nat} : ∀ (l : List B) (k : Nat), (∀ b ∈ l, b.length = wd) → (∀ i u, (l.flatten.map bv)[i]? = some u → w.cell? ⟨g, off + k * wd + i, none⟩ = some u) → g < w.heap.size → RecsIn w (((List.range l.length).map fun j => ((some ⟨g, off + (k + j) * wd, none⟩, wd, wd) : SL)).map sl) l
  | [], _, _, _, _ => recsIn_nil w
  | b :: t, k, hw, hc, hg => by
    have hb := hw b (by simp)
    have ih := pieces_recs t (k + 1) (fun c hc => hw c (List.mem_cons_of_mem _ hc)) (fun i u hu => by
      have := hc (wd + i) u (by
        rw [List.flatten_cons, List.map_append, List.getElem?_append_right (by rw [List.length_map]; omega), List.length_map, hb, show wd + i - wd = i by omega]
        exact hu)
      rw [show off + (k + 1) * wd + i = off + k * wd + (wd + i) by rw [Nat.succ_mul]; omega]
      exact this) hg
    refine ⟨by simp, fun i v c hv hcl => ?_⟩
    cases i with
    | zero =>
      have ev : v = sl (some ⟨g, off + k * wd, none⟩, wd, wd) := by simpa using hv.symm
      have ec : c = b := by simpa using hcl.symm
      subst ev ec
      refine ⟨_, wd, by rw [← hb]; rfl, by omega, .inr ⟨g, off + k * wd, rfl, hg, fun i u hu => hc i u ?_⟩⟩
      rw [List.flatten_cons, List.map_append, List.getElem?_append_left (List.getElem?_eq_some_iff.1 hu).1]
      exact hu
    | succ i =>
      refine ih.at_ i v c ?_ (by simpa using hcl)
      rw [← hv]
      simp only [List.length_cons, List.range_succ_eq_map, List.map_cons, List.map_map, List.getElem?_cons_succ]
      congr 1
      apply List.map_congr_left
      intro j _
      simp only [Function.comp_apply]
      rw [show k + 1 + j = k + (j + 1) by omega]
/-- A run's records. -/
structure RunAt (w w' : World) (l : List B) (v : Value) (vs : List SL) : Prop where
  own : OwnL w' w.heap.size v vs
  recs : RecsIn w' (vs.map sl) (sortB l)
  fresh : ∀ y ∈ vs, ∀ g, Mem.blk y.1 = some g → w.heap.size ≤ g
  below : Below w.heap.size w w'
theorem one_sec {l : List Go.Proofs.YtcdcnhecimajkaaGreat.Frame.Sec} {k : UInt8} {b : List UInt8} (h : l.map Go.Proofs.YtcdcnhecimajkaaGreat.Frame.Sec.kb = [(k, b)]) : ∃ s, l = [s] ∧ s.kind = k ∧ s.body = b := by
  match l, h with
  | [s], h =>
    have h : s.kb = (k, b) := by simpa using h
    exact ⟨s, rfl, congrArg Prod.fst h, congrArg Prod.snd h⟩
/-- Chunk, and where its closure's variables lie. -/
theorem chunk_of (a : Option Addr) (len c wd : Nat) (hwd : 0 < wd) (w : World) :
    Calls Tryz.prog 53 #[.slice a len c, .int .i64 wd] w fun e w' => e = .returned (.func (.func 84) #[] #[.pointer (some ⟨w.heap.size, 0, none⟩), .pointer (some ⟨w.heap.size + 1, 0, none⟩)]) ∧ Below w.heap.size w w' ∧ w'.cell? ⟨w.heap.size, 0, none⟩ = some (.slice a len c) ∧ w'.cell? ⟨w.heap.size + 1, 0, none⟩ = some (.int .i64 wd) ∧ w.heap.size + 1 < w'.heap.size := by
  refine (chunk_any a len c wd hwd w).mono ?_
  rintro e w' ⟨rfl, rfl⟩
  refine ⟨rfl, ((Below.refl _ w).alloc (Nat.le_refl _) _).alloc (by simp) _, ?_, ?_, by simp⟩
  · rw [((Blk.new w 36 #[.slice a len c]).alloc _).cell]; rfl
  · have := (Blk.new (w.alloc (.cells #[.slice a len c] 36)) 3 #[.int .i64 wd]).cell 0
    rw [World.size_alloc] at this
    rw [this]; rfl
set_option maxHeartbeats 2000000 in
set_option maxRecDepth 100000 in
theorem run_good {s : Nat} {S : Store.Sto s} {A : Fi} {w : World} {Q R : Nat → Prop} {F : Files} {n x ne : Nat} {hv : Value} {vs : List SL} {held : List B} (h : Srt S A w Q R false F n x ne hv vs held) (k : Nat) (hk : k ≤ 1000000) (l : List B) (hl : ∀ b ∈ l, b.length = A.wd) (h0 : l ≠ []) (hmax : l.length ≤ 4096) (hF : F (rname A.pf k) = some (runB l)) :
    Calls Tryz.prog 31 #[.pointer (some ⟨x, 0, none⟩), .int .i64 k] w fun e w' => ∃ v vs', e = .returned (.tuple #[v, .int .i64 0]) ∧ RunAt w w' l v vs' := by
  obtain rfl := h.sIs
  obtain ⟨k1, k2, k3, k4, k5, k6⟩ := id h.ok
  have q0 := h.cell 0
  have q1 := h.cell 1
  have q2 := h.cell 2
  simp [sorterC] at q0 q1 q2
  have hml : l.length * A.wd ≤ 262144 := Nat.mul_le_mul hmax k4
  obtain ⟨body, hbody⟩ : ∃ body, body = (sortB l).flatten := ⟨_, rfl⟩
  have hbl : body.length = l.length * A.wd := by rw [hbody]; exact flat_sort hl
  have hrun : runB l = Go.Proofs.YtcdcnhecimajkaaGreat.Frame.frameL 82 body := by rw [hbody]; rfl
  rw [hrun] at hF
  have HNM := Lib.hid (name_any A.pf k2 k hk x w.drew q1 h.blk.lt)
  have HRD := Lib.hid (fun (W : World) (hW : Below w.heap.size w W) => S.read_some (S.later h.sto hW) (rname A.pf k) _ hF)
  have HFR := Lib.hid (Go.Proofs.YtcdcnhecimajkaaGreat.Frame.all_frame 82 body (by omega))
  have HBL := Lib.hid hbl
  have HXL := Lib.hid h.blk.lt
  have HBO := Lib.hid hbody
  have H0 := Lib.hid h0
  have HL := Lib.hid hl
  obtain ⟨nm, hnm⟩ : ∃ nm, nm = nv (rname A.pf k) := ⟨_, rfl⟩
  rw [← hnm] at HNM HRD
  have HDR := Lib.hid ((Below.refl w.heap.size w).drew)
  clear h hF hbl hrun hbody hnm h0 hl q1
  go_enter Tryz.func31, Tryz.ntmps31
  go_wp2_with fail
  go_region_held3 (fun w' => w'.cell? ⟨x, 0, none⟩ = some (.pointer (some ⟨A.s, 0, none⟩))) (first | exact q0 | exact hk3 | exact hk2) ((first | (go_at_call 26; refine HNM.out.mono ?_; rintro e w1 ⟨rfl, hB1⟩; have hBd := HDR.out.trans hB1; have hk2 := (hBd.cell (p := ⟨x, 0, none⟩) HXL.out).trans q0; dsimp only) | (go_at_call 50; refine (HRD.out _ hBd).mono ?_; rintro e w2 ⟨v2, rfl, hO2, hB2⟩; have hBe := hBd.trans (hB2.mono hBd.size); have hk3 := (hBe.cell (p := ⟨x, 0, none⟩) HXL.out).trans q0; dsimp only)))
  obtain ⟨va, vc, rfl, hvc, hL, _, _⟩ := own_shape hO2
  have hAll := Go.Proofs.YtcdcnhecimajkaaGreat.Frame.all_any va vc _ w2 hL hvc (by rw [Go.Proofs.YtcdcnhecimajkaaGreat.Frame.frameL_length, HBL.out]; omega)
  have HAL := Lib.hid hAll
  have HBE := Lib.hid hBe
  clear hAll hL hO2 hB2 hBe hB1 hBd hk2 hk3
  go_wp2_with fail
  refine HAL.out.mono ?_
  rintro e w3 ⟨⟨v3, secs, rfl, hO3, hkb, hbod⟩, hB3⟩
  rw [HFR.out] at hkb ⊢
  obtain ⟨sec, rfl, hsk, hsb⟩ := one_sec hkb
  obtain ⟨va3, vc3, rfl, hvc3, hL3, hbl3, _⟩ := own_shape hO3
  have hbd := hbod sec (by simp)
  obtain ⟨g3, off3, rfl, hg3, hc3⟩ := hL3.resolve_left (fun e => by simp [Go.Proofs.YtcdcnhecimajkaaGreat.Frame.flatS, Go.Proofs.YtcdcnhecimajkaaGreat.Frame.Sec.vs] at e)
  have p0 := hc3 0 (.int .u8 82) (by simp [Go.Proofs.YtcdcnhecimajkaaGreat.Frame.flatS, Go.Proofs.YtcdcnhecimajkaaGreat.Frame.Sec.vs, hsk, bv])
  have p1 := hc3 1 (.slice sec.a sec.body.length sec.cp) (by simp [Go.Proofs.YtcdcnhecimajkaaGreat.Frame.flatS, Go.Proofs.YtcdcnhecimajkaaGreat.Frame.Sec.vs])
  rw [hsb] at p1 hbd
  rw [Nat.add_zero] at p0
  simp only [List.length_singleton]
  obtain ⟨va4, vc4, ev4, hvc4, hL4, hbl4, _⟩ := own_shape hbd
  injection ev4 with ea4 _ ec4
  rw [← ea4] at hL4 hbl4
  rw [← ec4] at hvc4
  have hBZ := HBE.out.trans (hB3.mono HBE.out.size)
  have q23 := (hBZ.cell (p := ⟨x, 2, none⟩) HXL.out).trans q2
  obtain ⟨M, hM⟩ : ∃ M, M = body.length := ⟨_, rfl⟩
  rw [← hM] at p1 hvc4
  have hMM : M = l.length * A.wd := hM.trans HBL.out
  have hM1 : M ≤ 1000000 := by omega
  have hl0 : 0 < l.length := List.length_pos_iff.2 H0.out
  have hM0 : 0 < M := by rw [hMM]; exact Nat.mul_pos hl0 k3
  obtain ⟨gb, ob, eb, hgb, hcb⟩ := hL4.resolve_left (fun e => by
    have := congrArg List.length e
    rw [List.length_map, ← hM] at this
    simp at this
    omega)
  have hmod : (M : Int).tmod (A.wd : Int) = 0 := by
    rw [hMM, Int.natCast_mul]
    exact Int.mul_tmod_left _ _
  have hwd0 : ((A.wd : Int) == 0) = false := by
    have : ¬ (A.wd : Int) = 0 := by omega
    simpa using this
  have hgbf : w.heap.size ≤ gb := by
    have := hbl4 gb (by rw [eb]; rfl)
    have := HBE.out.size
    omega
  rw [eb] at p1
  have HCB := Lib.hid hcb
  have HM := Lib.hid hMM
  have HBZ := Lib.hid hBZ
  have HG3 := Lib.hid hg3
  have HGB := Lib.hid hgb
  have HVC4 := Lib.hid hvc4
  clear hkb hbod hO3 hL3 hc3 hL4 hB3 ea4 ec4 eb hbd hMM hM hBZ q2 q0 hcb hgb hvc4 hbl3 hbl4 hg3
  go_wp2_with fail
  go_quiet (fail)
  obtain ⟨V, hV⟩ : ∃ V, V = w3.drewN nq := ⟨_, rfl⟩
  have hBV : Below w3.heap.size w3 V := by rw [hV]; exact ⟨rfl, rfl, rfl, Nat.le_refl _, fun _ _ => rfl⟩
  rw [← hV]
  have v1 := (hBV.cell (p := ⟨g3, off3 + 1, none⟩) HG3.out).trans p1
  have v2 := (hBV.cell (p := ⟨x, 2, none⟩) (Nat.lt_of_lt_of_le HXL.out HBZ.out.size)).trans q23
  have HBV := Lib.hid hBV
  have HG3V := Lib.hid (Nat.lt_of_lt_of_le HG3.out hBV.size)
  have HXV := Lib.hid (Nat.lt_of_lt_of_le (Nat.lt_of_lt_of_le HXL.out HBZ.out.size) hBV.size)
  have HDV := Lib.hid ((Below.refl V.heap.size V).drew)
  have HCH := Lib.hid (chunk_of (some ⟨gb, ob, none⟩) M sec.cp A.wd k3 V.drew)
  have HCP := Lib.hid (fun (w4 : World) (hBs : V.drew.heap.size + 1 < w4.heap.size) (hcs : w4.cell? ⟨V.drew.heap.size, 0, none⟩ = some (.slice (some ⟨gb, ob, none⟩) M sec.cp)) (hcn : w4.cell? ⟨V.drew.heap.size + 1, 0, none⟩ = some (.int .i64 A.wd)) =>
    collect_pieces (g := gb) (off := ob) (m := l.length) (c := sec.cp) k3 (by rw [← HM.out]; exact HVC4.out) (by rw [← HM.out]; exact hM1) w4 V.drew.heap.size (V.drew.heap.size + 1) (by omega) hBs (by rw [← HM.out]; exact hcs) hcn)
  clear hV hBV p0 p1 q23 hmod hwd0
  go_wp2_with fail
  go_region_held3 (fun w' => w'.cell? ⟨g3, off3 + 1, none⟩ = some (.slice (some ⟨gb, ob, none⟩) M sec.cp) ∧ w'.cell? ⟨x, 2, none⟩ = some (.int .i64 (A.wd : Int))) (first | exact ⟨v1, v2⟩ | exact hk4 | exact hk5) ((first | (go_at_call 53; refine HCH.out.mono ?_; rintro e w4 ⟨rfl, hB4, b1, b2, b3⟩; have hB4 := HDV.out.trans hB4; have hk4 := And.intro ((hB4.cell (p := ⟨g3, off3 + 1, none⟩) HG3V.out).trans v1) ((hB4.cell (p := ⟨x, 2, none⟩) HXV.out).trans v2); dsimp only) | (go_at_call 52; refine (HCP.out w4 b3 b1 b2).mono ?_; rintro e w5 ⟨v5, rfl, hO5, hB5⟩; have hB5 := hB4.trans (hB5.mono hB4.size); have hk5 := And.intro ((hB5.cell (p := ⟨g3, off3 + 1, none⟩) HG3V.out).trans v1) ((hB5.cell (p := ⟨x, 2, none⟩) HXV.out).trans v2); dsimp only)))
  have hB35 : Below w3.heap.size w3 w5 := HBV.out.trans (hB5.mono HBV.out.size)
  have hRE : RecsIn w5 ((pieces gb ob A.wd l.length).map sl) (sortB l) := by
    have hpe : pieces gb ob A.wd l.length = (List.range (sortB l).length).map fun j => ((some ⟨gb, ob + (0 + j) * A.wd, none⟩, A.wd, A.wd) : SL) := by
      rw [(sortB_perm l).length_eq]
      unfold pieces
      apply List.map_congr_left
      intro j _
      rw [Nat.zero_add]
    rw [hpe]
    refine pieces_recs (sortB l) 0 (sort_wide HL.out) (fun i u hu => ?_) (Nat.lt_of_lt_of_le HGB.out hB35.size)
    rw [Nat.zero_mul, Nat.add_zero, ← HBO.out] at *
    exact (hB35.cell (p := ⟨gb, ob + i, none⟩) HGB.out).trans (HCB.out i u hu)
  have hgb5 : gb < w4.heap.size := by
    have h1 := HGB.out
    have h2 := HBV.out.size
    have h3 := hB4.size
    omega
  have HIS := Lib.hid (isSorted_any hO5 hRE (fun y hy g hg e => by
    obtain ⟨j, _, rfl⟩ := List.mem_map.1 hy
    have e1 : gb = g := by simpa [Mem.blk] using hg
    have := (hO5.lt g e.symm).1
    omega) (by rw [pieces_len]; omega) (by rw [pieces_len]; exact hl0) (sortB_rises l))
  have HB5 := Lib.hid (HBZ.out.trans (hB35.mono HBZ.out.size))
  have HO5 := Lib.hid (own_mono hO5 (show w.heap.size ≤ w4.heap.size from by
    have h1 := HBZ.out.size
    have h2 := HBV.out.size
    have h3 := hB4.size
    omega))
  have HRE := Lib.hid hRE
  clear hB35 hRE hgb5 hO5 hB5 hB4 hk4 hk5 b1 b2 b3 v1 v2
  go_wp2_with fail
  refine HIS.out.mono ?_
  rintro e w6 ⟨rfl, hB6⟩
  have HR := Lib.hid (show RunAt w w6 l v5 (pieces gb ob A.wd l.length) from ⟨own_later HO5.out hB6, HRE.out.later hB6, fun y hy g hg => by
    obtain ⟨j, _, rfl⟩ := List.mem_map.1 hy
    have e1 : gb = g := by simpa [Mem.blk] using hg
    omega, HB5.out.trans (hB6.mono HB5.out.size)⟩)
  clear hB6 HIS
  go_wp2_with fail
  go_ret2
  exact ⟨_, _, rfl, HR.out⟩
end Go.Proofs.YtcdcnhecimajkaaGreat.Runs

/- Layer 13: Rows: the memory and the runs, merged. -/
namespace Go.Proofs.YtcdcnhecimajkaaGreat.Runs
open Go.RowKit Go.Deep Go.Shelf Mem Crc Go.Proofs.YtcdcnhecimajkaaGreat.Merge
open Go.Proofs.YtcdcnhecimajkaaGreat.Store (Sto Files setF nv)

attribute [local go_sem] Oper.semAt_some
/-- In R, or made between two worlds. -/
def Mid (R : Nat → Prop) (w w' : World) (g : Nat) : Prop := R g ∨ (w.heap.size ≤ g ∧ g < w'.heap.size)
theorem RowB.of_sorted {w w' : World} {R : Nat → Prop} {vs : List SL} {held : List B} {v : Value} {vs' : List SL} {l' : List B} (h : SortedAt w w' vs held v vs' l') (hr : ∀ y ∈ vs, ∀ g, Mem.blk y.1 = some g → R g) : ∃ a c, v = .slice a l'.length c ∧ RowB w' (Mid R w w') ((a, l'.length, c), l') := by
  obtain ⟨a, c, rfl, hc, hL, hb, _⟩ := own_shape h.own
  have hl : vs'.length = l'.length := by simpa using h.recs.len
  exact ⟨a, c, by rw [← hl], a, c, vs', rfl, by rw [← hl]; exact hc, hl, hL, fun g hg => .inr (hb g hg), h.recs, fun y hy g hg => .inl (hr y (h.sub y hy) g hg)⟩
theorem RowB.of_run {w w' : World} (R : Nat → Prop) {l : List B} {v : Value} {vs : List SL} (h : RunAt w w' l v vs) (hne : ∀ b ∈ l, b ≠ []) : ∃ a c, v = .slice a (sortB l).length c ∧ RowB w' (Mid R w w') ((a, (sortB l).length, c), sortB l) := by
  obtain ⟨a, c, rfl, hc, hL, hb, _⟩ := own_shape h.own
  have hl : vs.length = (sortB l).length := by simpa using h.recs.len
  refine ⟨a, c, by rw [← hl], a, c, vs, rfl, by rw [← hl]; exact hc, hl, hL, fun g hg => .inr (hb g hg), h.recs, fun y hy g hg => .inr ⟨h.fresh y hy g hg, ?_⟩⟩
  obtain ⟨i, hi⟩ := List.getElem?_of_mem hy
  have hil : i < (sortB l).length := by rw [← hl]; exact (List.getElem?_eq_some_iff.1 hi).1
  exact rec_block (h.recs.at_ i (sl y) (sortB l)[i] (by simp [hi]) (List.getElem?_eq_getElem hil)) (hne _ ((sortB_perm l).mem_iff.1 (List.getElem_mem hil))) g hg
/-- The runs as files. -/
structure RunFiles (A : Fi) (F : Files) (ls : List (List B)) : Prop where
  at_ : ∀ (j : Nat) (l : List B), ls[j]? = some l → F (rname A.pf j) = some (runB l)
  wide : ∀ l ∈ ls, ∀ b ∈ l, b.length = A.wd
  some_ : ∀ l ∈ ls, l ≠ []
  few : ∀ l ∈ ls, l.length ≤ 4096
/-- All rows in memory, as Rows hands them to merge. -/
structure AllRows (w0 w : World) (R : Nat → Prop) (rs : List (SL × List B)) (v : Value) : Prop where
  own : OwnR w w0.heap.size v (rs.map Prod.fst)
  rows : ∀ r ∈ rs, RowB w (fun g => Mid R w0 w g ∧ some g ≠ v.ownBlock) r ∧ Rises r.2
/-- What a merge's closure has caught: all of it lies in U. -/
structure Merging (w : World) (U : Nat → Prop) (Bs : Nat) (rs : List (SL × List B)) (ad : Addr) (c : Nat) : Prop where
  box : Blk w Bs 65 #[.slice (some ad) rs.length c]
  boxU : U Bs
  row : Lies w (some ad) (rs.map (fun r => sl r.1))
  rowU : U ad.block
  cap : rs.length ≤ c
  pos : 0 < rs.length
  rows : ∀ r ∈ rs, RowB w U r ∧ Rises r.2
theorem Merging.upon {w w' : World} {U P : Nat → Prop} {Bs : Nat} {rs : List (SL × List B)} {ad : Addr} {c : Nat} (h : Merging w U Bs rs ad c) (hu : Upon P w w') (hP : ∀ g, U g → ¬ P g) : Merging w' U Bs rs ad c :=
  ⟨h.box.upon hu (hP _ h.boxU), h.boxU, h.row.upon hu (fun g hg => by
    have e : ad.block = g := by simpa [Mem.blk] using hg
    rw [← e]; exact hP _ h.rowU), h.rowU, h.cap, h.pos, fun r hr => ⟨(h.rows r hr).1.upon hu hP, (h.rows r hr).2⟩⟩
set_option maxHeartbeats 4000000 in
set_option maxRecDepth 100000 in
theorem rows_any {s : Nat} {S : Store.Sto s} {A : Fi} {w : World} {Q R : Nat → Prop} {off : Bool} {F : Files} {n x ne : Nat} {hv : Value} {vs : List SL} {held : List B} (h : Srt S A w Q R off F n x ne hv vs held) (ls : List (List B)) (hls : ls.length = ne) (hne : ne ≤ 1000) (hF : RunFiles A F ls) (hoff : off = false ∨ ne = 0) :
    Calls Tryz.prog 16 #[.pointer (some ⟨x, 0, none⟩)] w fun e w' => ∃ Bs rs ad c, e = .returned (.tuple #[.func (.func 55) #[] #[.pointer (some ⟨Bs, 0, none⟩)], .int .i64 0]) ∧ Merging w' (Mid R w w') Bs rs ad c ∧ rs.length = ne + 1 ∧ ((rs.map Prod.snd).flatten).Perm (held ++ ls.flatten) ∧ Below w.heap.size w w' := by
  obtain ⟨k1, k2, k3, k4, k5, k6⟩ := id h.ok
  have hlv : vs.length = held.length := by simpa using h.mem.recs.len
  have hroom := h.room
  have q4 := h.cell 4
  have q5 := h.cell 5
  have q6 := h.cell 6
  simp [sorterC] at q4 q5 q6
  have HS := Lib.hid (sorted_any x h.mem q6 k3 (by omega))
  have H := Lib.hid h
  have HXL := Lib.hid h.blk.lt
  have HLS := Lib.hid hls
  have HOFF := Lib.hid hoff
  obtain ⟨i0, hi0, hz0, hz1, hz2⟩ := info_parts infoRow
  clear h hlv q6 hls hoff
  go_enter Tryz.func16, Tryz.ntmps16
  go_wp2_with fail
  refine HS.out.mono ?_
  rintro e w1 ⟨v, vs', l', rfl, hS⟩
  obtain ⟨a1, c1, rfl, hrow1⟩ := RowB.of_sorted hS H.out.mem.rb
  have hB1 := hS.below
  have hl1 := hS.perm
  have hr1 := hS.rises
  obtain ⟨y1, hy1⟩ : ∃ y1 : SL × List B, y1 = ((a1, l'.length, c1), l') := ⟨_, rfl⟩
  obtain ⟨N1, hN1⟩ : ∃ N1, N1 = l'.length := ⟨_, rfl⟩
  have hB2 : Below w.heap.size w (w1.alloc (.cells #[.slice a1 N1 c1] 22)) := hB1.alloc hB1.size _
  have q42 := (hB2.cell (p := ⟨x, 4, none⟩) HXL.out).trans q4
  have hst : AllRows w (w1.alloc (.cells #[.slice a1 N1 c1] 22)) R [y1] (.slice (some ⟨w1.heap.size, 0, none⟩) 1 1) := by
    refine ⟨?_, fun r hr => ?_⟩
    · have := World.ownsRow_lit (base := w.heap.size) (e := 22) (size := 1) w1 #[.slice a1 N1 c1] 1 hB1.size (by decide) rfl
      rw [hy1]
      simpa [OwnR, sl, hN1] using this
    · rw [List.mem_singleton.1 hr, hy1]
      refine ⟨(hrow1.later ((Below.refl _ w1).alloc (Nat.le_refl _) _)).mono (fun g hg => ⟨hg.imp id (fun h => ⟨h.1, by simp; omega⟩), fun e => ?_⟩), hr1⟩
      have e : g = w1.heap.size := by simpa [Value.ownBlock] using e
      rcases hg with hg | hg
      · have := H.out.mem.rlt g hg
        have := hB1.size
        omega
      · omega
  have HST := Lib.hid hst
  have HB2 := Lib.hid hB2
  have HP1 := Lib.hid (show (([y1].map Prod.snd).flatten).Perm (held ++ (ls.take 0).flatten) from by rw [hy1]; simpa using hl1)
  rw [← hN1]
  clear hst hB2 hrow1 hl1 hr1 hy1 hN1 hB1 hS HS
  go_wp2_with fail
  go_loopw [4, 5] (fun o i wr => ∃ (k : Nat) (rs : List (SL × List B)), k ≤ ne ∧ i = .int .i64 k ∧ rs.length = k + 1 ∧ AllRows w wr R rs o ∧ ((rs.map Prod.snd).flatten).Perm (held ++ (ls.take k).flatten) ∧ Below w.heap.size w wr) (fun _ i _ => ne - (intOf i).toNat)
  case atStart => exact ⟨0, [y1], Nat.zero_le _, rfl, rfl, HST.out, HP1.out, HB2.out⟩
  case round =>
    obtain ⟨k, rs, hk, rfl, hrl, hA, hP, hBr⟩ := hrel
    rename_i o _
    have q5r := (hBr.cell (p := ⟨x, 5, none⟩) HXL.out).trans q5
    obtain ⟨oa, oc, rfl, hoc, hoL, hob, hobk⟩ := own_shape hA.own
    rw [List.length_map, hrl] at hA hobk
    rw [List.length_map] at hoc ⊢
    have HA := Lib.hid hA
    have HP := Lib.hid hP
    have HBR := Lib.hid hBr
    have HRL := Lib.hid hrl
    have HOL := Lib.hid hoL
    have HOB := Lib.hid hob
    have HOBK := Lib.hid hobk
    clear hA hP hBr hoL hob hobk
    rw [hrl] at hoc ⊢
    clear hrl
    by_cases hlt : k < ne
    · have hfo : off = false := HOFF.out.resolve_right (by omega)
      obtain ⟨lk, hlk⟩ : ∃ lk, ls[k]? = some lk := ⟨ls[k]'(by rw [HLS.out]; exact hlt), List.getElem?_eq_getElem _⟩
      have hmem := List.mem_of_getElem? hlk
      have HRUN := Lib.hid (run_good ((hfo ▸ H.out).later HBR.out) k (by omega) lk (hF.wide lk hmem) (hF.some_ lk hmem) (hF.few lk hmem) (hF.at_ k lk hlk))
      have HLK := Lib.hid hlk
      clear hlk hmem hfo
      go_wp2_with fail
      refine HRUN.out.mono ?_
      rintro e w2 ⟨v2, vs2, rfl, hR2⟩
      obtain ⟨a2, c2, rfl, hrow2⟩ := RowB.of_run R hR2 (fun b hb e => by
        have := hF.wide lk (List.mem_of_getElem? HLK.out) b hb
        rw [e] at this
        simp at this
        omega)
      obtain ⟨y2, hy2⟩ : ∃ y2 : SL × List B, y2 = ((a2, (sortB lk).length, c2), sortB lk) := ⟨_, rfl⟩
      obtain ⟨N2, hN2⟩ : ∃ N2, N2 = (sortB lk).length := ⟨_, rfl⟩
      have hBr2 : Below w.heap.size w w2 := HBR.out.trans (hR2.below.mono HBR.out.size)
      have hown2 : w2.ownsRow w.heap.size 22 1 (.slice oa (k + 1) oc) (k + 1) ((rs.map Prod.fst).map sl) := by
        have : w2.ownsRow w.heap.size 22 1 (.slice oa (k + 1) oc) (rs.map Prod.fst).length ((rs.map Prod.fst).map sl) := own_later HA.out.own hR2.below
        rw [List.length_map, HRL.out] at this
        exact this
      have HOW := Lib.hid (hown2.alloc (.cells #[.slice a2 N2 c2] 22))
      have HWS := Lib.hid (show w.heap.size ≤ (w2.alloc (.cells #[.slice a2 N2 c2] 22)).heap.size from by have := hBr2.size; simp; omega)
      have HBR2 := Lib.hid hBr2
      have HR2 := Lib.hid hR2
      have HROW2 := Lib.hid hrow2
      have HY2 := Lib.hid hy2
      have HN2 := Lib.hid hN2
      rw [← hN2]
      clear hown2 hBr2 hR2 hrow2 hy2 hN2 HRUN
      go_wp2_with (at_builtin; refine wpList_append_lies _ rfl _ _ 65 rfl w.heap.size 22 i0 (.slice none 0 0) 1 24 Tryz.underlying65 hi0 hz0 hz1 hz2 rfl (by decide) _ _ _ rfl HOW.out ⟨w2.heap.size, 0, none⟩ 1 1 [.slice a2 N2 c2] rfl rfl (one_at rfl) (by simp [Value.oneCell']) (by decide) (by unfold maxLen; omega) (by omega) HWS.out _ rfl ?_; intro g3 c3 w3 hown3 hg3 hat3 hlt3; have HO3 := Lib.hid hown3; have HG3 := Lib.hid hg3; have HAT := Lib.hid hat3; have HLT := Lib.hid hlt3; clear hown3 hg3 hat3 hlt3)
      have hBA : Below w2.heap.size w2 (w2.alloc (.cells #[.slice a2 N2 c2] 22)) := (Below.refl _ w2).alloc (Nat.le_refl _) _
      have hu3 : Upon (fun g => (Value.slice oa (k + 1) oc).ownBlock = some g) (w2.alloc (.cells #[.slice a2 N2 c2] 22)) w3 := Upon.of_grown HG3.out (fun g hg => .inl hg)
      have HB3 := Lib.hid (show Below w.heap.size w w3 from (HBR2.out.alloc HBR2.out.size _).trans (hu3.below HWS.out (fun g hg => (HOW.out.lt g hg).1)))
      have HA3 := Lib.hid (show AllRows w w3 R (rs ++ [y2]) (.slice (some ⟨g3, 0, none⟩) (k + 1 + 1) c3) from by
        have hown3 := HO3.out
        have hsz := hu3.size
        simp at hsz
        refine ⟨?_, fun r hr => ?_⟩
        · show w3.ownsRow w.heap.size 22 1 _ ((rs ++ [y2]).map Prod.fst).length (((rs ++ [y2]).map Prod.fst).map sl)
          rw [List.length_map, List.length_append, HRL.out, List.map_append, List.map_append, HY2.out]
          simpa [sl, HN2.out] using hown3
        · have hat : (Value.slice oa (k + 1) oc).ownBlock = some g3 ∨ g3 = (w2.alloc (.cells #[.slice a2 N2 c2] 22)).heap.size := HAT.out
          have hrs := HBR.out.size
          have hr2 := HR2.out.below.size
          have hoa : ∀ g, (Value.slice oa (k + 1) oc).ownBlock = some g → w.heap.size ≤ g ∧ g < wr.heap.size := fun g hg => HOB.out g (by rw [← HOBK.out]; exact hg)
          rw [World.size_alloc] at hat
          have hgo : ∀ g, Mid R wr w2 g ∨ Mid R w wr g → some g ≠ (Value.slice oa (k + 1) oc).ownBlock → Mid R w w3 g ∧ some g ≠ (Value.slice (some ⟨g3, 0, none⟩) (k + 1 + 1) c3).ownBlock := fun g hg hne => by
            refine ⟨?_, fun e => ?_⟩
            · rcases hg with (hg | hg) | (hg | hg)
              · exact .inl hg
              · exact .inr ⟨by omega, by omega⟩
              · exact .inl hg
              · exact .inr ⟨by omega, by omega⟩
            · have e : g = g3 := by simpa [Value.ownBlock] using e
              rcases hat with h3 | h3
              · exact hne (by rw [e, h3])
              · rcases hg with (hg | hg) | (hg | hg)
                · have := H.out.mem.rlt g hg
                  have := HBR.out.size
                  omega
                · omega
                · have := H.out.mem.rlt g hg
                  omega
                · omega
          rcases List.mem_append.1 hr with hr | hr
          · have h1 := HA.out.rows r hr
            refine ⟨(((h1.1.later HR2.out.below).later hBA).upon hu3 (fun g hg e => hg.2 e.symm)).mono (fun g hg => hgo g (.inr hg.1) hg.2), h1.2⟩
          · rw [List.mem_singleton.1 hr, HY2.out]
            have hne2 : ∀ g, Mid R wr w2 g → some g ≠ (Value.slice oa (k + 1) oc).ownBlock := fun g hg e => by
              have := hoa g e.symm
              rcases hg with hg | hg
              · have := H.out.mem.rlt g hg
                omega
              · omega
            exact ⟨((HROW2.out.later hBA).upon hu3 (fun g hg e => hne2 g hg e.symm)).mono (fun g hg => hgo g (.inl hg) (hne2 g hg)), sortB_rises lk⟩)
      go_roundw
      case rel => exact ⟨k + 1, rs ++ [y2], by omega, by simp, by simp [HRL.out], HA3.out, by
        rw [List.map_append, List.flatten_append, List.take_add_one, HLK.out, List.flatten_append, ← List.append_assoc]
        refine List.Perm.append HP.out ?_
        rw [HY2.out]
        simpa using sortB_perm lk, HB3.out⟩
      case measure => simp [intOf]; omega
    · have HKE := Lib.hid (show k = ne by omega)
      have HP2 := Lib.hid (show ((rs.map Prod.snd).flatten).Perm (held ++ ls.flatten) from by
        have := HP.out
        rwa [List.take_of_length_le (by rw [HLS.out, HKE.out]; exact Nat.le_refl _)] at this)
      obtain ⟨ad, had⟩ : ∃ ad, oa = some ad := by
        obtain ⟨g, off, e, _⟩ := HOL.out.resolve_left (fun e => by
          have := congrArg List.length e
          rw [List.length_map, List.length_map, HRL.out] at this
          simp at this)
        exact ⟨_, e⟩
      subst had
      have HMG := Lib.hid (merge_any wr (some ad) (k + 1) oc)
      obtain ⟨W, hW⟩ : ∃ W, W = wr.alloc (.cells #[.slice (some ad) (k + 1) oc] 65) := ⟨_, rfl⟩
      have hBW : Below wr.heap.size wr W := by rw [hW]; exact (Below.refl _ wr).alloc (Nat.le_refl _) _
      have hsz := HBR.out.size
      have hsw : wr.heap.size < W.heap.size := by rw [hW]; simp
      have HE := Lib.hid (show Merging W (Mid R w W) wr.heap.size rs ad oc from by
        refine ⟨by rw [hW, HRL.out]; exact Blk.new wr _ _, .inr ⟨hsz, hsw⟩, ?_, ?_, by rw [HRL.out]; exact hoc, by rw [HRL.out]; omega, fun r hr => ?_⟩
        · have := HOL.out.later hBW
          rwa [List.map_map] at this
        · have := HOB.out ad.block rfl
          exact .inr ⟨this.1, by omega⟩
        · have h1 := HA.out.rows r hr
          exact ⟨(h1.1.later hBW).mono (fun g hg => hg.1.imp id (fun h => ⟨h.1, by omega⟩)), h1.2⟩)
      have HEB := Lib.hid (HBR.out.trans (hBW.mono hsz))
      rw [← hW] at HMG
      clear hW hBW hsz hsw
      go_wp2_with fail
      refine HMG.out.mono ?_
      rintro e w2 ⟨rfl, rfl⟩
      go_wp2_with fail
      go_ret2
      exact ⟨_, rs, ad, oc, rfl, HE.out, by rw [HRL.out, HKE.out], HP2.out, HEB.out⟩
end Go.Proofs.YtcdcnhecimajkaaGreat.Runs

/- Layer 13: the small ones: Held, Runs, Forget, Clear of no runs; a nil sorter; New of what may not be. -/
namespace Go.Proofs.YtcdcnhecimajkaaGreat.Runs
open Go.RowKit Go.Deep Go.Shelf Mem Crc Go.Proofs.YtcdcnhecimajkaaGreat.Merge
open Go.Proofs.YtcdcnhecimajkaaGreat.Store (Sto Files setF nv len_name)

attribute [local go_sem] Oper.semAt_some
theorem held_any {s : Nat} {S : Store.Sto s} {A : Fi} {w : World} {Q R : Nat → Prop} {off : Bool} {F : Files} {n x ne : Nat} {hv : Value} {vs : List SL} {held : List B} (h : Srt S A w Q R off F n x ne hv vs held) :
    Calls Tryz.prog 11 #[.pointer (some ⟨x, 0, none⟩)] w fun e w' => e = .returned (.int .i64 held.length) ∧ w = w' := by
  have q6 := h.cell 6
  simp [sorterC] at q6
  have hlv : vs.length = held.length := by simpa using h.mem.recs.len
  obtain ⟨a, c, rfl, _, _, _, _⟩ := own_shape h.mem.own
  have HLV := Lib.hid hlv
  clear h hlv
  go_enter Tryz.func11, Tryz.ntmps11
  go_wp2_with fail
  go_ret
  exact ⟨by rw [← HLV.out]; rfl, rfl⟩
theorem runs_any {s : Nat} {S : Store.Sto s} {A : Fi} {w : World} {Q R : Nat → Prop} {off : Bool} {F : Files} {n x ne : Nat} {hv : Value} {vs : List SL} {held : List B} (h : Srt S A w Q R off F n x ne hv vs held) :
    Calls Tryz.prog 20 #[.pointer (some ⟨x, 0, none⟩)] w fun e w' => e = .returned (.int .i64 ne) ∧ ∃ m, w' = w.drewN m := by
  have q4 := h.cell 4
  have q5 := h.cell 5
  simp [sorterC] at q4 q5
  have hf := h.few
  clear h
  go_enter Tryz.func20, Tryz.ntmps20
  go_wp2_with fail
  go_quiet (fail)
  go_wp2_with fail
  go_ret
  exact ⟨by simp, _, rfl⟩
theorem held_nil (w : World) : Calls Tryz.prog 11 #[.pointer none] w fun e w' => e = .returned (.int .i64 0) ∧ w = w' := by
  go_enter Tryz.func11, Tryz.ntmps11
  go_wp2_with fail
  go_ret
  exact ⟨rfl, rfl⟩
theorem runs_nil (w : World) : Calls Tryz.prog 20 #[.pointer none] w fun e w' => e = .returned (.int .i64 0) ∧ w = w' := by
  go_enter Tryz.func20, Tryz.ntmps20
  go_wp2_with fail
  go_ret
  exact ⟨rfl, rfl⟩
theorem forget_nil (w : World) : Calls Tryz.prog 17 #[.pointer none] w fun e w' => e = .returned (.tuple #[]) ∧ w = w' := by
  go_enter Tryz.func17, Tryz.ntmps17
  go_wp2_with fail
  go_end0
  exact ⟨rfl, rfl⟩
theorem put_nilS (w : World) (v : Value) : Calls Tryz.prog 10 #[.pointer none, v] w fun e w' => e = .returned (.int .i64 1) ∧ w = w' := by
  go_enter Tryz.func10, Tryz.ntmps10
  go_wp2_with fail
  go_ret
  exact ⟨rfl, rfl⟩
theorem flush_nil (w : World) : Calls Tryz.prog 12 #[.pointer none] w fun e w' => e = .returned (.int .i64 1) ∧ w = w' := by
  go_enter Tryz.func12, Tryz.ntmps12
  go_wp2_with fail
  go_ret
  exact ⟨rfl, rfl⟩
theorem clear_nil (w : World) : Calls Tryz.prog 18 #[.pointer none] w fun e w' => e = .returned (.int .i64 1) ∧ w = w' := by
  go_enter Tryz.func18, Tryz.ntmps18
  go_wp2_with fail
  go_ret
  exact ⟨rfl, rfl⟩
theorem rewrite_nil (w : World) (v : Value) : Calls Tryz.prog 19 #[.pointer none, v] w fun e w' => e = .returned (.int .i64 1) ∧ w = w' := by
  go_enter Tryz.func19, Tryz.ntmps19
  go_wp2_with fail
  go_ret
  exact ⟨rfl, rfl⟩
theorem rows_nil (w : World) : Calls Tryz.prog 16 #[.pointer none] w fun e w' => e = .returned (.tuple #[.nilFunc, .int .i64 1]) ∧ w = w' := by
  go_enter Tryz.func16, Tryz.ntmps16
  go_wp2_with fail
  go_ret2
  exact ⟨rfl, rfl⟩
/-- Forget. -/
theorem forget_any {s : Nat} {S : Store.Sto s} {A : Fi} {w : World} {Q R : Nat → Prop} {off : Bool} {F : Files} {n x ne : Nat} {hv : Value} {vs : List SL} {held : List B} (h : Srt S A w Q R off F n x ne hv vs held) :
    Calls Tryz.prog 17 #[.pointer (some ⟨x, 0, none⟩)] w fun e w' => e = .returned (.tuple #[]) ∧ Srt S A w' Q (fun _ => False) off F n x ne (.slice none 0 0) [] [] ∧ Only [x] w w' := by
  have q6 := h.cell 6
  simp [sorterC] at q6
  have fz := h.blk.frozen 6
  have ho : Only [x] w (w.setCell ⟨x, 6, none⟩ (.slice none 0 0)) := (Only.refl [x] w).set (p := ⟨x, 6, none⟩) (.inl (by simp)) _
  have HE := Lib.hid (show Srt S A (w.setCell ⟨x, 6, none⟩ (.slice none 0 0)) Q (fun _ => False) off F n x ne (.slice none 0 0) [] [] from ⟨h.sIs, by have := h.blk.set 6 (.slice none 0 0); simpa [sorterC] using this, S.keep h.sto ho.size (fun q hq => ho.block q (S.lt h.sto q hq) (by rintro e; rw [List.mem_singleton.1 e] at hq; exact h.xq hq)), held_none _ A.wd, (fun _ h => h.elim), (fun _ h => by cases h), h.xq, h.ok, by simp, h.few⟩)
  have HO := Lib.hid ho
  clear h ho
  go_enter Tryz.func17, Tryz.ntmps17
  go_wp2_with fail
  go_end0
  exact ⟨rfl, HE.out, HO.out⟩
set_option maxHeartbeats 1000000 in
/-- Clear where there are no runs. -/
theorem clear_none {s : Nat} {S : Store.Sto s} {A : Fi} {w : World} {Q R : Nat → Prop} {off : Bool} {F : Files} {n x : Nat} {hv : Value} {vs : List SL} {held : List B} (h : Srt S A w Q R off F n x 0 hv vs held) :
    Calls Tryz.prog 18 #[.pointer (some ⟨x, 0, none⟩)] w fun e w' => e = .returned (.int .i64 0) ∧ Srt S A w' Q (fun _ => False) off F n x 0 (.slice none 0 0) [] [] ∧ Upon (fun k => k = x) w w' := by
  have q4 := h.cell 4
  have q5 := h.cell 5
  have q6 := h.cell 6
  simp [sorterC] at q4 q5 q6
  have f4 := h.blk.frozen 4
  have f5 := h.blk.frozen 5
  have f6 := h.blk.frozen 6
  have H := Lib.hid h
  clear h
  go_enter Tryz.func18, Tryz.ntmps18
  go_wp2_with fail
  obtain ⟨V, hV⟩ : ∃ V, V = w.setCell ⟨x, 6, none⟩ (.slice none 0 0) := ⟨_, rfl⟩
  have hbk : Blk V x 56 (sorterC A 0 0 (.slice none 0 0)) := by
    have := H.out.blk.set 6 (.slice none 0 0)
    rw [← hV] at this
    simpa [sorterC] using this
  have hu : Upon (fun k => k = x) w V := by rw [hV]; exact (Upon.refl (fun k => k = x) w).set (p := ⟨x, 6, none⟩) (.inl rfl) _
  rw [← hV]
  have HBK := Lib.hid hbk
  have HU := Lib.hid hu
  clear hV hbk hu q4 q5 q6 f4 f5 f6
  go_loopw [] (fun wr => Blk wr x 56 (sorterC A 0 0 (.slice none 0 0)) ∧ Upon (fun k => k = x) w wr) (fun _ => 0)
  case atStart => exact ⟨HBK.out, HU.out⟩
  case round =>
    obtain ⟨hbk, hu⟩ := hrel
    have q4 := hbk.cell 4
    have q5 := hbk.cell 5
    simp [sorterC] at q4 q5
    have HBK2 := Lib.hid hbk
    have HU2 := Lib.hid hu
    clear hbk hu
    go_wp2_with fail
    go_quiet (fail)
    obtain ⟨V2, hV2⟩ : ∃ V2, V2 = wr.drewN nq := ⟨_, rfl⟩
    have hbk2 : Blk V2 x 56 (sorterC A 0 0 (.slice none 0 0)) := by rw [hV2]; exact HBK2.out
    have hu2 : Upon (fun k => k = x) w V2 := by rw [hV2]; exact HU2.out.drewN nq
    rw [← hV2]
    have p4 := hbk2.cell 4
    have p5 := hbk2.cell 5
    have f4 := hbk2.frozen 4
    have f5 := hbk2.frozen 5
    simp [sorterC] at p4 p5
    have HBK3 := Lib.hid hbk2
    have HU3 := Lib.hid hu2
    clear hV2 hbk2 hu2 q4 q5
    go_wp2_with fail
    go_ret
    obtain ⟨V3, hV3⟩ : ∃ V3, V3 = (V2.setCell ⟨x, 4, none⟩ (.int .i64 0)).setCell ⟨x, 5, none⟩ (.int .i64 0) := ⟨_, rfl⟩
    rw [← hV3]
    have hu3 : Upon (fun k => k = x) w V3 := by rw [hV3]; exact (HU3.out.set (p := ⟨x, 4, none⟩) (.inl rfl) _).set (p := ⟨x, 5, none⟩) (.inl rfl) _
    refine ⟨rfl, ⟨H.out.sIs, ?_, S.upon H.out.sto hu3 (fun k hk hq => by rw [hk] at hq; exact H.out.xq hq), held_none _ A.wd, (fun _ h => h.elim), (fun _ h => by cases h), H.out.xq, H.out.ok, by simp, by omega⟩, hu3⟩
    have := (HBK3.out.set 4 (.int .i64 0)).set 5 (.int .i64 0)
    rw [← hV3] at this
    simpa [sorterC] using this
end Go.Proofs.YtcdcnhecimajkaaGreat.Runs

/- The law's few. -/
namespace Go.Proofs.YtcdcnhecimajkaaGreat.Runs
open Go.RowKit Go.Deep Go.Shelf Mem Crc Go.Proofs.YtcdcnhecimajkaaGreat.Merge

attribute [local go_sem] Oper.semAt_some
set_option maxHeartbeats 1000000 in
set_option maxRecDepth 100000 in
theorem few_no (w : World) (a : Option Addr) (n c : Nat) (wd : Int) (h : 100 < n ∨ wd < 1 ∨ 64 < wd) :
    Calls Tryz.prog 8 #[.slice a n c, .int .i64 wd] w fun e w' => e = .returned (.bool false) ∧ w' = w := by
  by_cases h1 : 100 < n
  · have d1 : decide ((100 : Int) < n) = true := decide_eq_true (by omega)
    clear h
    go_enter Tryz.func8, Tryz.ntmps8
    go_wp2
    go_ret
    exact ⟨rfl, rfl⟩
  · have d1 : decide ((100 : Int) < n) = false := decide_eq_false (by omega)
    by_cases h2 : wd < 1
    · have d2 : decide (wd < 1) = true := decide_eq_true h2
      clear h
      go_enter Tryz.func8, Tryz.ntmps8
      go_wp2
      go_ret
      exact ⟨rfl, rfl⟩
    · have d2 : decide (wd < 1) = false := decide_eq_false h2
      have d3 : decide (64 < wd) = true := decide_eq_true (by omega)
      clear h
      go_enter Tryz.func8, Tryz.ntmps8
      go_wp2
      go_ret
      exact ⟨rfl, rfl⟩
/-- Are the first k of that length? -/
def allW (vs : List SL) (wd : Nat) : Prop := ∀ x ∈ vs, x.2.1 = wd
set_option maxHeartbeats 1000000 in
set_option maxRecDepth 100000 in
theorem few_yes (w : World) (a : Option Addr) (c wd : Nat) (vs : List SL) (hL : Lies w a (vs.map sl)) (hn : vs.length ≤ 100) (h1 : 1 ≤ wd) (h64 : wd ≤ 64) (hall : allW vs wd) :
    Calls Tryz.prog 8 #[.slice a vs.length c, .int .i64 wd] w fun e w' => e = .returned (.bool true) ∧ w' = w := by
  have d1 : decide ((100 : Int) < vs.length) = false := decide_eq_false (by omega)
  have d2 : decide ((wd : Int) < 1) = false := decide_eq_false (by omega)
  have d3 : decide ((64 : Int) < wd) = false := decide_eq_false (by omega)
  have HL := Lib.hid hL
  have HA := Lib.hid hall
  clear hL hall
  go_enter Tryz.func8, Tryz.ntmps8
  go_wp2
  go_loopw [5] (fun i wr => ∃ k : Nat, k ≤ vs.length ∧ i = .int .i64 k ∧ wr = w) (fun i _ => vs.length - (intOf i).toNat)
  case atStart => exact ⟨0, Nat.zero_le _, rfl, rfl⟩
  case round =>
    obtain ⟨k, hk, rfl, rfl⟩ := hrel
    by_cases hlt : k < vs.length
    · obtain ⟨x, hx⟩ : ∃ x, vs[k]? = some x := ⟨vs[k], List.getElem?_eq_getElem hlt⟩
      have hw := HA.out x (List.mem_of_getElem? hx)
      obtain ⟨g, off, rfl, _, hcell⟩ : ∃ g off, a = some ⟨g, off, none⟩ ∧ g < wr.heap.size ∧ ∀ i u, (vs.map sl)[i]? = some u → wr.cell? ⟨g, off + i, none⟩ = some u := by
        rcases HL.out with e | h
        · have : vs = [] := by simpa using e
          rw [this] at hlt
          cases hlt
        · exact h
      have hck := hcell k (sl x) (by simp [hx])
      obtain ⟨xa, xn, xc⟩ := x
      dsimp only at hw
      subst hw
      unfold sl at hck
      dsimp only at hck
      have hw : RowKit.wrap64 ((k : Int) + 1) = (k : Int) + 1 := IntWalk.wrap64_in _ (by omega)
      clear hcell hx
      go_wp2
      go_roundw
      case rel => exact ⟨k + 1, by omega, by simp [hw], trivial⟩
      case measure => simp [intOf, hw]; omega
    · obtain rfl : k = vs.length := by omega
      go_wp2
      go_ret
      exact ⟨rfl, rfl⟩
set_option maxHeartbeats 1000000 in
set_option maxRecDepth 100000 in
theorem few_odd (w : World) (a : Option Addr) (c wd : Nat) (vs : List SL) (hL : Lies w a (vs.map sl)) (hn : vs.length ≤ 100) (h1 : 1 ≤ wd) (h64 : wd ≤ 64) (hall : ¬ allW vs wd) :
    Calls Tryz.prog 8 #[.slice a vs.length c, .int .i64 wd] w fun e w' => e = .returned (.bool false) ∧ w' = w := by
  have d1 : decide ((100 : Int) < vs.length) = false := decide_eq_false (by omega)
  have d2 : decide ((wd : Int) < 1) = false := decide_eq_false (by omega)
  have d3 : decide ((64 : Int) < wd) = false := decide_eq_false (by omega)
  have HL := Lib.hid hL
  have HA := Lib.hid hall
  clear hL hall
  go_enter Tryz.func8, Tryz.ntmps8
  go_wp2
  go_loopw [5] (fun i wr => ∃ k : Nat, k ≤ vs.length ∧ i = .int .i64 k ∧ wr = w ∧ allW (vs.take k) wd) (fun i _ => vs.length - (intOf i).toNat)
  case atStart => exact ⟨0, Nat.zero_le _, rfl, rfl, fun x h => by simp at h⟩
  case round =>
    obtain ⟨k, hk, rfl, rfl, hpre⟩ := hrel
    have HP := Lib.hid hpre
    clear hpre
    by_cases hlt : k < vs.length
    · obtain ⟨x, hx⟩ : ∃ x, vs[k]? = some x := ⟨vs[k], List.getElem?_eq_getElem hlt⟩
      have htk : vs.take (k + 1) = vs.take k ++ [x] := by rw [List.take_add_one, hx]; rfl
      have HT := Lib.hid htk
      clear htk
      obtain ⟨g, off, rfl, _, hcell⟩ : ∃ g off, a = some ⟨g, off, none⟩ ∧ g < wr.heap.size ∧ ∀ i u, (vs.map sl)[i]? = some u → wr.cell? ⟨g, off + i, none⟩ = some u := by
        rcases HL.out with e | h
        · have : vs = [] := by simpa using e
          rw [this] at hlt
          cases hlt
        · exact h
      have hck := hcell k (sl x) (by simp [hx])
      obtain ⟨xa, xn, xc⟩ := x
      unfold sl at hck
      dsimp only at hck
      clear hcell hx
      by_cases hxw : xn = wd
      · subst hxw
        have hw : RowKit.wrap64 ((k : Int) + 1) = (k : Int) + 1 := IntWalk.wrap64_in _ (by omega)
        go_wp2
        go_roundw
        case rel =>
          refine ⟨k + 1, by omega, by simp [hw], trivial, ?_⟩
          rw [HT.out]
          intro z hz
          rcases List.mem_append.1 hz with hz | hz
          · exact HP.out z hz
          · rw [List.mem_singleton.1 hz]
        case measure => simp [intOf, hw]; omega
      · have hbe : ((xn : Int) == (wd : Int)) = false := by simp; omega
        go_wp2
        go_ret
        exact ⟨rfl, rfl⟩
    · obtain rfl : k = vs.length := by omega
      exact absurd (by rw [List.take_length] at HP; exact HP.out) HA.out
end Go.Proofs.YtcdcnhecimajkaaGreat.Runs

/- The law's same, of two rows of the same texts. -/
namespace Go.Proofs.YtcdcnhecimajkaaGreat.Runs
open Go.RowKit Go.Deep Go.Shelf Mem Crc Go.Proofs.YtcdcnhecimajkaaGreat.Merge

attribute [local go_sem] Oper.semAt_some
theorem lies_at {w : World} {a : Option Addr} {xs : List Value} (h : Lies w a xs) {k : Nat} {u : Value} (hk : xs[k]? = some u) : ∃ g off, a = some ⟨g, off, none⟩ ∧ w.cell? ⟨g, off + k, none⟩ = some u := by
  rcases h with e | ⟨g, off, e, _, hc⟩
  · rw [e] at hk
    cases hk
  · exact ⟨g, off, e, hc k u hk⟩
set_option maxHeartbeats 1000000 in
set_option maxRecDepth 100000 in
theorem same_yes (w : World) (a b : Option Addr) (ca cb : Nat) (ss : List ByteArray) (hA : Lies w a (ss.map .string)) (hB : Lies w b (ss.map .string)) (hn : ss.length ≤ 1000000) :
    Calls Tryz.prog 14 #[.slice a ss.length ca, .slice b ss.length cb] w fun e w' => e = .returned (.bool true) ∧ ∃ n, w' = w.drewN n := by
  have HA := Lib.hid hA
  have HB := Lib.hid hB
  clear hA hB
  go_enter Tryz.func14, Tryz.ntmps14
  go_wp2
  go_loopw [5] (fun i wr => ∃ k m : Nat, k ≤ ss.length ∧ i = .int .i64 k ∧ wr = w.drewN m) (fun i _ => ss.length - (intOf i).toNat)
  case atStart => exact ⟨0, 0, Nat.zero_le _, rfl, rfl⟩
  case round =>
    obtain ⟨k, m, hk, rfl, rfl⟩ := hrel
    by_cases hlt : k < ss.length
    · obtain ⟨s, hs⟩ : ∃ s, ss[k]? = some s := ⟨ss[k], List.getElem?_eq_getElem hlt⟩
      obtain ⟨g, o, rfl, c1⟩ := lies_at (HA.out.drewN m) (k := k) (u := .string s) (by simp [hs])
      obtain ⟨q, p, rfl, c2⟩ := lies_at (HB.out.drewN m) (k := k) (u := .string s) (by simp [hs])
      obtain ⟨W, hW⟩ : ∃ W, W = w.drewN m := ⟨_, rfl⟩
      rw [← hW] at c1 c2 ⊢
      have HW := Lib.hid hW
      have hw : RowKit.wrap64 ((k : Int) + 1) = (k : Int) + 1 := IntWalk.wrap64_in _ (by omega)
      clear hs hW
      go_wp2
      go_quiet (fail)
      go_wp2
      go_roundw
      case rel => exact ⟨k + 1, m + nq, by omega, by simp [hw], by rw [HW.out]; simp [World.drewN, Nat.add_assoc]⟩
      case measure => simp [intOf, hw]; omega
    · obtain rfl : k = ss.length := by omega
      go_wp2
      go_ret
      exact ⟨rfl, m, rfl⟩
end Go.Proofs.YtcdcnhecimajkaaGreat.Runs

/- palmerlaw13: begin; the disk goes off; rows. -/
namespace Go.Proofs.YtcdcnhecimajkaaGreat.Runs
open Go.RowKit Go.Deep Go.Shelf Mem Crc Go.Maps Go.Proofs.YtcdcnhecimajkaaGreat.Merge Go.Proofs.YtcdcnhecimajkaaGreat.Sees
open Go.Proofs.YtcdcnhecimajkaaGreat.Store (Sto Files setF nv bare Bare St Chg none' filesOf)
open Go.Proofs.YtcdcnhecimajkaaGreat.Disk (Blank)

attribute [local go_sem] Oper.semAt_some
/-- No files. -/
def noF : Files := fun _ => none
theorem bare_new {w : World} {Q : Nat → Prop} {s d g N cm : Nat} (h : St w Q s d g N cm false none') : (bare s d g N cm).At w Q false noF 0 := ⟨⟨none', [], h, rfl, fun _ h => absurd rfl h, Nat.le_refl _, fun _ h => by simp at h⟩, by omega, fun _ _ h => by cases h⟩
theorem bare_off {w w' : World} {Q : Nat → Prop} {s d g N cm n : Nat} (h : (bare s d g N cm).At w Q false noF n) (hb : Blank w' d g N true) (ho : Only [d] w w') : (bare s d g N cm).At w' Q true noF n := by
  obtain ⟨⟨C, L, hs, hF, r⟩, h2, h3⟩ := h
  refine ⟨⟨C, L, ?_, hF, r⟩, h2, h3⟩
  obtain ⟨f, h4, h5, h6⟩ := hs.map
  have hds : s ≠ d := hs.store.ne hs.disk.disk (by decide)
  have hdm : cm ≠ d := fun e => by
    obtain ⟨D, n, ⟨es, cl, hb, _⟩, _⟩ := h4
    have hd := hs.disk.disk
    unfold Blk at hd
    rw [← e, hb] at hd
    cases hd
  refine ⟨hs.store.only ho (by simpa using hds), hb, ⟨f, h4.keep (ho.block _ h4.lt (by simpa using hdm)), h5, fun nm => ?_⟩, hs.qs, hs.qd, hs.qg, hs.qm, fun k hq => Nat.lt_of_lt_of_le (hs.lt k hq) ho.size⟩
  have hx := h6 nm
  have hn : filesOf C nm = none := by rw [← hF]; rfl
  unfold filesOf at hn
  unfold Go.Proofs.YtcdcnhecimajkaaGreat.Store.isChg at hx ⊢
  cases hc : C nm with
  | none => rw [hc] at hx; exact hx
  | some c =>
    rw [hc] at hn hx
    dsimp only at hn
    subst hn
    exact hx
set_option maxHeartbeats 400000 in
theorem begin_any (w : World) :
    Calls Tryz.prog 6 #[] w fun e w' => ∃ d s g cm Q, e = .returned (.tuple #[.pointer (some ⟨d, 0, none⟩), .pointer (some ⟨s, 0, none⟩), .bool true]) ∧ St w' Q s d g 400 cm false none' ∧ (∀ k, Q k → w.heap.size ≤ k) ∧ Below w.heap.size w w' := by
  have HN : Hid (Calls Tryz.prog 22 #[.int .i64 400] w fun e w' => ∃ d g, e = .returned (.tuple #[.pointer (some ⟨d, 0, none⟩), .int .i64 0]) ∧ Blank w' d g 400 false ∧ w.heap.size ≤ d ∧ w.heap.size ≤ g ∧ Below w.heap.size w w') := Lib.hid (Go.Proofs.YtcdcnhecimajkaaGreat.Disk.new_any 400 w (by decide) (by decide))
  go_enter Tryz.func6, Tryz.ntmps6
  go_wp2_with fail
  refine HN.out.mono ?_
  rintro e w1 ⟨d, g, rfl, hD, hd, hg, hB1⟩
  have HO := Lib.hid (Go.Proofs.YtcdcnhecimajkaaGreat.Store.open_any (N := 400) (by decide) hD)
  have HB1 := Lib.hid hB1
  clear hD hB1
  go_wp2_with fail
  refine HO.out.mono ?_
  rintro e w2 ⟨s, cm, rfl, hst, hs, hcm, hB2⟩
  have HST := Lib.hid hst
  have HB2 := Lib.hid hB2
  clear hst hB2
  go_wp2_with fail
  have := HB1.out.size
  refine bodyPost_ret (v := .tuple #[.pointer (some ⟨d, 0, none⟩), .pointer (some ⟨s, 0, none⟩), .bool true]) (by simp [results, Tryz.results6, go_sem]) rfl ⟨d, s, g, cm, _, rfl, HST.out, fun k hk => ?_, HB1.out.trans (HB2.out.mono this)⟩
  rcases hk with rfl | rfl | rfl | rfl <;> omega
/-- Records as texts. -/
def strB (b : B) : Value := .string ⟨b.toArray⟩
theorem infoStr : (Tryz.prog.info? 9).map (fun i => (i.zero, i.size, i.bytes)) = some (some (.string .empty), 1, 16) := by kernel_rfl
theorem conv_str {va : Option Addr} {vc : Nat} {b : B} {w : World} (hb : b ≠ []) (hL : Lies w va (b.map bv)) : (convert 36 9 (.slice va b.length vc)).run Tryz.prog w = .ok (strB b) w := by
  obtain ⟨g, off, rfl, _, hc⟩ := hL.resolve_left (fun e => by
    rw [List.map_eq_nil_iff] at e
    exact hb e)
  exact run_convert_bytes_back w 36 9 5 _ vc _ Tryz.underlying36 Tryz.underlying5 Tryz.underlying9 (fun j hj => lies_add (.inr ⟨g, off, rfl, by assumption, hc⟩) j _ (by simp [hj, bv]))
theorem own_block {w : World} {base : Nat} {y : SL} {b : B} (h : OwnB w base (sl y) b) (h0 : b ≠ []) : ∃ g cap cs, y = (some ⟨g, 0, none⟩, b.length, cap) ∧ base ≤ g ∧ Lies w (some ⟨g, 0, none⟩) (b.map bv) ∧ Blk w g 5 cs ∧ b.length ≤ cs.size := by
  obtain ⟨a, c, e, _, hL, _, _⟩ := own_shape h
  obtain ⟨ya, yn, yc⟩ := y
  rcases h.2 with ⟨_, e2⟩ | ⟨g, cap, cur, e2, hb, hg, h2, h3, h4, h5⟩
  · exact absurd (List.eq_nil_of_length_eq_zero e2) h0
  · unfold sl at e e2
    injection e with e3 e4 e5
    injection e2 with e6 e7 e8
    dsimp only at *
    refine ⟨g, cap, cur, by rw [e6, e7, e8], hb, by rw [← e6, e3]; exact hL, hg, ?_⟩
    rw [h4]
    omega
theorem not_typed {w : World} {g : Nat} {t : TypeId} {cs : Array Value} {ts : List TypeId} (h : Blk w g t cs) (ht : t ∉ ts) : ¬ typed ts w g := fun ⟨cs', t', fr, h1, h2⟩ => by
  unfold Blk at h
  rw [h] at h1
  injection h1 with h1
  injection h1 with _ h1
  exact ht (h1 ▸ h2)
theorem own_not_typed {w : World} {base : Nat} {e : TypeId} {size n : Nat} {v : Value} {xs : List Value} {ts : List TypeId} (h : w.ownsRow base e size v n xs) (ht : e ∉ ts) (g : Nat) (hg : v.ownBlock = some g) : ¬ typed ts w g := by
  rcases h.2 with ⟨rfl, _⟩ | ⟨g', cap, cur, rfl, _, hb, _⟩
  · cases hg
  · have e : g' = g := by simpa [Value.ownBlock] using hg
    subst e
    exact not_typed (t := e) hb ht
theorem keepsFrom_cells {B0 : Nat} {X Y : World} {gb : Nat} {t : TypeId} {cs : Array Value} (h : Only [gb] X Y) (hb : Blk X gb t cs) : KeepsFrom B0 X Y :=
  ⟨h.size, fun k o _ ho hc => (h.block k (Array.getElem?_eq_some_iff.1 ho).1 (fun hm => by
    rw [List.mem_singleton.1 hm] at ho
    unfold Blk at hb
    rw [hb] at ho
    cases ho
    cases hc)).trans ho⟩
theorem seq_not_nil (B0 : Nat) (w : World) : (binOp .eql 45 (.func (.func 55) #[] #[.pointer (some ⟨B0, 0, none⟩)]) .nilFunc).run Tryz.prog w = .ok (.bool false) w := by kernel_rfl
set_option maxHeartbeats 2000000 in
set_option maxRecDepth 100000 in
theorem rowsLaw_any {s : Nat} {S : Store.Sto s} {A : Fi} {w : World} {Q R : Nat → Prop} {off : Bool} {F : Files} {n x ne : Nat} {hv : Value} {vs : List SL} {held : List B} (h : Srt S A w Q R off F n x ne hv vs held) (ls : List (List B)) (hls : ls.length = ne) (hne : ne ≤ 1000) (hF : RunFiles A F ls) (hoff : off = false ∨ ne = 0) (all : List B) (hall : all = held ++ ls.flatten) (hmax : all.length ≤ 1000000) :
    Calls Tryz.prog 13 #[.pointer (some ⟨x, 0, none⟩)] w fun e w' => ∃ v, e = .returned (.tuple #[v, .int .i64 0]) ∧ w'.ownsRow w.heap.size 9 1 v all.length ((sortB all).map strB) ∧ Below w.heap.size w w' := by
  obtain ⟨i0, hi0, hz0, hz1, hz2⟩ := info_parts infoStr
  have H := Lib.hid h
  have HLS := Lib.hid hls
  have HFF := Lib.hid hF
  have HOFF := Lib.hid hoff
  have HMAX := Lib.hid hmax
  have HNE := Lib.hid hne
  have HALL := Lib.hid hall
  clear h hls hF hoff hmax hne hall
  refine (callsIn_wide (n := 5)).1 ?_
  refine callsIn_of_wp_marks Tryz.func13 rfl trivial ?_ rfl
  simp only [Tryz.ntmps13, List.size_toArray, List.length_cons, List.length_nil, Nat.reduceAdd, Nat.reduceSub, Array.replicate_succ, Array.replicate_zero, List.push_toArray, List.append_toArray, List.nil_append, List.cons_append]
  refine wpIn_wide.2 ?_
  go_wp2_with fail
  obtain ⟨W1, hW1⟩ : ∃ W1, W1 = (w.alloc (.cells #[] 9)).alloc (.cells #[.slice (some ⟨w.heap.size, 0, none⟩) 0 0] 34) := ⟨_, rfl⟩
  obtain ⟨tb, htb⟩ : ∃ tb, tb = w.heap.size + 1 := ⟨_, rfl⟩
  have hB1 : Below w.heap.size w W1 := by rw [hW1]; exact ((Below.refl _ w).alloc (Nat.le_refl _) _).alloc (by simp) _
  have hbx : Boxed W1 tb 34 (.slice (some ⟨w.heap.size, 0, none⟩) 0 0) := by
    have := Boxed.new (w.alloc (.cells #[] 9)) 34 (.slice (some ⟨w.heap.size, 0, none⟩) 0 0)
    rw [World.size_alloc] at this
    rw [hW1, htb]
    exact this
  have hown0 : W1.ownsRow w.heap.size 9 1 (.slice (some ⟨w.heap.size, 0, none⟩) 0 0) 0 [] := by rw [hW1]; exact (own_empty w 9 1).alloc _
  have hsz1 : W1.heap.size = w.heap.size + 2 := by rw [hW1]; simp
  rw [← hW1, ← htb]
  have HRO := Lib.hid (rows_any (H.out.later hB1) ls HLS.out HNE.out HFF.out HOFF.out)
  have HB1 := Lib.hid hB1
  have HBX := Lib.hid hbx
  have HOWN0 := Lib.hid hown0
  have HTB := Lib.hid htb
  have HSZ1 := Lib.hid hsz1
  clear hW1 htb hB1 hbx hown0 hsz1
  refine HRO.out.mono ?_
  rintro e w2 ⟨Bs, rs, ad, c, rfl, hM, hrl, hperm, hB2⟩
  have c4 : w2.cell? ⟨tb, 0, none⟩ = some (.slice (some ⟨w.heap.size, 0, none⟩) 0 0) := (hB2.cell (p := ⟨tb, 0, none⟩) HBX.out.lt).trans HBX.out.cell
  have HM := Lib.hid hM
  have HPERM := Lib.hid hperm
  have HB2 := Lib.hid hB2
  have HRL := Lib.hid hrl
  have hqn := seq_not_nil Bs w2
  clear hM hperm hB2 hrl HRO
  go_wp2_with fail
  have hall := HALL.out
  have hwide : ∀ b ∈ all, b.length = A.wd := fun b hb => by
    rw [hall] at hb
    rcases List.mem_append.1 hb with hb | hb
    · exact H.out.mem.wide b hb
    · obtain ⟨l, hl, hb⟩ := List.mem_flatten.1 hb
      exact HFF.out.wide l hl b hb
  have hok := H.out.ok
  have hwd1 : 1 ≤ A.wd := hok.2.2.1
  have hwd2 : A.wd ≤ 64 := hok.2.2.2.1
  have HWIDE := Lib.hid hwide
  obtain ⟨U, hU⟩ : ∃ U, U = Mid R W1 w2 := ⟨_, rfl⟩
  have hUlt : ∀ k, U k → k < w2.heap.size := fun k hk => by
    rw [hU] at hk
    rcases hk with hk | hk
    · have h1 := H.out.mem.rlt k hk
      have h2 := HB1.out.size
      have h3 := HB2.out.size
      omega
    · exact hk.2
  have hUout : ∀ k, U k → k ≠ tb ∧ (w.heap.size ≤ k → w.heap.size + 2 ≤ k ∧ k < w2.heap.size) := fun k hk => by
    have h0 := HSZ1.out
    have h1 := HTB.out
    rw [hU] at hk
    rcases hk with hk | hk
    · have h2 := H.out.mem.rlt k hk
      exact ⟨by omega, fun h => by omega⟩
    · exact ⟨by omega, fun h => by omega⟩
  have HU := Lib.hid hU
  have HUO := Lib.hid hUout
  have hrows : ∀ r ∈ rs, RowB w2 U r ∧ Rises r.2 := by rw [hU]; exact HM.out.rows
  have hpall : ((rs.map Prod.snd).flatten).Perm all := by rw [hall]; exact HPERM.out
  have HSEQ := Lib.hid (merge_sees 4 (by omega) Bs (w0 := ⟨w2, U, hUlt⟩) (s := sortB all) HM.out.row HM.out.cap HM.out.pos (by rw [HRL.out]; have := HNE.out; omega) hrows hpall (sortB_rises all) (sortB_perm all) (fun b hb => by have := hwide b hb; omega) HM.out.box.lt (by have := HM.out.box.cell 0; simpa using this))
  have HMAX2 := Lib.hid (show (sortB all).length ≤ 1000000 from by rw [(sortB_perm all).length_eq]; exact HMAX.out)
  have HLE := Lib.hid (show (sortB all).length = all.length from (sortB_perm all).length_eq)
  have hw02 : w.heap.size + 2 ≤ w2.heap.size := by have := HSZ1.out; have := HB2.out.size; omega
  clear hall hwide hU hUout hok hqn c4 hrows hpall
  refine (wpIn_wide (n := 5)).1 ?_
  refine wpIn_range_sees rfl (by omega) (gf := 55) (lb := #[.pointer (some ⟨Bs, 0, none⟩)]) rfl trivial (enters_of Tryz.func55 (by kernel_rfl) rfl) HSEQ.out ?mine (fun h k => h.trans k) (fun W l o o' hl ho hc _ => KeepT.putObj W l o o' (fun hu => by have := hUlt l hu; omega) ho hc) ?vput (Below.refl _ _) (fun _ => rfl)
    (fun pre W => ((∃ v, Boxed W tb 34 v ∧ W.ownsRow w.heap.size 9 1 v pre.length (pre.map (fun y => strB y.2)) ∧ ∀ g, v.ownBlock = some g → g = w.heap.size ∨ w2.heap.size ≤ g) ∧ Below w.heap.size w W) ∧ pre.length ≤ (sortB all).length)
    (fun _ _ _ => False)
    (OwnFrom.and (OwnFrom.and (Own.from (holdsRow_own w.heap.size tb 34 9 1 (fun pre : List Told => pre.length) (fun pre => pre.map (fun y => strB y.2)) (fun _ v => ∀ g, v.ownBlock = some g → g = w.heap.size ∨ w2.heap.size ≤ g)) _) (ownFrom_below (Nat.le_refl _) (by omega))) (fun _ _ _ _ hs _ _ => hs))
    (fun _ _ _ _ _ hs _ _ => hs) ?imine (fun _ _ _ _ h _ => h)
    ⟨⟨⟨_, (HB2.out.block tb HBX.out.lt).trans HBX.out, own_later HOWN0.out HB2.out, fun g hg => .inl (by simpa [Value.ownBlock] using hg.symm)⟩, HB1.out.trans (HB2.out.mono HB1.out.size)⟩, Nat.zero_le _⟩
    (fun y => { tmps := #[.pointer (some ⟨x, 0, none⟩), undef, .slice none 0 0, .int .i64 0, .pointer (some ⟨tb, 0, none⟩), .func (.func 55) #[] #[.pointer (some ⟨Bs, 0, none⟩)], .int .i64 0, sl y.1, undef, .slice (some ⟨w.heap.size, 0, none⟩) 0 0, .tuple #[.func (.func 55) #[] #[.pointer (some ⟨Bs, 0, none⟩)], .int .i64 0], .pointer (some ⟨x, 0, none⟩), .tuple #[.func (.func 55) #[] #[.pointer (some ⟨Bs, 0, none⟩)], .int .i64 0], .func (.func 55) #[] #[.pointer (some ⟨Bs, 0, none⟩)], .int .i64 0, .int .i64 0, .bool false, undef, undef, .func (.func 55) #[] #[.pointer (some ⟨Bs, 0, none⟩)], .bool false, undef, .func (.func 55) #[] #[.pointer (some ⟨Bs, 0, none⟩)], sl y.1, undef, undef, undef, undef, undef, undef, undef, undef, undef, undef, undef, undef, undef, undef, undef, undef], defers := [] }) ?assign ?body ?done ?stop
  case mine =>
    intro X Y hf
    refine ⟨hf.size, fun k o hB ho hc => (hf.block k (Array.getElem?_eq_some_iff.1 ho).1 (.inr (fun ⟨cs, t, fr, h1, h2⟩ => ?_))).trans ho⟩
    rw [ho] at h1
    cases h1
    cases hc
  case vput =>
    rintro pre y W l o o' ⟨h1, h2⟩ hl ho hc
    exact ⟨h1, ownsRow_putObj h2 o' ho hc⟩
  case imine =>
    rintro pre X Y ⟨⟨⟨v, hv, hrow, hvb⟩, hB⟩, hlN⟩ hf
    refine ⟨⟨⟨v, hf.keep (t := 34) hv (.inr (by decide)), hf.row hrow (by decide), hvb⟩, hB.trans ⟨hf.os, hf.tape, hf.output, hf.size, fun k hk => hf.block k (Nat.lt_of_lt_of_le hk hB.size) (.inl (by show k < w2.heap.size; omega))⟩⟩, hlN⟩
  case assign =>
    intro l y W K hK
    unfold told
    unfold sl at hK ⊢
    gi_wp2
    exact hK
  case body =>
    rintro l pre ⟨⟨xa, xn, xc⟩, b⟩ W ⟨⟨⟨v, hv, hrow, hvb⟩, hB⟩, hlN⟩ hlt ⟨hpre, hO⟩
    have hbm : b ∈ all := (sortB_perm all).mem_iff.1 (hpre.subset (by simp))
    have hbw := HWIDE.out b hbm
    have hbne : b ≠ [] := fun e => by rw [e] at hbw; simp at hbw; omega
    obtain ⟨gb, cb, csb, ey, hgb, hLb, hblk, hcsb⟩ := own_block hO hbne
    have hO' := hO
    dsimp only at ey
    rw [ey] at hO'
    injection ey with ey1 ey2
    injection ey2 with ey2 ey3
    subst ey1 ey2 ey3
    have hbl : b.length ≤ 64 := by omega
    have c1 := hv.cell
    have hcv := conv_str (vc := xc) hbne hLb
    have hs := hB.size
    obtain ⟨BL, hBL⟩ : ∃ BL, BL = b.length := ⟨_, rfl⟩
    obtain ⟨sb, hsb⟩ : ∃ sb : ByteArray, .string sb = strB b := ⟨_, rfl⟩
    rw [← hBL, ← hsb] at hcv
    obtain ⟨K0, hK0⟩ : ∃ K0, K0 = pre.length := ⟨_, rfl⟩
    have hK0m : K0 ≤ 1000000 := by rw [hK0]; exact Nat.le_trans hlN HMAX2.out
    have HV := Lib.hid hv
    have HB := Lib.hid hB
    have HROW := Lib.hid hrow
    have HVB := Lib.hid hvb
    have HPRE := Lib.hid hpre
    have HBL := Lib.hid hBL
    have HSB := Lib.hid hsb
    have HK0 := Lib.hid hK0
    have HLT := Lib.hid hlt
    obtain ⟨va, vc, rfl, _, _, _, hvo⟩ := own_shape hrow
    rw [← hK0] at c1 hvo
    have HVO := Lib.hid hvo
    have hBL64 : BL ≤ 64 := by omega
    have hBL1 : 1 ≤ BL := by rw [hBL]; exact List.length_pos_iff.2 hbne
    have HROW2 := Lib.hid (show W.ownsRow w.heap.size 9 1 (.slice va K0 vc) K0 (pre.map (fun y => strB y.2)) from by rw [hK0]; exact hrow)
    have hnl : ∀ (W : World), W = W := fun _ => rfl
    have HBLK := Lib.hid hblk
    have HCSB := Lib.hid hcsb
    clear hv hB hrow hvb hO hO' hpre hBL hsb hK0 hlt hlN hLb hvo hbm hbw hnl hblk hcsb
    unfold sl
    rw [← HBL.out]
    gi_wp2_with (first
      | (gi_at_builtin
         refine wpListIn_append_lies _ rfl _ _ 34 rfl w.heap.size 9 i0 (.string .empty) 1 16 Tryz.underlying34 hi0 hz0 hz1 hz2 rfl (by decide) _ _ _ rfl (HROW2.out.alloc _) ⟨W.heap.size, 0, none⟩ 1 1 [.string sb] rfl rfl (one_at rfl) (by simp [Value.oneCell']) (by decide) (by unfold maxLen; omega) (by omega) (by rw [World.size_alloc]; omega) ?_
         intro g3 c3 w3 hown3 hg3 hat3 hlt3
         have hap := HV.out.appended (by decide) HROW.out hs (by rw [HTB.out]; omega) hown3 (by rw [← HK0.out]; exact hg3)
         obtain ⟨q1, q2, q3, q4, q5⟩ := hap
         have g1 := q1.cell
         have g2 := q1.frozen
         have HQ2 := Lib.hid q2
         have HQ3 := Lib.hid q3
         have HQ4 := Lib.hid q4
         have HQ5 := Lib.hid q5
         have HG3 := Lib.hid hg3
         have HAT3 := Lib.hid hat3
         clear q1 q2 q3 q4 q5 hown3 hg3 hat3 hlt3)
      | gi_round_op_a)
    obtain ⟨W3, hW3⟩ : ∃ W3, W3 = w3.setCell ⟨tb, 0, none⟩ (.slice (some ⟨g3, 0, none⟩) (K0 + 1) c3) := ⟨_, rfl⟩
    have hq2 := HQ2.out
    have hq3 := HQ3.out
    have hq4 := HQ4.out
    have hq5 := HQ5.out
    rw [← hW3] at hq2 hq3 hq4 hq5 ⊢
    have hvne := own_ne_blk HROW.out HBLK.out (by decide)
    have hgt : gb ≠ tb := fun e => by
      have h1 := HBLK.out
      have h2 := HV.out
      unfold Blk at h1
      unfold Boxed at h2
      rw [e, h2] at h1
      injection h1 with h1
      injection h1 with _ h1
      cases h1
    have hb3 : Blk W3 gb 5 csb := by
      rw [hW3]
      refine Blk.far (Blk.grown (HBLK.out.alloc _) HG3.out (fun e => ?_)) (by exact hgt) _
      rw [HK0.out] at e
      exact hvne e.symm
    have HB3 := Lib.hid hb3
    have HK4 := Lib.hid hq4
    have HIN := Lib.hid (And.intro hq2 (And.intro hq3 hq5))
    have HUP : Hid (Upon (fun g => g = tb ∨ (Value.slice va K0 vc).ownBlock = some g) W W3) := Lib.hid (by
      have h1 : Upon (fun g => g = tb ∨ (Value.slice va K0 vc).ownBlock = some g) W (W.alloc (.cells #[.string sb] 9)) := Upon.of_below ((Below.refl _ W).alloc (Nat.le_refl _) _)
      have h2 : Upon (fun g => g = tb ∨ (Value.slice va K0 vc).ownBlock = some g) (W.alloc (.cells #[.string sb] 9)) w3 := Upon.of_grown HG3.out (fun g hg => .inl (.inr hg))
      have h3 := h1.trans h2 (fun g hg => .inl hg)
      rw [hW3]
      exact h3.set (p := ⟨tb, 0, none⟩) (.inl (.inl rfl)) _)
    clear hW3 hq2 hq3 hq4 hq5 hb3 HQ2 HQ3 HQ4 HQ5 g1 g2 c1 hcv
    gi_loopw [8] (fun i wr => ∃ (k : Nat) (cs : Array Value), k ≤ BL ∧ i = .int .i64 k ∧ Blk wr gb 5 cs ∧ BL ≤ cs.size ∧ Only [gb] W3 wr) (fun i _ => BL - (intOf i).toNat)
    case atStart => exact ⟨0, csb, Nat.zero_le _, rfl, HB3.out, by rw [HBL.out]; exact HCSB.out, Only.refl _ _⟩
    case round =>
      obtain ⟨k, cs, hk, rfl, hbk, hcs, hon⟩ := hrel
      by_cases hlt : k < BL
      · obtain ⟨u, hu⟩ : ∃ u, wr.cell? ⟨gb, k, none⟩ = some u := ⟨cs[k], (hbk.cell k).trans (Array.getElem?_eq_getElem (by omega))⟩
        have hf := hbk.frozen k
        have HBK := Lib.hid hbk
        have HON := Lib.hid hon
        clear hbk hon
        gi_wp2
        go_roundw
        case rel => exact ⟨k + 1, _, by omega, by simp, HBK.out.set k _, by rw [Array.size_setIfInBounds]; exact hcs, HON.out.set (p := ⟨gb, k, none⟩) (.inl (by simp)) _⟩
        case measure => simp [intOf]; omega
      · have HBK := Lib.hid hbk
        have HON := Lib.hid hon
        clear hbk hon
        gi_wp2
        have hgbl := HBLK.out.lt
        have hup : Upon (fun g => (g = tb ∨ (Value.slice va K0 vc).ownBlock = some g) ∨ g = gb) W wr := (HUP.out.mono (fun k h => .inl h)).trans (Upon.of_only (P := fun g => g = gb) HON.out (fun g hg => .inl (List.mem_singleton.1 hg))) (fun g hg => .inl (.inr hg))
        refine ⟨(HK4.out.from _).trans (keepsFrom_cells HON.out HB3.out), KeepT.of_upon hup (fun g hg _ => ?_), ⟨⟨_, (HON.out.block tb HIN.out.1.lt (by simpa using Ne.symm hgt)).trans HIN.out.1, ?_, fun g hg => ?_⟩, ?_⟩, ?_⟩
        · rcases hg with (rfl | hg) | rfl
          · exact ⟨fun hu => (HUO.out _ hu).1 rfl, not_typed (t := 34) HV.out (by decide)⟩
          · refine ⟨fun hu => ?_, own_not_typed HROW2.out (by decide) g hg⟩
            have h1 := HUO.out g hu
            have h2 := (HROW2.out.lt g hg).1
            have h3 := h1.2 h2
            rcases HVB.out g (by rw [← HK0.out]; exact hg) with h4 | h4 <;> omega
          · refine ⟨fun hu => ?_, not_typed HBLK.out (by decide)⟩
            have h1 := hUlt _ hu
            omega
        · have h1 := own_only HIN.out.2.1 HON.out (fun g hg e => own_ne_blk HIN.out.2.1 HB3.out (by decide) (by rw [hg, List.mem_singleton.1 e]))
          rw [List.length_append, List.map_append, ← HK0.out]
          simpa [HSB.out] using h1
        · have e : g3 = g := by simpa [Value.ownBlock] using hg
          rcases HAT3.out with h1 | h1
          · exact HVB.out g (by rw [← HK0.out, ← e]; exact h1)
          · right
            rw [World.size_alloc] at h1
            omega
        · exact (HB.out.trans (HIN.out.2.2)).trans (HON.out.below (Nat.le_trans (HB.out.trans HIN.out.2.2).size (Nat.le_refl _)) (fun g hg => by rw [List.mem_singleton.1 hg]; omega))
        · rw [List.length_append]
          exact HLT.out
  case done =>
    rintro D ys W hD hys ⟨⟨⟨v, hv, hrow, _⟩, hB⟩, hlN⟩ hK
    have c1 := hv.cell
    have g0 := (boxed_put (.deferred none) hv hK rfl).cell
    have HK := Lib.hid hK
    have HB := Lib.hid hB
    have hlen : ys.length = all.length := by
      have := congrArg List.length hys
      rw [List.length_map] at this
      exact this.trans HLE.out
    have hrow2 : W.ownsRow w.heap.size 9 1 v all.length ((sortB all).map strB) := by
      rw [hlen] at hrow
      rw [← hys, List.map_map]
      exact hrow
    have HROW := Lib.hid hrow2
    have hDW := (Array.getElem?_eq_some_iff.1 hK).1
    obtain ⟨va, vc, rfl, _, _, _, _⟩ := own_shape hrow2
    obtain ⟨AL, hAL⟩ : ∃ AL, AL = all.length := ⟨_, rfl⟩
    rw [← hAL] at c1 g0
    have HAL := Lib.hid hAL
    clear hK hB hv hrow hrow2 hlen hys hAL
    dsimp only
    gi_wp2
    go_wp2_with fail
    refine ⟨by simp, .inl ⟨_, _, rfl, run_takeDeferred HK.out, ?_⟩⟩
    refine ⟨.tuple #[.slice va AL vc, .int .i64 0], by simp [results, Tryz.f13, Tryz.results13, go_sem], _, rfl, ?_, ?_⟩
    · rw [HAL.out]
      exact ownsRow_putObj HROW.out _ HK.out rfl
    · exact HB.out.trans ((Below.refl _ W).grown (grownBy_putObj' W D _) (by have := HB.out.size; omega) (fun q e => by cases e; omega))
  case stop =>
    rintro D c pre W hD _ hI hK
    exact hI.elim
end Go.Proofs.YtcdcnhecimajkaaGreat.Runs

/- palmerlaw13: a sorter as the laws use it; awake. -/
namespace Go.Proofs.YtcdcnhecimajkaaGreat.Runs
open Go.RowKit Go.Deep Go.Shelf Mem Crc Go.Maps Go.Proofs.YtcdcnhecimajkaaGreat.Merge
open Go.Proofs.YtcdcnhecimajkaaGreat.Store (Sto Files setF setF_same setF_other nv bare Bare St Chg none' filesOf)
open Go.Proofs.YtcdcnhecimajkaaGreat.Disk (Blank)

attribute [local go_sem] Oper.semAt_some
/-- A sorter with its runs and its memory; all its blocks lie from B0 on. -/
structure LiveAt {s : Nat} (S : Store.Sto s) (A : Fi) (B0 : Nat) (w : World) (x : Nat) (off : Bool) (ls : List (List B)) (held : List B) (n : Nat) (Q R : Nat → Prop) (F : Files) (hv : Value) (vs : List SL) : Prop where
  srt : Srt S A w Q R off F n x ls.length hv vs held
  files : RunFiles A F ls
  q : ∀ k, Q k → B0 ≤ k
  r : ∀ k, R k → B0 ≤ k
  x : B0 ≤ x
  h : ∀ k, hv.ownBlock = some k → B0 ≤ k
def Live {s : Nat} (S : Store.Sto s) (A : Fi) (B0 : Nat) (w : World) (x : Nat) (off : Bool) (ls : List (List B)) (held : List B) (n : Nat) : Prop := ∃ m Q R F hv vs, m ≤ n ∧ LiveAt S A B0 w x off ls held m Q R F hv vs
theorem Live.later {s : Nat} {S : Store.Sto s} {A : Fi} {B0 : Nat} {w w' : World} {x : Nat} {off : Bool} {ls : List (List B)} {held : List B} {n : Nat} (h : Live S A B0 w x off ls held n) (hB : Below w.heap.size w w') : Live S A B0 w' x off ls held n := by
  obtain ⟨m, Q, R, F, hv, vs, hm, h⟩ := h
  exact ⟨m, Q, R, F, hv, vs, hm, h.srt.later hB, h.files, h.q, h.r, h.x, h.h⟩
/-- Put, plain. -/
def putM (rm : Nat) (st : List (List B) × List B) (b : B) : List (List B) × List B := if st.2.length = rm then (st.1 ++ [st.2], [b]) else (st.1, st.2 ++ [b])
theorem putM_perm (rm : Nat) (st : List (List B) × List B) (b : B) : ((putM rm st b).2 ++ (putM rm st b).1.flatten).Perm ((st.2 ++ st.1.flatten) ++ [b]) := by
  unfold putM
  split
  · dsimp only
    rw [List.flatten_append]
    simp only [List.flatten_cons, List.flatten_nil, List.append_nil]
    refine (List.perm_append_comm).trans ?_
    exact List.Perm.append_right _ List.perm_append_comm
  · dsimp only
    rw [List.append_assoc, List.append_assoc]
    exact List.Perm.append_left _ List.perm_append_comm
theorem files_more {A : Fi} {F : Files} {ls : List (List B)} {held : List B} (h : RunFiles A F ls) (hl : ls.length ≤ 1000000) (hw : ∀ b ∈ held, b.length = A.wd) (h0 : held ≠ []) (hm : held.length ≤ 4096) : RunFiles A (setF F (rname A.pf ls.length) (some (runB held))) (ls ++ [held]) := by
  refine ⟨fun j l hj => ?_, fun l hl' => ?_, fun l hl' => ?_, fun l hl' => ?_⟩
  · by_cases e : j < ls.length
    · rw [List.getElem?_append_left e] at hj
      rw [setF_other _ (fun e2 => by have := rname_inj (by omega) (by omega) e2; omega)]
      exact h.at_ j l hj
    · rw [List.getElem?_append_right (by omega)] at hj
      have : j - ls.length = 0 := by
        have := (List.getElem?_eq_some_iff.1 hj).1
        simp at this
        omega
      rw [this] at hj
      simp at hj
      subst hj
      have e2 : j = ls.length := by omega
      rw [e2, setF_same]
  · rcases List.mem_append.1 hl' with hl' | hl'
    · exact h.wide l hl'
    · rw [List.mem_singleton.1 hl']; exact hw
  · rcases List.mem_append.1 hl' with hl' | hl'
    · exact h.some_ l hl'
    · rw [List.mem_singleton.1 hl']; exact h0
  · rcases List.mem_append.1 hl' with hl' | hl'
    · exact h.few l hl'
    · rw [List.mem_singleton.1 hl']; exact hm
theorem Flushed.live {s : Nat} {S : Store.Sto s} {A : Fi} {B0 : Nat} {w w' : World} {x : Nat} {ls : List (List B)} {held : List B} {n : Nat} {Q R Q' : Nat → Prop} {F : Files} {hv : Value} {vs : List SL} (h : LiveAt S A B0 w x false ls held n Q R F hv vs) (h0 : held ≠ []) (hf : Flushed S A w w' Q F n x ls.length held Q') (hBw : B0 ≤ w.heap.size) (hl : ls.length ≤ 1000000) : LiveAt S A B0 w' x false (ls ++ [held]) [] (n + 1) Q' (fun _ => False) (setF F (rname A.pf ls.length) (some (runB held))) (.slice none 0 0) [] ∧ Below B0 w w' := by
  refine ⟨⟨by have := hf.srt; simpa using this, files_more h.files hl h.srt.mem.wide h0 (Nat.le_trans h.srt.room h.srt.ok.2.2.2.2.2), fun k hk => (hf.q k hk).elim (h.q k) (fun h => by omega), fun _ h => h.elim, h.x, fun _ h => by cases h⟩, hf.upon.below hBw (fun g hg => hg.elim (h.q g) (fun e => by rw [e]; exact h.x))⟩
theorem live_flush {s : Nat} {S : Store.Sto s} {A : Fi} {B0 : Nat} {w : World} {x : Nat} {ls : List (List B)} {held : List B} {n : Nat} (h : Live S A B0 w x false ls held n) (h0 : held ≠ []) (hBw : B0 ≤ w.heap.size) (hn : n < 10000) (hl : ls.length < 10000) :
    Calls Tryz.prog 12 #[.pointer (some ⟨x, 0, none⟩)] w fun e w' => e = .returned (.int .i64 0) ∧ Live S A B0 w' x false (ls ++ [held]) [] (n + 1) ∧ Below B0 w w' := by
  obtain ⟨m, Q, R, F, hv, vs, hm, h⟩ := h
  refine (flush_any h.srt h0 (by omega) (by omega)).mono ?_
  rintro e w' ⟨rfl, Q', hf⟩
  have := hf.live h h0 hBw (by omega)
  exact ⟨rfl, ⟨_, _, _, _, _, _, by omega, this.1⟩, this.2⟩
theorem Putted.live {s : Nat} {S : Store.Sto s} {A : Fi} {B0 : Nat} {w w' : World} {x : Nat} {off : Bool} {ls : List (List B)} {held held' : List B} {n : Nat} {Q R R' : Nat → Prop} {F : Files} {hv hv' : Value} {vs vs' : List SL} (h : LiveAt S A B0 w x off ls held n Q R F hv vs) (hp : Putted S A w w' Q R off F n x ls.length hv held' R' hv' vs') (hBw : B0 ≤ w.heap.size) : LiveAt S A B0 w' x off ls held' n Q R' F hv' vs' ∧ Below B0 w w' :=
  ⟨⟨hp.srt, h.files, h.q, fun k hk => (hp.r k hk).elim (h.r k) (fun h => by omega), h.x, fun k hk => (hp.h k hk).elim (h.h k) (fun h => by omega)⟩, hp.upon.below hBw (fun g hg => hg.elim (fun e => by rw [e]; exact h.x) (h.h g))⟩
/-- Put of a record that lies before B0, or that is new. -/
theorem live_put {s : Nat} {S : Store.Sto s} {A : Fi} {B0 : Nat} {w0 w : World} {x : Nat} {ls : List (List B)} {held : List B} {n : Nat} (h : Live S A B0 w0 x false ls held n) (hBw : B0 ≤ w0.heap.size) (hB : Below w0.heap.size w0 w) (hn : n < 10000) (hl : ls.length < 10000) {b : B} (hb : b.length = A.wd) (a : Option Addr) (cp : Nat) (hL : Lies w a (b.map bv)) (hLB : ∀ g, Mem.blk a = some g → g < B0 ∨ w0.heap.size ≤ g) :
    Calls Tryz.prog 10 #[.pointer (some ⟨x, 0, none⟩), .slice a b.length cp] w fun e w' => e = .returned (.int .i64 0) ∧ Live S A B0 w' x false (putM A.rm (ls, held) b).1 (putM A.rm (ls, held) b).2 (n + 1) ∧ Below B0 w w' := by
  obtain ⟨m, Q, R, F, hv, vs, hm, h0⟩ := h
  have h1 : LiveAt S A B0 w x false ls held m Q R F hv vs := ⟨h0.srt.later hB, h0.files, h0.q, h0.r, h0.x, h0.h⟩
  have hBw' : B0 ≤ w.heap.size := Nat.le_trans hBw hB.size
  unfold putM
  by_cases hf : held.length = A.rm
  · simp only [if_pos hf]
    have hne : held ≠ [] := fun e => by
      have := h1.srt.ok.2.2.2.2.1
      rw [e] at hf
      simp at hf
      omega
    refine (put_full h1.srt hf (by omega) (by omega) hb a cp hL (fun g hg => ?_)).mono ?_
    · have hx := h0.srt.blk.lt
      rcases hLB g hg with h2 | h2
      · exact ⟨fun hq => by have := h0.q g hq; omega, fun e => by have := h0.x; omega⟩
      · exact ⟨fun hq => by have := S.lt h0.srt.sto g hq; omega, fun e => by omega⟩
    · rintro e w' ⟨rfl, w1, Q1, R', hv', vs', hf1, hp⟩
      have hl1 := hf1.live h1 hne hBw' (by omega)
      have hsz := hl1.2.size
      have hp' : Putted S A w1 w' Q1 (fun _ => False) false (setF F (rname A.pf ls.length) (some (runB held))) (m + 1) x (ls ++ [held]).length (.slice none 0 0) [b] R' hv' vs' := by
        rw [List.length_append]
        exact hp
      have hl2 := hp'.live hl1.1 (by omega)
      exact ⟨rfl, ⟨_, _, _, _, _, _, by omega, hl2.1⟩, hl1.2.trans hl2.2⟩
  · simp only [if_neg hf]
    refine (put_room h1.srt (by have := h1.srt.room; omega) hb a cp hL).mono ?_
    rintro e w' ⟨rfl, R', hv', vs', hp⟩
    have hl2 := hp.live h1 hBw'
    exact ⟨rfl, ⟨_, _, _, _, _, _, by omega, hl2.1⟩, hl2.2⟩
theorem live_held {s : Nat} {S : Store.Sto s} {A : Fi} {B0 : Nat} {w : World} {x : Nat} {off : Bool} {ls : List (List B)} {held : List B} {n : Nat} (h : Live S A B0 w x off ls held n) :
    Calls Tryz.prog 11 #[.pointer (some ⟨x, 0, none⟩)] w fun e w' => e = .returned (.int .i64 held.length) ∧ w = w' := by
  obtain ⟨m, Q, R, F, hv, vs, hm, h⟩ := h
  exact held_any h.srt
theorem live_runs {s : Nat} {S : Store.Sto s} {A : Fi} {B0 : Nat} {w : World} {x : Nat} {off : Bool} {ls : List (List B)} {held : List B} {n : Nat} (h : Live S A B0 w x off ls held n) :
    Calls Tryz.prog 20 #[.pointer (some ⟨x, 0, none⟩)] w fun e w' => e = .returned (.int .i64 ls.length) ∧ Below w.heap.size w w' := by
  obtain ⟨m, Q, R, F, hv, vs, hm, h⟩ := h
  refine (runs_any h.srt).mono ?_
  rintro e w' ⟨rfl, m, rfl⟩
  exact ⟨rfl, rfl, rfl, rfl, Nat.le_refl _, fun _ _ => rfl⟩
theorem live_rows {s : Nat} {S : Store.Sto s} {A : Fi} {B0 : Nat} {w : World} {x : Nat} {off : Bool} {ls : List (List B)} {held : List B} {n : Nat} (h : Live S A B0 w x off ls held n) (hl : ls.length ≤ 1000) (hoff : off = false ∨ ls = []) (all : List B) (hall : all = held ++ ls.flatten) (hmax : all.length ≤ 1000000) :
    Calls Tryz.prog 13 #[.pointer (some ⟨x, 0, none⟩)] w fun e w' => ∃ v, e = .returned (.tuple #[v, .int .i64 0]) ∧ w'.ownsRow w.heap.size 9 1 v all.length ((sortB all).map strB) ∧ Below w.heap.size w w' := by
  obtain ⟨m, Q, R, F, hv, vs, hm, h⟩ := h
  exact rowsLaw_any h.srt ls rfl hl h.files (hoff.imp id (fun e => by rw [e]; rfl)) all hall hmax
/-- "r". -/
def rpf : List UInt8 := [114]
def fiR (s wd rm : Nat) : Fi := ⟨s, rpf, wd, rm⟩
/-- begin, and a new sorter. -/
theorem new_live {d s g cm : Nat} {w w0 : World} {Q : Nat → Prop} (h : St w Q s d g 400 cm false none') (B0 : Nat) (hQ : ∀ k, Q k → B0 ≤ k) (hB0 : B0 ≤ w.heap.size) (wd rm : Nat) (h1 : 1 ≤ wd) (h2 : wd ≤ 64) (h3 : 1 ≤ rm) (h4 : rm ≤ 4096) :
    Calls Tryz.prog 7 #[.pointer (some ⟨s, 0, none⟩), .string ⟨#[114]⟩, .int .i64 wd, .int .i64 rm] w fun e w' => ∃ x, e = .returned (.tuple #[.pointer (some ⟨x, 0, none⟩), .int .i64 0]) ∧ Live (bare s d g 400 cm) (fiR s wd rm) B0 w' x false [] [] 0 ∧ Below w.heap.size w w' := by
  refine (new_any (bare s d g 400 cm) (fiR s wd rm) rfl ⟨by simp [fiR, rpf], by simp [fiR, rpf], h1, h2, h3, h4⟩ (bare_new h)).mono ?_
  rintro e w' ⟨x, ne, rfl, hn⟩
  have hne : ne = 0 := by
    rcases Nat.eq_zero_or_pos ne with h | h
    · exact h
    · exact absurd rfl (hn.runs 0 h)
  subst hne
  exact ⟨x, rfl, ⟨0, Q, _, noF, _, _, Nat.le_refl _, hn.srt, ⟨fun j l hj => by simp at hj, fun l hl => by simp at hl, fun l hl => by simp at hl, fun l hl => by simp at hl⟩, hQ, fun _ h => h.elim, by have := hn.fresh; omega, fun _ h => by cases h⟩, hn.below⟩
end Go.Proofs.YtcdcnhecimajkaaGreat.Runs

/- palmerlaw13: awake. -/
namespace Go.Proofs.YtcdcnhecimajkaaGreat.Runs
open Go.RowKit Go.Deep Go.Shelf Mem Crc Go.Maps Go.Proofs.YtcdcnhecimajkaaGreat.Merge
open Go.Proofs.YtcdcnhecimajkaaGreat.Store (Sto Files bare St none')

attribute [local go_sem] Oper.semAt_some
theorem sort_three : sortB [[2], [3], [1]] = [[1], [2], [3]] := (sortB_eq (l' := [[1], [2], [3]]) (by decide) (by decide)).symm
theorem new_byte (w : World) (c : UInt8) : Lies (w.alloc (.cells #[.int .u8 (c.toNat : Int)] 5)) (some ⟨w.heap.size, 0, none⟩) (([c] : B).map bv) := new_lies w 5 #[.int .u8 (c.toNat : Int)]
set_option maxHeartbeats 2000000 in
set_option maxRecDepth 100000 in
theorem awake_any (w : World) : Calls Tryz.prog 9 #[] w fun e w' => e = .returned (.bool true) ∧ Below w.heap.size w w' := by
  have HB := Lib.hid (begin_any w)
  go_enter Tryz.func9, Tryz.ntmps9
  go_wp2_with fail
  refine HB.out.mono ?_
  rintro e w1 ⟨d, s, g, cm, Q, rfl, hst, hQ, hB1⟩
  have HNEW := Lib.hid (new_live (w0 := w) hst w.heap.size hQ hB1.size 1 2 (by omega) (by omega) (by omega) (by omega))
  have HB1 := Lib.hid hB1
  clear hst hQ hB1
  go_wp2_with fail
  refine HNEW.out.mono ?_
  rintro e w2 ⟨x, rfl, hlv, hB2⟩
  have hz2 : w.heap.size ≤ w2.heap.size := Nat.le_trans HB1.out.size hB2.size
  have hBa := (Below.refl w2.heap.size w2).alloc (Nat.le_refl _) (.cells #[.int .u8 3] 5)
  have HP1 := Lib.hid (live_put hlv hz2 hBa (by decide) (by decide) (b := [3]) rfl (some ⟨w2.heap.size, 0, none⟩) 1 (new_byte w2 3) (fun g hg => .inr (by cases hg; exact Nat.le_refl _)))
  have HBB2 := Lib.hid (HB1.out.trans (hB2.mono HB1.out.size))
  have HBA2 := Lib.hid (hBa.mono hz2)
  clear hlv hB2 hz2 hBa HNEW
  go_wp2_with fail
  refine HP1.out.mono ?_
  rintro e w3 ⟨rfl, hlv0, hB3⟩
  have hlv : Live (bare s d g 400 cm) (fiR s 1 2) w.heap.size w3 x false [] [[3]] 1 := by simpa [putM, fiR] using hlv0
  clear hlv0
  have HBB3 := Lib.hid ((HBB2.out.trans HBA2.out).trans hB3)
  have hz3 : w.heap.size ≤ w3.heap.size := HBB3.out.size
  have hBa := (Below.refl w3.heap.size w3).alloc (Nat.le_refl _) (.cells #[.int .u8 1] 5)
  have HP2 := Lib.hid (live_put hlv hz3 hBa (by decide) (by decide) (b := [1]) rfl (some ⟨w3.heap.size, 0, none⟩) 1 (new_byte w3 1) (fun g hg => .inr (by cases hg; exact Nat.le_refl _)))
  have HBA3 := Lib.hid (hBa.mono hz3)
  clear hlv hB3 hz3 hBa HP1
  go_wp2_with fail
  refine HP2.out.mono ?_
  rintro e w4 ⟨rfl, hlv0, hB4⟩
  have hlv : Live (bare s d g 400 cm) (fiR s 1 2) w.heap.size w4 x false [] [[3], [1]] 2 := by simpa [putM, fiR] using hlv0
  clear hlv0
  have HBB4 := Lib.hid ((HBB3.out.trans HBA3.out).trans hB4)
  have hz4 : w.heap.size ≤ w4.heap.size := HBB4.out.size
  have hBa := (Below.refl w4.heap.size w4).alloc (Nat.le_refl _) (.cells #[.int .u8 2] 5)
  have HP3 := Lib.hid (live_put hlv hz4 hBa (by decide) (by decide) (b := [2]) rfl (some ⟨w4.heap.size, 0, none⟩) 1 (new_byte w4 2) (fun g hg => .inr (by cases hg; exact Nat.le_refl _)))
  have HBA4 := Lib.hid (hBa.mono hz4)
  clear hlv hB4 hz4 hBa HP2
  go_wp2_with fail
  refine HP3.out.mono ?_
  rintro e w5 ⟨rfl, hlv0, hB5⟩
  have hlv : Live (bare s d g 400 cm) (fiR s 1 2) w.heap.size w5 x false [[[3], [1]]] [[2]] 3 := by simpa [putM, fiR] using hlv0
  clear hlv0
  have HBB5 := Lib.hid ((HBB4.out.trans HBA4.out).trans hB5)
  have HROWS := Lib.hid (live_rows hlv (by decide) (.inl rfl) [[2], [3], [1]] rfl (by decide))
  have HLV := Lib.hid hlv
  clear hlv hB5 HP3
  go_wp2_with fail
  refine HROWS.out.mono ?_
  rintro e w6 ⟨v, rfl, hO, hB6⟩
  obtain ⟨va, vc, rfl, _, hL, _, _⟩ := own_shape hO
  rw [sort_three] at hL
  obtain ⟨W, hW⟩ : ∃ W, W = w6.alloc (.cells #[.string ⟨#[1]⟩, .string ⟨#[2]⟩, .string ⟨#[3]⟩] 9) := ⟨_, rfl⟩
  have hBW : Below w6.heap.size w6 W := by rw [hW]; exact (Below.refl _ w6).alloc (Nat.le_refl _) _
  have HSAME := Lib.hid (same_yes W va (some ⟨w6.heap.size, 0, none⟩) vc 3 [⟨#[1]⟩, ⟨#[2]⟩, ⟨#[3]⟩] (hL.later hBW) (by rw [hW]; exact new_lies w6 9 #[.string ⟨#[1]⟩, .string ⟨#[2]⟩, .string ⟨#[3]⟩]) (by decide))
  have hBB6 : Below w.heap.size w W := HBB5.out.trans ((hB6.mono HBB5.out.size).trans (hBW.mono (Nat.le_trans HBB5.out.size hB6.size)))
  have HLV6 := Lib.hid ((HLV.out.later hB6).later hBW)
  have HBB6 := Lib.hid hBB6
  simp only [List.length_cons, List.length_nil, Nat.reduceAdd] at HSAME ⊢
  go_wp2_with fail
  rw [← hW]
  refine HSAME.out.mono ?_
  rintro e w7 ⟨rfl, m7, hm7⟩
  have hB7 : Below W.heap.size W w7 := by rw [hm7]; exact ⟨rfl, rfl, rfl, Nat.le_refl _, fun _ _ => rfl⟩
  have hlv7 := HLV6.out.later hB7
  have HRUNS := Lib.hid (live_runs hlv7)
  have HLV7 := Lib.hid hlv7
  have HBB7 := Lib.hid (HBB6.out.trans (hB7.mono HBB6.out.size))
  clear hW hBW hBB6 hm7 hB7 hlv7 HSAME hO hL
  go_wp2_with fail
  refine HRUNS.out.mono ?_
  rintro e w8 ⟨rfl, hB8⟩
  have HHELD := Lib.hid (live_held (HLV7.out.later hB8))
  have HBB8 := Lib.hid (HBB7.out.trans (hB8.mono HBB7.out.size))
  clear hB8 HRUNS
  go_wp2_with fail
  refine HHELD.out.mono ?_
  rintro e w9 ⟨rfl, rfl⟩
  go_wp2_with fail
  go_ret
  exact ⟨rfl, HBB8.out⟩
end Go.Proofs.YtcdcnhecimajkaaGreat.Runs

/- palmerlaw13: RunsNil. -/
namespace Go.Proofs.YtcdcnhecimajkaaGreat.Runs
open Go.RowKit Go.Deep Go.Shelf Mem Crc Go.Maps Go.Proofs.YtcdcnhecimajkaaGreat.Merge
open Go.Proofs.YtcdcnhecimajkaaGreat.Store (Sto Files bare St none')

attribute [local go_sem] Oper.semAt_some
/-- The disk goes off under a sorter without runs. -/
theorem srt_off {s d g cm : Nat} {A : Fi} {w w' : World} {Q R : Nat → Prop} {n x : Nat} {hv : Value} {vs : List SL} {held : List B} (h : Srt (bare s d g 400 cm) A w Q R false noF n x 0 hv vs held) (hb : Go.Proofs.YtcdcnhecimajkaaGreat.Disk.Blank w' d g 400 true) (ho : Only [d] w w') : Srt (bare s d g 400 cm) A w' Q R true noF n x 0 hv vs held := by
  have hqd : Q d := by
    obtain ⟨C, L, hs, _⟩ := h.sto.at_
    exact hs.qd
  have hu : Upon (fun k => k = d) w w' := Upon.of_only ho (fun k hk => .inl (List.mem_singleton.1 hk))
  exact ⟨h.sIs, h.blk.upon hu (fun e => h.xq (by rw [e]; exact hqd)), bare_off h.sto hb ho, h.mem.keep hu (fun k hk e => (h.rq k hk).1 (by rw [e]; exact hqd)) (fun k hk e => (h.hq k hk).1 (by rw [e]; exact hqd)), h.rq, h.hq, h.xq, h.ok, h.room, h.few⟩
theorem off_bare {s d g cm : Nat} {w : World} {Q : Nat → Prop} {F : Files} {n : Nat} (h : (bare s d g 400 cm).At w Q false F n) : Calls Tryz.prog 21 #[.pointer (some ⟨d, 0, none⟩)] w fun e w' => e = .returned (.tuple #[]) ∧ Go.Proofs.YtcdcnhecimajkaaGreat.Disk.Blank w' d g 400 true ∧ Only [d] w w' := by
  obtain ⟨C, L, hs, _⟩ := h.at_
  exact Go.Proofs.YtcdcnhecimajkaaGreat.Disk.off_any hs.disk
theorem new_srt {d s g cm : Nat} {w : World} {Q : Nat → Prop} (h : St w Q s d g 400 cm false none') (wd rm : Nat) (h1 : 1 ≤ wd) (h2 : wd ≤ 64) (h3 : 1 ≤ rm) (h4 : rm ≤ 4096) :
    Calls Tryz.prog 7 #[.pointer (some ⟨s, 0, none⟩), .string ⟨#[114]⟩, .int .i64 wd, .int .i64 rm] w fun e w' => ∃ x, e = .returned (.tuple #[.pointer (some ⟨x, 0, none⟩), .int .i64 0]) ∧ Srt (bare s d g 400 cm) (fiR s wd rm) w' Q (fun _ => False) false noF 0 x 0 (.slice none 0 0) [] [] ∧ w.heap.size ≤ x ∧ Below w.heap.size w w' := by
  refine (new_any (bare s d g 400 cm) (fiR s wd rm) rfl ⟨by simp [fiR, rpf], by simp [fiR, rpf], h1, h2, h3, h4⟩ (bare_new h)).mono ?_
  rintro e w' ⟨x, ne, rfl, hn⟩
  have hne : ne = 0 := by
    rcases Nat.eq_zero_or_pos ne with h | h
    · exact h
    · exact absurd rfl (hn.runs 0 h)
  subst hne
  exact ⟨x, rfl, hn.srt, hn.fresh, hn.below⟩
set_option maxHeartbeats 400000 in
theorem runsNil_out (a : Option Addr) (n c : Nat) (w : World) (h : n < 1 ∨ 64 < n) : Calls Tryz.prog 5 #[.slice a n c] w fun e w' => e = .returned (.bool true) ∧ Below w.heap.size w w' := by
  have HA := Lib.hid (awake_any w)
  by_cases h1 : n < 1
  · have t1 : decide ((n : Int) < 1) = true := by simp; omega
    clear h h1
    go_enter Tryz.func5, Tryz.ntmps5
    go_wp2_with fail
    refine HA.out.mono ?_
    rintro e w1 ⟨rfl, hB⟩
    go_wp2_with fail
    go_ret
    exact ⟨rfl, hB⟩
  · have t1 : decide ((n : Int) < 1) = false := by simp; omega
    have t2 : decide (64 < (n : Int)) = true := by simp; omega
    clear h h1
    go_enter Tryz.func5, Tryz.ntmps5
    go_wp2_with fail
    refine HA.out.mono ?_
    rintro e w1 ⟨rfl, hB⟩
    go_wp2_with fail
    go_ret
    exact ⟨rfl, hB⟩
set_option maxHeartbeats 4000000 in
set_option maxRecDepth 100000 in
theorem runsNil_in (a : Option Addr) (c : Nat) (b : B) (w : World) (h1 : 1 ≤ b.length) (h2 : b.length ≤ 64) (hL : Lies w a (b.map bv)) : Calls Tryz.prog 5 #[.slice a b.length c] w fun e w' => e = .returned (.bool true) ∧ Below w.heap.size w w' := by
  obtain ⟨wd, hwd⟩ : ∃ wd, wd = b.length := ⟨_, rfl⟩
  rw [← hwd] at h1 h2
  have t1 : decide ((wd : Int) < 1) = false := by simp; omega
  have t2 : decide (64 < (wd : Int)) = false := by simp; omega
  have HL := Lib.hid hL
  have HWD := Lib.hid hwd
  have HBG := Lib.hid (begin_any w)
  have hba : ∀ g, Mem.blk a = some g → g < w.heap.size := fun g hg => by
    rcases hL with h | ⟨q, o, rfl, hlt, _⟩
    · have := congrArg List.length h
      rw [List.length_map, ← hwd] at this
      simp at this
      omega
    · have : q = g := by simpa [Mem.blk] using hg
      omega
  have HBA := Lib.hid hba
  rw [← hwd]
  clear hL hwd hba
  go_enter Tryz.func5, Tryz.ntmps5
  go_wp2_with (first
    | (go_at_call 17; refine (forget_nil _).mono ?_; rintro e w1 ⟨rfl, rfl⟩)
    | (go_at_call 16; refine (rows_nil _).mono ?_; rintro e w1 ⟨rfl, rfl⟩)
    | (go_at_call 10; refine (put_nilS _ _).mono ?_; rintro e w1 ⟨rfl, rfl⟩)
    | (go_at_call 12; refine (flush_nil _).mono ?_; rintro e w1 ⟨rfl, rfl⟩)
    | (go_at_call 18; refine (clear_nil _).mono ?_; rintro e w1 ⟨rfl, rfl⟩)
    | (go_at_call 19; refine (rewrite_nil _ _).mono ?_; rintro e w1 ⟨rfl, rfl⟩)
    | (go_at_call 11; refine (held_nil _).mono ?_; rintro e w1 ⟨rfl, rfl⟩)
    | (go_at_call 20; refine (runs_nil _).mono ?_; rintro e w1 ⟨rfl, rfl⟩))
  refine HBG.out.mono ?_
  rintro e w1 ⟨d, s, g, cm, Q, rfl, hst, hQ, hB1⟩
  have HNEW := Lib.hid (new_srt hst wd 1 h1 h2 (by decide) (by decide))
  have HQ := Lib.hid hQ
  have HB1 := Lib.hid hB1
  clear hst hQ hB1 HBG
  go_wp2_with fail
  refine HNEW.out.mono ?_
  rintro e w2 ⟨x, rfl, hs2, hx2, hB2⟩
  have hBB2 : Below w.heap.size w w2 := HB1.out.trans (hB2.mono HB1.out.size)
  have HPUT := Lib.hid (put_room hs2 (by simp [fiR]) (b := b) HWD.out.symm a c (HL.out.later hBB2))
  rw [← HWD.out] at HPUT
  have HX := Lib.hid (show w.heap.size ≤ x from Nat.le_trans HB1.out.size hx2)
  have HBB2 := Lib.hid hBB2
  clear hs2 hx2 hB2 hBB2 HNEW
  go_wp2_with fail
  refine HPUT.out.mono ?_
  rintro e w3 ⟨rfl, R3, hv3, vs3, hp3⟩
  have hs3 := hp3.srt
  have hsz := HBB2.out.size
  have hBB3 : Below w.heap.size w w3 := HBB2.out.trans (hp3.upon.below hsz (fun k hk => hk.elim (fun e => by rw [e]; exact HX.out) (fun e => by cases e)))
  have HR3 := Lib.hid (show ∀ k, R3 k → w.heap.size ≤ k from fun k hk => (hp3.r k hk).elim (fun h => h.elim) (fun h => by omega))
  have HH3 := Lib.hid (show ∀ k, hv3.ownBlock = some k → w.heap.size ≤ k from fun k hk => (hp3.h k hk).elim (fun h => by cases h) (fun h => by omega))
  have HOFF := Lib.hid (off_bare hs3.sto)
  have HS3 := Lib.hid hs3
  have HBB3 := Lib.hid hBB3
  clear hp3 hs3 hsz hBB3 HPUT
  go_wp2_with fail
  refine HOFF.out.mono ?_
  rintro e w4 ⟨rfl, hbl, ho⟩
  have hs4 := srt_off HS3.out hbl ho
  have hqd : Q d := by
    obtain ⟨C, L, hs, _⟩ := HS3.out.sto.at_
    exact hs.qd
  have HBB4 := Lib.hid (HBB3.out.trans (ho.below HBB3.out.size (fun k hk => by rw [List.mem_singleton.1 hk]; exact HQ.out d hqd)))
  have HPD := Lib.hid (put_down hs4 (by rfl) (by decide) (bl := wd) rfl a c)
  have HS4 := Lib.hid hs4
  clear hbl ho hs4 hqd HOFF
  go_wp2_with fail
  refine HPD.out.mono ?_
  rintro e w5 ⟨rfl, hB5⟩
  have hs5 := HS4.out.later hB5
  have HFD := Lib.hid (flush_off hs5 (by simp) (by decide))
  have HS5 := Lib.hid hs5
  have HBB5 := Lib.hid (HBB4.out.trans (hB5.mono HBB4.out.size))
  clear hs5 hB5 HPD
  go_wp2_with fail
  refine HFD.out.mono ?_
  rintro e w6 ⟨rfl, hB6⟩
  have hs6 := HS5.out.later hB6
  have HHD := Lib.hid (held_any hs6)
  have HS6 := Lib.hid hs6
  have HBB6 := Lib.hid (HBB5.out.trans (hB6.mono HBB5.out.size))
  clear hs6 hB6 HFD
  go_wp2_with fail
  refine HHD.out.mono ?_
  rintro e w7 ⟨rfl, rfl⟩
  have HRN := Lib.hid (runs_any HS6.out)
  go_wp2_with fail
  refine HRN.out.mono ?_
  rintro e w7 ⟨rfl, m7, hm7⟩
  have hB7 : Below w6.heap.size w6 w7 := by rw [hm7]; exact ⟨rfl, rfl, rfl, Nat.le_refl _, fun _ _ => rfl⟩
  have hs7 := HS6.out.later hB7
  have HRW := Lib.hid (rowsLaw_any hs7 [] rfl (by decide) ⟨fun j l hj => by simp at hj, fun l hl => by simp at hl, fun l hl => by simp at hl, fun l hl => by simp at hl⟩ (.inr rfl) [b] (by simp) (by simp))
  have HS7 := Lib.hid hs7
  have HBB7 := Lib.hid (HBB6.out.trans (hB7.mono HBB6.out.size))
  clear hm7 hB7 hs7 HRN HHD
  go_wp2_with fail
  refine HRW.out.mono ?_
  rintro e w8 ⟨v, rfl, hO8, hB8⟩
  obtain ⟨va, vc, rfl, _, hL8, _, _⟩ := own_shape hO8
  have hs8 := HS7.out.later hB8
  have HBB8 := Lib.hid (HBB7.out.trans (hB8.mono HBB7.out.size))
  have hcv := conv_str (vc := c) (show b ≠ [] from fun e => by have := HWD.out; rw [e] at this; simp at this; omega) (HL.out.later HBB8.out)
  rw [← HWD.out] at hcv
  obtain ⟨sb, hsb⟩ : ∃ sb : ByteArray, .string sb = strB b := ⟨_, rfl⟩
  have hsort : sortB [b] = [b] := (sortB_eq (List.Perm.refl _) (List.pairwise_singleton _ _)).symm
  rw [hsort] at hL8
  simp only [List.map_cons, List.map_nil] at hL8
  rw [← hsb] at hcv hL8
  obtain ⟨W, hW⟩ : ∃ W, W = w8.alloc (.cells #[.string sb] 9) := ⟨_, rfl⟩
  have hBW : Below w8.heap.size w8 W := by rw [hW]; exact (Below.refl _ w8).alloc (Nat.le_refl _) _
  have HSAME := Lib.hid (same_yes W va (some ⟨w8.heap.size, 0, none⟩) vc 1 [sb] (hL8.later hBW) (by rw [hW]; exact new_lies w8 9 #[.string sb]) (by simp))
  have HSW := Lib.hid (hs8.later hBW)
  have HBBW := Lib.hid (HBB8.out.trans (hBW.mono HBB8.out.size))
  simp only [List.length_cons, List.length_nil, Nat.reduceAdd] at HSAME ⊢
  clear hL8 hO8 hB8 hs8 hBW hsort hsb HRW
  go_wp2_with fail
  rw [← hW]
  refine HSAME.out.mono ?_
  rintro e w9 ⟨rfl, m9, hm9⟩
  have hB9 : Below W.heap.size W w9 := by rw [hm9]; exact ⟨rfl, rfl, rfl, Nat.le_refl _, fun _ _ => rfl⟩
  have HCL := Lib.hid (clear_none (HSW.out.later hB9))
  have HBB9 := Lib.hid (HBBW.out.trans (hB9.mono HBBW.out.size))
  clear hm9 hB9 hW HSAME hcv
  go_wp2_with fail
  refine HCL.out.mono ?_
  rintro e w10 ⟨rfl, hs10, hu10⟩
  have HHD2 := Lib.hid (held_any hs10)
  have HBB10 := Lib.hid (HBB9.out.trans (hu10.below HBB9.out.size (fun k hk => by rw [hk]; exact HX.out)))
  clear hs10 hu10 HCL
  go_wp2_with fail
  refine HHD2.out.mono ?_
  rintro e w11 ⟨rfl, rfl⟩
  have HA := Lib.hid (awake_any w10)
  go_wp2_with fail
  refine HA.out.mono ?_
  rintro e w12 ⟨rfl, hB12⟩
  have HBB12 := Lib.hid (HBB10.out.trans (hB12.mono HBB10.out.size))
  clear hB12 HA
  go_wp2_with fail
  go_ret
  exact ⟨rfl, HBB12.out⟩
set_option maxRecDepth 100000 in
theorem runsNil_law {H : Type} {enc : TypeId × Value → H} {base : Nat} (v0 : Value) (d0 : DataW H) (p0 : List MemPlace) (W : World)
    (q0 : Value.okWide Tryz.prog W .any base 36 v0) (h0 : DataW.Trod enc Tryz.prog W 0 (fun _ => true) true 36 v0 d0 p0) :
    Calls Tryz.prog 5 #[v0] W fun e w' => e = .returned (.bool true) ∧ Below W.heap.size W w' := by
  obtain ⟨a, cap, l, rfl, _, _, hL⟩ := Args.bytes_open Tryz.underlying36 Tryz.underlying5 (by kernel_rfl) q0 h0
  by_cases h : l.length < 1 ∨ 64 < l.length
  · exact runsNil_out a l.length cap W h
  · exact runsNil_in a cap l W (by omega) (by omega) hL
end Go.Proofs.YtcdcnhecimajkaaGreat.Runs
