/- The methods of a cache of int: what each does to the things. -/
import Derived.Test.YtddjcamhhjkbfaaInI
import Derived.Deep.QuietTactic
import Derived.BigQuiet
import Derived.WalkSmall
import Derived.Shelf.Abstract
namespace Go.Proofs.Ytddjcamhhjkbfaa.CI
open Go.RowKit Go.Shelf Mem

theorem asks_true (w : World) : Asks 22 #[] (fun _ => true) w := by
  refine ⟨fun args W => (enters_of Try.func22 (by kernel_rfl) rfl) args W, fun W t _ => ?_⟩
  simp only [Th.v, Array.append_empty]
  go_enter Try.func22, Try.ntmps22
  go_wp2
  go_ret
  exact ⟨rfl, (Below.refl _ _).alloc (Nat.le_refl _) _⟩

theorem asks_get (K : Nat) (key : Int) (w : World) (hK : Blk w K 3 #[.int .i64 key]) : Asks 28 #[.pointer (some ⟨K, 0, none⟩)] (fun t => t.key == key) w := by
  refine ⟨fun args W => (enters_of Try.func28 (by kernel_rfl) rfl) args W, fun W t hW => ?_⟩
  have hK2 := hK.below hW hK.lt
  have hKs := hK2.lt
  have c0 := hK2.cell 0
  simp at c0
  clear hK hW hK2
  simp only [Th.v, List.append_toArray, List.nil_append, List.cons_append]
  go_enter Try.func28, Try.ntmps28
  go_wp2
  go_ret
  exact ⟨rfl, (Below.refl _ _).alloc (Nat.le_refl _) _⟩

theorem asks_drop (K : Nat) (key : Int) (w : World) (hK : Blk w K 3 #[.int .i64 key]) : Asks 34 #[.pointer (some ⟨K, 0, none⟩)] (fun t => t.key == key) w := by
  refine ⟨fun args W => (enters_of Try.func34 (by kernel_rfl) rfl) args W, fun W t hW => ?_⟩
  have hK2 := hK.below hW hK.lt
  have hKs := hK2.lt
  have c0 := hK2.cell 0
  simp at c0
  clear hK hW hK2
  simp only [Th.v, List.append_toArray, List.nil_append, List.cons_append]
  go_enter Try.func34, Try.ntmps34
  go_wp2
  go_ret
  exact ⟨rfl, (Below.refl _ _).alloc (Nat.le_refl _) _⟩

/-- The first thing that is so is taken out. -/
theorem first_none {p : Th → Bool} {ts : List Th} (h : ts.find? p = none) : firstOf p ts = -1 ∧ ts.eraseP p = ts := by
  have h' := List.find?_eq_none.1 h
  refine ⟨firstOf_no fun j t _ hj => ?_, List.eraseP_of_forall_not h'⟩
  have := h' t (List.mem_of_getElem? hj)
  simpa using this
theorem first_some {p : Th → Bool} : ∀ {ts : List Th} {t : Th}, ts.find? p = some t → ∃ i : Nat, firstOf p ts = (i : Int) ∧ ts[i]? = some t ∧ ts.eraseP p = ts.eraseIdx i ∧ p t = true
  | [], t, h => by simp at h
  | y :: r, t, h => by
    by_cases hy : p y = true
    · obtain rfl : y = t := by simpa [hy] using h
      exact ⟨0, firstOf_at (k := 0) (t := y) rfl hy (fun j u hj => by omega), rfl, by simp [hy], hy⟩
    · have hy : p y = false := by simpa using hy
      have h' : r.find? p = some t := by simpa [hy] using h
      obtain ⟨i, h1, h2, h3, h4⟩ := first_some h'
      refine ⟨i + 1, ?_, by simpa using h2, by simp [hy, h3], h4⟩
      refine firstOf_at (k := i + 1) (t := t) (by simpa using h2) h4 (fun j u hj hu => ?_)
      cases j with
      | zero => obtain rfl : y = u := by simpa using hu
                exact hy
      | succ j =>
        have hu' : r[j]? = some u := by simpa using hu
        by_cases e : p u = true
        · exfalso
          have hfi : firstOf p r ≤ (j : Int) := by
            unfold firstOf
            cases hf : r.findIdx? p with
            | none => simp only [Option.elim]; omega
            | some q =>
              obtain ⟨hq, _, hlt⟩ := List.findIdx?_eq_some_iff_getElem.1 hf
              rcases Nat.lt_or_ge j q with hjq | hjq
              · have := hlt j hjq
                obtain ⟨hjr, e2⟩ := List.getElem?_eq_some_iff.1 hu'
                rw [e2] at this
                exact absurd e this
              · simp; omega
          rw [h1] at hfi
          omega
        · simpa using e

/-- A cache in memory: its block C, the value v of its row of things. -/
structure Holds (B C : Nat) (v : Value) (room used : Int) (ts : List Th) (w : World) : Prop where
  base : B ≤ C
  blk : Blk w C 52 #[.int .i64 room, .int .i64 used, v]
  own : w.ownsRow B 57 3 v ts.length (flat ts)

theorem out_any (g : Nat) (lb : Array Value) (p : Th → Bool) (B C : Nat) (room used : Int) (v : Value) (ts : List Th) (w : World) (hp : Asks g lb p w) (h : Holds B C v room used ts w) (hl : ts.length ≤ 1000)
    (hu : -9223372036854775808 ≤ used - ((ts.find? p).getD Th.zero).size ∧ used - ((ts.find? p).getD Th.zero).size ≤ 9223372036854775807) :
    Calls Try.prog 21 #[.pointer (some ⟨C, 0, none⟩), .func (.func g) #[] lb] w fun e w' => e = .returned (.tuple #[((ts.find? p).getD Th.zero).v, .bool (ts.find? p).isSome]) ∧
      ∃ v', Holds B C v' room (used - ((ts.find? p).getD Th.zero).size) (ts.eraseP p) w' ∧ Only (C :: v.ownBlock.toList) w w' ∧ v'.ownBlock = v.ownBlock := by
  cases hf : ts.find? p with
  | none =>
    obtain ⟨h1, h2⟩ := first_none hf
    rw [hf] at hu
    have hu : -9223372036854775808 ≤ used - 0 ∧ used - 0 ≤ 9223372036854775807 := hu
    refine (out_no g lb p B C room used v ts w hp h.blk h.own hl h1 (by omega)).mono fun e w' ⟨he, hb, ho⟩ => ⟨he, v, ⟨h.base, ?_, ?_⟩, ho.mono (by simp), rfl⟩
    · have : used - (Option.getD none Th.zero).size = used := by show used - 0 = used; omega
      rw [this]; exact hb
    · rw [h2]
      refine own_only h.own ho (fun q hq hm => ?_)
      have : q = C := by simpa using hm
      subst this
      rcases h.own.2 with ⟨e', _⟩ | ⟨g', cap', cur, e', _, h1', _⟩
      · subst e'; cases hq
      · subst e'
        have e'' : g' = q := by simpa [Value.ownBlock] using hq
        exact h.blk.ne (t' := 57) h1' (by decide) e''.symm
  | some t =>
    obtain ⟨i, h1, h2, h3, _⟩ := first_some hf
    rw [hf] at hu
    have hu : -9223372036854775808 ≤ used - t.size ∧ used - t.size ≤ 9223372036854775807 := hu
    have hlt := (List.getElem?_eq_some_iff.1 h2).1
    obtain ⟨hbase, hblk, hown⟩ := h
    rcases hown.2 with ⟨e', h0⟩ | ⟨b, cap, cur, e', _, h1', _⟩
    · exfalso; omega
    · subst e'
      refine (out_yes g lb p B C b cap i room used t ts w hp hblk hown hl h1 h2 hu).mono fun e w' ⟨he, hb, ho, hon⟩ => ⟨he, _, ⟨hbase, hb, ?_⟩, hon.mono (by simp [Value.ownBlock]), rfl⟩
      rw [h3, List.length_eraseIdx_of_lt hlt]
      exact ho

theorem Holds.fr {B C : Nat} {v : Value} {room used : Int} {ts : List Th} {w w' : World} (h : Holds B C v room used ts w) (ho : Only (C :: v.ownBlock.toList) w w') : Fr B [52, 57] w w' :=
  ho.fr fun g hg => by
    rcases List.mem_cons.1 hg with e | hg
    · subst e; exact .inl ⟨h.base, _, _, _, h.blk, by simp⟩
    · have hg : v.ownBlock = some g := by simpa using hg
      rcases h.own.2 with ⟨e', _⟩ | ⟨g', cap', cur, e', hb, h1', _⟩
      · subst e'; cases hg
      · subst e'
        obtain rfl : g' = g := by simpa [Value.ownBlock] using hg
        exact .inl ⟨hb, _, _, _, h1', by simp⟩
theorem Holds.lt {B C : Nat} {v : Value} {room used : Int} {ts : List Th} {w : World} (h : Holds B C v room used ts w) : ∀ g ∈ C :: v.ownBlock.toList, g < w.heap.size := by
  intro g hg
  rcases List.mem_cons.1 hg with e | hg
  · subst e; exact h.blk.lt
  · have hg : v.ownBlock = some g := by simpa using hg
    exact (h.own.lt g hg).2
theorem Holds.below {B C : Nat} {v : Value} {room used : Int} {ts : List Th} {w w' : World} (h : Holds B C v room used ts w) (hb : Below w.heap.size w w') : Holds B C v room used ts w' :=
  ⟨h.base, h.blk.below hb h.blk.lt, (Fr.of_below hb : Fr B [] w w').row h.own (by simp)⟩

/-- All sizes together. -/
def total (ts : List Th) : Int := (ts.map Th.size).sum
theorem total_append (a b : List Th) : total (a ++ b) = total a + total b := by simp [total]
theorem total_cons (t : Th) (r : List Th) : total (t :: r) = t.size + total r := by simp [total]
theorem total_nonneg {ts : List Th} (h : ∀ t ∈ ts, 0 ≤ t.size) : 0 ≤ total ts := by
  induction ts with
  | nil => simp [total]
  | cons t r ih =>
    rw [total_cons]
    have := h t (by simp)
    have := ih fun u hu => h u (by simp [hu])
    omega
theorem total_erase (p : Th → Bool) : ∀ (ts : List Th), total (ts.eraseP p) = total ts - ((ts.find? p).getD Th.zero).size
  | [] => by simp [total, Th.zero]
  | y :: r => by
    by_cases hy : p y = true
    · simp [hy, total_cons]; omega
    · have hy : p y = false := by simpa using hy
      have := total_erase p r
      simp [hy, total_cons]; omega
theorem find_size {p : Th → Bool} {ts : List Th} (h : ∀ t ∈ ts, 0 ≤ t.size) : 0 ≤ ((ts.find? p).getD Th.zero).size ∧ ((ts.find? p).getD Th.zero).size ≤ total ts := by
  have e := total_erase p ts
  have h1 : 0 ≤ total (ts.eraseP p) := total_nonneg fun t ht => h t (List.mem_of_mem_eraseP ht)
  have h2 : 0 ≤ ((ts.find? p).getD Th.zero).size := by
    cases hf : ts.find? p with
    | none => simp [Th.zero]
    | some t => exact h t (List.mem_of_find?_eq_some hf)
  omega

/-- Behind a Get. -/
def getL (key : Int) (ts : List Th) : List Th := match ts.find? (fun t => t.key == key) with | none => ts | some t => ts.eraseP (fun t => t.key == key) ++ [t]

/-- What a cache's sizes come to. -/
structure Fits (room used : Int) (ts : List Th) : Prop where
  pos : ∀ t ∈ ts, 0 ≤ t.size
  sum : used = total ts
  le : used ≤ room
  top : room ≤ 9223372036854775807

theorem Fits.erase {room used : Int} {ts : List Th} (h : Fits room used ts) (p : Th → Bool) : Fits room (used - ((ts.find? p).getD Th.zero).size) (ts.eraseP p) :=
  ⟨fun t ht => h.pos t (List.mem_of_mem_eraseP ht), by rw [total_erase, h.sum], by have := (find_size (p := p) h.pos).1; have := h.le; omega, h.top⟩

set_option maxHeartbeats 2000000 in
set_option maxRecDepth 100000 in
theorem get_any (B C : Nat) (v : Value) (room used key : Int) (ts : List Th) (w : World) (h : Holds B C v room used ts w) (hf : Fits room used ts) (hB : B ≤ w.heap.size) (hl : ts.length ≤ 999) :
    Calls Try.prog 12 #[.pointer (some ⟨C, 0, none⟩), .int .i64 key] w fun e w' => e = .returned (.tuple #[.int .i64 (((ts.find? (fun t => t.key == key)).getD Th.zero).x), .bool (ts.find? (fun t => t.key == key)).isSome]) ∧
      (∃ v', Holds B C v' room used (getL key ts) w') ∧ Fits room used (getL key ts) ∧ Fr B [52, 57] w w' := by
  have hfs := find_size (p := fun t => t.key == key) hf.pos
  have hu0 := total_nonneg hf.pos
  have hfu := hf.sum
  have hfl := hf.le
  have hfm := hf.top
  have hfu0 : total ts ≤ used := by omega
  obtain ⟨ft, hft⟩ : ∃ ft, (ts.find? (fun t => t.key == key)).getD Th.zero = ft := ⟨_, rfl⟩
  rw [hft] at hfs
  have hout : ∀ W, W = w.alloc (.cells #[.int .i64 key] 3) → Calls Try.prog 21 #[.pointer (some ⟨C, 0, none⟩), .func (.func 28) #[] #[.pointer (some ⟨w.heap.size, 0, none⟩)]] W fun e w' => e = .returned (.tuple #[ft.v, .bool (ts.find? (fun t => t.key == key)).isSome]) ∧
      ∃ v', Holds B C v' room (used - ft.size) (ts.eraseP (fun t => t.key == key)) w' ∧ Only (C :: v.ownBlock.toList) W w' ∧ v'.ownBlock = v.ownBlock := fun W hW => by
    subst hW
    rw [← hft] at hfs ⊢
    exact out_any _ _ (fun t => t.key == key) B C room used v ts _ (asks_get w.heap.size key _ (Blk.new w _ _)) (h.below ((Below.refl _ w).alloc (Nat.le_refl _) _)) (by omega) (by omega)
  have HO := Lib.hid hout
  have hCs := h.blk.lt
  have HH := Lib.hid h
  have HF := Lib.hid hf
  have HFT := Lib.hid hft
  have hel : (ts.eraseP (fun t => t.key == key)).length ≤ 999 := by have := List.length_eraseP_le (p := fun t => t.key == key) (l := ts); omega
  clear hout h hf hft hfu
  have hft2 : ft.v = .agg #[.int .i64 ft.key, .int .i64 ft.size, .int .i64 (ft.x)] := rfl
  rw [hft2] at HO
  have hmf : ∀ (fn : Fn) (first cap : Array Value) (w : World), (Instr.makeFunc fn first cap).run Try.prog w = .ok (.func fn first cap) w := fun _ _ _ _ => rfl
  rcases hsome : (ts.find? (fun t => t.key == key)) with _ | t
  · have e0 : getL key ts = ts := by unfold getL; rw [hsome]
    have ez : ft = Th.zero := by rw [← HFT.out, hsome]; rfl
    have ee : ts.eraseP (fun t => t.key == key) = ts := (first_none hsome).2
    rw [hsome, ee] at HO
    have HS := Lib.hid hsome
    have HZ := Lib.hid ez
    have HE0 := Lib.hid e0
    clear hsome ez e0 ee
    go_enter Try.func12, Try.ntmps12
    go_wp2_with fail
    refine (HO.out _ rfl).mono ?_
    rintro e w1 ⟨rfl, v', hH1, hon1, hov⟩
    have HH1 := Lib.hid hH1
    have HON := Lib.hid hon1
    clear hH1 hon1 hov
    go_wp2_with fail
    go_ret2
    have hz : used - ft.size = used := by rw [HZ.out]; show used - 0 = used; omega
    refine ⟨by rw [← HFT.out, HS.out]; rfl, ⟨v', ?_⟩, by rw [HE0.out]; exact HF.out, ?_⟩
    · rw [HE0.out]
      have := HH1.out
      rw [hz] at this
      exact this.below ((Below.refl _ _).alloc (Nat.le_refl _) _)
    · exact (((Fr.refl _ _ w).alloc _).trans ((HH.out.below ((Below.refl _ w).alloc (Nat.le_refl _) _)).fr HON.out)).alloc _
  · have e0 : getL key ts = ts.eraseP (fun t => t.key == key) ++ [ft] := by unfold getL; rw [hsome]; simp [← HFT.out, hsome]
    rw [hsome] at HO
    have HS := Lib.hid hsome
    have HE0 := Lib.hid e0
    clear hsome e0
    go_enter Try.func12, Try.ntmps12
    go_wp2_with fail
    refine (HO.out _ rfl).mono ?_
    rintro e w1 ⟨rfl, v', hH1, hon1, hov⟩
    have hs1 := hon1.size
    simp at hs1
    have hin : ∀ W, W = w1.alloc (.cells #[.int .i64 ft.key, .int .i64 ft.size, .int .i64 (ft.x)] 57) → Calls Try.prog 23 #[.pointer (some ⟨C, 0, none⟩), .agg #[.int .i64 ft.key, .int .i64 ft.size, .int .i64 (ft.x)]] W fun e w' => e = .returned (.tuple #[]) ∧
        (∃ v2, Holds B C v2 room used (ts.eraseP (fun t => t.key == key) ++ [ft]) w') ∧ Only (C :: v'.ownBlock.toList) W w' := fun W hW => by
      subst hW
      have h1 := hH1.below ((Below.refl _ w1).alloc (Nat.le_refl _) (.cells #[.int .i64 ft.key, .int .i64 ft.size, .int .i64 (ft.x)] 57))
      refine (in_any B C room (used - ft.size) v' ft _ _ h1.blk h1.own (by simp; omega) (by omega) (by omega)).mono fun e w' ⟨he, b, cap, hb, ho, hon, _⟩ => ⟨he, ⟨.slice (some ⟨b, 0, none⟩) ((ts.eraseP (fun t => t.key == key)).length + 1) cap, ?_⟩, hon⟩
      refine ⟨h1.base, ?_, ?_⟩
      · rw [show used - ft.size + ft.size = used by omega] at hb; exact hb
      · rw [show (ts.eraseP (fun t => t.key == key) ++ [ft]).length = (ts.eraseP (fun t => t.key == key)).length + 1 by simp]; exact ho
    have HIN := Lib.hid hin
    have HH1 := Lib.hid hH1
    have HON := Lib.hid hon1
    clear hH1 hon1 hov hin
    go_wp2_with fail
    refine (HIN.out _ rfl).mono ?_
    rintro e w2 ⟨rfl, hv2, hon2⟩
    have hX := (Blk.new w1 57 #[.int .i64 ft.key, .int .i64 ft.size, .int .i64 (ft.x)]).only hon2 (fun hm => by have := HH1.out.lt _ hm; omega)
    have x2 := hX.cell 2
    simp at x2
    have HV2 := Lib.hid hv2
    have HON2 := Lib.hid hon2
    clear hX hv2 hon2
    go_wp2_with fail
    go_ret2
    refine ⟨by rw [← HFT.out, HS.out]; rfl, by rw [HE0.out]; exact HV2.out, ?_, ?_⟩
    · rw [HE0.out]
      have h1 := HF.out.erase (fun t => t.key == key)
      rw [HFT.out] at h1
      obtain ⟨a1, a2, a3, a4⟩ := h1
      refine ⟨fun t ht => ?_, ?_, hfl, hfm⟩
      · rcases List.mem_append.1 ht with ht | ht
        · exact a1 t ht
        · obtain rfl : t = ft := by simpa using ht
          exact hfs.1
      · rw [total_append, ← a2]
        simp [total]
    · exact ((((Fr.refl _ _ w).alloc _).trans ((HH.out.below ((Below.refl _ w).alloc (Nat.le_refl _) _)).fr HON.out)).alloc _).trans ((HH1.out.below ((Below.refl _ w1).alloc (Nat.le_refl _) _)).fr HON2.out)
end Go.Proofs.Ytddjcamhhjkbfaa.CI
