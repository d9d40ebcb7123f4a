/- RunsIn, RefSorted, RunsSorts, SortsW, SortsL, Stops, StopsW, StopsL, in one text. -/
import Derived.Test.YtcdcnhecimajkaaGreatG3
import Derived.Sort.QuietIn
import Derived.OwnWalkIn
/- palmerlaw13: a sorter in a set of blocks. -/
namespace Go.Proofs.YtcdcnhecimajkaaGreat.Runs
open Go.RowKit Go.Deep Go.Shelf Mem Crc Go.Maps Go.Proofs.YtcdcnhecimajkaaGreat.Merge
open Go.Proofs.YtcdcnhecimajkaaGreat.Store (Sto Files setF setF_same setF_other nv bare Bare St Chg none' filesOf)

attribute [local go_sem] Oper.semAt_some
/-- A sorter with its runs and its memory; all its blocks are of D. -/
structure InAt {s : Nat} (S : Store.Sto s) (A : Fi) (D : Nat → Prop) (w : World) (x : Nat) (off : Bool) (ls : List (List B)) (held : List B) (n : Nat) (Q R : Nat → Prop) (F : Files) (hv : Value) (vs : List SL) : Prop where
  srt : Srt S A w Q R off F n x ls.length hv vs held
  files : RunFiles A F ls
  q : ∀ k, Q k → D k
  r : ∀ k, R k → D k
  x : D x
  h : ∀ k, hv.ownBlock = some k → D k
def LiveIn {s : Nat} (S : Store.Sto s) (A : Fi) (D : Nat → Prop) (w : World) (x : Nat) (off : Bool) (ls : List (List B)) (held : List B) (n : Nat) : Prop := ∃ m Q R F hv vs, m ≤ n ∧ InAt S A D w x off ls held m Q R F hv vs
theorem LiveIn.keep {s : Nat} {S : Store.Sto s} {A : Fi} {D P : Nat → Prop} {w w' : World} {x : Nat} {off : Bool} {ls : List (List B)} {held : List B} {n : Nat} (h : LiveIn S A D w x off ls held n) (hu : Upon P w w') (hP : ∀ g, D g → ¬ P g) : LiveIn S A D w' x off ls held n := by
  obtain ⟨m, Q, R, F, hv, vs, hm, h⟩ := h
  exact ⟨m, Q, R, F, hv, vs, hm, h.srt.keep hu (fun g hg => hP g (h.q g hg)) (fun g hg => hP g (h.r g hg)) (fun g hg => hP g (h.h g hg)) (hP x h.x), h.files, h.q, h.r, h.x, h.h⟩
theorem LiveIn.later {s : Nat} {S : Store.Sto s} {A : Fi} {D : Nat → Prop} {w w' : World} {x : Nat} {off : Bool} {ls : List (List B)} {held : List B} {n : Nat} (h : LiveIn S A D w x off ls held n) (hB : Below w.heap.size w w') : LiveIn S A D w' x off ls held n := h.keep (P := fun _ => False) (Upon.of_below hB) (fun _ _ h => h)
theorem LiveIn.more {s : Nat} {S : Store.Sto s} {A : Fi} {D : Nat → Prop} {w : World} {x : Nat} {off : Bool} {ls : List (List B)} {held : List B} {n n' : Nat} (h : LiveIn S A D w x off ls held n) (hn : n ≤ n') : LiveIn S A D w x off ls held n' := by
  obtain ⟨m, Q, R, F, hv, vs, hm, h⟩ := h
  exact ⟨m, Q, R, F, hv, vs, Nat.le_trans hm hn, h⟩
theorem Flushed.inAt {s : Nat} {S : Store.Sto s} {A : Fi} {D : Nat → Prop} {w w' : World} {x : Nat} {ls : List (List B)} {held : List B} {n : Nat} {Q R Q' : Nat → Prop} {F : Files} {hv : Value} {vs : List SL} (h : InAt S A D w x false ls held n Q R F hv vs) (h0 : held ≠ []) (hf : Flushed S A w w' Q F n x ls.length held Q') (hl : ls.length ≤ 1000000) : InAt S A (Mid D w w') w' x false (ls ++ [held]) [] (n + 1) Q' (fun _ => False) (setF F (rname A.pf ls.length) (some (runB held))) (.slice none 0 0) [] ∧ Upon D w w' :=
  ⟨⟨by have := hf.srt; simpa using this, files_more h.files hl h.srt.mem.wide h0 (Nat.le_trans h.srt.room h.srt.ok.2.2.2.2.2), fun k hk => (hf.q k hk).imp (h.q k) (fun hg => ⟨hg, S.lt hf.srt.sto k hk⟩), fun _ h => h.elim, .inl h.x, fun _ h => by cases h⟩, hf.upon.mono (fun g hg => hg.elim (h.q g) (fun e => by rw [e]; exact h.x))⟩
theorem in_flush {s : Nat} {S : Store.Sto s} {A : Fi} {D : Nat → Prop} {w : World} {x : Nat} {ls : List (List B)} {held : List B} {n : Nat} (h : LiveIn S A D w x false ls held n) (h0 : held ≠ []) (hn : n < 10000) (hl : ls.length < 10000) :
    Calls Tryz.prog 12 #[.pointer (some ⟨x, 0, none⟩)] w fun e w' => e = .returned (.int .i64 0) ∧ LiveIn S A (Mid D w w') w' x false (ls ++ [held]) [] (n + 1) ∧ Upon D w w' := by
  obtain ⟨m, Q, R, F, hv, vs, hm, h⟩ := h
  refine (flush_any h.srt h0 (by omega) (by omega)).mono ?_
  rintro e w' ⟨rfl, Q', hf⟩
  have := hf.inAt h h0 (by omega)
  exact ⟨rfl, ⟨_, _, _, _, _, _, by omega, this.1⟩, this.2⟩
theorem own_lt {w : World} {base : Nat} {e : TypeId} {size n : Nat} {v : Value} {xs : List Value} (h : w.ownsRow base e size v n xs) (g : Nat) (hg : v.ownBlock = some g) : g < w.heap.size := (h.lt g hg).2
theorem Putted.inAt {s : Nat} {S : Store.Sto s} {A : Fi} {D : Nat → Prop} {w w' : World} {x : Nat} {off : Bool} {ls : List (List B)} {held held' : List B} {n : Nat} {Q R R' : Nat → Prop} {F : Files} {hv hv' : Value} {vs vs' : List SL} (h : InAt S A D w x off ls held n Q R F hv vs) (hp : Putted S A w w' Q R off F n x ls.length hv held' R' hv' vs') : InAt S A (Mid D w w') w' x off ls held' n Q R' F hv' vs' ∧ Upon D w w' :=
  ⟨⟨hp.srt, h.files, fun k hk => .inl (h.q k hk), fun k hk => (hp.r k hk).imp (h.r k) (fun hg => ⟨hg, hp.srt.mem.rlt k hk⟩), .inl h.x, fun k hk => (hp.h k hk).imp (h.h k) (fun hg => ⟨hg, own_lt hp.srt.mem.own k hk⟩)⟩, hp.upon.mono (fun g hg => hg.elim (fun e => by rw [e]; exact h.x) (h.h g))⟩
/-- Put of a record that lies outside. -/
theorem in_put {s : Nat} {S : Store.Sto s} {A : Fi} {D : Nat → Prop} {w : World} {x : Nat} {ls : List (List B)} {held : List B} {n : Nat} (h : LiveIn S A D w x false ls held n) (hn : n < 10000) (hl : ls.length < 10000) {b : B} (hb : b.length = A.wd) (a : Option Addr) (cp : Nat) (hL : Lies w a (b.map bv)) (hLD : ∀ g, Mem.blk a = some g → ¬ D g) :
    Calls Tryz.prog 10 #[.pointer (some ⟨x, 0, none⟩), .slice a b.length cp] w fun e w' => e = .returned (.int .i64 0) ∧ LiveIn S A (Mid D w w') w' x false (putM A.rm (ls, held) b).1 (putM A.rm (ls, held) b).2 (n + 1) ∧ Upon D w w' := by
  obtain ⟨m, Q, R, F, hv, vs, hm, h1⟩ := h
  unfold putM
  by_cases hf : held.length = A.rm
  · simp only [if_pos hf]
    have hne : held ≠ [] := fun e => by
      have := h1.srt.ok.2.2.2.2.1
      rw [e] at hf
      simp at hf
      omega
    refine (put_full h1.srt hf (by omega) (by omega) hb a cp hL (fun g hg => ⟨fun hq => hLD g hg (h1.q g hq), fun e => hLD g hg (by rw [e]; exact h1.x)⟩)).mono ?_
    rintro e w' ⟨rfl, w1, Q1, R', hv', vs', hf1, hp⟩
    have hl1 := hf1.inAt h1 hne (by omega)
    have hp' : Putted S A w1 w' Q1 (fun _ => False) false (setF F (rname A.pf ls.length) (some (runB held))) (m + 1) x (ls ++ [held]).length (.slice none 0 0) [b] R' hv' vs' := by
      rw [List.length_append]
      exact hp
    have hl2 := hp'.inAt hl1.1
    have s1 := hl1.2.size
    have s2 := hl2.2.size
    have hm2 : ∀ k, Mid (Mid D w w1) w1 w' k → Mid D w w' k := fun k hk => by
      rcases hk with (hk | hk) | hk
      · exact .inl hk
      · exact .inr ⟨hk.1, by omega⟩
      · exact .inr ⟨by omega, hk.2⟩
    exact ⟨rfl, ⟨_, _, _, _, _, _, by omega, hl2.1.srt, hl2.1.files, fun k hk => hm2 k (hl2.1.q k hk), fun k hk => hm2 k (hl2.1.r k hk), hm2 x hl2.1.x, fun k hk => hm2 k (hl2.1.h k hk)⟩, hl1.2.trans hl2.2 (fun g hg => hg.imp id (fun h => h.1))⟩
  · simp only [if_neg hf]
    refine (put_room h1.srt (by have := h1.srt.room; omega) hb a cp hL).mono ?_
    rintro e w' ⟨rfl, R', hv', vs', hp⟩
    have hl2 := hp.inAt h1
    exact ⟨rfl, ⟨_, _, _, _, _, _, by omega, hl2.1⟩, hl2.2⟩
theorem in_held {s : Nat} {S : Store.Sto s} {A : Fi} {D : Nat → Prop} {w : World} {x : Nat} {off : Bool} {ls : List (List B)} {held : List B} {n : Nat} (h : LiveIn S A D w x off ls held n) :
    Calls Tryz.prog 11 #[.pointer (some ⟨x, 0, none⟩)] w fun e w' => e = .returned (.int .i64 held.length) ∧ w = w' := by
  obtain ⟨m, Q, R, F, hv, vs, hm, h⟩ := h
  exact held_any h.srt
theorem LiveIn.room {s : Nat} {S : Store.Sto s} {A : Fi} {D : Nat → Prop} {w : World} {x : Nat} {off : Bool} {ls : List (List B)} {held : List B} {n : Nat} (h : LiveIn S A D w x off ls held n) : held.length ≤ A.rm := by
  obtain ⟨m, Q, R, F, hv, vs, hm, h⟩ := h
  exact h.srt.room
theorem in_rows {s : Nat} {S : Store.Sto s} {A : Fi} {D : Nat → Prop} {w : World} {x : Nat} {off : Bool} {ls : List (List B)} {held : List B} {n : Nat} (h : LiveIn S A D w x off ls held n) (hl : ls.length ≤ 1000) (hoff : off = false ∨ ls = []) (all : List B) (hall : all = held ++ ls.flatten) (hmax : all.length ≤ 1000000) :
    Calls Tryz.prog 13 #[.pointer (some ⟨x, 0, none⟩)] w fun e w' => ∃ v, e = .returned (.tuple #[v, .int .i64 0]) ∧ w'.ownsRow w.heap.size 9 1 v all.length ((sortB all).map strB) ∧ Below w.heap.size w w' := by
  obtain ⟨m, Q, R, F, hv, vs, hm, h⟩ := h
  exact rowsLaw_any h.srt ls rfl hl h.files (hoff.imp id (fun e => by rw [e]; rfl)) all hall hmax
/-- begin, and a new sorter. -/
theorem in_new {d s g cm : Nat} {w : World} {Q : Nat → Prop} (h : St w Q s d g 400 cm false none') (B0 : Nat) (hQ : ∀ k, Q k → B0 ≤ k) (hB0 : B0 ≤ w.heap.size) (wd rm : Nat) (h1 : 1 ≤ wd) (h2 : wd ≤ 64) (h3 : 1 ≤ rm) (h4 : rm ≤ 4096) :
    Calls Tryz.prog 7 #[.pointer (some ⟨s, 0, none⟩), .string ⟨#[114]⟩, .int .i64 wd, .int .i64 rm] w fun e w' => ∃ x, e = .returned (.tuple #[.pointer (some ⟨x, 0, none⟩), .int .i64 0]) ∧ LiveIn (bare s d g 400 cm) (fiR s wd rm) (fun k => B0 ≤ k ∧ k < w'.heap.size) w' x false [] [] 0 ∧ Below w.heap.size w w' := by
  refine (new_any (bare s d g 400 cm) (fiR s wd rm) rfl ⟨by simp [fiR, rpf], by simp [fiR, rpf], h1, h2, h3, h4⟩ (bare_new h)).mono ?_
  rintro e w' ⟨x, ne, rfl, hn⟩
  have hne : ne = 0 := by
    rcases Nat.eq_zero_or_pos ne with h | h
    · exact h
    · exact absurd rfl (hn.runs 0 h)
  subst hne
  exact ⟨x, rfl, ⟨0, Q, _, noF, _, _, Nat.le_refl _, hn.srt, ⟨fun j l hj => by simp at hj, fun l hl => by simp at hl, fun l hl => by simp at hl, fun l hl => by simp at hl⟩, fun k hk => ⟨hQ k hk, (bare s d g 400 cm).lt hn.srt.sto k hk⟩, fun _ h => h.elim, ⟨by have := hn.fresh; omega, hn.srt.blk.lt⟩, fun _ h => by cases h⟩, hn.below⟩
set_option maxHeartbeats 400000 in
theorem new_bad (s : Value) (w : World) (wd rm : Int) (h : wd < 1 ∨ 64 < wd ∨ rm < 1 ∨ 4096 < rm) :
    Calls Tryz.prog 7 #[s, .string ⟨#[114]⟩, .int .i64 wd, .int .i64 rm] w fun e w' => e = .returned (.tuple #[.pointer none, .int .i64 1]) ∧ Below w.heap.size w w' := by
  have go : ∀ (t1 t2 t3 t4 : Bool), decide (wd < 1) = t1 → decide (64 < wd) = t2 → decide (rm < 1) = t3 → decide (4096 < rm) = t4 → (t1 || t2 || t3 || t4) = true → Calls Tryz.prog 7 #[s, .string ⟨#[114]⟩, .int .i64 wd, .int .i64 rm] w fun e w' => e = .returned (.tuple #[.pointer none, .int .i64 1]) ∧ Below w.heap.size w w' := by
    intro t1 t2 t3 t4 h1 h2 h3 h4 hor
    clear h
    cases t1 <;> cases t2 <;> cases t3 <;> cases t4 <;> first | (cases hor; done) | skip
    all_goals (
      clear hor
      go_enter Tryz.func7, Tryz.ntmps7
      go_wp2_with fail
      exact bodyPost_ret (v := .tuple #[.pointer none, .int .i64 1]) (by simp [results, Tryz.results7, go_sem]) rfl ⟨rfl, rfl, rfl, rfl, Nat.le_refl _, fun _ _ => rfl⟩)
  refine go _ _ _ _ rfl rfl rfl rfl ?_
  rcases h with h | h | h | h <;> simp [h]
end Go.Proofs.YtcdcnhecimajkaaGreat.Runs

/- palmerref13: Sorted, on the records' texts. -/
namespace Go.Proofs.YtcdcnhecimajkaaGreat.Runs
open Go.RowKit Go.Deep Go.Shelf Mem Crc Go.Maps Go.Proofs.YtcdcnhecimajkaaGreat.Merge

attribute [local go_sem] Oper.semAt_some
theorem leq_str {b c : B} {sb sc : ByteArray} (hb : .string sb = strB b) (hc : .string sc = strB c) : (Op.bytesLess sb.toList sc.toList || sb.toList == sc.toList) = decide (b ≤ c) := by
  unfold strB at hb hc
  injection hb with hb
  injection hc with hc
  subst hb hc
  rw [Lib.toList_data, Lib.toList_data, bytesLess_eq]
  show (decide (b < c) || b == c) = decide (b ≤ c)
  by_cases h : b = c
  · subst h
    simp
  · have hbc : (b == c) = false := by simpa using h
    rw [hbc, Bool.or_false]
    refine decide_eq_decide.2 ⟨fun h => List.le_of_lt h, fun h2 => ?_⟩
    rcases List.le_iff_lt_or_eq.1 h2 with h3 | h3
    · exact h3
    · exact absurd h3 h
theorem binOp_leq_str (t : TypeId) (a b : ByteArray) : binOp .leq t (.string a) (.string b) = pure (.bool (Op.bytesLess a.toList b.toList || a.toList == b.toList)) := by simp [binOp, Op.stringOp]
attribute [local go_sem] binOp_leq_str
theorem slice_if (cp m g a b : Nat) : Value.slice (if cp = m then some ⟨g, 0, none⟩ else some ⟨g, m, none⟩) a b = .slice (some ⟨g, if cp = m then 0 else m, none⟩) a b := by split <;> rfl
theorem slice_ne {cp m : Nat} (g a b : Nat) (h : cp ≠ m) : Value.slice (some ⟨g, m, none⟩) a b = .slice (some ⟨g, if cp = m then 0 else m, none⟩) a b := by rw [if_neg h]
/-- b goes in behind the first n. -/
def insN (out : List B) (n : Nat) (b : B) : List B := out.take n ++ [b] ++ out.drop n
theorem insN_perm (out : List B) (n : Nat) (b : B) : (insN out n b).Perm (out ++ [b]) := by
  unfold insN
  have h : (out.take n ++ [b] ++ out.drop n).Perm (out.take n ++ out.drop n ++ [b]) := by
    rw [List.append_assoc, List.append_assoc]
    exact List.Perm.append_left _ List.perm_append_comm
  rwa [List.take_append_drop] at h
theorem insN_rises {out : List B} {n : Nat} {b : B} (h : Rises out) (h1 : ∀ x ∈ out.take n, x ≤ b) (h2 : ∀ x, out[n]? = some x → ¬ x ≤ b) : Rises (insN out n b) := by
  unfold insN
  have hs : Rises (out.take n ++ out.drop n) := by rw [List.take_append_drop]; exact h
  obtain ⟨ht, hd, htd⟩ := List.pairwise_append.1 hs
  have hbd : ∀ y ∈ out.drop n, b ≤ y := fun y hy => by
    cases hq : out.drop n with
    | nil => rw [hq] at hy; cases hy
    | cons x r =>
      have hx : out[n]? = some x := by
        have := congrArg (·[0]?) hq
        simpa [List.getElem?_drop] using this
      have hbx : b ≤ x := (List.le_total x b).resolve_left (h2 x hx)
      rw [hq] at hy hd
      rcases List.mem_cons.1 hy with rfl | hy
      · exact hbx
      · exact List.le_trans hbx ((List.pairwise_cons.1 hd).1 y hy)
  refine List.pairwise_append.2 ⟨List.pairwise_append.2 ⟨ht, List.pairwise_singleton _ _, fun x hx y hy => by rw [List.mem_singleton.1 hy]; exact h1 x hx⟩, hd, fun x hx y hy => ?_⟩
  rcases List.mem_append.1 hx with hx | hx
  · exact htd x hx y hy
  · rw [List.mem_singleton.1 hx]; exact hbd y hy
set_option maxHeartbeats 2000000 in
set_option maxRecDepth 100000 in
theorem refSorted_any (w : World) (a : Option Addr) (c : Nat) (l : List B) (hL : Lies w a (l.map strB)) (hn : l.length ≤ 1000000) :
    Calls Tryz.prog 15 #[.slice a l.length c] w fun e w' => ∃ v, e = .returned v ∧ w'.ownsRow w.heap.size 9 1 v l.length ((sortB l).map strB) ∧ Below w.heap.size w w' := by
  obtain ⟨i0, hi0, hz0, hz1, hz2⟩ := info_parts infoStr
  obtain ⟨n, hln⟩ : ∃ n, n = l.length := ⟨_, rfl⟩
  rw [← hln] at hn ⊢
  have HL := Lib.hid hL
  have HLN := Lib.hid hln
  clear hL hln
  go_enter Tryz.func15, Tryz.ntmps15
  go_wp2_with fail
  go_loopw [3, 10] (fun o i wr => ∃ (k g cp : Nat) (out : List B), k ≤ n ∧ i = .int .i64 k ∧ o = .slice (some ⟨g, 0, none⟩) k cp ∧ k ≤ cp ∧ w.heap.size ≤ g ∧ wr.ownsRow w.heap.size 9 1 o k (out.map strB) ∧ out.Perm (l.take k) ∧ Rises out ∧ Below w.heap.size w wr) (fun _ i _ => n - (intOf i).toNat)
  case atStart => exact ⟨0, w.heap.size, 0, [], Nat.zero_le _, rfl, rfl, Nat.le_refl _, Nat.le_refl _, own_empty w 9 1, List.Perm.refl _, List.Pairwise.nil, (Below.refl _ w).alloc (Nat.le_refl _) _⟩
  case round =>
    obtain ⟨k, g, cp, out, hk, rfl, rfl, hcp, hg, hown, hperm, hrise, hB⟩ := hrel
    by_cases hlt : k < n
    · have hol : out.length = k := by have := hown.1; simpa using this
      obtain ⟨b, hb⟩ : ∃ b, l[k]? = some b := ⟨l[k]'(by rw [← HLN.out]; exact hlt), List.getElem?_eq_getElem _⟩
      obtain ⟨sb, hsb⟩ : ∃ sb : ByteArray, .string sb = strB b := ⟨_, rfl⟩
      have htk : l.take (k + 1) = l.take k ++ [b] := by rw [List.take_add_one, hb]; rfl
      obtain ⟨lg, lo, rfl, cl⟩ := lies_at (HL.out.later hB) (k := k) (u := .string sb) (by simp [hb, hsb])
      have HLO := Lib.hid (show Lies wr (some ⟨g, 0, none⟩) (out.map strB) from by
        obtain ⟨_, _, e, _, h, _, _⟩ := own_shape hown
        cases e
        exact h)
      have HOL := Lib.hid hol
      have HSB := Lib.hid hsb
      have HTK := Lib.hid htk
      have HOWN := Lib.hid hown
      have HPERM := Lib.hid hperm
      have HRISE := Lib.hid hrise
      have HB := Lib.hid hB
      have HCL := Lib.hid cl
      have hw : RowKit.wrap64 ((k : Int) + 1) = (k : Int) + 1 := IntWalk.wrap64_in _ (by omega)
      clear hol hb hsb htk hown hperm hrise hB cl
      go_wp2_with fail
      go_loopw [5] (fun t5 wr2 => ∃ m q : Nat, m ≤ k ∧ t5 = .int .i64 m ∧ wr2 = wr.drewN q ∧ ∀ x ∈ out.take m, x ≤ b) (fun i _ => k - (intOf i).toNat)
      case atStart => exact ⟨0, 0, Nat.zero_le _, rfl, rfl, fun x hx => by simp at hx⟩
      case round =>
        obtain ⟨m, q, hm, rfl, rfl, hpre⟩ := hrel
        have HPRE := Lib.hid hpre
        clear hpre
        have cl : (wr.drewN q).cell? ⟨lg, lo + k, none⟩ = some (.string sb) := HCL.out
        obtain ⟨W, hW⟩ : ∃ W, W = wr.drewN q := ⟨_, rfl⟩
        rw [← hW] at cl ⊢
        have HW := Lib.hid hW
        clear hW
        have hcase : (m < k ∧ ∃ x, out[m]? = some x ∧ x ≤ b) ∨ ((m < k ∧ ∃ x, out[m]? = some x ∧ ¬ x ≤ b) ∨ m = k) := by
          by_cases h : m < k
          · have hx : out[m]? = some (out[m]'(by rw [HOL.out]; exact h)) := List.getElem?_eq_getElem _
            by_cases h2 : out[m]'(by rw [HOL.out]; exact h) ≤ b
            · exact .inl ⟨h, _, hx, h2⟩
            · exact .inr (.inl ⟨h, _, hx, h2⟩)
          · exact .inr (.inr (by omega))
        rcases hcase with ⟨hmk, x, hx, hxb⟩ | hcase
        · obtain ⟨sx, hsx⟩ : ∃ sx : ByteArray, .string sx = strB x := ⟨_, rfl⟩
          have c1 : W.cell? ⟨g, m, none⟩ = some (.string sx) := by
            rw [HW.out]
            obtain ⟨_, _, e, h⟩ := lies_at (HLO.out.drewN q) (k := m) (u := .string sx) (by simp [hx, hsx])
            cases e
            rw [Nat.zero_add] at h
            exact h
          have hle : (Op.bytesLess sx.toList sb.toList || sx.toList == sb.toList) = true := by rw [leq_str hsx HSB.out]; simpa using hxb
          have htm : out.take (m + 1) = out.take m ++ [x] := by rw [List.take_add_one, hx]; rfl
          have HTM := Lib.hid htm
          have HXB := Lib.hid hxb
          have hwm : RowKit.wrap64 ((m : Int) + 1) = (m : Int) + 1 := IntWalk.wrap64_in _ (by omega)
          clear hx hsx htm hxb
          go_wp2
          go_quiet (fail)
          go_wp2
          go_roundw
          case rel =>
            refine ⟨m + 1, q + nq, by omega, by simp [hwm], by rw [HW.out]; simp [World.drewN, Nat.add_assoc], ?_⟩
            rw [HTM.out]
            intro z hz
            rcases List.mem_append.1 hz with hz | hz
            · exact HPRE.out z hz
            · rw [List.mem_singleton.1 hz]; exact HXB.out
          case measure => simp [intOf, hwm]; omega
        · have hstop : ∀ x, out[m]? = some x → ¬ x ≤ b := fun x hx => by
            rcases hcase with ⟨_, y, hy, hyb⟩ | rfl
            · rw [hx] at hy; cases hy; exact hyb
            · rw [List.getElem?_eq_none (by rw [HOL.out]; exact Nat.le_refl _)] at hx; cases hx
          have HSTOP := Lib.hid hstop
          clear hstop
          rcases hcase with ⟨hmk, x, hx, hxb⟩ | hmk
          case' inl =>
            obtain ⟨sx, hsx⟩ : ∃ sx : ByteArray, .string sx = strB x := ⟨_, rfl⟩
            have c1 : W.cell? ⟨g, m, none⟩ = some (.string sx) := by
              rw [HW.out]
              obtain ⟨_, _, e, h⟩ := lies_at (HLO.out.drewN q) (k := m) (u := .string sx) (by simp [hx, hsx])
              cases e
              rw [Nat.zero_add] at h
              exact h
            have hle : (Op.bytesLess sx.toList sb.toList || sx.toList == sb.toList) = false := by rw [leq_str hsx HSB.out]; simpa using hxb
            clear hx hsx hxb
            go_wp2
            go_quiet (fail)
          case' inr =>
            replace hmk : ¬ m < k := by omega
            go_wp2
            go_quiet (fail)
          all_goals (
            obtain ⟨W2, hW2⟩ : ∃ W2, W2 = W.drewN nq := ⟨_, rfl⟩
            rw [← hW2]
            have e2 : W2 = wr.drewN (q + nq) := by rw [hW2, HW.out]; simp [World.drewN, Nat.add_assoc]
            have hsz2 : W2.heap.size = wr.heap.size := by rw [e2]; rfl
            have hB2 : Below wr.heap.size wr W2 := by rw [e2]; exact ⟨rfl, rfl, rfl, Nat.le_refl _, fun _ _ => rfl⟩
            have hA2 : Below wr.heap.size wr (W2.alloc (.cells #[] 9)) := hB2.alloc hB2.size _
            have HO0 := Lib.hid (show (W2.alloc (.cells #[] 9)).ownsRow wr.heap.size 9 1 (.slice (some ⟨W2.heap.size, 0, none⟩) 0 0) 0 [] from own_mono (own_empty W2 9 1) (by omega))
            have HN1 := Lib.hid (show ((out.take m).map strB).length = m * 1 from by have := HOL.out; simp; omega)
            have HC1 := Lib.hid (show ∀ j u, ((out.take m).map strB)[j]? = some u → (W2.alloc (.cells #[] 9)).cell? ((⟨g, 0, none⟩ : Addr).add j) = some u from lies_add (by rw [List.map_take]; exact (HLO.out.later hA2).take m))
            have H1 := Lib.hid (show ∀ u ∈ (out.take m).map strB, u.oneCell' = true from fun u hu => by
              obtain ⟨x, _, rfl⟩ := List.mem_map.1 hu
              rfl)
            have HA2 := Lib.hid hA2
            have HZ2 := Lib.hid hsz2
            clear hW2 e2 hB2 hA2 hsz2
            go_wp2_with (first | (at_builtin; refine wpList_append_own _ rfl _ _ 34 rfl wr.heap.size 9 i0 (.string .empty) 1 16 Tryz.underlying34 hi0 hz0 hz1 hz2 rfl (by decide) _ _ _ rfl HO0.out ⟨g, 0, none⟩ m cp ((out.take m).map strB) rfl HN1.out HC1.out H1.out ?c3 ?c4 ?c5 ?_))
            case c3 => unfold maxLen; omega
            case c4 => omega
            case c5 => rw [World.size_alloc, HZ2.out]; omega
            intro v1 w1 hown1 hgrow1 hv1
            have hB1 : Below wr.heap.size wr w1 := HA2.out.grown hgrow1 (by rw [World.size_alloc, HZ2.out]; omega) (fun q hq => (HO0.out.lt q hq).1)
            obtain ⟨a1, cp1, rfl, _, _, _, ho1⟩ := own_shape hown1
            have HOB1 := Lib.hid ho1
            have c2 : w1.cell? ⟨lg, lo + k, none⟩ = some (.string sb) := (hB1.cell (p := ⟨lg, lo + k, none⟩) (World.block_lt_of_cell? wr _ HCL.out)).trans HCL.out
            have HO1 := Lib.hid (hown1.alloc (.cells #[.string sb] 9))
            have hz1' : wr.heap.size ≤ w1.heap.size := hB1.size
            have HB1 := Lib.hid hB1
            clear hown1 hgrow1 hv1 hB1 ho1
            go_wp2_with (first | (at_builtin; refine wpList_append_own _ rfl _ _ 34 rfl wr.heap.size 9 i0 (.string .empty) 1 16 Tryz.underlying34 hi0 hz0 hz1 hz2 rfl (by decide) _ _ _ rfl HO1.out ⟨w1.heap.size, 0, none⟩ 1 1 [.string sb] rfl rfl (one_at rfl) (by simp [Value.oneCell']) ?d3 ?d4 ?d5 ?_))
            case d3 => unfold maxLen; omega
            case d4 => omega
            case d5 => rw [World.size_alloc]; omega
            intro v2 w2 hown2 hgrow2 hv2
            have hB2 : Below wr.heap.size wr w2 := (HB1.out.alloc hz1' _).grown hgrow2 (by rw [World.size_alloc]; omega) (fun q hq => (HO1.out.lt q (by first | exact hq | exact HOB1.out.trans hq)).1)
            obtain ⟨a2, cp2, rfl, _, _, _, ho2⟩ := own_shape hown2
            have HOB2 := Lib.hid ho2
            have HO2 := Lib.hid hown2
            have HB2 := Lib.hid hB2
            have HV2 := Lib.hid hv2
            clear hown2 hgrow2 hv2 hB2 c2 ho2
            have HC3 := Lib.hid (show ∀ j u, ((out.drop m).map strB)[j]? = some u → w2.cell? ((⟨g, if cp = m then 0 else m, none⟩ : Addr).add j) = some u from by
              by_cases hcm : cp = m
              · rw [List.drop_of_length_le (by rw [HOL.out]; omega)]
                intro j u hu
                simp at hu
              · rw [if_neg hcm]
                refine lies_add ?_
                have := (HLO.out.later HB2.out).drop m
                rw [← List.map_drop] at this
                rwa [Nat.zero_add] at this)
            have HN3 := Lib.hid (show ((out.drop m).map strB).length = (k - m) * 1 from by have := HOL.out; simp; omega)
            have H3 := Lib.hid (show ∀ u ∈ (out.drop m).map strB, u.oneCell' = true from fun u hu => by
              obtain ⟨x, _, rfl⟩ := List.mem_map.1 hu
              rfl)
            have hz2' : wr.heap.size ≤ w2.heap.size := HB2.out.size
            go_wp2_with (first | (at_builtin; refine wpList_append_own _ rfl _ _ 34 rfl wr.heap.size 9 i0 (.string .empty) 1 16 Tryz.underlying34 hi0 hz0 hz1 hz2 rfl (by decide) _ _ _ rfl HO2.out ⟨g, if cp = m then 0 else m, none⟩ (k - m) (cp - m) ((out.drop m).map strB) (slice_if cp m g (k - m) (cp - m)) HN3.out HC3.out H3.out (by unfold maxLen; omega) (by omega) (by omega) ?_) | (at_builtin; refine wpList_append_own _ rfl _ _ 34 rfl wr.heap.size 9 i0 (.string .empty) 1 16 Tryz.underlying34 hi0 hz0 hz1 hz2 rfl (by decide) _ _ _ rfl HO2.out ⟨g, if cp = m then 0 else m, none⟩ (k - m) (cp - m) ((out.drop m).map strB) (slice_ne g (k - m) (cp - m) (show cp ≠ m by omega)) HN3.out HC3.out H3.out (by unfold maxLen; omega) (by omega) (by omega) ?_))
            all_goals (
              intro v3 w3 hown3 hgrow3 hv3
              have hB3 : Below wr.heap.size wr w3 := HB2.out.grown hgrow3 hz2' (fun q hq => (HO2.out.lt q (by first | exact hq | exact HOB2.out.trans hq)).1)
              have ek : m + 1 + (k - m) = k + 1 := by omega
              rw [ek] at hown3
              rcases hown3.2 with ⟨_, e0⟩ | ⟨g3, cp3, cur, e3, hg3, hh3⟩
              · omega
              subst e3
              have hcp3 : k + 1 ≤ cp3 := hh3.2.1
              have HO3 := Lib.hid (show w3.ownsRow wr.heap.size 9 1 (.slice (some ⟨g3, 0, none⟩) (k + 1) cp3) (k + 1) ((insN out m b).map strB) from by
                have e : (insN out m b).map strB = List.take m (out.map strB) ++ [.string sb] ++ List.drop m (out.map strB) := by
                  unfold insN
                  rw [HSB.out]
                  simp
                rw [e]
                simpa using hown3)
              have HB3 := Lib.hid hB3
              clear hown3 hgrow3 hv3 hh3 hB3 cur
              go_wp2
              go_roundw
              case rel =>
                have hs := HB.out.size
                refine ⟨k + 1, g3, cp3, insN out m b, by omega, by simp [hw], rfl, hcp3, by omega, own_mono HO3.out hs, ?_, insN_rises HRISE.out HPRE.out HSTOP.out, HB.out.trans (HB3.out.mono hs)⟩
                rw [HTK.out]
                exact (insN_perm out m b).trans (List.Perm.append_right _ HPERM.out)
              case measure => simp [intOf, hw]; omega))
    · obtain rfl : k = n := by omega
      go_wp2
      go_ret
      refine ⟨_, rfl, ?_, hB⟩
      have := sortB_eq (l := l) (hperm.trans (by rw [HLN.out, List.take_length])) hrise
      rw [← this]
      exact hown
end Go.Proofs.YtcdcnhecimajkaaGreat.Runs

/- palmerlaw13: RunsSorts. -/
namespace Go.Proofs.YtcdcnhecimajkaaGreat.Runs
open Go.RowKit Go.Deep Go.Shelf Mem Crc Go.Maps Go.Proofs.YtcdcnhecimajkaaGreat.Merge
open Go.Proofs.YtcdcnhecimajkaaGreat.Store (Sto Files bare St none')

attribute [local go_sem] Oper.semAt_some
/-- A record as it came in: its slice, and its bytes. -/
abbrev InRec := SL × B
structure InRows (w : World) (a : Option Addr) (l : List InRec) : Prop where
  row : Lies w a (l.map (fun x => sl x.1))
  len : ∀ x ∈ l, x.1.2.1 = x.2.length
  recs : ∀ x ∈ l, Lies w x.1.1 (x.2.map bv)
theorem InRows.later {w w' : World} {a : Option Addr} {l : List InRec} (h : InRows w a l) (hB : Below w.heap.size w w') : InRows w' a l := ⟨h.row.later hB, h.len, fun x hx => (h.recs x hx).later hB⟩
theorem lies_lt {w : World} {a : Option Addr} {xs : List Value} (h : Lies w a xs) (h0 : xs ≠ []) (g : Nat) (hg : Mem.blk a = some g) : g < w.heap.size := by
  rcases h with h | ⟨q, o, rfl, hlt, _⟩
  · exact absurd h h0
  · have : q = g := by simpa [Mem.blk] using hg
    omega
theorem strs (xs : List B) : xs.map strB = (xs.map (fun b => (⟨b.toArray⟩ : ByteArray))).map Value.string := by
  rw [List.map_map]
  rfl
/-- The loop's state at k, behind n calls. -/
structure SortLoop {s : Nat} (S : Store.Sto s) (A : Fi) (w0 : World) (x : Nat) (l : List InRec) (k n gw cw : Nat) (D : Nat → Prop) (ls : List (List B)) (held : List B) (wr : World) : Prop where
  want : wr.ownsRow w0.heap.size 9 1 (.slice (some ⟨gw, 0, none⟩) k cw) k ((l.take k).map (fun y => strB y.2))
  live : LiveIn S A D wr x false ls held n
  dom : ∀ g, D g → w0.heap.size ≤ g ∧ g < wr.heap.size
  out : ¬ D gw
  few : ls.length ≤ n
  perm : (held ++ ls.flatten).Perm ((l.take k).map Prod.snd)
  below : Below w0.heap.size w0 wr
theorem SortLoop.gw_lt {s : Nat} {S : Store.Sto s} {A : Fi} {w0 wr : World} {x k n gw cw : Nat} {l : List InRec} {D : Nat → Prop} {ls : List (List B)} {held : List B} (h : SortLoop S A w0 x l k n gw cw D ls held wr) : w0.heap.size ≤ gw ∧ gw < wr.heap.size := h.want.lt gw rfl
theorem SortLoop.more {s : Nat} {S : Store.Sto s} {A : Fi} {w0 wr : World} {x k n n' gw cw : Nat} {l : List InRec} {D : Nat → Prop} {ls : List (List B)} {held : List B} (h : SortLoop S A w0 x l k n gw cw D ls held wr) (hn : n ≤ n') : SortLoop S A w0 x l k n' gw cw D ls held wr :=
  ⟨h.want, h.live.more hn, h.dom, h.out, Nat.le_trans h.few hn, h.perm, h.below⟩
theorem SortLoop.flush {s : Nat} {S : Store.Sto s} {A : Fi} {w0 wr w1 : World} {x k n gw cw : Nat} {l : List InRec} {D : Nat → Prop} {ls : List (List B)} {held : List B} (h : SortLoop S A w0 x l k n gw cw D ls held wr) (hl : LiveIn S A (Mid D wr w1) w1 x false (ls ++ [held]) [] (n + 1)) (hu : Upon D wr w1) : SortLoop S A w0 x l k (n + 1) gw cw (Mid D wr w1) (ls ++ [held]) [] w1 := by
  have hs := hu.size
  have hb := h.below.size
  refine ⟨own_upon h.want hu (fun g hg => by cases hg; exact h.out), hl, fun g hg => ?_, fun hg => ?_, by rw [List.length_append]; have := h.few; simpa using this, ?_, h.below.trans (hu.below hb (fun g hg => (h.dom g hg).1))⟩
  · rcases hg with hg | hg
    · have := h.dom g hg
      exact ⟨this.1, by omega⟩
    · exact ⟨by omega, hg.2⟩
  · rcases hg with hg | hg
    · exact h.out hg
    · have := h.gw_lt.2
      omega
  · rw [List.flatten_append, List.nil_append]
    refine List.Perm.trans ?_ h.perm
    simpa using List.perm_append_comm
theorem SortLoop.put {s : Nat} {S : Store.Sto s} {A : Fi} {w0 wr w1 w2 : World} {x k n gw cw : Nat} {l : List InRec} {D : Nat → Prop} {ls : List (List B)} {held : List B} (h : SortLoop S A w0 x l k n gw cw D ls held wr) {y : SL} {b : B} (hk : l[k]? = some (y, b)) (hl : LiveIn S A (Mid D wr w1) w1 x false (putM A.rm (ls, held) b).1 (putM A.rm (ls, held) b).2 (n + 1)) (hu : Upon D wr w1)
    (o : Obj) {g3 c3 : Nat} (hown : w2.ownsRow w0.heap.size 9 1 (.slice (some ⟨g3, 0, none⟩) (k + 1) c3) (k + 1) ((l.take k).map (fun y => strB y.2) ++ [strB b])) (hg : (w1.alloc o).grownBy w2 (some gw)) (hat : g3 = gw ∨ g3 = (w1.alloc o).heap.size) : SortLoop S A w0 x l (k + 1) (n + 1) g3 c3 (Mid D wr w1) (putM A.rm (ls, held) b).1 (putM A.rm (ls, held) b).2 w2 := by
  have hs := hu.size
  have hb := h.below.size
  have hgw := h.gw_lt
  have htk : l.take (k + 1) = l.take k ++ [(y, b)] := by rw [List.take_add_one, hk]; rfl
  have hs2 : w1.heap.size ≤ w2.heap.size := by have := hg.size; rw [World.size_alloc] at this; omega
  have hdom : ∀ g, Mid D wr w1 g → w0.heap.size ≤ g ∧ g < w1.heap.size := fun g hg => by
    rcases hg with hg | hg
    · have := h.dom g hg
      exact ⟨this.1, by omega⟩
    · exact ⟨by omega, hg.2⟩
  have hout : ∀ g, g < wr.heap.size → ¬ D g → ¬ Mid D wr w1 g := fun g h1 h2 hg => by
    rcases hg with hg | hg
    · exact h2 hg
    · omega
  have hup : Upon (fun g => g = gw) w1 w2 := (Upon.alloc (Upon.refl (fun g => g = gw) w1) o).trans (Upon.of_grown hg (fun g e => .inl (by cases e; rfl))) (fun g hg => .inl hg)
  refine ⟨?_, hl.keep hup (fun g hg e => hout gw hgw.2 h.out (e ▸ hg)), fun g hg => ⟨(hdom g hg).1, Nat.lt_of_lt_of_le (hdom g hg).2 hs2⟩, ?_, ?_, ?_, ?_⟩
  · rw [htk, List.map_append]
    exact hown
  · rcases hat with rfl | rfl
    · exact hout _ hgw.2 h.out
    · intro hg
      have := (hdom _ hg).2
      rw [World.size_alloc] at this
      omega
  · unfold putM
    have := h.few
    split
    · simp; omega
    · simp; omega
  · rw [htk, List.map_append]
    exact (putM_perm A.rm (ls, held) b).trans (List.Perm.append_right _ h.perm)
  · exact (h.below.trans (hu.below hb (fun g hg => (h.dom g hg).1))).trans (hup.below (by omega) (fun g e => by rw [e]; exact hgw.1))
theorem SortLoop.start {s : Nat} {S : Store.Sto s} {A : Fi} {w0 w2 : World} {x : Nat} {l : List InRec} (h : LiveIn S A (fun k => w0.heap.size ≤ k ∧ k < w2.heap.size) w2 x false [] [] 0) (hB : Below w0.heap.size w0 w2) : SortLoop S A w0 x l 0 0 w2.heap.size 0 (fun k => w0.heap.size ≤ k ∧ k < w2.heap.size) [] [] (w2.alloc (.cells #[] 9)) :=
  ⟨own_mono (own_empty w2 9 1) hB.size, h.later ((Below.refl _ w2).alloc (Nat.le_refl _) _), fun g hg => ⟨hg.1, by rw [World.size_alloc]; omega⟩, fun hg => by omega, Nat.le_refl _, List.Perm.refl _, hB.alloc hB.size _⟩
end Go.Proofs.YtcdcnhecimajkaaGreat.Runs

/- palmerlaw13: RunsSorts, where all holds. -/
namespace Go.Proofs.YtcdcnhecimajkaaGreat.Runs
open Go.RowKit Go.Deep Go.Shelf Mem Crc Go.Maps Go.Proofs.YtcdcnhecimajkaaGreat.Merge
open Go.Proofs.YtcdcnhecimajkaaGreat.Store (Sto Files bare St none')

attribute [local go_sem] Oper.semAt_some
set_option maxHeartbeats 4000000 in
set_option maxRecDepth 100000 in
theorem sorts_in (w : World) (a : Option Addr) (c : Nat) (l : List InRec) (fa : Option Addr) (fc : Nat) (fl : List Bool) (wd rm : Nat) (hL : InRows w a l) (hF : Lies w fa (fl.map Value.bool)) (hn : l.length ≤ 100) (h1 : 1 ≤ wd) (h2 : wd ≤ 64) (h3 : 1 ≤ rm) (h4 : rm ≤ 4096) (hall : ∀ x ∈ l, x.2.length = wd) :
    Calls Tryz.prog 3 #[.int .i64 wd, .int .i64 rm, .slice a l.length c, .slice fa fl.length fc] w fun e w' => e = .returned (.bool true) ∧ Below w.heap.size w w' := by
  obtain ⟨i0, hi0, hz0, hz1, hz2⟩ := info_parts infoStr
  obtain ⟨n, hln⟩ : ∃ n, n = l.length := ⟨_, rfl⟩
  obtain ⟨fn, hfn⟩ : ∃ fn, fn = fl.length := ⟨_, rfl⟩
  rw [← hln] at hn ⊢
  rw [← hfn]
  have HL := Lib.hid hL
  have HF := Lib.hid hF
  have HALL := Lib.hid hall
  have HLN := Lib.hid hln
  have HFN := Lib.hid hfn
  have HBG := Lib.hid (begin_any w)
  clear hL hF hall hln hfn
  go_enter Tryz.func3, Tryz.ntmps3
  go_wp2_with fail
  refine HBG.out.mono ?_
  rintro e w1 ⟨d, s, g, cm, Q, rfl, hst, hQ, hB1⟩
  have HNEW := Lib.hid (in_new hst w.heap.size hQ hB1.size wd rm h1 h2 h3 h4)
  have HB1 := Lib.hid hB1
  clear hst hQ hB1 HBG
  go_wp2_with fail
  refine HNEW.out.mono ?_
  rintro e w2 ⟨x, rfl, hlv, hB2⟩
  have hBB2 : Below w.heap.size w w2 := HB1.out.trans (hB2.mono HB1.out.size)
  have hfew := few_yes w2 a c wd (l.map Prod.fst) (by have := (HL.out.later hBB2).row; rw [List.map_map]; exact this) (by rw [List.length_map, ← HLN.out]; exact hn) h1 h2 (fun y hy => by
    obtain ⟨z, hz, rfl⟩ := List.mem_map.1 hy
    rw [HL.out.len z hz]
    exact HALL.out z hz)
  rw [List.length_map, ← HLN.out] at hfew
  have HFEW := Lib.hid hfew
  have HST := Lib.hid (SortLoop.start (l := l) hlv hBB2)
  clear hfew hlv hB2 hBB2 HNEW HB1
  go_wp2_with fail
  refine HFEW.out.mono ?_
  rintro e w3 ⟨rfl, hw3⟩
  subst hw3
  clear HFEW
  go_wp2_with fail
  go_loopw [14, 15] (fun v i wr => ∃ (k gw cw : Nat) (D : Nat → Prop) (ls : List (List B)) (held : List B), k ≤ n ∧ i = .int .i64 k ∧ v = .slice (some ⟨gw, 0, none⟩) k cw ∧ SortLoop (bare s d g 400 cm) (fiR s wd rm) w x l k (2 * k) gw cw D ls held wr) (fun _ i _ => n - (intOf i).toNat)
  case atStart => exact ⟨0, _, _, _, _, _, Nat.zero_le _, rfl, rfl, HST.out⟩
  case round =>
    obtain ⟨k, gw, cw, D, ls, held, hk, rfl, rfl, hSL⟩ := hrel
    have HSL := Lib.hid hSL
    clear hSL
    by_cases hlt : k < n
    · obtain ⟨⟨⟨xa, xn, xc⟩, b⟩, hx⟩ : ∃ z, l[k]? = some z := ⟨l[k]'(by rw [← HLN.out]; exact hlt), List.getElem?_eq_getElem _⟩
      have hmem := List.mem_of_getElem? hx
      have hLr := HL.out.later HSL.out.below
      have hxn : xn = wd := (hLr.len _ hmem).trans (HALL.out _ hmem)
      have hbl : b.length = wd := HALL.out _ hmem
      subst hxn
      have hLb : Lies wr xa (b.map bv) := hLr.recs _ hmem
      have hb0 : b ≠ [] := fun e => by rw [e] at hbl; simp at hbl; omega
      have hxa : ∀ q, Mem.blk xa = some q → q < w.heap.size := lies_lt (HL.out.recs _ hmem) (by simpa using hb0)
      obtain ⟨lg, lo, rfl, cl⟩ := lies_at hLr.row (k := k) (u := .slice xa xn xc) (by simp [hx, sl])
      have hput := in_put HSL.out.live (b := b) (by omega) (by have := HSL.out.few; omega) hbl xa xc hLb (fun q hq hD => by have := hxa q hq; have := (HSL.out.dom q hD).1; omega)
      rw [hbl] at hput
      have HPUT := Lib.hid hput
      have HX := Lib.hid hx
      have HBL := Lib.hid hbl
      have HXA := Lib.hid hxa
      have HB0 := Lib.hid hb0
      have HMEM := Lib.hid hmem
      have hw : RowKit.wrap64 ((k : Int) + 1) = (k : Int) + 1 := IntWalk.wrap64_in _ (by omega)
      clear hmem hLr hbl hLb hb0 hxa hput hx
      go_wp2_with fail
      refine HPUT.out.mono ?_
      rintro e w1 ⟨rfl, hlv1, hu1⟩
      obtain ⟨hn1, hhn⟩ : ∃ q, q = (putM (fiR s xn rm).rm (ls, held) b).2.length := ⟨_, rfl⟩
      have hroom : hn1 ≤ rm := by rw [hhn]; exact hlv1.room
      have hhd := in_held hlv1
      rw [← hhn] at hhd
      have HHELD := Lib.hid hhd
      have HHN := Lib.hid hhn
      have hbb := HSL.out.below.trans (hu1.below HSL.out.below.size (fun q hq => (HSL.out.dom q hq).1))
      obtain ⟨sb, hsb⟩ : ∃ sb : ByteArray, .string sb = strB b := ⟨_, rfl⟩
      have hcv := conv_str (vc := xc) HB0.out ((HL.out.later hbb).recs _ HMEM.out)
      rw [HBL.out, ← hsb] at hcv
      have c2 : w1.cell? ⟨lg, lo + k, none⟩ = some (.slice xa xn xc) := by
        obtain ⟨_, _, e, h⟩ := lies_at (HL.out.later hbb).row (k := k) (u := .slice xa xn xc) (by simp [HX.out, sl])
        cases e
        exact h
      have HOW := Lib.hid ((own_upon HSL.out.want hu1 (fun q hq => by cases hq; exact HSL.out.out)).alloc (.cells #[.string sb] 9))
      have hbs : w.heap.size ≤ w1.heap.size := hbb.size
      have HLV1 := Lib.hid hlv1
      have HU1 := Lib.hid hu1
      have HSB := Lib.hid hsb
      clear hhd hhn hbb hsb hlv1 hu1 HPUT
      go_wp2_with fail
      refine HHELD.out.mono ?_
      rintro e w1' ⟨rfl, rfl⟩
      go_wp2_with (first | (at_builtin; go_loud (refine wpList_append_own_at _ rfl _ _ 34 rfl w.heap.size 9 i0 (.string .empty) 1 16 Tryz.underlying34 hi0 hz0 hz1 hz2 rfl (by decide) _ _ _ rfl HOW.out ⟨w1.heap.size, 0, none⟩ 1 1 [.string sb] rfl rfl (one_at rfl) (by simp [Value.oneCell']) (by unfold maxLen; omega) (by omega) (by rw [World.size_alloc]; omega) ?_)))
      intro v2 w2 hown2 hgrow2 hv2 hat2
      rcases hown2.2 with ⟨_, e0⟩ | ⟨g3, c3, cur, e3, hg3, hh3⟩
      · omega
      subst e3
      have hS := HSL.out.put HX.out HLV1.out HU1.out (.cells #[.string sb] 9) (g3 := g3) (c3 := c3) (by rw [List.map_take, ← HSB.out]; exact hown2) hgrow2 (by
        rcases hat2 with h | h
        · exact .inl (by simpa [Value.ownBlock] using h)
        · exact .inr (by simpa [Value.ownBlock] using h))
      generalize Mid D wr w1 = D1 at hS
      have hne : (putM (fiR s xn rm).rm (ls, held) b).2 ≠ [] := by
        unfold putM
        split <;> simp
      generalize (putM (fiR s xn rm).rm (ls, held) b).1 = ls1 at hS
      generalize (putM (fiR s xn rm).rm (ls, held) b).2 = held1 at hS hne
      have HS := Lib.hid hS
      have HNE := Lib.hid hne
      clear hS hne hown2 hgrow2 hv2 hat2 hh3 hcv c2 HLV1 HU1 HOW HHELD HHN
      by_cases hf : k < fn
      · obtain ⟨bit, hbit⟩ : ∃ bit, fl[k]? = some bit := ⟨fl[k]'(by rw [← HFN.out]; exact hf), List.getElem?_eq_getElem _⟩
        obtain ⟨fg, fo, rfl, c3⟩ := lies_at (HF.out.later HS.out.below) (k := k) (u := .bool bit) (by simp [hbit])
        clear hbit
        cases bit with
        | false =>
          go_wp2_with fail
          go_roundw
          case rel => exact ⟨k + 1, _, _, _, _, _, by omega, by simp [hw], rfl, HS.out.more (by omega)⟩
          case measure => simp [intOf, hw]; omega
        | true =>
          have HFL := Lib.hid (in_flush HS.out.live HNE.out (by omega) (by have := HS.out.few; omega))
          go_wp2_with fail
          refine HFL.out.mono ?_
          rintro e w4 ⟨rfl, hlv4, hu4⟩
          have hhd : Calls Tryz.prog 11 #[.pointer (some ⟨x, 0, none⟩)] w4 fun e w' => e = .returned (.int .i64 0) ∧ w4 = w' := by simpa using in_held hlv4
          have HHD := Lib.hid hhd
          have HS4 := Lib.hid (HS.out.flush hlv4 hu4)
          clear hhd hlv4 hu4 HFL
          go_wp2_with fail
          refine HHD.out.mono ?_
          rintro e w5 ⟨rfl, rfl⟩
          go_wp2_with fail
          go_roundw
          case rel => exact ⟨k + 1, _, _, _, _, _, by omega, by simp [hw], rfl, HS4.out.more (by omega)⟩
          case measure => simp [intOf, hw]; omega
      · go_wp2_with fail
        go_roundw
        case rel => exact ⟨k + 1, _, _, _, _, _, by omega, by simp [hw], rfl, HS.out.more (by omega)⟩
        case measure => simp [intOf, hw]; omega
    · obtain rfl : k = n := by omega
      have htk : l.take k = l := by rw [HLN.out, List.take_length]
      obtain ⟨bs, hbs⟩ : ∃ bs, bs = l.map Prod.snd := ⟨_, rfl⟩
      have hbn : bs.length = k := by rw [hbs, List.length_map, ← HLN.out]
      have hperm : (held ++ ls.flatten).Perm bs := by have := HSL.out.perm; rw [htk] at this; rw [hbs]; exact this
      have hsort : sortB (held ++ ls.flatten) = sortB bs := sortB_eq ((sortB_perm _).trans hperm) (sortB_rises _)
      have hlen : (held ++ ls.flatten).length = k := by rw [hperm.length_eq]; exact hbn
      have hrows : ∀ W, Below wr.heap.size wr W → Calls Tryz.prog 13 #[.pointer (some ⟨x, 0, none⟩)] W fun e w' => ∃ v, e = .returned (.tuple #[v, .int .i64 0]) ∧ w'.ownsRow W.heap.size 9 1 v k ((sortB bs).map strB) ∧ Below W.heap.size W w' := fun W hW => by
        have := in_rows (HSL.out.live.later hW) (by have := HSL.out.few; omega) (.inl rfl) (held ++ ls.flatten) rfl (by rw [hlen]; omega)
        rw [hlen, hsort] at this
        exact this
      have hwant : Lies wr (some ⟨gw, 0, none⟩) (bs.map strB) := by
        obtain ⟨_, _, e, _, h, _, _⟩ := own_shape HSL.out.want
        cases e
        rw [htk] at h
        rw [hbs, List.map_map]
        exact h
      have hss : (sortB bs).map strB = ((sortB bs).map (fun b => (⟨b.toArray⟩ : ByteArray))).map Value.string := strs _
      have hsn : ((sortB bs).map (fun b => (⟨b.toArray⟩ : ByteArray))).length = k := by rw [List.length_map, (sortB_perm bs).length_eq]; exact hbn
      generalize (sortB bs).map (fun b => (⟨b.toArray⟩ : ByteArray)) = ss at hss hsn
      have HROWS := Lib.hid hrows
      have HWANT := Lib.hid hwant
      have HSS := Lib.hid hss
      have HSN := Lib.hid hsn
      have HBN := Lib.hid hbn
      have HR1 := Lib.hid (hrows wr (Below.refl _ _))
      have HBB := Lib.hid HSL.out.below
      clear htk hbs hbn hperm hsort hlen hrows hwant hss hsn HSL
      go_wp2_with fail
      refine HR1.out.mono ?_
      rintro e w4 ⟨v4, rfl, hO4, hB4⟩
      obtain ⟨va, vc, rfl, _, hL4, _, _⟩ := own_shape hO4
      have HR2 := Lib.hid (HROWS.out w4 hB4)
      have HL4 := Lib.hid hL4
      have HB4 := Lib.hid hB4
      clear hO4 hL4 hB4 HR1
      go_wp2_with fail
      refine HR2.out.mono ?_
      rintro e w5 ⟨v5, rfl, hO5, hB5⟩
      obtain ⟨ua, uc, rfl, _, hL5, _, _⟩ := own_shape hO5
      have hB45 : Below wr.heap.size wr w5 := HB4.out.trans (hB5.mono HB4.out.size)
      have href := refSorted_any w5 (some ⟨gw, 0, none⟩) cw bs (HWANT.out.later hB45) (by rw [HBN.out]; omega)
      rw [HBN.out] at href
      have HREF := Lib.hid href
      have HL5 := Lib.hid hL5
      have HL45 := Lib.hid (HL4.out.later hB5)
      have HBB5 := Lib.hid (HBB.out.trans (hB45.mono HBB.out.size))
      clear hO5 hL5 hB5 hB45 href HR2
      go_wp2_with fail
      refine HREF.out.mono ?_
      rintro e w6 ⟨v6, rfl, hO6, hB6⟩
      obtain ⟨ta, tc, rfl, _, hL6, _, _⟩ := own_shape hO6
      have hsame := same_yes w6 va ta vc tc ss (by rw [← HSS.out]; exact HL45.out.later hB6) (by rw [← HSS.out]; exact hL6) (by rw [HSN.out]; omega)
      rw [HSN.out] at hsame
      have HSAME := Lib.hid hsame
      have HL56 := Lib.hid (HL5.out.later hB6)
      have HL46 := Lib.hid (HL45.out.later hB6)
      have HBB6 := Lib.hid (HBB5.out.trans (hB6.mono HBB5.out.size))
      clear hO6 hL6 hB6 hsame HREF
      go_wp2_with fail
      refine HSAME.out.mono ?_
      rintro e w7 ⟨rfl, m7, hm7⟩
      have hB7 : Below w6.heap.size w6 w7 := by rw [hm7]; exact ⟨rfl, rfl, rfl, Nat.le_refl _, fun _ _ => rfl⟩
      have hsame2 := same_yes w7 ua va uc vc ss (by rw [← HSS.out]; exact HL56.out.later hB7) (by rw [← HSS.out]; exact HL46.out.later hB7) (by rw [HSN.out]; omega)
      rw [HSN.out] at hsame2
      have HSAME2 := Lib.hid hsame2
      have HBB7 := Lib.hid (HBB6.out.trans (hB7.mono HBB6.out.size))
      clear hm7 hB7 hsame2 HSAME
      go_wp2_with fail
      refine HSAME2.out.mono ?_
      rintro e w8 ⟨rfl, m8, hm8⟩
      have hB8 : Below w7.heap.size w7 w8 := by rw [hm8]; exact ⟨rfl, rfl, rfl, Nat.le_refl _, fun _ _ => rfl⟩
      have HA := Lib.hid (awake_any w8)
      have HBB8 := Lib.hid (HBB7.out.trans (hB8.mono HBB7.out.size))
      clear hm8 hB8 HSAME2
      go_wp2_with fail
      refine HA.out.mono ?_
      rintro e w9 ⟨rfl, hB9⟩
      have HBB9 := Lib.hid (HBB8.out.trans (hB9.mono HBB8.out.size))
      clear hB9 HA
      go_wp2_with fail
      go_ret
      exact ⟨rfl, HBB9.out⟩
end Go.Proofs.YtcdcnhecimajkaaGreat.Runs

/- palmerlaw13: RunsSorts, the whole law. -/
namespace Go.Proofs.YtcdcnhecimajkaaGreat.Runs
open Go.RowKit Go.Deep Go.Shelf Mem Crc Go.Maps Go.Proofs.YtcdcnhecimajkaaGreat.Merge
open Go.Proofs.YtcdcnhecimajkaaGreat.Store (Sto Files bare St none')

attribute [local go_sem] Oper.semAt_some
theorem new_each {d s g cm : Nat} {w : World} {Q : Nat → Prop} (h : St w Q s d g 400 cm false none') (wd rm : Int) :
    Calls Tryz.prog 7 #[.pointer (some ⟨s, 0, none⟩), .string ⟨#[114]⟩, .int .i64 wd, .int .i64 rm] w fun e w' => ∃ (v : Value) (ne : Int), e = .returned (.tuple #[v, .int .i64 ne]) ∧ Below w.heap.size w w' := by
  by_cases hb : wd < 1 ∨ 64 < wd ∨ rm < 1 ∨ 4096 < rm
  · refine (new_bad (.pointer (some ⟨s, 0, none⟩)) w wd rm hb).mono ?_
    rintro e w' ⟨rfl, hB⟩
    exact ⟨_, _, rfl, hB⟩
  · obtain ⟨a, rfl⟩ : ∃ a : Nat, wd = a := ⟨wd.toNat, by omega⟩
    obtain ⟨b, rfl⟩ : ∃ b : Nat, rm = b := ⟨rm.toNat, by omega⟩
    refine (in_new h 0 (fun _ _ => Nat.zero_le _) (Nat.zero_le _) a b (by omega) (by omega) (by omega) (by omega)).mono ?_
    rintro e w' ⟨x, rfl, _, hB⟩
    exact ⟨_, _, rfl, hB⟩
/-- What few answers of rows that came in. -/
theorem few_each (w : World) (a : Option Addr) (c : Nat) (l : List InRec) (hL : InRows w a l) (wd : Int) :
    Calls Tryz.prog 8 #[.slice a l.length c, .int .i64 wd] w fun e w' => e = .returned (.bool (decide (l.length ≤ 100 ∧ 1 ≤ wd ∧ wd ≤ 64 ∧ ∀ x ∈ l, (x.2.length : Int) = wd))) ∧ w' = w := by
  by_cases h0 : 100 < l.length ∨ wd < 1 ∨ 64 < wd
  · rw [decide_eq_false (fun h => by omega)]
    exact few_no w a l.length c wd h0
  · obtain ⟨k, rfl⟩ : ∃ k : Nat, wd = k := ⟨wd.toNat, by omega⟩
    have hrow : Lies w a ((l.map Prod.fst).map sl) := by rw [List.map_map]; exact hL.row
    have hn : (l.map Prod.fst).length ≤ 100 := by rw [List.length_map]; omega
    by_cases hall : ∀ x ∈ l, (x.2.length : Int) = k
    · rw [decide_eq_true ⟨by omega, by omega, by omega, hall⟩]
      have := few_yes w a c k (l.map Prod.fst) hrow hn (by omega) (by omega) (fun y hy => by
        obtain ⟨z, hz, rfl⟩ := List.mem_map.1 hy
        rw [hL.len z hz]
        have := hall z hz
        omega)
      rw [List.length_map] at this
      exact this
    · rw [decide_eq_false (fun h => hall h.2.2.2)]
      have := few_odd w a c k (l.map Prod.fst) hrow hn (by omega) (by omega) (fun h => hall (fun x hx => by
        have h2 := h x.1 (List.mem_map.2 ⟨x, hx, rfl⟩)
        rw [hL.len x hx] at h2
        omega))
      rw [List.length_map] at this
      exact this
set_option maxHeartbeats 1000000 in
set_option maxRecDepth 100000 in
theorem sorts_bad (w : World) (a : Option Addr) (c : Nat) (l : List InRec) (f : Value) (wd rm : Int) (hL : InRows w a l) (hbad : ¬ (l.length ≤ 100 ∧ 1 ≤ wd ∧ wd ≤ 64 ∧ ∀ x ∈ l, (x.2.length : Int) = wd) ∨ (wd < 1 ∨ 64 < wd ∨ rm < 1 ∨ 4096 < rm)) :
    Calls Tryz.prog 3 #[.int .i64 wd, .int .i64 rm, .slice a l.length c, f] w fun e w' => e = .returned (.bool true) ∧ Below w.heap.size w w' := by
  have HFEW : Hid (∀ W, Below w.heap.size w W → Calls Tryz.prog 8 #[.slice a l.length c, .int .i64 wd] W fun e w' => e = .returned (.bool (decide (l.length ≤ 100 ∧ 1 ≤ wd ∧ wd ≤ 64 ∧ ∀ x ∈ l, (x.2.length : Int) = wd))) ∧ w' = W) := Lib.hid (fun W hW => few_each W a c l (hL.later hW) wd)
  have HBG := Lib.hid (begin_any w)
  obtain ⟨n, hn⟩ : ∃ n, n = l.length := ⟨_, rfl⟩
  rw [← hn] at HFEW hbad ⊢
  clear hL hn
  by_cases hf : n ≤ 100 ∧ 1 ≤ wd ∧ wd ≤ 64 ∧ ∀ x ∈ l, (x.2.length : Int) = wd
  · have hb := hbad.resolve_left (fun h => h hf)
    rw [decide_eq_true hf] at HFEW
    have HNEW : Hid (∀ (s : Value) (W : World), Calls Tryz.prog 7 #[s, .string ⟨#[114]⟩, .int .i64 wd, .int .i64 rm] W fun e w' => e = .returned (.tuple #[.pointer none, .int .i64 1]) ∧ Below W.heap.size W w') := Lib.hid (fun s W => new_bad s W wd rm hb)
    clear hf hb hbad
    go_enter Tryz.func3, Tryz.ntmps3
    go_wp2_with fail
    refine HBG.out.mono ?_
    rintro e w1 ⟨d, s, g, cm, Q, rfl, hst, hQ, hB1⟩
    have HN := Lib.hid (HNEW.out (.pointer (some ⟨s, 0, none⟩)) w1)
    have HB1 := Lib.hid hB1
    clear hst hQ hB1 HBG
    go_wp2_with fail
    refine HN.out.mono ?_
    rintro e w2 ⟨rfl, hB2⟩
    have HB2 := Lib.hid (HB1.out.trans (hB2.mono HB1.out.size))
    have HFE := Lib.hid (HFEW.out w2 HB2.out)
    clear hB2 HN HNEW
    go_wp2_with fail
    refine HFE.out.mono ?_
    rintro e w3 ⟨rfl, hw3⟩
    subst hw3
    have HA := Lib.hid (awake_any w3)
    clear HFE HFEW
    go_wp2_with fail
    refine HA.out.mono ?_
    rintro e w4 ⟨rfl, hB4⟩
    have HB4 := Lib.hid (HB2.out.trans (hB4.mono HB2.out.size))
    clear hB4 HA
    go_wp2_with fail
    go_ret
    exact ⟨rfl, HB4.out⟩
  · rw [decide_eq_false hf] at HFEW
    clear hf hbad
    go_enter Tryz.func3, Tryz.ntmps3
    go_wp2_with fail
    refine HBG.out.mono ?_
    rintro e w1 ⟨d, s, g, cm, Q, rfl, hst, hQ, hB1⟩
    have HN := Lib.hid (new_each hst wd rm)
    have HB1 := Lib.hid hB1
    clear hst hQ hB1 HBG
    go_wp2_with fail
    refine HN.out.mono ?_
    rintro e w2 ⟨v, ne, rfl, hB2⟩
    have HB2 := Lib.hid (HB1.out.trans (hB2.mono HB1.out.size))
    have HFE := Lib.hid (HFEW.out w2 HB2.out)
    clear hB2 HN
    go_wp2_with fail
    refine HFE.out.mono ?_
    rintro e w3 ⟨rfl, hw3⟩
    subst hw3
    have HA := Lib.hid (awake_any w3)
    clear HFE HFEW
    go_wp2_with fail
    refine HA.out.mono ?_
    rintro e w4 ⟨rfl, hB4⟩
    have HB4 := Lib.hid (HB2.out.trans (hB4.mono HB2.out.size))
    clear hB4 HA
    go_wp2_with fail
    go_ret
    exact ⟨rfl, HB4.out⟩
set_option maxRecDepth 100000 in
theorem sorts_law {H : Type} {enc : TypeId × Value → H} {base : Nat} (v0 v1 v2 v3 : Value) (d0 d1 d2 d3 : DataW H) (p0 p1 p2 p3 : List MemPlace) (W : World)
    (q0 : Value.okWide Tryz.prog W .any base 3 v0) (h0 : DataW.Trod enc Tryz.prog W 0 (fun _ => true) true 3 v0 d0 p0)
    (q1 : Value.okWide Tryz.prog W .any base 3 v1) (h1 : DataW.Trod enc Tryz.prog W 0 (fun _ => true) true 3 v1 d1 p1)
    (q2 : Value.okWide Tryz.prog W .any base 22 v2) (h2 : DataW.Trod enc Tryz.prog W 0 (fun _ => true) true 22 v2 d2 p2)
    (q3 : Value.okWide Tryz.prog W .any base 23 v3) (h3 : DataW.Trod enc Tryz.prog W 0 (fun _ => true) true 23 v3 d3 p3) :
    Calls Tryz.prog 3 #[v0, v1, v2, v3] W fun e w' => e = .returned (.bool true) ∧ Below W.heap.size W w' := by
  obtain ⟨wd, rfl, _⟩ := Args.int_open Tryz.underlying3 q0 h0
  obtain ⟨rm, rfl, _⟩ := Args.int_open Tryz.underlying3 q1 h1
  obtain ⟨a, cap, l, rfl, _, _, hl, hL⟩ := Args.rows_open Tryz.underlying22 Tryz.underlying36 Tryz.underlying5 (by kernel_rfl) (by kernel_rfl) q2 h2
  obtain ⟨fa, fcap, fl, rfl, _, _, hF⟩ := Args.bools_open Tryz.underlying23 Tryz.underlying4 (by kernel_rfl) q3 h3
  have hI : InRows W a l := ⟨hL, fun x hx => (hl x hx).1, fun x hx => (hl x hx).2.2.2⟩
  by_cases hg : (l.length ≤ 100 ∧ 1 ≤ wd ∧ wd ≤ 64 ∧ ∀ x ∈ l, (x.2.length : Int) = wd) ∧ 1 ≤ rm ∧ rm ≤ 4096
  · obtain ⟨⟨g1, g2, g3, g4⟩, g5, g6⟩ := hg
    obtain ⟨k, rfl⟩ : ∃ k : Nat, wd = k := ⟨wd.toNat, by omega⟩
    obtain ⟨m, rfl⟩ : ∃ k : Nat, rm = k := ⟨rm.toNat, by omega⟩
    exact sorts_in W a cap l fa fcap fl k m hI hF g1 (by omega) (by omega) (by omega) (by omega) (fun x hx => by have := g4 x hx; omega)
  · refine sorts_bad W a cap l (.slice fa fl.length fcap) wd rm hI ?_
    by_cases hf : l.length ≤ 100 ∧ 1 ≤ wd ∧ wd ≤ 64 ∧ ∀ x ∈ l, (x.2.length : Int) = wd
    · refine .inr (.inr (.inr ?_))
      by_cases h : rm < 1
      · exact .inl h
      · refine .inr ?_
        have : ¬ (1 ≤ rm ∧ rm ≤ 4096) := fun h => hg ⟨hf, h⟩
        omega
    · exact .inl hf
end Go.Proofs.YtcdcnhecimajkaaGreat.Runs

/- palmerlaw13: RunsStops, what its walk leans on. -/
namespace Go.Proofs.YtcdcnhecimajkaaGreat.Runs
open Go.RowKit Go.Deep Go.Shelf Mem Crc Go.Maps Go.Proofs.YtcdcnhecimajkaaGreat.Merge
open Go.Proofs.YtcdcnhecimajkaaGreat.Store (Sto Files bare St none')

attribute [local go_sem] Oper.semAt_some
theorem SortLoop.upon {s : Nat} {S : Store.Sto s} {A : Fi} {w0 wr w' : World} {x k n gw cw : Nat} {l : List InRec} {D P : Nat → Prop} {ls : List (List B)} {held : List B} (h : SortLoop S A w0 x l k n gw cw D ls held wr) (hu : Upon P wr w') (hP : ∀ g, D g → ¬ P g) (hg : ¬ P gw) (hb : ∀ g, P g → w0.heap.size ≤ g) : SortLoop S A w0 x l k n gw cw D ls held w' :=
  ⟨own_upon h.want hu (fun g e => by cases e; exact hg), h.live.keep hu hP, fun g hD => ⟨(h.dom g hD).1, Nat.lt_of_lt_of_le (h.dom g hD).2 hu.size⟩, h.out, h.few, h.perm, h.below.trans (hu.below h.below.size hb)⟩
/-- Is none of these operations a defer? -/
def noDefer (l : List Oper) : Bool := l.all (fun o => match o.op with
  | .defer _ => false
  | _ => true)
section
variable {F : Fence} {n : Nat} {P : Program} {ops : Array Oper} {C : World → Prop}
theorem noDefer_at {l : List Oper} (h : noDefer l = true) {o : Oper} (ho : o ∈ l) : ∀ c, o.op ≠ .defer c := fun c e => by
  have := List.all_eq_true.1 h o ho
  rw [e] at this
  cases this
/-- A quiet operation, in a round too. -/
theorem quiet_op {o : Oper} {a : Act} {K : Act → Prop} {K' : Act → World → Prop} {Q' : Exit → Act → World → Prop} {w : World} (hd : ∀ c, o.op ≠ .defer c) (hC : C w) (hK : ∀ a w', C w' → K a → K' a w') (ha : o.askedIn F P a C) (hq : o.quietIn F n P a C K) : o.wpIn F n P a w K' Q' := by
  obtain ⟨v, hv, hn⟩ := hq
  have hw := hv w hC
  refine ⟨ha w hC, ?_⟩
  rw [Oper.semAt_plain F _ _ hd]
  unfold Oper.quietAtIn at hw
  cases hr : (execOp a.eval o).run P w with
  | halt x w' => rw [hr] at hw; exact hw.elim
  | ok x w' =>
    rw [hr] at hw
    cases x <;> first | exact hw.elim | skip
    · obtain ⟨rfl, rfl⟩ := hw
      exact hK _ _ hC hn
    · obtain ⟨rfl, rfl⟩ := hw
      exact hK _ _ hC hn
    · obtain ⟨rfl, h1, h2⟩ := hw
      exact ⟨h1, h2.mono fun e w2 ⟨he, h3⟩ => by subst he; exact hK _ _ h3 hn⟩
theorem quiet_opAt (hd : noDefer ops.toList = true) {i : Nat} {a : Act} {K : Act → Prop} {K' : Act → World → Prop} {Q' : Exit → Act → World → Prop} {w : World} (hC : C w) (hK : ∀ a w', C w' → K a → K' a w') (h : qOpIn F n P ops C i K a) : wpOpIn F n P ops Q' i K' a w := by
  unfold qOpIn at h
  unfold wpOpIn
  cases ho : ops[i]? with
  | none => rw [ho] at h; exact hK _ _ hC h
  | some o =>
    rw [ho] at h
    dsimp only at h ⊢
    have hm : o ∈ ops.toList := by
      have := Array.mem_of_getElem? ho
      simpa using this
    by_cases hw : Region.wanted o (yielded ops a.tmps) = true
    · rw [if_pos hw] at h ⊢
      exact quiet_op (noDefer_at hd hm) hC hK h.1 h.2
    · rw [if_neg hw] at h ⊢
      exact ⟨h.1 w hC, hK _ _ hC h.2⟩
theorem quiet_any (hd : noDefer ops.toList = true) {md : Region.Mode} {Q : Act → Prop} {Q' : Exit → Act → World → Prop} (hQ : ∀ a w, C w → Q a → Q' .normal a w) : ∀ (fuel : Nat) (listed : Array Bool) (a : Act) (w : World), C w → wpAnyQIn F n P md ops C Q fuel listed a → wpAnyIn F n P md ops Q' fuel listed a w
  | 0, _, _, _, hC, h => ⟨h.1, hQ _ _ hC h.2⟩
  | k + 1, _, _, _, hC, h => ⟨fun h0 => hQ _ _ hC (h.1 h0), fun i hi => quiet_opAt hd hC (fun a' w' hC' => quiet_any hd hQ k _ a' w' hC') (h.2 i hi)⟩
/-- One walk of the text's order serves a quiet region in a round. -/
theorem quiet_round {id : Nat} {Q : Exit → Act → World → Prop} {a : Act} {w : World} {l : List Oper} (hm : P.follows .mixedOrders = true) (hB : Region.lexB .any l.toArray = true) (hd : noDefer l = true)
    (h : wpQuietIn F n P l.toArray (fun w' => ∃ n, w' = w.drewN n) (fun a' => ∀ w', (∃ n, w' = w.drewN n) → Q .normal a' w') l a) : (Code.region id l.toArray true).wpIn F n P Q a w := by
  simp only [Region.lexB, Bool.and_eq_true] at hB
  refine wpIn_region_any hm (quiet_any (C := fun w' => ∃ n, w' = w.drewN n) (Q := fun a' => ∀ w', (∃ n, w' = w.drewN n) → Q .normal a' w') (by simpa using hd) (fun _ w' hw' h => h w' hw') _ _ _ _ ⟨1, rfl⟩ ?_)
  have := wpAnyQIn_lex (F := F) (n := n) (C := fun w' => ∃ n, w' = w.drewN n) (md := .any) hB.1 l 0 (Array.replicate l.toArray.size false) a (by simp) (by simpa using hB.2) h
  simpa using this
end
/-- Put, its frame alone. -/
theorem put_frame {s : Nat} {S : Store.Sto s} {A : Fi} {w : World} {x : Nat} {ls : List (List B)} {held : List B} {n : Nat} {Q R : Nat → Prop} {F : Files} {hv : Value} {vs : List SL} (h1 : Srt S A w Q R false F n x ls.length hv vs held) (hn : n < 10000) (hl : ls.length < 10000) {b : B} (hb : b.length = A.wd) (a : Option Addr) (cp : Nat) (hL : Lies w a (b.map bv)) (hLQ : ∀ g, Mem.blk a = some g → ¬ Q g ∧ g ≠ x) :
    Calls Tryz.prog 10 #[.pointer (some ⟨x, 0, none⟩), .slice a b.length cp] w fun e w' => e = .returned (.int .i64 0) ∧ Upon (fun g => (Q g ∨ g = x) ∨ hv.ownBlock = some g) w w' := by
  by_cases hf : held.length = A.rm
  · refine (put_full h1 hf (by omega) (by omega) hb a cp hL hLQ).mono ?_
    rintro e w' ⟨rfl, w1, Q1, R', hv', vs', hf1, hp⟩
    refine ⟨rfl, (hf1.upon.mono (fun k h => .inl h)).trans hp.upon (fun g hg => ?_)⟩
    rcases hg with rfl | hg
    · exact .inl (.inl (.inr rfl))
    · cases hg
  · refine (put_room h1 (by have := h1.room; omega) hb a cp hL).mono ?_
    rintro e w' ⟨rfl, R', hv', vs', hp⟩
    exact ⟨rfl, hp.upon.mono (fun k h => h.imp (fun e => .inr e) id)⟩
theorem SortLoop.putBox {s : Nat} {S : Store.Sto s} {A : Fi} {w0 wr w1 w2 : World} {x k n gw cw tb : Nat} {l : List InRec} {D : Nat → Prop} {ls : List (List B)} {held : List B} (h : SortLoop S A w0 x l k n gw cw D ls held wr) (hbx : Boxed wr tb 34 (.slice (some ⟨gw, 0, none⟩) k cw)) (hDt : ¬ D tb) (htb : w0.heap.size ≤ tb) {y : SL} {b : B} (hk : l[k]? = some (y, b)) (hl : LiveIn S A (Mid D wr w1) w1 x false (putM A.rm (ls, held) b).1 (putM A.rm (ls, held) b).2 (n + 1)) (hu : Upon D wr w1)
    (o : Obj) {g3 c3 : Nat} (hown : w2.ownsRow w0.heap.size 9 1 (.slice (some ⟨g3, 0, none⟩) (k + 1) c3) (k + 1) ((l.take k).map (fun y => strB y.2) ++ [strB b])) (hg : (w1.alloc o).grownBy w2 (some gw)) (hat : g3 = gw ∨ g3 = (w1.alloc o).heap.size) :
    Boxed w2 tb 34 (.slice (some ⟨gw, 0, none⟩) k cw) ∧ Boxed (w2.setCell ⟨tb, 0, none⟩ (.slice (some ⟨g3, 0, none⟩) (k + 1) c3)) tb 34 (.slice (some ⟨g3, 0, none⟩) (k + 1) c3) ∧ SortLoop S A w0 x l (k + 1) (n + 1) g3 c3 (Mid D wr w1) (putM A.rm (ls, held) b).1 (putM A.rm (ls, held) b).2 (w2.setCell ⟨tb, 0, none⟩ (.slice (some ⟨g3, 0, none⟩) (k + 1) c3)) ∧ ¬ Mid D wr w1 tb := by
  have hb1 : Boxed w1 tb 34 (.slice (some ⟨gw, 0, none⟩) k cw) := (hu.block tb hbx.lt hDt).trans hbx
  have hrow1 : w1.ownsRow w0.heap.size 9 1 (.slice (some ⟨gw, 0, none⟩) k cw) k ((l.take k).map (fun y => strB y.2)) := own_upon h.want hu (fun g e => by cases e; exact h.out)
  have hs1 : w0.heap.size ≤ w1.heap.size := Nat.le_trans h.below.size hu.size
  obtain ⟨q1, q2, q3, q4, q5⟩ := hb1.appended (by decide) hrow1 hs1 htb hown hg
  have hDt2 : ¬ Mid D wr w1 tb := fun hm => by
    rcases hm with hm | hm
    · exact hDt hm
    · have := hbx.lt
      omega
  have hS := h.put hk hl hu o hown hg hat
  refine ⟨q1, q2, hS.upon (P := fun g => g = tb) ((Upon.refl (fun g => g = tb) w2).set (p := ⟨tb, 0, none⟩) (.inl rfl) _) (fun g hg e => hDt2 (e ▸ hg)) (fun e => ?_) (fun g e => by rw [e]; exact htb), hDt2⟩
  exact q1.not_row (by decide) hown (by rw [← e]; rfl)
end Go.Proofs.YtcdcnhecimajkaaGreat.Runs

/- palmerlaw13: RunsStops, where all holds. -/
namespace Go.Proofs.YtcdcnhecimajkaaGreat.Runs
open Go.RowKit Go.Deep Go.Shelf Mem Crc Go.Maps Go.Proofs.YtcdcnhecimajkaaGreat.Merge
open Go.Proofs.YtcdcnhecimajkaaGreat.Store (Sto Files bare St none')
open Go.Proofs.YtcdcnhecimajkaaGreat.Sees

attribute [local go_sem] Oper.semAt_some
theorem stops_end {w w9 : World} {kb D : Nat} (hr : Boxed w9 (kb + 1) 4 (.bool false)) (hK : w9.heap[D]? = some (.deferred (some []))) (hD : kb + 1 < D) (hw : w.heap.size ≤ kb + 1) (hB : Below w.heap.size w w9) :
    (w9.setCell ⟨kb + 1, 0, none⟩ (.bool true)).heap[D]? = some (.deferred (some [])) ∧ ((w9.setCell ⟨kb + 1, 0, none⟩ (.bool true)).putObj D (.deferred none)).cell? ⟨kb + 1, 0, none⟩ = some (.bool true) ∧ Below w.heap.size w ((w9.setCell ⟨kb + 1, 0, none⟩ (.bool true)).putObj D (.deferred none)) := by
  have h1 := hr.set (.bool true)
  have hKE : (w9.setCell ⟨kb + 1, 0, none⟩ (.bool true)).heap[D]? = some (.deferred (some [])) := (Below.heap_setCell w9 ⟨kb + 1, 0, none⟩ (.bool true) D (by show D ≠ kb + 1; omega)).trans hK
  refine ⟨hKE, (boxed_put (.deferred none) h1 hKE rfl).cell, ?_⟩
  have hB1 : Below w.heap.size w (w9.setCell ⟨kb + 1, 0, none⟩ (.bool true)) := hB.setCell (p := ⟨kb + 1, 0, none⟩) hw _
  exact hB1.trans ((Below.refl _ _).grown (grownBy_putObj' _ D _) (by have := hB1.size; omega) (fun q e => by cases e; omega))
set_option maxHeartbeats 4000000 in
set_option maxRecDepth 100000 in
theorem stops_in (w : World) (a : Option Addr) (c : Nat) (l : List InRec) (ma : Option Addr) (mc : Nat) (mo : B) (wd rm kk : Nat) (hL : InRows w a l) (hM : Lies w ma (mo.map bv)) (hmo : mo.length = wd) (hn : l.length ≤ 100) (hkk : kk ≤ 255) (h1 : 1 ≤ wd) (h2 : wd ≤ 64) (h3 : 1 ≤ rm) (h4 : rm ≤ 4096) (hall : ∀ x ∈ l, x.2.length = wd) :
    Calls Tryz.prog 4 #[.int .i64 wd, .int .i64 rm, .slice a l.length c, .int .u8 kk, .slice ma mo.length mc] w fun e w' => e = .returned (.bool true) ∧ Below w.heap.size w w' := by
  obtain ⟨i0, hi0, hz0, hz1, hz2⟩ := info_parts infoStr
  obtain ⟨n, hln⟩ : ∃ n, n = l.length := ⟨_, rfl⟩
  rw [← hln] at hn ⊢
  rw [hmo]
  obtain ⟨W0, hW0⟩ : ∃ W0, W0 = (w.alloc (.cells #[.int .u8 kk] 5)).alloc (.cells #[.bool false] 4) := ⟨_, rfl⟩
  have hB0 : Below w.heap.size w W0 := by rw [hW0]; exact ((Below.refl _ w).alloc (Nat.le_refl _) _).alloc (by simp) _
  have hkb : Boxed W0 w.heap.size 5 (.int .u8 kk) := by rw [hW0]; exact (Boxed.new w _ _).alloc _
  have hrb : Boxed W0 (w.heap.size + 1) 4 (.bool false) := by
    have := Boxed.new (w.alloc (.cells #[.int .u8 kk] 5)) 4 (.bool false)
    rw [World.size_alloc] at this
    rw [hW0]
    exact this
  have hs0 : W0.heap.size = w.heap.size + 2 := by rw [hW0]; simp
  have HL := Lib.hid (hL.later hB0)
  have HM := Lib.hid (hM.later hB0)
  have HMO := Lib.hid hmo
  have HALL := Lib.hid hall
  have HLN := Lib.hid hln
  have HB0 := Lib.hid hB0
  have HKB := Lib.hid hkb
  have HRB := Lib.hid hrb
  have HS0 := Lib.hid hs0
  have HBG := Lib.hid (begin_any W0)
  clear hL hM hall hln hB0 hkb hrb hs0 hmo
  refine (callsIn_wide (n := 5)).1 ?_
  refine callsIn_of_wp_marks Tryz.func4 rfl trivial ?_ rfl
  simp only [Tryz.ntmps4, List.size_toArray, List.length_cons, List.length_nil, Nat.reduceAdd, Nat.reduceSub, Array.replicate_succ, Array.replicate_zero, List.push_toArray, List.append_toArray, List.nil_append, List.cons_append]
  refine wpIn_wide.2 ?_
  go_wp2_with fail
  obtain ⟨kb, hkb⟩ : ∃ kb, kb = w.heap.size := ⟨_, rfl⟩
  rw [← hW0, ← hkb]
  rw [← hkb] at HKB HRB HS0
  have HKBE := Lib.hid hkb
  clear hW0 hkb
  refine HBG.out.mono ?_
  rintro e w1 ⟨d, s, g, cm, Q, rfl, hst, hQ, hB1⟩
  have HNEW := Lib.hid (in_new hst W0.heap.size hQ hB1.size wd rm h1 h2 h3 h4)
  have HB1 := Lib.hid hB1
  clear hst hQ hB1 HBG
  go_wp2_with fail
  refine HNEW.out.mono ?_
  rintro e w2 ⟨x, rfl, hlv, hB2⟩
  have hBB2 : Below W0.heap.size W0 w2 := HB1.out.trans (hB2.mono HB1.out.size)
  have hfew := few_yes w2 a c wd (l.map Prod.fst) (by have := (HL.out.later hBB2).row; rw [List.map_map]; exact this) (by rw [List.length_map, ← HLN.out]; exact hn) h1 h2 (fun y hy => by
    obtain ⟨z, hz, rfl⟩ := List.mem_map.1 hy
    rw [HL.out.len z hz]
    exact HALL.out z hz)
  rw [List.length_map, ← HLN.out] at hfew
  have HFEW := Lib.hid hfew
  have HST := Lib.hid (SortLoop.start (l := l) hlv hBB2)
  clear hfew hlv hB2 hBB2 HNEW HB1
  go_wp2_with fail
  refine HFEW.out.mono ?_
  rintro e w3 ⟨rfl, hw3⟩
  subst hw3
  clear HFEW
  go_wp2_with fail
  obtain ⟨tb, htb⟩ : ∃ tb, tb = w3.heap.size + 1 := ⟨_, rfl⟩
  obtain ⟨WS, hWS⟩ : ∃ WS, WS = (w3.alloc (.cells #[] 9)).alloc (.cells #[.slice (some ⟨w3.heap.size, 0, none⟩) 0 0] 34) := ⟨_, rfl⟩
  have hbx : Boxed WS tb 34 (.slice (some ⟨w3.heap.size, 0, none⟩) 0 0) := by
    have := Boxed.new (w3.alloc (.cells #[] 9)) 34 (.slice (some ⟨w3.heap.size, 0, none⟩) 0 0)
    rw [World.size_alloc] at this
    rw [hWS, htb]
    exact this
  have hst0 : SortLoop (bare s d g 400 cm) (fiR s wd rm) W0 x l 0 0 w3.heap.size 0 (fun k => W0.heap.size ≤ k ∧ k < w3.heap.size) [] [] WS := by
    rw [hWS]
    exact HST.out.upon (P := fun _ => False) ((Upon.refl _ _).alloc _) (fun _ _ h => h) (fun h => h) (fun _ h => h.elim)
  have HBX := Lib.hid hbx
  have HST0 := Lib.hid hst0
  have HTB := Lib.hid htb
  rw [← hWS, ← htb]
  clear hbx hst0 hWS htb HST
  go_loopw [17] (fun i wr => ∃ (k gw cw : Nat) (D : Nat → Prop) (ls : List (List B)) (held : List B), k ≤ n ∧ i = .int .i64 k ∧ Boxed wr tb 34 (.slice (some ⟨gw, 0, none⟩) k cw) ∧ SortLoop (bare s d g 400 cm) (fiR s wd rm) W0 x l k k gw cw D ls held wr ∧ ¬ D tb ∧ W0.heap.size ≤ tb) (fun i _ => n - (intOf i).toNat)
  case atStart => exact ⟨0, _, _, _, _, _, Nat.zero_le _, rfl, HBX.out, HST0.out, fun h => by have := HTB.out; omega, by have := HTB.out; have := HST0.out.below.size; have := HST0.out.gw_lt; omega⟩
  case round =>
    obtain ⟨k, gw, cw, D, ls, held, hk, rfl, hbx, hSL, hDt, htb0⟩ := hrel
    have HSL := Lib.hid hSL
    have HBX := Lib.hid hbx
    have HDT := Lib.hid hDt
    clear hSL hbx hDt
    by_cases hlt : k < n
    · obtain ⟨⟨⟨xa, xn, xc⟩, b⟩, hx⟩ : ∃ z, l[k]? = some z := ⟨l[k]'(by rw [← HLN.out]; exact hlt), List.getElem?_eq_getElem _⟩
      have hmem := List.mem_of_getElem? hx
      have hLr := HL.out.later HSL.out.below
      have hxn : xn = wd := (hLr.len _ hmem).trans (HALL.out _ hmem)
      have hbl : b.length = wd := HALL.out _ hmem
      subst hxn
      have hLb : Lies wr xa (b.map bv) := hLr.recs _ hmem
      have hb0 : b ≠ [] := fun e => by rw [e] at hbl; simp at hbl; omega
      have hxa : ∀ q, Mem.blk xa = some q → q < W0.heap.size := lies_lt (HL.out.recs _ hmem) (by simpa using hb0)
      obtain ⟨lg, lo, rfl, cl⟩ := lies_at hLr.row (k := k) (u := .slice xa xn xc) (by simp [hx, sl])
      have hput := in_put HSL.out.live (b := b) (by omega) (by have := HSL.out.few; omega) hbl xa xc hLb (fun q hq hD => by have := hxa q hq; have := (HSL.out.dom q hD).1; omega)
      rw [hbl] at hput
      have HPUT := Lib.hid hput
      have HX := Lib.hid hx
      have HBL := Lib.hid hbl
      have HB0' := Lib.hid hb0
      have HMEM := Lib.hid hmem
      have hw : RowKit.wrap64 ((k : Int) + 1) = (k : Int) + 1 := IntWalk.wrap64_in _ (by omega)
      clear hmem hLr hbl hLb hb0 hxa hput hx
      go_wp2_with fail
      refine HPUT.out.mono ?_
      rintro e w1 ⟨rfl, hlv1, hu1⟩
      have hbb := HSL.out.below.trans (hu1.below HSL.out.below.size (fun q hq => (HSL.out.dom q hq).1))
      obtain ⟨sb, hsb⟩ : ∃ sb : ByteArray, .string sb = strB b := ⟨_, rfl⟩
      have hcv := conv_str (w := w1.drew) (vc := xc) HB0'.out ((HL.out.later hbb).recs _ HMEM.out)
      rw [HBL.out, ← hsb] at hcv
      have c2 : w1.cell? ⟨lg, lo + k, none⟩ = some (.slice xa xn xc) := by
        obtain ⟨_, _, e, h⟩ := lies_at (HL.out.later hbb).row (k := k) (u := .slice xa xn xc) (by simp [HX.out, sl])
        cases e
        exact h
      have hbx1 : Boxed w1 tb 34 (.slice (some ⟨gw, 0, none⟩) k cw) := (hu1.block tb HBX.out.lt HDT.out).trans HBX.out
      have c1 := hbx1.cell
      have HOW0 := Lib.hid (own_upon HSL.out.want hu1 (fun q hq => by cases hq; exact HSL.out.out))
      have hbs : W0.heap.size ≤ w1.heap.size := hbb.size
      have HLV2 := Lib.hid hlv1
      have HU2 := Lib.hid hu1
      have HSB := Lib.hid hsb
      have HOW : Hid ((w1.alloc (.cells #[.string sb] 9)).drew.ownsRow W0.heap.size 9 1 (.slice (some ⟨gw, 0, none⟩) k cw) k ((l.take k).map (fun y => strB y.2))) := Lib.hid (own_later (HOW0.out.alloc _) ⟨rfl, rfl, rfl, Nat.le_refl _, fun _ _ => rfl⟩)
      have HNW : Hid (∀ j u, ([.string sb] : List Value)[j]? = some u → (w1.alloc (.cells #[.string sb] 9)).drew.cell? ((⟨w1.heap.size, 0, none⟩ : Addr).add j) = some u) := Lib.hid (fun j u h => one_at (w := w1) (t := 9) rfl j u h)
      have HSZ : Hid (W0.heap.size ≤ (w1.alloc (.cells #[.string sb] 9)).drew.heap.size) := Lib.hid (by show W0.heap.size ≤ (w1.alloc (.cells #[.string sb] 9)).heap.size; rw [World.size_alloc]; omega)
      have cA : (w1.alloc (.cells #[.string sb] 9)).cell? ⟨tb, 0, none⟩ = some (.slice (some ⟨gw, 0, none⟩) k cw) := (hbx1.alloc _).cell
      clear hbb hsb hlv1 hu1 hbx1 HOW0 HPUT
      go_wp2_with fail
      refine wp_region_noPanic ?_
      go_region_law (refine step_append_lies _ rfl (.tmp 70) (.tmp 76) 34 rfl W0.heap.size 9 i0 (.string .empty) 1 16 Tryz.underlying34 hi0 hz0 hz1 hz2 rfl (by decide) (.slice (some ⟨gw, 0, none⟩) k cw) k ((l.take k).map (fun y => strB y.2)) (by simp [Act.eval]) HOW.out ⟨w1.heap.size, 0, none⟩ 1 1 [.string sb] (by simp [Act.eval]) rfl HNW.out (by simp [Value.oneCell']) (by decide) (by unfold maxLen; omega) (by omega) HSZ.out _ rfl ?_; intro g3 cap3 w6 hown6 hgrow6 hat6 hlt6; have hpb := HSL.out.putBox HBX.out HDT.out htb0 HX.out HLV2.out HU2.out (.cells #[.string sb] 9) (g3 := g3) (c3 := cap3) (by rw [← HSB.out]; exact hown6) (grown_trans grown_drew hgrow6) (by rcases hat6 with h | h; (exact .inl (by simpa [Value.ownBlock] using h.symm)); exact .inr h); have k6 := hpb.1.cell; have f6 := hpb.1.frozen; have HPB := Lib.hid hpb; clear hpb hown6 hgrow6 hat6 hlt6)
      all_goals
        refine NoPanic.normal ?_
        clear c1 c2 cA k6 f6 hcv
        obtain ⟨w7, hw7⟩ : ∃ w7, w7 = w6.setCell ⟨tb, 0, none⟩ (.slice (some ⟨g3, 0, none⟩) (k + 1) cap3) := ⟨_, rfl⟩
        have hp7 := HPB.out
        rw [← hw7] at hp7 ⊢
        have HP7 := Lib.hid hp7
        clear hp7 hw7 HPB
        go_wp2_with fail
        go_roundw
        case rel => exact ⟨k + 1, _, _, _, _, _, by omega, by simp [hw], HP7.out.2.1, HP7.out.2.2.1, HP7.out.2.2.2, htb0⟩
        case measure => simp [intOf, hw]; omega
    · obtain rfl : k = n := by omega
      have hbb := HSL.out.below
      have hbs : W0.heap.size ≤ wr.heap.size := hbb.size
      have htk : l.take k = l := by rw [HLN.out, List.take_length]
      obtain ⟨bs, hbs2⟩ : ∃ bs, bs = l.map Prod.snd := ⟨_, rfl⟩
      have hbn : bs.length = k := by rw [hbs2, List.length_map, ← HLN.out]
      have HBW : Hid (∀ b ∈ bs, b.length = wd) := Lib.hid (fun b hb => by
        rw [hbs2] at hb
        obtain ⟨z, hz, rfl⟩ := List.mem_map.1 hb
        exact HALL.out z hz)
      have hwant : Lies wr (some ⟨gw, 0, none⟩) (bs.map strB) := by
        obtain ⟨_, _, e, _, h, _, _⟩ := own_shape HSL.out.want
        cases e
        rw [htk] at h
        rw [hbs2, List.map_map]
        exact h
      have hperm : (held ++ ls.flatten).Perm bs := by have := HSL.out.perm; rw [htk] at this; rw [hbs2]; exact this
      have href := refSorted_any wr (some ⟨gw, 0, none⟩) cw bs hwant (by rw [hbn]; omega)
      rw [hbn] at href
      have c1 := HBX.out.cell
      have f1 := HBX.out.frozen
      have HREF := Lib.hid href
      have HBN := Lib.hid hbn
      have HPERM := Lib.hid hperm
      clear htk hbs2 hbn hwant hperm href hbb
      go_wp2_with fail
      refine HREF.out.mono ?_
      rintro e w4 ⟨v4, rfl, hO4, hB4⟩
      obtain ⟨wa, wc, rfl, _, _, _, hwo⟩ := own_shape hO4
      have hbx4 : Boxed w4 tb 34 (.slice (some ⟨gw, 0, none⟩) k cw) := (hB4.block tb HBX.out.lt).trans HBX.out
      have f2 := hbx4.frozen
      have c3 := hbx4.cell
      obtain ⟨W5, hW5⟩ : ∃ W5, W5 = w4.setCell ⟨tb, 0, none⟩ (.slice wa k wc) := ⟨_, rfl⟩
      have hbx5 : Boxed W5 tb 34 (.slice wa k wc) := by rw [hW5]; exact hbx4.set _
      have hu5 : Upon (fun g => g = tb) wr W5 := by
        rw [hW5]
        exact Upon.set (P := fun g => g = tb) (Upon.of_below hB4) (p := ⟨tb, 0, none⟩) (.inl rfl) _
      have hlv5 := HSL.out.live.keep hu5 (fun g hg e => HDT.out (e ▸ hg))
      have hO5 : W5.ownsRow wr.heap.size 9 1 (.slice wa k wc) k ((sortB bs).map strB) := by
        rw [hW5]
        exact own_upon hO4 ((Upon.refl (fun g => g = tb) w4).set (p := ⟨tb, 0, none⟩) (.inl rfl) _) (fun g hg e => hbx4.not_row (by decide) hO4 (by rw [← e]; exact hg.symm))
      have hB5 : Below W0.heap.size W0 W5 := HSL.out.below.trans (hu5.below HSL.out.below.size (fun g e => by rw [e]; exact htb0))
      obtain ⟨m, Q1, R, F, hv, vs, hm, hI⟩ := hlv5
      have hlsn : ls.length ≤ 1000 := by have := HSL.out.few; omega
      have HROWS := Lib.hid (rows_any hI.srt ls rfl hlsn hI.files (.inl rfl))
      have HI := Lib.hid hI
      have HBX5 := Lib.hid hbx5
      have HO5 := Lib.hid hO5
      have HB5 := Lib.hid hB5
      have HDOM : Hid (∀ g, D g → W0.heap.size ≤ g) := Lib.hid (fun g hg => (HSL.out.dom g hg).1)
      clear hbx5 hu5 hO5 hB5 hI hB4 hO4 hwo hbx4 c1 f1 HREF
      go_wp2_with fail
      rw [← hW5]
      clear hW5 f2 c3
      refine HROWS.out.mono ?_
      rintro e w6 ⟨Bs, rs, ad, cr, rfl, hM, hrl, hperm2, hB6⟩
      have hqn := seq_not_nil Bs w6
      have hmo0 : mo ≠ [] := fun e => by have := HMO.out; rw [e] at this; simp at this; omega
      have hput := put_frame (HI.out.srt.later hB6) (by omega) (by omega) (b := mo) HMO.out ma mc (HM.out.later (HB5.out.trans (hB6.mono HB5.out.size))) (fun q hq => by
        have h1 := lies_lt HM.out (by simpa using hmo0) q hq
        exact ⟨fun hQ => by have := HDOM.out q (HI.out.q q hQ); omega, fun e => by have := HDOM.out x HI.out.x; omega⟩)
      rw [HMO.out] at hput
      have HPUT := Lib.hid hput
      have HMG := Lib.hid hM
      have HRL := Lib.hid hrl
      have HPERM2 := Lib.hid hperm2
      have HB6 := Lib.hid hB6
      clear hput hM hrl hperm2 hB6 hmo0 HROWS
      go_wp2_with fail
      refine HPUT.out.mono ?_
      rintro e w7 ⟨rfl, hu7⟩
      clear hqn
      have HU7 := Lib.hid hu7
      clear hu7 HPUT
      go_wp2_with fail
      obtain ⟨mb, hmb⟩ : ∃ mb, mb = w7.heap.size := ⟨_, rfl⟩
      obtain ⟨WR, hWR⟩ : ∃ WR, WR = w7.alloc (.cells #[.int .i64 0] 3) := ⟨_, rfl⟩
      have hmx : Boxed WR mb 3 (.int .i64 0) := by rw [hWR, hmb]; exact Boxed.new w7 _ _
      have hB7 : Below w7.heap.size w7 WR := by rw [hWR]; exact (Below.refl _ w7).alloc (Nat.le_refl _) _
      have hs7 : WR.heap.size = w7.heap.size + 1 := by rw [hWR]; simp
      rw [← hWR, ← hmb]
      have hPD : ∀ q, ((Q1 q ∨ q = x) ∨ hv.ownBlock = some q) → D q := fun q hq => by
        rcases hq with (hq | rfl) | hq
        · exact HI.out.q q hq
        · exact HI.out.x
        · exact HI.out.h q hq
      have hDlt : ∀ q, D q → q < wr.heap.size := fun q hq => (HSL.out.dom q hq).2
      have hPU : ∀ q, Mid R W5 w6 q → ¬ ((Q1 q ∨ q = x) ∨ hv.ownBlock = some q) := fun q hq hp => by
        rcases hq with hq | hq
        · rcases hp with hp | hp
          · have := HI.out.srt.rq q hq
            exact hp.elim this.1 this.2
          · exact HI.out.srt.mem.apart q hq hp
        · have h5 : q < W5.heap.size := by
            rcases hp with (hp | rfl) | hp
            · exact (bare s d g 400 cm).lt HI.out.srt.sto q hp
            · exact HI.out.srt.blk.lt
            · exact own_lt HI.out.srt.mem.own q hp
          omega
      have hMR : Merging WR (Mid R W5 w6) Bs rs ad cr := (HMG.out.upon HU7.out hPU).upon (P := fun _ => False) (Upon.of_below hB7) (fun _ _ h => h)
      have hUlt : ∀ q, Mid R W5 w6 q → q < w7.heap.size := fun q hq => by
        have h6 := HU7.out.size
        have h5 := HB6.out.size
        rcases hq with hq | hq
        · have := HI.out.srt.mem.rlt q hq
          omega
        · omega
      have hUlt2 : ∀ q, Mid R W5 w6 q → q < WR.heap.size := fun q hq => by have := hUlt q hq; omega
      have hbxR : Boxed WR tb 34 (.slice wa k wc) := by
        have h6 : Boxed w6 tb 34 (.slice wa k wc) := (HB6.out.block tb HBX5.out.lt).trans HBX5.out
        have h7 : Boxed w7 tb 34 (.slice wa k wc) := (HU7.out.block tb h6.lt (fun h => HDT.out (hPD tb h))).trans h6
        exact (hB7.block tb h7.lt).trans h7
      have hBR : Below W0.heap.size W0 WR := ((HB5.out.trans (HB6.out.mono HB5.out.size)).trans (HU7.out.below (HB5.out.trans (HB6.out.mono HB5.out.size)).size (fun q hq => HDOM.out q (hPD q hq)))).trans (hB7.mono (((HB5.out.trans (HB6.out.mono HB5.out.size)).trans (HU7.out.below (HB5.out.trans (HB6.out.mono HB5.out.size)).size (fun q hq => HDOM.out q (hPD q hq)))).size))
      have hORR : WR.ownsRow wr.heap.size 9 1 (.slice wa k wc) k ((sortB bs).map strB) := by
        refine own_later (own_upon (own_later HO5.out HB6.out) HU7.out (fun q hq hp => ?_)) hB7
        have h1 := (HO5.out.lt q hq).1
        have h2 := hDlt q (hPD q hp)
        omega
      obtain ⟨wa9, wc9, ews, hz1, hLW, hz2, hz3⟩ := own_shape hORR
      clear hz1 hz2 hz3
      cases ews
      have hkbR : Boxed WR kb 5 (.int .u8 kk) := (hBR.block kb HKB.out.lt).trans HKB.out
      have hall2 : ((rs.map Prod.snd).flatten).Perm bs := HPERM2.out.trans HPERM.out
      have HSEQ := Lib.hid (merge_sees 4 (by omega) Bs (w0 := ⟨WR, Mid R W5 w6, hUlt2⟩) (s := sortB bs) hMR.row hMR.cap hMR.pos (by rw [HRL.out]; omega) hMR.rows hall2 (sortB_rises bs) (sortB_perm bs) (fun b hb => by have := HBW.out b hb; omega) hMR.box.lt (by have := hMR.box.cell 0; simpa using this))
      have HMX := Lib.hid hmx
      have HBXR := Lib.hid hbxR
      have HBR := Lib.hid hBR
      have HLW := Lib.hid hLW
      have HKBR := Lib.hid hkbR
      have HULT := Lib.hid hUlt
      have HMBE := Lib.hid hmb
      have HSZ7 := Lib.hid hs7
      have HOWN : Hid (∀ q, Mem.blk wa = some q → q < mb) := Lib.hid (fun q hq => by
        obtain ⟨_, _, e7, _, _, _, h7⟩ := own_shape HO5.out
        cases e7
        have h1 := own_lt HO5.out q (h7.trans hq)
        have h2 := HB6.out.size
        have h3 := HU7.out.size
        omega)
      have HTMB : Hid (tb ≠ mb) := Lib.hid (fun e => by have h1 := HBX5.out.lt; have h2 := HB6.out.size; have h3 := HU7.out.size; omega)
      have HKMB : Hid (kb ≠ mb) := Lib.hid (fun e => by have h0 := HS0.out; have h1 := HB5.out.size; have h2 := HB6.out.size; have h3 := HU7.out.size; omega)
      have hsl : (sortB bs).length = k := by rw [(sortB_perm bs).length_eq]; exact HBN.out
      have HSL2 := Lib.hid hsl
      clear hmx hbxR hBR hLW hkbR hUlt hORR hMR hPU hPD hDlt hB7 hWR hall2 hsl hs7 hmb
      refine (wpIn_wide (n := 5)).1 ?_
      refine wpIn_range_sees rfl (by omega) (gf := 55) (lb := #[.pointer (some ⟨Bs, 0, none⟩)]) rfl trivial (enters_of Tryz.func55 (by kernel_rfl) rfl) HSEQ.out ?mine (fun h k => h.trans k) (fun W l o o' hl ho hc _ => KeepT.putObj W l o o' (fun hu => by have := hUlt2 l hu; omega) ho hc) ?vput (Below.refl _ _) (fun _ => rfl)
        (fun pre W => Boxed W mb 3 (.int .i64 (pre.length : Nat)) ∧ Upon (fun q => q = mb) WR W ∧ pre.length ≤ kk)
        (fun cd pre W => cd = .exit 2 ∧ Boxed W mb 3 (.int .i64 (pre.length : Nat)) ∧ Upon (fun q => q = mb) WR W ∧ pre.length = kk + 1)
        ?own ?ownx ?imine ?ixmine ⟨HMX.out, Upon.refl _ _, Nat.zero_le _⟩ (fun y => { tmps := #[.int .i64 wd, .int .i64 rm, .slice a k c, .int .u8 kk, .slice ma wd mc, undef, undef, undef, .pointer (some ⟨kb, 0, none⟩), undef, .pointer (some { block := kb + 1, off := 0 }), .pointer (some ⟨d, 0, none⟩), .pointer (some ⟨s, 0, none⟩), .bool true, .pointer (some ⟨x, 0, none⟩), .int .i64 0, .pointer (some ⟨tb, 0, none⟩), .int .i64 k, .func (.func 55) #[] #[.pointer (some ⟨Bs, 0, none⟩)], .int .i64 0, .pointer (some ⟨mb, 0, none⟩), sl y.1, .tuple #[.pointer (some ⟨d, 0, none⟩), .pointer (some ⟨s, 0, none⟩), .bool true], .tuple #[.pointer (some ⟨d, 0, none⟩), .pointer (some ⟨s, 0, none⟩), .bool true], .pointer (some ⟨d, 0, none⟩), .pointer (some ⟨s, 0, none⟩), .bool true, .tuple #[.pointer (some ⟨x, 0, none⟩), .int .i64 0], .pointer (some ⟨s, 0, none⟩), .int .i64 wd, .int .i64 rm, .tuple #[.pointer (some ⟨x, 0, none⟩), .int .i64 0], .pointer (some ⟨x, 0, none⟩), .int .i64 0, .bool true, .bool false, .bool false, .slice a k c, .int .i64 wd, .bool true, .bool false, .bool false, .bool false, .int .i64 0, .bool false, .bool false, .bool false, .slice ma wd mc, .int .i64 wd, .int .i64 wd, .bool false, .bool false, undef, undef, undef, undef, .slice (some ⟨w3.heap.size, 0, none⟩) 0 0, .int .i64 k, .slice a k c, .int .i64 k, .bool false, u61, u62, u63, u64, u65, u66, u67, u68, u69, u70, u71, u72, u73, u74, u75, u76, u77, .slice (some ⟨gw, 0, none⟩) k cw, .slice wa k wc, .tuple #[.func (.func 55) #[] #[.pointer (some ⟨Bs, 0, none⟩)], .int .i64 0], .pointer (some ⟨x, 0, none⟩), .tuple #[.func (.func 55) #[] #[.pointer (some ⟨Bs, 0, none⟩)], .int .i64 0], .func (.func 55) #[] #[.pointer (some ⟨Bs, 0, none⟩)], .int .i64 0, .int .i64 0, .bool false, .bool false, .func (.func 55) #[] #[.pointer (some ⟨Bs, 0, none⟩)], .bool false, .bool false, .bool false, .pointer (some ⟨x, 0, none⟩), .slice ma wd mc, .int .i64 0, .bool false, .bool false, .func (.func 55) #[] #[.pointer (some ⟨Bs, 0, none⟩)], sl y.1, undef, undef, undef, undef, undef, undef, undef, undef, undef, undef, undef, undef, undef, undef, undef, undef, undef, undef, undef, undef, undef, undef, undef, undef, undef, undef, undef, undef, undef, undef], defers := [] }) ?assign ?body ?done ?stop
      case assign =>
        intro l y W K hK
        unfold told
        unfold sl at hK ⊢
        gi_wp2
        exact hK
      case mine =>
        intro X Y hf
        refine ⟨hf.size, fun k o hB ho hc => (hf.block k (Array.getElem?_eq_some_iff.1 ho).1 (.inr (fun ⟨cs, t, fr, h1, h2⟩ => ?_))).trans ho⟩
        rw [ho] at h1
        cases h1
        cases hc
      case vput =>
        rintro pre y W l o o' ⟨h1, h2⟩ hl ho hc
        exact ⟨h1, ownsRow_putObj h2 o' ho hc⟩
      case own =>
        rintro pre X Y row ⟨h1, h2, h3⟩ hg hr
        refine ⟨h1.kept hg (fun e => ?_), h2.trans (Upon.of_grown (P := fun q => WR.heap.size ≤ q) hg (fun q e => .inl (hr q e).1)) (fun q hq => .inr hq), h3⟩
        have h4 := (hr mb e.symm).1
        have h5 := HMX.out.lt
        omega
      case ownx =>
        rintro cd pre X Y row ⟨h0, h1, h2, h3⟩ hg hr
        refine ⟨h0, h1.kept hg (fun e => ?_), h2.trans (Upon.of_grown (P := fun q => WR.heap.size ≤ q) hg (fun q e => .inl (hr q e).1)) (fun q hq => .inr hq), h3⟩
        have h4 := (hr mb e.symm).1
        have h5 := HMX.out.lt
        omega
      case imine =>
        rintro pre X Y ⟨h1, h2, h3⟩ hf
        have hX := h2.size
        exact ⟨(hf.block mb h1.lt (.inl HMX.out.lt)).trans h1, h2.trans (Q := fun q => WR.heap.size ≤ q) ⟨hf.os, hf.tape, hf.output, hf.size, fun q hq hn => hf.block q hq (.inl (by show q < WR.heap.size; omega))⟩ (fun q hq => .inr hq), h3⟩
      case ixmine =>
        rintro cd pre X Y ⟨h0, h1, h2, h3⟩ hf
        have hX := h2.size
        exact ⟨h0, (hf.block mb h1.lt (.inl HMX.out.lt)).trans h1, h2.trans (Q := fun q => WR.heap.size ≤ q) ⟨hf.os, hf.tape, hf.output, hf.size, fun q hq hn => hf.block q hq (.inl (by show q < WR.heap.size; omega))⟩ (fun q hq => .inr hq), h3⟩
      case body =>
        rintro lv pre ⟨⟨xa, xn, xc⟩, b⟩ W ⟨hmet, hup, hkk2⟩ hlt ⟨hpre, hO⟩
        have hbm : b ∈ bs := (sortB_perm bs).mem_iff.1 (hpre.subset (by simp))
        have hbw := HBW.out b hbm
        have hbne : b ≠ [] := fun e => by rw [e] at hbw; simp at hbw; omega
        obtain ⟨gb, cb, csb, ey, hgb, hLb, hblk, hcsb⟩ := own_block hO hbne
        dsimp only at ey
        injection ey with ey1 ey2
        injection ey2 with ey2 ey3
        subst ey1 ey2 ey3
        obtain ⟨K0, hK0⟩ : ∃ K0, K0 = pre.length := ⟨_, rfl⟩
        have hK0k : K0 < k := by rw [hK0, ← HSL2.out]; exact hlt
        have hwk : (sortB bs)[K0]? = some b := by
          obtain ⟨t, ht⟩ := hpre
          rw [← ht, List.append_assoc, hK0, List.getElem?_append_right (by simp)]
          simp
        obtain ⟨sb, hsb⟩ : ∃ sb : ByteArray, .string sb = strB b := ⟨_, rfl⟩
        obtain ⟨BL, hBL⟩ : ∃ BL, BL = b.length := ⟨_, rfl⟩
        have hcv : ∀ q, (convert 36 9 (.slice (some ⟨gb, 0, none⟩) BL xc)).run Tryz.prog (W.drewN q) = .ok (.string sb) (W.drewN q) := fun q => by
          have h := conv_str (w := W.drewN q) (vc := xc) hbne (hLb.drewN q)
          rwa [← hsb, ← hBL] at h
        have hmbU : ¬ Mid R W5 w6 mb := fun hm => by have h1 := HULT.out mb hm; have h2 := HMBE.out; omega
        obtain ⟨wg, wo, rfl, cw1⟩ := lies_at (HLW.out.upon hup (fun q hq e => by have h1 := HOWN.out q hq; omega)) (k := K0) (u := .string sb) (by simp [hwk, hsb])
        have c1 := hmet.cell
        rw [← hK0] at c1
        have f1 := hmet.frozen
        have b2 : Boxed W tb 34 (.slice (some ⟨wg, wo, none⟩) k wc) := (hup.block tb HBXR.out.lt HTMB.out).trans HBXR.out
        have b3 : Boxed W kb 5 (.int .u8 kk) := (hup.block kb HKBR.out.lt HKMB.out).trans HKBR.out
        have c2 := b2.cell
        have c3 := b3.cell
        clear b2 b3
        have HK0 := Lib.hid hK0
        rw [← hK0] at hkk2
        have HUP := Lib.hid hup
        have HMET := Lib.hid hmet
        have HMU := Lib.hid hmbU
        clear hbm hbw hbne hLb hblk hcsb hgb hO hpre hwk hsb hmbU hK0 hup hmet
        unfold sl
        dsimp only
        rw [← hBL]
        clear hBL
        gi_wp2
        have hd : decide ((k : Int) ≤ (K0 : Int)) = false := by simp; omega
        have hd2 : decide ((K0 : Int) < (k : Int)) = true := by simp; omega
        have hd3 : decide (k ≤ K0) = false := by simp; omega
        have hd4 : ¬ k ≤ K0 := by omega
        refine quiet_round (by kernel_rfl) (by kernel_rfl) (by kernel_rfl) ?_
        repeat (gi_big_quiet_step (fail))
        refine wpQuietIn_nil ?_
        intro _ hw'
        obtain ⟨nq, hw''⟩ := hw'
        subst hw''
        obtain ⟨W2, hW2⟩ : ∃ W2, W2 = W.drewN nq := ⟨_, rfl⟩
        have hB2 : Below W.heap.size W W2 := by rw [hW2]; exact ⟨rfl, rfl, rfl, Nat.le_refl _, fun _ _ => rfl⟩
        have b1 : Boxed W2 mb 3 (.int .i64 (K0 : Nat)) := by rw [HK0.out]; exact (hB2.block mb HMET.out.lt).trans HMET.out
        have b3 : Boxed W2 kb 5 (.int .u8 kk) := (hB2.block kb (Nat.lt_of_lt_of_le HKBR.out.lt HUP.out.size)).trans ((HUP.out.block kb HKBR.out.lt HKMB.out).trans HKBR.out)
        rw [← hW2]
        clear hW2 c1 c2 c3 cw1 f1 hcv
        have c1 := b1.cell
        have f1 := b1.frozen
        have b4 := b1.set (.int .i64 ((K0 : Int) + 1))
        have b5 := b3.other (Ne.symm (Ne.symm HKMB.out)) (.int .i64 ((K0 : Int) + 1))
        have c4 := b4.cell
        have c5 := b5.cell
        have HB4 := Lib.hid b4
        have hgr : W.grownBy (W2.setCell ⟨mb, 0, none⟩ (.int .i64 ((K0 : Int) + 1))) (some mb) := grown_trans (grown_below hB2) (grownBy_setCell' W2 mb _)
        have hup3 : Upon (fun q => q = mb) W (W2.setCell ⟨mb, 0, none⟩ (.int .i64 ((K0 : Int) + 1))) := Upon.of_grown hgr (fun q e => .inl (by cases e; rfl))
        have HKF : Hid (KeepsFrom WR.heap.size W (W2.setCell ⟨mb, 0, none⟩ (.int .i64 ((K0 : Int) + 1)))) := Lib.hid (KeepsFrom.of_grownBy hgr (fun j e => by cases e; exact HMX.out.lt))
        have HKT : Hid (KeepT (Mid R W5 w6) mineT W (W2.setCell ⟨mb, 0, none⟩ (.int .i64 ((K0 : Int) + 1)))) := Lib.hid (KeepT.of_upon hup3 (fun q e _ => by
          subst e
          exact ⟨HMU.out, not_typed HMET.out (by decide)⟩))
        have HUP3 := Lib.hid (HUP.out.trans hup3 (fun q hq => .inl hq))
        clear hB2 b1 b3 b4 b5 hgr hup3
        gi_wp2
        · rename_i hgt
          refine ⟨HKF.out, rfl, ?_, HUP3.out, ?_⟩
          · rw [List.length_append, ← HK0.out]
            exact HB4.out
          · rw [List.length_append, ← HK0.out]
            simp at hgt ⊢
            omega
        · rename_i hgt
          refine ⟨HKF.out, HKT.out, ?_, HUP3.out, ?_⟩
          · rw [List.length_append, ← HK0.out]
            exact HB4.out
          · rw [List.length_append, ← HK0.out]
            simp at hgt ⊢
            omega
      case done =>
        rintro D ys W hD hys ⟨hmet, hup, hle⟩ hK
        have hlen : ys.length = k := by
          have := congrArg List.length hys
          rw [List.length_map] at this
          exact this.trans HSL2.out
        rw [hlen] at hmet hle
        have b2 : Boxed W tb 34 (.slice wa k wc) := (hup.block tb HBXR.out.lt HTMB.out).trans HBXR.out
        have b3 : Boxed W kb 5 (.int .u8 kk) := (hup.block kb HKBR.out.lt HKMB.out).trans HKBR.out
        have hkm : kb + 1 ≠ mb := fun e => by have h0 := HS0.out; have h1 := HB5.out.size; have h2 := HB6.out.size; have h3 := HU7.out.size; have h4 := HMBE.out; omega
        have hrbW : Boxed WR (kb + 1) 4 (.bool false) := (HBR.out.block (kb + 1) HRB.out.lt).trans HRB.out
        have hrbR : Boxed W (kb + 1) 4 (.bool false) := (hup.block (kb + 1) hrbW.lt hkm).trans hrbW
        have HRW := Lib.hid hrbR
        have HK := Lib.hid hK
        have HDK : Hid (kb + 1 < D) := Lib.hid (by have := hrbW.lt; omega)
        have HBW2 : Hid (Below w.heap.size w W) := Lib.hid ((HB0.out.trans ((HBR.out.mono HB0.out.size))).trans (hup.below (Nat.le_trans (HB0.out.trans (HBR.out.mono HB0.out.size)).size (Nat.le_refl _)) (fun q hq => by rw [hq]; have h0 := HS0.out; have h1 := HB5.out.size; have h2 := HB6.out.size; have h3 := HU7.out.size; have h4 := HMBE.out; have h5 := HKBE.out; omega)))
        have c1 := hmet.cell
        have c2 := b2.cell
        have c3 := b3.cell
        have c4 := hrbR.cell
        have f4 := hrbR.frozen
        have HA := Lib.hid (awake_any W)
        dsimp only
        gi_wp2
        clear hmet hup b2 b3 hrbR hrbW hkm hK
        have hmn : min ((kk : Int) + 1) (k : Int) = (k : Int) := by omega
        clear hys hlen hn hk hlt hbs hm hlsn hD hUlt2 htb0 hle
        go_wp2_with fail
        refine HA.out.mono ?_
        rintro e w9 ⟨rfl, hB9⟩
        have hr9 : Boxed w9 (kb + 1) 4 (.bool false) := (hB9.block (kb + 1) HRW.out.lt).trans HRW.out
        have f9 := hr9.frozen
        have c9 := hr9.cell
        have hK9 : w9.heap[D]? = some (.deferred (some [])) := (hB9.block D (Array.getElem?_eq_some_iff.1 HK.out).1).trans HK.out
        have HK9 := Lib.hid hK9
        have HR9 := Lib.hid hr9
        have HBW9 := Lib.hid (HBW2.out.trans (hB9.mono HBW2.out.size))
        clear hB9 hr9 hK9 c1 c2 c3 c4 f4 HA
        go_wp2_with fail
        have HE := Lib.hid (stops_end HR9.out HK9.out HDK.out (by have := HKBE.out; omega) HBW9.out)
        have g0 := HE.out.2.1
        refine ⟨by simp, .inl ⟨_, _, rfl, run_takeDeferred HE.out.1, ?_⟩⟩
        refine ⟨.bool true, by simp [results, Tryz.f4, Tryz.results4, go_sem, g0], rfl, HE.out.2.2⟩
      case stop =>
        rintro D cd pre W hD hpre ⟨rfl, hmet, hup, hle⟩ hK
        have hpk : kk + 1 ≤ k := by
          obtain ⟨t, ht⟩ := hpre
          have h1 := congrArg List.length ht
          rw [List.length_append, List.length_map, HSL2.out] at h1
          omega
        rw [hle] at hmet
        have b2 : Boxed W tb 34 (.slice wa k wc) := (hup.block tb HBXR.out.lt HTMB.out).trans HBXR.out
        have b3 : Boxed W kb 5 (.int .u8 kk) := (hup.block kb HKBR.out.lt HKMB.out).trans HKBR.out
        have hkm : kb + 1 ≠ mb := fun e => by have h0 := HS0.out; have h1 := HB5.out.size; have h2 := HB6.out.size; have h3 := HU7.out.size; have h4 := HMBE.out; omega
        have hrbW : Boxed WR (kb + 1) 4 (.bool false) := (HBR.out.block (kb + 1) HRB.out.lt).trans HRB.out
        have hrbR : Boxed W (kb + 1) 4 (.bool false) := (hup.block (kb + 1) hrbW.lt hkm).trans hrbW
        have HRW := Lib.hid hrbR
        have HK := Lib.hid hK
        have HDK : Hid (kb + 1 < D) := Lib.hid (by have := hrbW.lt; omega)
        have HBW2 : Hid (Below w.heap.size w W) := Lib.hid ((HB0.out.trans ((HBR.out.mono HB0.out.size))).trans (hup.below (Nat.le_trans (HB0.out.trans (HBR.out.mono HB0.out.size)).size (Nat.le_refl _)) (fun q hq => by rw [hq]; have h0 := HS0.out; have h1 := HB5.out.size; have h2 := HB6.out.size; have h3 := HU7.out.size; have h4 := HMBE.out; have h5 := HKBE.out; omega)))
        have c1 := hmet.cell
        have c2 := b2.cell
        have c3 := b3.cell
        have c4 := hrbR.cell
        have f4 := hrbR.frozen
        have HA := Lib.hid (awake_any W)
        dsimp only
        gi_wp2
        clear hmet hup b2 b3 hrbR hrbW hkm hK
        have hmn : min ((kk : Int) + 1) (k : Int) = (kk : Int) + 1 := by omega
        clear hpk hpre hn hk hlt hbs hm hlsn hD hUlt2 htb0 hle
        go_wp2_with fail
        refine HA.out.mono ?_
        rintro e w9 ⟨rfl, hB9⟩
        have hr9 : Boxed w9 (kb + 1) 4 (.bool false) := (hB9.block (kb + 1) HRW.out.lt).trans HRW.out
        have f9 := hr9.frozen
        have c9 := hr9.cell
        have hK9 : w9.heap[D]? = some (.deferred (some [])) := (hB9.block D (Array.getElem?_eq_some_iff.1 HK.out).1).trans HK.out
        have HK9 := Lib.hid hK9
        have HR9 := Lib.hid hr9
        have HBW9 := Lib.hid (HBW2.out.trans (hB9.mono HBW2.out.size))
        clear hB9 hr9 hK9 c1 c2 c3 c4 f4 HA
        go_wp2_with fail
        have HE := Lib.hid (stops_end HR9.out HK9.out HDK.out (by have := HKBE.out; omega) HBW9.out)
        have g0 := HE.out.2.1
        refine ⟨by simp, .inl ⟨_, _, rfl, run_takeDeferred HE.out.1, ?_⟩⟩
        refine ⟨.bool true, by simp [results, Tryz.f4, Tryz.results4, go_sem, g0], rfl, HE.out.2.2⟩
end Go.Proofs.YtcdcnhecimajkaaGreat.Runs

/- palmerlaw13: RunsStops, the whole law. -/
namespace Go.Proofs.YtcdcnhecimajkaaGreat.Runs
open Go.RowKit Go.Deep Go.Shelf Mem Crc Go.Maps Go.Proofs.YtcdcnhecimajkaaGreat.Merge
open Go.Proofs.YtcdcnhecimajkaaGreat.Store (Sto Files bare St none')

attribute [local go_sem] Oper.semAt_some
set_option maxHeartbeats 1000000 in
set_option maxRecDepth 100000 in
theorem stops_bad (w : World) (a : Option Addr) (c : Nat) (l : List InRec) (z : Int) (ma : Option Addr) (mn mc : Nat) (wd rm : Int) (hL : InRows w a l) (hbad : ¬ (l.length ≤ 100 ∧ 1 ≤ wd ∧ wd ≤ 64 ∧ ∀ x ∈ l, (x.2.length : Int) = wd) ∨ (wd < 1 ∨ 64 < wd ∨ rm < 1 ∨ 4096 < rm) ∨ (mn : Int) ≠ wd) :
    Calls Tryz.prog 4 #[.int .i64 wd, .int .i64 rm, .slice a l.length c, .int .u8 z, .slice ma mn mc] w fun e w' => e = .returned (.bool true) ∧ Below w.heap.size w w' := by
  obtain ⟨W0, hW0⟩ : ∃ W0, W0 = (w.alloc (.cells #[.int .u8 z] 5)).alloc (.cells #[.bool false] 4) := ⟨_, rfl⟩
  have hB0 : Below w.heap.size w W0 := by rw [hW0]; exact ((Below.refl _ w).alloc (Nat.le_refl _) _).alloc (by simp) _
  have hrb : Boxed W0 (w.heap.size + 1) 4 (.bool false) := by
    have := Boxed.new (w.alloc (.cells #[.int .u8 z] 5)) 4 (.bool false)
    rw [World.size_alloc] at this
    rw [hW0]
    exact this
  have HFEW : Hid (∀ W, Below W0.heap.size W0 W → Calls Tryz.prog 8 #[.slice a l.length c, .int .i64 wd] W fun e w' => e = .returned (.bool (decide (l.length ≤ 100 ∧ 1 ≤ wd ∧ wd ≤ 64 ∧ ∀ x ∈ l, (x.2.length : Int) = wd))) ∧ w' = W) := Lib.hid (fun W hW => few_each W a c l ((hL.later hB0).later hW) wd)
  have HBG := Lib.hid (begin_any W0)
  obtain ⟨n, hn⟩ : ∃ n, n = l.length := ⟨_, rfl⟩
  obtain ⟨f, hf⟩ : ∃ f, f = decide (l.length ≤ 100 ∧ 1 ≤ wd ∧ wd ≤ 64 ∧ ∀ x ∈ l, (x.2.length : Int) = wd) := ⟨_, rfl⟩
  have hbad2 : f = false ∨ (wd < 1 ∨ 64 < wd ∨ rm < 1 ∨ 4096 < rm) ∨ (mn : Int) ≠ wd := hbad.imp (fun h => by rw [hf]; exact decide_eq_false h) id
  rw [← hf, ← hn] at HFEW
  rw [← hn]
  obtain ⟨kb, hkb⟩ : ∃ kb, kb = w.heap.size := ⟨_, rfl⟩
  rw [← hkb] at hrb
  have HRB := Lib.hid hrb
  have HB0 := Lib.hid hB0
  have HKB := Lib.hid hkb
  clear hL hn hf hbad hB0 hrb
  go_enter Tryz.func4, Tryz.ntmps4
  go_wp2_with fail
  rw [← hW0, ← hkb]
  clear hW0 hkb
  refine HBG.out.mono ?_
  rintro e w1 ⟨d, s, g, cm, Q, rfl, hst, hQ, hB1⟩
  have HB1 := Lib.hid hB1
  by_cases hnew : wd < 1 ∨ 64 < wd ∨ rm < 1 ∨ 4096 < rm
  · have HN := Lib.hid (new_bad (.pointer (some ⟨s, 0, none⟩)) w1 wd rm hnew)
    clear hst hQ hB1 HBG hbad2 hnew
    go_wp2_with fail
    refine HN.out.mono ?_
    rintro e w2 ⟨rfl, hB2⟩
    have HB2 := Lib.hid (HB1.out.trans (hB2.mono HB1.out.size))
    have HFE := Lib.hid (HFEW.out w2 HB2.out)
    clear hB2 HN
    go_wp2_with fail
    refine HFE.out.mono ?_
    rintro e w3 ⟨rfl, hw3⟩
    subst hw3
    have hB3 : Below W0.heap.size W0 w3 := HB2.out
    have HRW : Hid (Boxed w3 (kb + 1) 4 (.bool false)) := Lib.hid ((hB3.block (kb + 1) HRB.out.lt).trans HRB.out)
    have HBWW := Lib.hid (HB0.out.trans (hB3.mono HB0.out.size))
    have HA := Lib.hid (awake_any w3)
    clear hB3 HFE HFEW
    cases f
    · go_wp2_with fail
      refine HA.out.mono ?_
      rintro e w9 ⟨rfl, hB9⟩
      have HBW9 := Lib.hid (HBWW.out.trans (hB9.mono HBWW.out.size))
      have hr9 : Boxed w9 (kb + 1) 4 (.bool false) := (hB9.block (kb + 1) HRW.out.lt).trans HRW.out
      have f9 := hr9.frozen
      have c9 := hr9.cell
      have g0 := (hr9.set (.bool true)).cell
      clear hB9 hr9 HA
      go_wp2_with fail
      refine bodyPost_ret (v := .bool true) (by simp [results, Tryz.f4, Tryz.results4, go_sem, g0]) rfl ⟨rfl, HBW9.out.setCell (p := ⟨kb + 1, 0, none⟩) (by have := HKB.out; show _ ≤ kb + 1; omega) _⟩
    · go_wp2_with fail
      refine HA.out.mono ?_
      rintro e w9 ⟨rfl, hB9⟩
      have HBW9 := Lib.hid (HBWW.out.trans (hB9.mono HBWW.out.size))
      have hr9 : Boxed w9 (kb + 1) 4 (.bool false) := (hB9.block (kb + 1) HRW.out.lt).trans HRW.out
      have f9 := hr9.frozen
      have c9 := hr9.cell
      have g0 := (hr9.set (.bool true)).cell
      clear hB9 hr9 HA
      go_wp2_with fail
      refine bodyPost_ret (v := .bool true) (by simp [results, Tryz.f4, Tryz.results4, go_sem, g0]) rfl ⟨rfl, HBW9.out.setCell (p := ⟨kb + 1, 0, none⟩) (by have := HKB.out; show _ ≤ kb + 1; omega) _⟩
  · cases f with
    | false =>
      have HN := Lib.hid (new_each hst wd rm)
      clear hst hQ hB1 HBG hbad2 hnew
      go_wp2_with fail
      refine HN.out.mono ?_
      rintro e w2 ⟨v, ne, rfl, hB2⟩
      have HB2 := Lib.hid (HB1.out.trans (hB2.mono HB1.out.size))
      have HFE := Lib.hid (HFEW.out w2 HB2.out)
      clear hB2 HN
      go_wp2_with fail
      refine HFE.out.mono ?_
      rintro e w3 ⟨rfl, hw3⟩
      subst hw3
      have hB3 : Below W0.heap.size W0 w3 := HB2.out
      have HRW : Hid (Boxed w3 (kb + 1) 4 (.bool false)) := Lib.hid ((hB3.block (kb + 1) HRB.out.lt).trans HRB.out)
      have HBWW := Lib.hid (HB0.out.trans (hB3.mono HB0.out.size))
      have HA := Lib.hid (awake_any w3)
      clear hB3 HFE HFEW
      go_wp2_with fail
      refine HA.out.mono ?_
      rintro e w9 ⟨rfl, hB9⟩
      have HBW9 := Lib.hid (HBWW.out.trans (hB9.mono HBWW.out.size))
      have hr9 : Boxed w9 (kb + 1) 4 (.bool false) := (hB9.block (kb + 1) HRW.out.lt).trans HRW.out
      have f9 := hr9.frozen
      have c9 := hr9.cell
      have g0 := (hr9.set (.bool true)).cell
      clear hB9 hr9 HA
      go_wp2_with fail
      refine bodyPost_ret (v := .bool true) (by simp [results, Tryz.f4, Tryz.results4, go_sem, g0]) rfl ⟨rfl, HBW9.out.setCell (p := ⟨kb + 1, 0, none⟩) (by have := HKB.out; show _ ≤ kb + 1; omega) _⟩
    | true =>
      have hne : ((mn : Int) == wd) = false := by
        rcases hbad2 with h | h | h
        · cases h
        · exact absurd h hnew
        · simpa using h
      obtain ⟨wn, rfl⟩ : ∃ k : Nat, wd = k := ⟨wd.toNat, by omega⟩
      obtain ⟨rn, rfl⟩ : ∃ k : Nat, rm = k := ⟨rm.toNat, by omega⟩
      have HN := Lib.hid (in_new hst W0.heap.size hQ hB1.size wn rn (by omega) (by omega) (by omega) (by omega))
      clear hst hQ hB1 HBG hbad2 hnew
      go_wp2_with fail
      refine HN.out.mono ?_
      rintro e w2 ⟨x, rfl, _, hB2⟩
      have HB2 := Lib.hid (HB1.out.trans (hB2.mono HB1.out.size))
      have HFE := Lib.hid (HFEW.out w2 HB2.out)
      clear hB2 HN
      go_wp2_with fail
      refine HFE.out.mono ?_
      rintro e w3 ⟨rfl, hw3⟩
      subst hw3
      have hB3 : Below W0.heap.size W0 w3 := HB2.out
      have HRW : Hid (Boxed w3 (kb + 1) 4 (.bool false)) := Lib.hid ((hB3.block (kb + 1) HRB.out.lt).trans HRB.out)
      have HBWW := Lib.hid (HB0.out.trans (hB3.mono HB0.out.size))
      have HA := Lib.hid (awake_any w3)
      clear hB3 HFE HFEW
      go_wp2_with fail
      refine HA.out.mono ?_
      rintro e w9 ⟨rfl, hB9⟩
      have HBW9 := Lib.hid (HBWW.out.trans (hB9.mono HBWW.out.size))
      have hr9 : Boxed w9 (kb + 1) 4 (.bool false) := (hB9.block (kb + 1) HRW.out.lt).trans HRW.out
      have f9 := hr9.frozen
      have c9 := hr9.cell
      have g0 := (hr9.set (.bool true)).cell
      clear hB9 hr9 HA
      go_wp2_with fail
      refine bodyPost_ret (v := .bool true) (by simp [results, Tryz.f4, Tryz.results4, go_sem, g0]) rfl ⟨rfl, HBW9.out.setCell (p := ⟨kb + 1, 0, none⟩) (by have := HKB.out; show _ ≤ kb + 1; omega) _⟩
set_option maxRecDepth 100000 in
theorem stops_law {H : Type} {enc : TypeId × Value → H} {base : Nat} (v0 v1 v2 v3 v4 : Value) (d0 d1 d2 d3 d4 : DataW H) (p0 p1 p2 p3 p4 : List MemPlace) (W : World)
    (q0 : Value.okWide Tryz.prog W .any base 3 v0) (h0 : DataW.Trod enc Tryz.prog W 0 (fun _ => true) true 3 v0 d0 p0)
    (q1 : Value.okWide Tryz.prog W .any base 3 v1) (h1 : DataW.Trod enc Tryz.prog W 0 (fun _ => true) true 3 v1 d1 p1)
    (q2 : Value.okWide Tryz.prog W .any base 22 v2) (h2 : DataW.Trod enc Tryz.prog W 0 (fun _ => true) true 22 v2 d2 p2)
    (q3 : Value.okWide Tryz.prog W .any base 5 v3) (h3 : DataW.Trod enc Tryz.prog W 0 (fun _ => true) true 5 v3 d3 p3)
    (q4 : Value.okWide Tryz.prog W .any base 36 v4) (h4 : DataW.Trod enc Tryz.prog W 0 (fun _ => true) true 36 v4 d4 p4) :
    Calls Tryz.prog 4 #[v0, v1, v2, v3, v4] W fun e w' => e = .returned (.bool true) ∧ Below W.heap.size W w' := by
  obtain ⟨wd, rfl, _⟩ := Args.int_open Tryz.underlying3 q0 h0
  obtain ⟨rm, rfl, _⟩ := Args.int_open Tryz.underlying3 q1 h1
  obtain ⟨a, cap, l, rfl, _, _, hl, hL⟩ := Args.rows_open Tryz.underlying22 Tryz.underlying36 Tryz.underlying5 (by kernel_rfl) (by kernel_rfl) q2 h2
  obtain ⟨kk, rfl, hk⟩ := Args.int_open Tryz.underlying5 q3 h3
  obtain ⟨ma, mcap, mo, rfl, _, _, hM⟩ := Args.bytes_open Tryz.underlying36 Tryz.underlying5 (by kernel_rfl) q4 h4
  have hI : InRows W a l := ⟨hL, fun x hx => (hl x hx).1, fun x hx => (hl x hx).2.2.2⟩
  have hkk : 0 ≤ kk ∧ kk ≤ 255 := by
    have h := hk
    simp [Lit.wf, IntKind.min, IntKind.max, IntKind.signed, IntKind.bits] at h
    omega
  obtain ⟨kn, rfl⟩ : ∃ k : Nat, kk = k := ⟨kk.toNat, by omega⟩
  by_cases hg : (l.length ≤ 100 ∧ 1 ≤ wd ∧ wd ≤ 64 ∧ ∀ x ∈ l, (x.2.length : Int) = wd) ∧ (1 ≤ rm ∧ rm ≤ 4096) ∧ (mo.length : Int) = wd
  · obtain ⟨⟨g1, g2, g3, g4⟩, ⟨g5, g6⟩, g7⟩ := hg
    obtain ⟨k, rfl⟩ : ∃ k : Nat, wd = k := ⟨wd.toNat, by omega⟩
    obtain ⟨m, rfl⟩ : ∃ k : Nat, rm = k := ⟨rm.toNat, by omega⟩
    exact stops_in W a cap l ma mcap mo k m kn hI hM (by omega) g1 (by omega) (by omega) (by omega) (by omega) (by omega) (fun x hx => by have := g4 x hx; omega)
  · refine stops_bad W a cap l kn ma mo.length mcap wd rm hI ?_
    by_cases hf : l.length ≤ 100 ∧ 1 ≤ wd ∧ wd ≤ 64 ∧ ∀ x ∈ l, (x.2.length : Int) = wd
    · by_cases hr : 1 ≤ rm ∧ rm ≤ 4096
      · exact .inr (.inr (fun h => hg ⟨hf, hr, h⟩))
      · refine .inr (.inl (.inr (.inr ?_)))
        omega
    · exact .inl hf
end Go.Proofs.YtcdcnhecimajkaaGreat.Runs
