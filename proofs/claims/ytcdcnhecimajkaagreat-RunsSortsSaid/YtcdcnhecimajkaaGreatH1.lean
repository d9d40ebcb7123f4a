/- RunsIn, RefSorted, RunsSorts, SortsW, SortsL, in one text. -/
import Derived.Test.YtcdcnhecimajkaaGreatG3
/- palmerlaw13: a sorter in a set of blocks. -/
namespace Go.Proofs.YtcdcnhecimajkaaGreat.Runs
open Go.RowKit Go.Deep Go.Shelf Mem Crc Go.Maps Go.Proofs.YtcdcnhecimajkaaGreat.Merge
open Go.Proofs.YtcdcnhecimajkaaGreat.Store (Sto Files setF setF_same setF_other nv bare Bare St Chg none' filesOf)

attribute [local go_sem] Oper.semAt_some
/-- A sorter with its runs and its memory; all its blocks are of D. -/
structure InAt {s : Nat} (S : Store.Sto s) (A : Fi) (D : Nat → Prop) (w : World) (x : Nat) (off : Bool) (ls : List (List B)) (held : List B) (n : Nat) (Q R : Nat → Prop) (F : Files) (hv : Value) (vs : List SL) : Prop where
  srt : Srt S A w Q R off F n x ls.length hv vs held
  files : RunFiles A F ls
  q : ∀ k, Q k → D k
  r : ∀ k, R k → D k
  x : D x
  h : ∀ k, hv.ownBlock = some k → D k
def LiveIn {s : Nat} (S : Store.Sto s) (A : Fi) (D : Nat → Prop) (w : World) (x : Nat) (off : Bool) (ls : List (List B)) (held : List B) (n : Nat) : Prop := ∃ m Q R F hv vs, m ≤ n ∧ InAt S A D w x off ls held m Q R F hv vs
theorem LiveIn.keep {s : Nat} {S : Store.Sto s} {A : Fi} {D P : Nat → Prop} {w w' : World} {x : Nat} {off : Bool} {ls : List (List B)} {held : List B} {n : Nat} (h : LiveIn S A D w x off ls held n) (hu : Upon P w w') (hP : ∀ g, D g → ¬ P g) : LiveIn S A D w' x off ls held n := by
  obtain ⟨m, Q, R, F, hv, vs, hm, h⟩ := h
  exact ⟨m, Q, R, F, hv, vs, hm, h.srt.keep hu (fun g hg => hP g (h.q g hg)) (fun g hg => hP g (h.r g hg)) (fun g hg => hP g (h.h g hg)) (hP x h.x), h.files, h.q, h.r, h.x, h.h⟩
theorem LiveIn.later {s : Nat} {S : Store.Sto s} {A : Fi} {D : Nat → Prop} {w w' : World} {x : Nat} {off : Bool} {ls : List (List B)} {held : List B} {n : Nat} (h : LiveIn S A D w x off ls held n) (hB : Below w.heap.size w w') : LiveIn S A D w' x off ls held n := h.keep (P := fun _ => False) (Upon.of_below hB) (fun _ _ h => h)
theorem LiveIn.more {s : Nat} {S : Store.Sto s} {A : Fi} {D : Nat → Prop} {w : World} {x : Nat} {off : Bool} {ls : List (List B)} {held : List B} {n n' : Nat} (h : LiveIn S A D w x off ls held n) (hn : n ≤ n') : LiveIn S A D w x off ls held n' := by
  obtain ⟨m, Q, R, F, hv, vs, hm, h⟩ := h
  exact ⟨m, Q, R, F, hv, vs, Nat.le_trans hm hn, h⟩
theorem Flushed.inAt {s : Nat} {S : Store.Sto s} {A : Fi} {D : Nat → Prop} {w w' : World} {x : Nat} {ls : List (List B)} {held : List B} {n : Nat} {Q R Q' : Nat → Prop} {F : Files} {hv : Value} {vs : List SL} (h : InAt S A D w x false ls held n Q R F hv vs) (h0 : held ≠ []) (hf : Flushed S A w w' Q F n x ls.length held Q') (hl : ls.length ≤ 1000000) : InAt S A (Mid D w w') w' x false (ls ++ [held]) [] (n + 1) Q' (fun _ => False) (setF F (rname A.pf ls.length) (some (runB held))) (.slice none 0 0) [] ∧ Upon D w w' :=
  ⟨⟨by have := hf.srt; simpa using this, files_more h.files hl h.srt.mem.wide h0 (Nat.le_trans h.srt.room h.srt.ok.2.2.2.2.2), fun k hk => (hf.q k hk).imp (h.q k) (fun hg => ⟨hg, S.lt hf.srt.sto k hk⟩), fun _ h => h.elim, .inl h.x, fun _ h => by cases h⟩, hf.upon.mono (fun g hg => hg.elim (h.q g) (fun e => by rw [e]; exact h.x))⟩
theorem in_flush {s : Nat} {S : Store.Sto s} {A : Fi} {D : Nat → Prop} {w : World} {x : Nat} {ls : List (List B)} {held : List B} {n : Nat} (h : LiveIn S A D w x false ls held n) (h0 : held ≠ []) (hn : n < 10000) (hl : ls.length < 10000) :
    Calls Tryz.prog 12 #[.pointer (some ⟨x, 0, none⟩)] w fun e w' => e = .returned (.int .i64 0) ∧ LiveIn S A (Mid D w w') w' x false (ls ++ [held]) [] (n + 1) ∧ Upon D w w' := by
  obtain ⟨m, Q, R, F, hv, vs, hm, h⟩ := h
  refine (flush_any h.srt h0 (by omega) (by omega)).mono ?_
  rintro e w' ⟨rfl, Q', hf⟩
  have := hf.inAt h h0 (by omega)
  exact ⟨rfl, ⟨_, _, _, _, _, _, by omega, this.1⟩, this.2⟩
theorem own_lt {w : World} {base : Nat} {e : TypeId} {size n : Nat} {v : Value} {xs : List Value} (h : w.ownsRow base e size v n xs) (g : Nat) (hg : v.ownBlock = some g) : g < w.heap.size := (h.lt g hg).2
theorem Putted.inAt {s : Nat} {S : Store.Sto s} {A : Fi} {D : Nat → Prop} {w w' : World} {x : Nat} {off : Bool} {ls : List (List B)} {held held' : List B} {n : Nat} {Q R R' : Nat → Prop} {F : Files} {hv hv' : Value} {vs vs' : List SL} (h : InAt S A D w x off ls held n Q R F hv vs) (hp : Putted S A w w' Q R off F n x ls.length hv held' R' hv' vs') : InAt S A (Mid D w w') w' x off ls held' n Q R' F hv' vs' ∧ Upon D w w' :=
  ⟨⟨hp.srt, h.files, fun k hk => .inl (h.q k hk), fun k hk => (hp.r k hk).imp (h.r k) (fun hg => ⟨hg, hp.srt.mem.rlt k hk⟩), .inl h.x, fun k hk => (hp.h k hk).imp (h.h k) (fun hg => ⟨hg, own_lt hp.srt.mem.own k hk⟩)⟩, hp.upon.mono (fun g hg => hg.elim (fun e => by rw [e]; exact h.x) (h.h g))⟩
/-- Put of a record that lies outside. -/
theorem in_put {s : Nat} {S : Store.Sto s} {A : Fi} {D : Nat → Prop} {w : World} {x : Nat} {ls : List (List B)} {held : List B} {n : Nat} (h : LiveIn S A D w x false ls held n) (hn : n < 10000) (hl : ls.length < 10000) {b : B} (hb : b.length = A.wd) (a : Option Addr) (cp : Nat) (hL : Lies w a (b.map bv)) (hLD : ∀ g, Mem.blk a = some g → ¬ D g) :
    Calls Tryz.prog 10 #[.pointer (some ⟨x, 0, none⟩), .slice a b.length cp] w fun e w' => e = .returned (.int .i64 0) ∧ LiveIn S A (Mid D w w') w' x false (putM A.rm (ls, held) b).1 (putM A.rm (ls, held) b).2 (n + 1) ∧ Upon D w w' := by
  obtain ⟨m, Q, R, F, hv, vs, hm, h1⟩ := h
  unfold putM
  by_cases hf : held.length = A.rm
  · simp only [if_pos hf]
    have hne : held ≠ [] := fun e => by
      have := h1.srt.ok.2.2.2.2.1
      rw [e] at hf
      simp at hf
      omega
    refine (put_full h1.srt hf (by omega) (by omega) hb a cp hL (fun g hg => ⟨fun hq => hLD g hg (h1.q g hq), fun e => hLD g hg (by rw [e]; exact h1.x)⟩)).mono ?_
    rintro e w' ⟨rfl, w1, Q1, R', hv', vs', hf1, hp⟩
    have hl1 := hf1.inAt h1 hne (by omega)
    have hp' : Putted S A w1 w' Q1 (fun _ => False) false (setF F (rname A.pf ls.length) (some (runB held))) (m + 1) x (ls ++ [held]).length (.slice none 0 0) [b] R' hv' vs' := by
      rw [List.length_append]
      exact hp
    have hl2 := hp'.inAt hl1.1
    have s1 := hl1.2.size
    have s2 := hl2.2.size
    have hm2 : ∀ k, Mid (Mid D w w1) w1 w' k → Mid D w w' k := fun k hk => by
      rcases hk with (hk | hk) | hk
      · exact .inl hk
      · exact .inr ⟨hk.1, by omega⟩
      · exact .inr ⟨by omega, hk.2⟩
    exact ⟨rfl, ⟨_, _, _, _, _, _, by omega, hl2.1.srt, hl2.1.files, fun k hk => hm2 k (hl2.1.q k hk), fun k hk => hm2 k (hl2.1.r k hk), hm2 x hl2.1.x, fun k hk => hm2 k (hl2.1.h k hk)⟩, hl1.2.trans hl2.2 (fun g hg => hg.imp id (fun h => h.1))⟩
  · simp only [if_neg hf]
    refine (put_room h1.srt (by have := h1.srt.room; omega) hb a cp hL).mono ?_
    rintro e w' ⟨rfl, R', hv', vs', hp⟩
    have hl2 := hp.inAt h1
    exact ⟨rfl, ⟨_, _, _, _, _, _, by omega, hl2.1⟩, hl2.2⟩
theorem in_held {s : Nat} {S : Store.Sto s} {A : Fi} {D : Nat → Prop} {w : World} {x : Nat} {off : Bool} {ls : List (List B)} {held : List B} {n : Nat} (h : LiveIn S A D w x off ls held n) :
    Calls Tryz.prog 11 #[.pointer (some ⟨x, 0, none⟩)] w fun e w' => e = .returned (.int .i64 held.length) ∧ w = w' := by
  obtain ⟨m, Q, R, F, hv, vs, hm, h⟩ := h
  exact held_any h.srt
theorem LiveIn.room {s : Nat} {S : Store.Sto s} {A : Fi} {D : Nat → Prop} {w : World} {x : Nat} {off : Bool} {ls : List (List B)} {held : List B} {n : Nat} (h : LiveIn S A D w x off ls held n) : held.length ≤ A.rm := by
  obtain ⟨m, Q, R, F, hv, vs, hm, h⟩ := h
  exact h.srt.room
theorem in_rows {s : Nat} {S : Store.Sto s} {A : Fi} {D : Nat → Prop} {w : World} {x : Nat} {off : Bool} {ls : List (List B)} {held : List B} {n : Nat} (h : LiveIn S A D w x off ls held n) (hl : ls.length ≤ 1000) (hoff : off = false ∨ ls = []) (all : List B) (hall : all = held ++ ls.flatten) (hmax : all.length ≤ 1000000) :
    Calls Tryz.prog 13 #[.pointer (some ⟨x, 0, none⟩)] w fun e w' => ∃ v, e = .returned (.tuple #[v, .int .i64 0]) ∧ w'.ownsRow w.heap.size 9 1 v all.length ((sortB all).map strB) ∧ Below w.heap.size w w' := by
  obtain ⟨m, Q, R, F, hv, vs, hm, h⟩ := h
  exact rowsLaw_any h.srt ls rfl hl h.files (hoff.imp id (fun e => by rw [e]; rfl)) all hall hmax
/-- begin, and a new sorter. -/
theorem in_new {d s g cm : Nat} {w : World} {Q : Nat → Prop} (h : St w Q s d g 400 cm false none') (B0 : Nat) (hQ : ∀ k, Q k → B0 ≤ k) (hB0 : B0 ≤ w.heap.size) (wd rm : Nat) (h1 : 1 ≤ wd) (h2 : wd ≤ 64) (h3 : 1 ≤ rm) (h4 : rm ≤ 4096) :
    Calls Tryz.prog 7 #[.pointer (some ⟨s, 0, none⟩), .string ⟨#[114]⟩, .int .i64 wd, .int .i64 rm] w fun e w' => ∃ x, e = .returned (.tuple #[.pointer (some ⟨x, 0, none⟩), .int .i64 0]) ∧ LiveIn (bare s d g 400 cm) (fiR s wd rm) (fun k => B0 ≤ k ∧ k < w'.heap.size) w' x false [] [] 0 ∧ Below w.heap.size w w' := by
  refine (new_any (bare s d g 400 cm) (fiR s wd rm) rfl ⟨by simp [fiR, rpf], by simp [fiR, rpf], h1, h2, h3, h4⟩ (bare_new h)).mono ?_
  rintro e w' ⟨x, ne, rfl, hn⟩
  have hne : ne = 0 := by
    rcases Nat.eq_zero_or_pos ne with h | h
    · exact h
    · exact absurd rfl (hn.runs 0 h)
  subst hne
  exact ⟨x, rfl, ⟨0, Q, _, noF, _, _, Nat.le_refl _, hn.srt, ⟨fun j l hj => by simp at hj, fun l hl => by simp at hl, fun l hl => by simp at hl, fun l hl => by simp at hl⟩, fun k hk => ⟨hQ k hk, (bare s d g 400 cm).lt hn.srt.sto k hk⟩, fun _ h => h.elim, ⟨by have := hn.fresh; omega, hn.srt.blk.lt⟩, fun _ h => by cases h⟩, hn.below⟩
set_option maxHeartbeats 400000 in
theorem new_bad (s : Value) (w : World) (wd rm : Int) (h : wd < 1 ∨ 64 < wd ∨ rm < 1 ∨ 4096 < rm) :
    Calls Tryz.prog 7 #[s, .string ⟨#[114]⟩, .int .i64 wd, .int .i64 rm] w fun e w' => e = .returned (.tuple #[.pointer none, .int .i64 1]) ∧ Below w.heap.size w w' := by
  have go : ∀ (t1 t2 t3 t4 : Bool), decide (wd < 1) = t1 → decide (64 < wd) = t2 → decide (rm < 1) = t3 → decide (4096 < rm) = t4 → (t1 || t2 || t3 || t4) = true → Calls Tryz.prog 7 #[s, .string ⟨#[114]⟩, .int .i64 wd, .int .i64 rm] w fun e w' => e = .returned (.tuple #[.pointer none, .int .i64 1]) ∧ Below w.heap.size w w' := by
    intro t1 t2 t3 t4 h1 h2 h3 h4 hor
    clear h
    cases t1 <;> cases t2 <;> cases t3 <;> cases t4 <;> first | (cases hor; done) | skip
    all_goals (
      clear hor
      go_enter Tryz.func7, Tryz.ntmps7
      go_wp2_with fail
      exact bodyPost_ret (v := .tuple #[.pointer none, .int .i64 1]) (by simp [results, Tryz.results7, go_sem]) rfl ⟨rfl, rfl, rfl, rfl, Nat.le_refl _, fun _ _ => rfl⟩)
  refine go _ _ _ _ rfl rfl rfl rfl ?_
  rcases h with h | h | h | h <;> simp [h]
end Go.Proofs.YtcdcnhecimajkaaGreat.Runs

/- palmerref13: Sorted, on the records' texts. -/
namespace Go.Proofs.YtcdcnhecimajkaaGreat.Runs
open Go.RowKit Go.Deep Go.Shelf Mem Crc Go.Maps Go.Proofs.YtcdcnhecimajkaaGreat.Merge

attribute [local go_sem] Oper.semAt_some
theorem leq_str {b c : B} {sb sc : ByteArray} (hb : .string sb = strB b) (hc : .string sc = strB c) : (Op.bytesLess sb.toList sc.toList || sb.toList == sc.toList) = decide (b ≤ c) := by
  unfold strB at hb hc
  injection hb with hb
  injection hc with hc
  subst hb hc
  rw [Lib.toList_data, Lib.toList_data, bytesLess_eq]
  show (decide (b < c) || b == c) = decide (b ≤ c)
  by_cases h : b = c
  · subst h
    simp
  · have hbc : (b == c) = false := by simpa using h
    rw [hbc, Bool.or_false]
    refine decide_eq_decide.2 ⟨fun h => List.le_of_lt h, fun h2 => ?_⟩
    rcases List.le_iff_lt_or_eq.1 h2 with h3 | h3
    · exact h3
    · exact absurd h3 h
theorem binOp_leq_str (t : TypeId) (a b : ByteArray) : binOp .leq t (.string a) (.string b) = pure (.bool (Op.bytesLess a.toList b.toList || a.toList == b.toList)) := by simp [binOp, Op.stringOp]
attribute [local go_sem] binOp_leq_str
theorem slice_if (cp m g a b : Nat) : Value.slice (if cp = m then some ⟨g, 0, none⟩ else some ⟨g, m, none⟩) a b = .slice (some ⟨g, if cp = m then 0 else m, none⟩) a b := by split <;> rfl
theorem slice_ne {cp m : Nat} (g a b : Nat) (h : cp ≠ m) : Value.slice (some ⟨g, m, none⟩) a b = .slice (some ⟨g, if cp = m then 0 else m, none⟩) a b := by rw [if_neg h]
/-- b goes in behind the first n. -/
def insN (out : List B) (n : Nat) (b : B) : List B := out.take n ++ [b] ++ out.drop n
theorem insN_perm (out : List B) (n : Nat) (b : B) : (insN out n b).Perm (out ++ [b]) := by
  unfold insN
  have h : (out.take n ++ [b] ++ out.drop n).Perm (out.take n ++ out.drop n ++ [b]) := by
    rw [List.append_assoc, List.append_assoc]
    exact List.Perm.append_left _ List.perm_append_comm
  rwa [List.take_append_drop] at h
theorem insN_rises {out : List B} {n : Nat} {b : B} (h : Rises out) (h1 : ∀ x ∈ out.take n, x ≤ b) (h2 : ∀ x, out[n]? = some x → ¬ x ≤ b) : Rises (insN out n b) := by
  unfold insN
  have hs : Rises (out.take n ++ out.drop n) := by rw [List.take_append_drop]; exact h
  obtain ⟨ht, hd, htd⟩ := List.pairwise_append.1 hs
  have hbd : ∀ y ∈ out.drop n, b ≤ y := fun y hy => by
    cases hq : out.drop n with
    | nil => rw [hq] at hy; cases hy
    | cons x r =>
      have hx : out[n]? = some x := by
        have := congrArg (·[0]?) hq
        simpa [List.getElem?_drop] using this
      have hbx : b ≤ x := (List.le_total x b).resolve_left (h2 x hx)
      rw [hq] at hy hd
      rcases List.mem_cons.1 hy with rfl | hy
      · exact hbx
      · exact List.le_trans hbx ((List.pairwise_cons.1 hd).1 y hy)
  refine List.pairwise_append.2 ⟨List.pairwise_append.2 ⟨ht, List.pairwise_singleton _ _, fun x hx y hy => by rw [List.mem_singleton.1 hy]; exact h1 x hx⟩, hd, fun x hx y hy => ?_⟩
  rcases List.mem_append.1 hx with hx | hx
  · exact htd x hx y hy
  · rw [List.mem_singleton.1 hx]; exact hbd y hy
set_option maxHeartbeats 2000000 in
set_option maxRecDepth 100000 in
theorem refSorted_any (w : World) (a : Option Addr) (c : Nat) (l : List B) (hL : Lies w a (l.map strB)) (hn : l.length ≤ 1000000) :
    Calls Tryz.prog 15 #[.slice a l.length c] w fun e w' => ∃ v, e = .returned v ∧ w'.ownsRow w.heap.size 9 1 v l.length ((sortB l).map strB) ∧ Below w.heap.size w w' := by
  obtain ⟨i0, hi0, hz0, hz1, hz2⟩ := info_parts infoStr
  obtain ⟨n, hln⟩ : ∃ n, n = l.length := ⟨_, rfl⟩
  rw [← hln] at hn ⊢
  have HL := Lib.hid hL
  have HLN := Lib.hid hln
  clear hL hln
  go_enter Tryz.func15, Tryz.ntmps15
  go_wp2_with fail
  go_loopw [3, 10] (fun o i wr => ∃ (k g cp : Nat) (out : List B), k ≤ n ∧ i = .int .i64 k ∧ o = .slice (some ⟨g, 0, none⟩) k cp ∧ k ≤ cp ∧ w.heap.size ≤ g ∧ wr.ownsRow w.heap.size 9 1 o k (out.map strB) ∧ out.Perm (l.take k) ∧ Rises out ∧ Below w.heap.size w wr) (fun _ i _ => n - (intOf i).toNat)
  case atStart => exact ⟨0, w.heap.size, 0, [], Nat.zero_le _, rfl, rfl, Nat.le_refl _, Nat.le_refl _, own_empty w 9 1, List.Perm.refl _, List.Pairwise.nil, (Below.refl _ w).alloc (Nat.le_refl _) _⟩
  case round =>
    obtain ⟨k, g, cp, out, hk, rfl, rfl, hcp, hg, hown, hperm, hrise, hB⟩ := hrel
    by_cases hlt : k < n
    · have hol : out.length = k := by have := hown.1; simpa using this
      obtain ⟨b, hb⟩ : ∃ b, l[k]? = some b := ⟨l[k]'(by rw [← HLN.out]; exact hlt), List.getElem?_eq_getElem _⟩
      obtain ⟨sb, hsb⟩ : ∃ sb : ByteArray, .string sb = strB b := ⟨_, rfl⟩
      have htk : l.take (k + 1) = l.take k ++ [b] := by rw [List.take_add_one, hb]; rfl
      obtain ⟨lg, lo, rfl, cl⟩ := lies_at (HL.out.later hB) (k := k) (u := .string sb) (by simp [hb, hsb])
      have HLO := Lib.hid (show Lies wr (some ⟨g, 0, none⟩) (out.map strB) from by
        obtain ⟨_, _, e, _, h, _, _⟩ := own_shape hown
        cases e
        exact h)
      have HOL := Lib.hid hol
      have HSB := Lib.hid hsb
      have HTK := Lib.hid htk
      have HOWN := Lib.hid hown
      have HPERM := Lib.hid hperm
      have HRISE := Lib.hid hrise
      have HB := Lib.hid hB
      have HCL := Lib.hid cl
      have hw : RowKit.wrap64 ((k : Int) + 1) = (k : Int) + 1 := IntWalk.wrap64_in _ (by omega)
      clear hol hb hsb htk hown hperm hrise hB cl
      go_wp2_with fail
      go_loopw [5] (fun t5 wr2 => ∃ m q : Nat, m ≤ k ∧ t5 = .int .i64 m ∧ wr2 = wr.drewN q ∧ ∀ x ∈ out.take m, x ≤ b) (fun i _ => k - (intOf i).toNat)
      case atStart => exact ⟨0, 0, Nat.zero_le _, rfl, rfl, fun x hx => by simp at hx⟩
      case round =>
        obtain ⟨m, q, hm, rfl, rfl, hpre⟩ := hrel
        have HPRE := Lib.hid hpre
        clear hpre
        have cl : (wr.drewN q).cell? ⟨lg, lo + k, none⟩ = some (.string sb) := HCL.out
        obtain ⟨W, hW⟩ : ∃ W, W = wr.drewN q := ⟨_, rfl⟩
        rw [← hW] at cl ⊢
        have HW := Lib.hid hW
        clear hW
        have hcase : (m < k ∧ ∃ x, out[m]? = some x ∧ x ≤ b) ∨ ((m < k ∧ ∃ x, out[m]? = some x ∧ ¬ x ≤ b) ∨ m = k) := by
          by_cases h : m < k
          · have hx : out[m]? = some (out[m]'(by rw [HOL.out]; exact h)) := List.getElem?_eq_getElem _
            by_cases h2 : out[m]'(by rw [HOL.out]; exact h) ≤ b
            · exact .inl ⟨h, _, hx, h2⟩
            · exact .inr (.inl ⟨h, _, hx, h2⟩)
          · exact .inr (.inr (by omega))
        rcases hcase with ⟨hmk, x, hx, hxb⟩ | hcase
        · obtain ⟨sx, hsx⟩ : ∃ sx : ByteArray, .string sx = strB x := ⟨_, rfl⟩
          have c1 : W.cell? ⟨g, m, none⟩ = some (.string sx) := by
            rw [HW.out]
            obtain ⟨_, _, e, h⟩ := lies_at (HLO.out.drewN q) (k := m) (u := .string sx) (by simp [hx, hsx])
            cases e
            rw [Nat.zero_add] at h
            exact h
          have hle : (Op.bytesLess sx.toList sb.toList || sx.toList == sb.toList) = true := by rw [leq_str hsx HSB.out]; simpa using hxb
          have htm : out.take (m + 1) = out.take m ++ [x] := by rw [List.take_add_one, hx]; rfl
          have HTM := Lib.hid htm
          have HXB := Lib.hid hxb
          have hwm : RowKit.wrap64 ((m : Int) + 1) = (m : Int) + 1 := IntWalk.wrap64_in _ (by omega)
          clear hx hsx htm hxb
          go_wp2
          go_quiet (fail)
          go_wp2
          go_roundw
          case rel =>
            refine ⟨m + 1, q + nq, by omega, by simp [hwm], by rw [HW.out]; simp [World.drewN, Nat.add_assoc], ?_⟩
            rw [HTM.out]
            intro z hz
            rcases List.mem_append.1 hz with hz | hz
            · exact HPRE.out z hz
            · rw [List.mem_singleton.1 hz]; exact HXB.out
          case measure => simp [intOf, hwm]; omega
        · have hstop : ∀ x, out[m]? = some x → ¬ x ≤ b := fun x hx => by
            rcases hcase with ⟨_, y, hy, hyb⟩ | rfl
            · rw [hx] at hy; cases hy; exact hyb
            · rw [List.getElem?_eq_none (by rw [HOL.out]; exact Nat.le_refl _)] at hx; cases hx
          have HSTOP := Lib.hid hstop
          clear hstop
          rcases hcase with ⟨hmk, x, hx, hxb⟩ | hmk
          case' inl =>
            obtain ⟨sx, hsx⟩ : ∃ sx : ByteArray, .string sx = strB x := ⟨_, rfl⟩
            have c1 : W.cell? ⟨g, m, none⟩ = some (.string sx) := by
              rw [HW.out]
              obtain ⟨_, _, e, h⟩ := lies_at (HLO.out.drewN q) (k := m) (u := .string sx) (by simp [hx, hsx])
              cases e
              rw [Nat.zero_add] at h
              exact h
            have hle : (Op.bytesLess sx.toList sb.toList || sx.toList == sb.toList) = false := by rw [leq_str hsx HSB.out]; simpa using hxb
            clear hx hsx hxb
            go_wp2
            go_quiet (fail)
          case' inr =>
            replace hmk : ¬ m < k := by omega
            go_wp2
            go_quiet (fail)
          all_goals (
            obtain ⟨W2, hW2⟩ : ∃ W2, W2 = W.drewN nq := ⟨_, rfl⟩
            rw [← hW2]
            have e2 : W2 = wr.drewN (q + nq) := by rw [hW2, HW.out]; simp [World.drewN, Nat.add_assoc]
            have hsz2 : W2.heap.size = wr.heap.size := by rw [e2]; rfl
            have hB2 : Below wr.heap.size wr W2 := by rw [e2]; exact ⟨rfl, rfl, rfl, Nat.le_refl _, fun _ _ => rfl⟩
            have hA2 : Below wr.heap.size wr (W2.alloc (.cells #[] 9)) := hB2.alloc hB2.size _
            have HO0 := Lib.hid (show (W2.alloc (.cells #[] 9)).ownsRow wr.heap.size 9 1 (.slice (some ⟨W2.heap.size, 0, none⟩) 0 0) 0 [] from own_mono (own_empty W2 9 1) (by omega))
            have HN1 := Lib.hid (show ((out.take m).map strB).length = m * 1 from by have := HOL.out; simp; omega)
            have HC1 := Lib.hid (show ∀ j u, ((out.take m).map strB)[j]? = some u → (W2.alloc (.cells #[] 9)).cell? ((⟨g, 0, none⟩ : Addr).add j) = some u from lies_add (by rw [List.map_take]; exact (HLO.out.later hA2).take m))
            have H1 := Lib.hid (show ∀ u ∈ (out.take m).map strB, u.oneCell' = true from fun u hu => by
              obtain ⟨x, _, rfl⟩ := List.mem_map.1 hu
              rfl)
            have HA2 := Lib.hid hA2
            have HZ2 := Lib.hid hsz2
            clear hW2 e2 hB2 hA2 hsz2
            go_wp2_with (first | (at_builtin; refine wpList_append_own _ rfl _ _ 34 rfl wr.heap.size 9 i0 (.string .empty) 1 16 Tryz.underlying34 hi0 hz0 hz1 hz2 rfl (by decide) _ _ _ rfl HO0.out ⟨g, 0, none⟩ m cp ((out.take m).map strB) rfl HN1.out HC1.out H1.out ?c3 ?c4 ?c5 ?_))
            case c3 => unfold maxLen; omega
            case c4 => omega
            case c5 => rw [World.size_alloc, HZ2.out]; omega
            intro v1 w1 hown1 hgrow1 hv1
            have hB1 : Below wr.heap.size wr w1 := HA2.out.grown hgrow1 (by rw [World.size_alloc, HZ2.out]; omega) (fun q hq => (HO0.out.lt q hq).1)
            obtain ⟨a1, cp1, rfl, _, _, _, ho1⟩ := own_shape hown1
            have HOB1 := Lib.hid ho1
            have c2 : w1.cell? ⟨lg, lo + k, none⟩ = some (.string sb) := (hB1.cell (p := ⟨lg, lo + k, none⟩) (World.block_lt_of_cell? wr _ HCL.out)).trans HCL.out
            have HO1 := Lib.hid (hown1.alloc (.cells #[.string sb] 9))
            have hz1' : wr.heap.size ≤ w1.heap.size := hB1.size
            have HB1 := Lib.hid hB1
            clear hown1 hgrow1 hv1 hB1 ho1
            go_wp2_with (first | (at_builtin; refine wpList_append_own _ rfl _ _ 34 rfl wr.heap.size 9 i0 (.string .empty) 1 16 Tryz.underlying34 hi0 hz0 hz1 hz2 rfl (by decide) _ _ _ rfl HO1.out ⟨w1.heap.size, 0, none⟩ 1 1 [.string sb] rfl rfl (one_at rfl) (by simp [Value.oneCell']) ?d3 ?d4 ?d5 ?_))
            case d3 => unfold maxLen; omega
            case d4 => omega
            case d5 => rw [World.size_alloc]; omega
            intro v2 w2 hown2 hgrow2 hv2
            have hB2 : Below wr.heap.size wr w2 := (HB1.out.alloc hz1' _).grown hgrow2 (by rw [World.size_alloc]; omega) (fun q hq => (HO1.out.lt q (by first | exact hq | exact HOB1.out.trans hq)).1)
            obtain ⟨a2, cp2, rfl, _, _, _, ho2⟩ := own_shape hown2
            have HOB2 := Lib.hid ho2
            have HO2 := Lib.hid hown2
            have HB2 := Lib.hid hB2
            have HV2 := Lib.hid hv2
            clear hown2 hgrow2 hv2 hB2 c2 ho2
            have HC3 := Lib.hid (show ∀ j u, ((out.drop m).map strB)[j]? = some u → w2.cell? ((⟨g, if cp = m then 0 else m, none⟩ : Addr).add j) = some u from by
              by_cases hcm : cp = m
              · rw [List.drop_of_length_le (by rw [HOL.out]; omega)]
                intro j u hu
                simp at hu
              · rw [if_neg hcm]
                refine lies_add ?_
                have := (HLO.out.later HB2.out).drop m
                rw [← List.map_drop] at this
                rwa [Nat.zero_add] at this)
            have HN3 := Lib.hid (show ((out.drop m).map strB).length = (k - m) * 1 from by have := HOL.out; simp; omega)
            have H3 := Lib.hid (show ∀ u ∈ (out.drop m).map strB, u.oneCell' = true from fun u hu => by
              obtain ⟨x, _, rfl⟩ := List.mem_map.1 hu
              rfl)
            have hz2' : wr.heap.size ≤ w2.heap.size := HB2.out.size
            go_wp2_with (first | (at_builtin; refine wpList_append_own _ rfl _ _ 34 rfl wr.heap.size 9 i0 (.string .empty) 1 16 Tryz.underlying34 hi0 hz0 hz1 hz2 rfl (by decide) _ _ _ rfl HO2.out ⟨g, if cp = m then 0 else m, none⟩ (k - m) (cp - m) ((out.drop m).map strB) (slice_if cp m g (k - m) (cp - m)) HN3.out HC3.out H3.out (by unfold maxLen; omega) (by omega) (by omega) ?_) | (at_builtin; refine wpList_append_own _ rfl _ _ 34 rfl wr.heap.size 9 i0 (.string .empty) 1 16 Tryz.underlying34 hi0 hz0 hz1 hz2 rfl (by decide) _ _ _ rfl HO2.out ⟨g, if cp = m then 0 else m, none⟩ (k - m) (cp - m) ((out.drop m).map strB) (slice_ne g (k - m) (cp - m) (show cp ≠ m by omega)) HN3.out HC3.out H3.out (by unfold maxLen; omega) (by omega) (by omega) ?_))
            all_goals (
              intro v3 w3 hown3 hgrow3 hv3
              have hB3 : Below wr.heap.size wr w3 := HB2.out.grown hgrow3 hz2' (fun q hq => (HO2.out.lt q (by first | exact hq | exact HOB2.out.trans hq)).1)
              have ek : m + 1 + (k - m) = k + 1 := by omega
              rw [ek] at hown3
              rcases hown3.2 with ⟨_, e0⟩ | ⟨g3, cp3, cur, e3, hg3, hh3⟩
              · omega
              subst e3
              have hcp3 : k + 1 ≤ cp3 := hh3.2.1
              have HO3 := Lib.hid (show w3.ownsRow wr.heap.size 9 1 (.slice (some ⟨g3, 0, none⟩) (k + 1) cp3) (k + 1) ((insN out m b).map strB) from by
                have e : (insN out m b).map strB = List.take m (out.map strB) ++ [.string sb] ++ List.drop m (out.map strB) := by
                  unfold insN
                  rw [HSB.out]
                  simp
                rw [e]
                simpa using hown3)
              have HB3 := Lib.hid hB3
              clear hown3 hgrow3 hv3 hh3 hB3 cur
              go_wp2
              go_roundw
              case rel =>
                have hs := HB.out.size
                refine ⟨k + 1, g3, cp3, insN out m b, by omega, by simp [hw], rfl, hcp3, by omega, own_mono HO3.out hs, ?_, insN_rises HRISE.out HPRE.out HSTOP.out, HB.out.trans (HB3.out.mono hs)⟩
                rw [HTK.out]
                exact (insN_perm out m b).trans (List.Perm.append_right _ HPERM.out)
              case measure => simp [intOf, hw]; omega))
    · obtain rfl : k = n := by omega
      go_wp2
      go_ret
      refine ⟨_, rfl, ?_, hB⟩
      have := sortB_eq (l := l) (hperm.trans (by rw [HLN.out, List.take_length])) hrise
      rw [← this]
      exact hown
end Go.Proofs.YtcdcnhecimajkaaGreat.Runs

/- palmerlaw13: RunsSorts. -/
namespace Go.Proofs.YtcdcnhecimajkaaGreat.Runs
open Go.RowKit Go.Deep Go.Shelf Mem Crc Go.Maps Go.Proofs.YtcdcnhecimajkaaGreat.Merge
open Go.Proofs.YtcdcnhecimajkaaGreat.Store (Sto Files bare St none')

attribute [local go_sem] Oper.semAt_some
/-- A record as it came in: its slice, and its bytes. -/
abbrev InRec := SL × B
structure InRows (w : World) (a : Option Addr) (l : List InRec) : Prop where
  row : Lies w a (l.map (fun x => sl x.1))
  len : ∀ x ∈ l, x.1.2.1 = x.2.length
  recs : ∀ x ∈ l, Lies w x.1.1 (x.2.map bv)
theorem InRows.later {w w' : World} {a : Option Addr} {l : List InRec} (h : InRows w a l) (hB : Below w.heap.size w w') : InRows w' a l := ⟨h.row.later hB, h.len, fun x hx => (h.recs x hx).later hB⟩
theorem lies_lt {w : World} {a : Option Addr} {xs : List Value} (h : Lies w a xs) (h0 : xs ≠ []) (g : Nat) (hg : Mem.blk a = some g) : g < w.heap.size := by
  rcases h with h | ⟨q, o, rfl, hlt, _⟩
  · exact absurd h h0
  · have : q = g := by simpa [Mem.blk] using hg
    omega
theorem strs (xs : List B) : xs.map strB = (xs.map (fun b => (⟨b.toArray⟩ : ByteArray))).map Value.string := by
  rw [List.map_map]
  rfl
/-- The loop's state at k, behind n calls. -/
structure SortLoop {s : Nat} (S : Store.Sto s) (A : Fi) (w0 : World) (x : Nat) (l : List InRec) (k n gw cw : Nat) (D : Nat → Prop) (ls : List (List B)) (held : List B) (wr : World) : Prop where
  want : wr.ownsRow w0.heap.size 9 1 (.slice (some ⟨gw, 0, none⟩) k cw) k ((l.take k).map (fun y => strB y.2))
  live : LiveIn S A D wr x false ls held n
  dom : ∀ g, D g → w0.heap.size ≤ g ∧ g < wr.heap.size
  out : ¬ D gw
  few : ls.length ≤ n
  perm : (held ++ ls.flatten).Perm ((l.take k).map Prod.snd)
  below : Below w0.heap.size w0 wr
theorem SortLoop.gw_lt {s : Nat} {S : Store.Sto s} {A : Fi} {w0 wr : World} {x k n gw cw : Nat} {l : List InRec} {D : Nat → Prop} {ls : List (List B)} {held : List B} (h : SortLoop S A w0 x l k n gw cw D ls held wr) : w0.heap.size ≤ gw ∧ gw < wr.heap.size := h.want.lt gw rfl
theorem SortLoop.more {s : Nat} {S : Store.Sto s} {A : Fi} {w0 wr : World} {x k n n' gw cw : Nat} {l : List InRec} {D : Nat → Prop} {ls : List (List B)} {held : List B} (h : SortLoop S A w0 x l k n gw cw D ls held wr) (hn : n ≤ n') : SortLoop S A w0 x l k n' gw cw D ls held wr :=
  ⟨h.want, h.live.more hn, h.dom, h.out, Nat.le_trans h.few hn, h.perm, h.below⟩
theorem SortLoop.flush {s : Nat} {S : Store.Sto s} {A : Fi} {w0 wr w1 : World} {x k n gw cw : Nat} {l : List InRec} {D : Nat → Prop} {ls : List (List B)} {held : List B} (h : SortLoop S A w0 x l k n gw cw D ls held wr) (hl : LiveIn S A (Mid D wr w1) w1 x false (ls ++ [held]) [] (n + 1)) (hu : Upon D wr w1) : SortLoop S A w0 x l k (n + 1) gw cw (Mid D wr w1) (ls ++ [held]) [] w1 := by
  have hs := hu.size
  have hb := h.below.size
  refine ⟨own_upon h.want hu (fun g hg => by cases hg; exact h.out), hl, fun g hg => ?_, fun hg => ?_, by rw [List.length_append]; have := h.few; simpa using this, ?_, h.below.trans (hu.below hb (fun g hg => (h.dom g hg).1))⟩
  · rcases hg with hg | hg
    · have := h.dom g hg
      exact ⟨this.1, by omega⟩
    · exact ⟨by omega, hg.2⟩
  · rcases hg with hg | hg
    · exact h.out hg
    · have := h.gw_lt.2
      omega
  · rw [List.flatten_append, List.nil_append]
    refine List.Perm.trans ?_ h.perm
    simpa using List.perm_append_comm
theorem SortLoop.put {s : Nat} {S : Store.Sto s} {A : Fi} {w0 wr w1 w2 : World} {x k n gw cw : Nat} {l : List InRec} {D : Nat → Prop} {ls : List (List B)} {held : List B} (h : SortLoop S A w0 x l k n gw cw D ls held wr) {y : SL} {b : B} (hk : l[k]? = some (y, b)) (hl : LiveIn S A (Mid D wr w1) w1 x false (putM A.rm (ls, held) b).1 (putM A.rm (ls, held) b).2 (n + 1)) (hu : Upon D wr w1)
    (o : Obj) {g3 c3 : Nat} (hown : w2.ownsRow w0.heap.size 9 1 (.slice (some ⟨g3, 0, none⟩) (k + 1) c3) (k + 1) ((l.take k).map (fun y => strB y.2) ++ [strB b])) (hg : (w1.alloc o).grownBy w2 (some gw)) (hat : g3 = gw ∨ g3 = (w1.alloc o).heap.size) : SortLoop S A w0 x l (k + 1) (n + 1) g3 c3 (Mid D wr w1) (putM A.rm (ls, held) b).1 (putM A.rm (ls, held) b).2 w2 := by
  have hs := hu.size
  have hb := h.below.size
  have hgw := h.gw_lt
  have htk : l.take (k + 1) = l.take k ++ [(y, b)] := by rw [List.take_add_one, hk]; rfl
  have hs2 : w1.heap.size ≤ w2.heap.size := by have := hg.size; rw [World.size_alloc] at this; omega
  have hdom : ∀ g, Mid D wr w1 g → w0.heap.size ≤ g ∧ g < w1.heap.size := fun g hg => by
    rcases hg with hg | hg
    · have := h.dom g hg
      exact ⟨this.1, by omega⟩
    · exact ⟨by omega, hg.2⟩
  have hout : ∀ g, g < wr.heap.size → ¬ D g → ¬ Mid D wr w1 g := fun g h1 h2 hg => by
    rcases hg with hg | hg
    · exact h2 hg
    · omega
  have hup : Upon (fun g => g = gw) w1 w2 := (Upon.alloc (Upon.refl (fun g => g = gw) w1) o).trans (Upon.of_grown hg (fun g e => .inl (by cases e; rfl))) (fun g hg => .inl hg)
  refine ⟨?_, hl.keep hup (fun g hg e => hout gw hgw.2 h.out (e ▸ hg)), fun g hg => ⟨(hdom g hg).1, Nat.lt_of_lt_of_le (hdom g hg).2 hs2⟩, ?_, ?_, ?_, ?_⟩
  · rw [htk, List.map_append]
    exact hown
  · rcases hat with rfl | rfl
    · exact hout _ hgw.2 h.out
    · intro hg
      have := (hdom _ hg).2
      rw [World.size_alloc] at this
      omega
  · unfold putM
    have := h.few
    split
    · simp; omega
    · simp; omega
  · rw [htk, List.map_append]
    exact (putM_perm A.rm (ls, held) b).trans (List.Perm.append_right _ h.perm)
  · exact (h.below.trans (hu.below hb (fun g hg => (h.dom g hg).1))).trans (hup.below (by omega) (fun g e => by rw [e]; exact hgw.1))
theorem SortLoop.start {s : Nat} {S : Store.Sto s} {A : Fi} {w0 w2 : World} {x : Nat} {l : List InRec} (h : LiveIn S A (fun k => w0.heap.size ≤ k ∧ k < w2.heap.size) w2 x false [] [] 0) (hB : Below w0.heap.size w0 w2) : SortLoop S A w0 x l 0 0 w2.heap.size 0 (fun k => w0.heap.size ≤ k ∧ k < w2.heap.size) [] [] (w2.alloc (.cells #[] 9)) :=
  ⟨own_mono (own_empty w2 9 1) hB.size, h.later ((Below.refl _ w2).alloc (Nat.le_refl _) _), fun g hg => ⟨hg.1, by rw [World.size_alloc]; omega⟩, fun hg => by omega, Nat.le_refl _, List.Perm.refl _, hB.alloc hB.size _⟩
end Go.Proofs.YtcdcnhecimajkaaGreat.Runs

/- palmerlaw13: RunsSorts, where all holds. -/
namespace Go.Proofs.YtcdcnhecimajkaaGreat.Runs
open Go.RowKit Go.Deep Go.Shelf Mem Crc Go.Maps Go.Proofs.YtcdcnhecimajkaaGreat.Merge
open Go.Proofs.YtcdcnhecimajkaaGreat.Store (Sto Files bare St none')

attribute [local go_sem] Oper.semAt_some
set_option maxHeartbeats 4000000 in
set_option maxRecDepth 100000 in
theorem sorts_in (w : World) (a : Option Addr) (c : Nat) (l : List InRec) (fa : Option Addr) (fc : Nat) (fl : List Bool) (wd rm : Nat) (hL : InRows w a l) (hF : Lies w fa (fl.map Value.bool)) (hn : l.length ≤ 100) (h1 : 1 ≤ wd) (h2 : wd ≤ 64) (h3 : 1 ≤ rm) (h4 : rm ≤ 4096) (hall : ∀ x ∈ l, x.2.length = wd) :
    Calls Tryz.prog 3 #[.int .i64 wd, .int .i64 rm, .slice a l.length c, .slice fa fl.length fc] w fun e w' => e = .returned (.bool true) ∧ Below w.heap.size w w' := by
  obtain ⟨i0, hi0, hz0, hz1, hz2⟩ := info_parts infoStr
  obtain ⟨n, hln⟩ : ∃ n, n = l.length := ⟨_, rfl⟩
  obtain ⟨fn, hfn⟩ : ∃ fn, fn = fl.length := ⟨_, rfl⟩
  rw [← hln] at hn ⊢
  rw [← hfn]
  have HL := Lib.hid hL
  have HF := Lib.hid hF
  have HALL := Lib.hid hall
  have HLN := Lib.hid hln
  have HFN := Lib.hid hfn
  have HBG := Lib.hid (begin_any w)
  clear hL hF hall hln hfn
  go_enter Tryz.func3, Tryz.ntmps3
  go_wp2_with fail
  refine HBG.out.mono ?_
  rintro e w1 ⟨d, s, g, cm, Q, rfl, hst, hQ, hB1⟩
  have HNEW := Lib.hid (in_new hst w.heap.size hQ hB1.size wd rm h1 h2 h3 h4)
  have HB1 := Lib.hid hB1
  clear hst hQ hB1 HBG
  go_wp2_with fail
  refine HNEW.out.mono ?_
  rintro e w2 ⟨x, rfl, hlv, hB2⟩
  have hBB2 : Below w.heap.size w w2 := HB1.out.trans (hB2.mono HB1.out.size)
  have hfew := few_yes w2 a c wd (l.map Prod.fst) (by have := (HL.out.later hBB2).row; rw [List.map_map]; exact this) (by rw [List.length_map, ← HLN.out]; exact hn) h1 h2 (fun y hy => by
    obtain ⟨z, hz, rfl⟩ := List.mem_map.1 hy
    rw [HL.out.len z hz]
    exact HALL.out z hz)
  rw [List.length_map, ← HLN.out] at hfew
  have HFEW := Lib.hid hfew
  have HST := Lib.hid (SortLoop.start (l := l) hlv hBB2)
  clear hfew hlv hB2 hBB2 HNEW HB1
  go_wp2_with fail
  refine HFEW.out.mono ?_
  rintro e w3 ⟨rfl, hw3⟩
  subst hw3
  clear HFEW
  go_wp2_with fail
  go_loopw [14, 15] (fun v i wr => ∃ (k gw cw : Nat) (D : Nat → Prop) (ls : List (List B)) (held : List B), k ≤ n ∧ i = .int .i64 k ∧ v = .slice (some ⟨gw, 0, none⟩) k cw ∧ SortLoop (bare s d g 400 cm) (fiR s wd rm) w x l k (2 * k) gw cw D ls held wr) (fun _ i _ => n - (intOf i).toNat)
  case atStart => exact ⟨0, _, _, _, _, _, Nat.zero_le _, rfl, rfl, HST.out⟩
  case round =>
    obtain ⟨k, gw, cw, D, ls, held, hk, rfl, rfl, hSL⟩ := hrel
    have HSL := Lib.hid hSL
    clear hSL
    by_cases hlt : k < n
    · obtain ⟨⟨⟨xa, xn, xc⟩, b⟩, hx⟩ : ∃ z, l[k]? = some z := ⟨l[k]'(by rw [← HLN.out]; exact hlt), List.getElem?_eq_getElem _⟩
      have hmem := List.mem_of_getElem? hx
      have hLr := HL.out.later HSL.out.below
      have hxn : xn = wd := (hLr.len _ hmem).trans (HALL.out _ hmem)
      have hbl : b.length = wd := HALL.out _ hmem
      subst hxn
      have hLb : Lies wr xa (b.map bv) := hLr.recs _ hmem
      have hb0 : b ≠ [] := fun e => by rw [e] at hbl; simp at hbl; omega
      have hxa : ∀ q, Mem.blk xa = some q → q < w.heap.size := lies_lt (HL.out.recs _ hmem) (by simpa using hb0)
      obtain ⟨lg, lo, rfl, cl⟩ := lies_at hLr.row (k := k) (u := .slice xa xn xc) (by simp [hx, sl])
      have hput := in_put HSL.out.live (b := b) (by omega) (by have := HSL.out.few; omega) hbl xa xc hLb (fun q hq hD => by have := hxa q hq; have := (HSL.out.dom q hD).1; omega)
      rw [hbl] at hput
      have HPUT := Lib.hid hput
      have HX := Lib.hid hx
      have HBL := Lib.hid hbl
      have HXA := Lib.hid hxa
      have HB0 := Lib.hid hb0
      have HMEM := Lib.hid hmem
      have hw : RowKit.wrap64 ((k : Int) + 1) = (k : Int) + 1 := IntWalk.wrap64_in _ (by omega)
      clear hmem hLr hbl hLb hb0 hxa hput hx
      go_wp2_with fail
      refine HPUT.out.mono ?_
      rintro e w1 ⟨rfl, hlv1, hu1⟩
      obtain ⟨hn1, hhn⟩ : ∃ q, q = (putM (fiR s xn rm).rm (ls, held) b).2.length := ⟨_, rfl⟩
      have hroom : hn1 ≤ rm := by rw [hhn]; exact hlv1.room
      have hhd := in_held hlv1
      rw [← hhn] at hhd
      have HHELD := Lib.hid hhd
      have HHN := Lib.hid hhn
      have hbb := HSL.out.below.trans (hu1.below HSL.out.below.size (fun q hq => (HSL.out.dom q hq).1))
      obtain ⟨sb, hsb⟩ : ∃ sb : ByteArray, .string sb = strB b := ⟨_, rfl⟩
      have hcv := conv_str (vc := xc) HB0.out ((HL.out.later hbb).recs _ HMEM.out)
      rw [HBL.out, ← hsb] at hcv
      have c2 : w1.cell? ⟨lg, lo + k, none⟩ = some (.slice xa xn xc) := by
        obtain ⟨_, _, e, h⟩ := lies_at (HL.out.later hbb).row (k := k) (u := .slice xa xn xc) (by simp [HX.out, sl])
        cases e
        exact h
      have HOW := Lib.hid ((own_upon HSL.out.want hu1 (fun q hq => by cases hq; exact HSL.out.out)).alloc (.cells #[.string sb] 9))
      have hbs : w.heap.size ≤ w1.heap.size := hbb.size
      have HLV1 := Lib.hid hlv1
      have HU1 := Lib.hid hu1
      have HSB := Lib.hid hsb
      clear hhd hhn hbb hsb hlv1 hu1 HPUT
      go_wp2_with fail
      refine HHELD.out.mono ?_
      rintro e w1' ⟨rfl, rfl⟩
      go_wp2_with (first | (at_builtin; go_loud (refine wpList_append_own_at _ rfl _ _ 34 rfl w.heap.size 9 i0 (.string .empty) 1 16 Tryz.underlying34 hi0 hz0 hz1 hz2 rfl (by decide) _ _ _ rfl HOW.out ⟨w1.heap.size, 0, none⟩ 1 1 [.string sb] rfl rfl (one_at rfl) (by simp [Value.oneCell']) (by unfold maxLen; omega) (by omega) (by rw [World.size_alloc]; omega) ?_)))
      intro v2 w2 hown2 hgrow2 hv2 hat2
      rcases hown2.2 with ⟨_, e0⟩ | ⟨g3, c3, cur, e3, hg3, hh3⟩
      · omega
      subst e3
      have hS := HSL.out.put HX.out HLV1.out HU1.out (.cells #[.string sb] 9) (g3 := g3) (c3 := c3) (by rw [List.map_take, ← HSB.out]; exact hown2) hgrow2 (by
        rcases hat2 with h | h
        · exact .inl (by simpa [Value.ownBlock] using h)
        · exact .inr (by simpa [Value.ownBlock] using h))
      generalize Mid D wr w1 = D1 at hS
      have hne : (putM (fiR s xn rm).rm (ls, held) b).2 ≠ [] := by
        unfold putM
        split <;> simp
      generalize (putM (fiR s xn rm).rm (ls, held) b).1 = ls1 at hS
      generalize (putM (fiR s xn rm).rm (ls, held) b).2 = held1 at hS hne
      have HS := Lib.hid hS
      have HNE := Lib.hid hne
      clear hS hne hown2 hgrow2 hv2 hat2 hh3 hcv c2 HLV1 HU1 HOW HHELD HHN
      by_cases hf : k < fn
      · obtain ⟨bit, hbit⟩ : ∃ bit, fl[k]? = some bit := ⟨fl[k]'(by rw [← HFN.out]; exact hf), List.getElem?_eq_getElem _⟩
        obtain ⟨fg, fo, rfl, c3⟩ := lies_at (HF.out.later HS.out.below) (k := k) (u := .bool bit) (by simp [hbit])
        clear hbit
        cases bit with
        | false =>
          go_wp2_with fail
          go_roundw
          case rel => exact ⟨k + 1, _, _, _, _, _, by omega, by simp [hw], rfl, HS.out.more (by omega)⟩
          case measure => simp [intOf, hw]; omega
        | true =>
          have HFL := Lib.hid (in_flush HS.out.live HNE.out (by omega) (by have := HS.out.few; omega))
          go_wp2_with fail
          refine HFL.out.mono ?_
          rintro e w4 ⟨rfl, hlv4, hu4⟩
          have hhd : Calls Tryz.prog 11 #[.pointer (some ⟨x, 0, none⟩)] w4 fun e w' => e = .returned (.int .i64 0) ∧ w4 = w' := by simpa using in_held hlv4
          have HHD := Lib.hid hhd
          have HS4 := Lib.hid (HS.out.flush hlv4 hu4)
          clear hhd hlv4 hu4 HFL
          go_wp2_with fail
          refine HHD.out.mono ?_
          rintro e w5 ⟨rfl, rfl⟩
          go_wp2_with fail
          go_roundw
          case rel => exact ⟨k + 1, _, _, _, _, _, by omega, by simp [hw], rfl, HS4.out.more (by omega)⟩
          case measure => simp [intOf, hw]; omega
      · go_wp2_with fail
        go_roundw
        case rel => exact ⟨k + 1, _, _, _, _, _, by omega, by simp [hw], rfl, HS.out.more (by omega)⟩
        case measure => simp [intOf, hw]; omega
    · obtain rfl : k = n := by omega
      have htk : l.take k = l := by rw [HLN.out, List.take_length]
      obtain ⟨bs, hbs⟩ : ∃ bs, bs = l.map Prod.snd := ⟨_, rfl⟩
      have hbn : bs.length = k := by rw [hbs, List.length_map, ← HLN.out]
      have hperm : (held ++ ls.flatten).Perm bs := by have := HSL.out.perm; rw [htk] at this; rw [hbs]; exact this
      have hsort : sortB (held ++ ls.flatten) = sortB bs := sortB_eq ((sortB_perm _).trans hperm) (sortB_rises _)
      have hlen : (held ++ ls.flatten).length = k := by rw [hperm.length_eq]; exact hbn
      have hrows : ∀ W, Below wr.heap.size wr W → Calls Tryz.prog 13 #[.pointer (some ⟨x, 0, none⟩)] W fun e w' => ∃ v, e = .returned (.tuple #[v, .int .i64 0]) ∧ w'.ownsRow W.heap.size 9 1 v k ((sortB bs).map strB) ∧ Below W.heap.size W w' := fun W hW => by
        have := in_rows (HSL.out.live.later hW) (by have := HSL.out.few; omega) (.inl rfl) (held ++ ls.flatten) rfl (by rw [hlen]; omega)
        rw [hlen, hsort] at this
        exact this
      have hwant : Lies wr (some ⟨gw, 0, none⟩) (bs.map strB) := by
        obtain ⟨_, _, e, _, h, _, _⟩ := own_shape HSL.out.want
        cases e
        rw [htk] at h
        rw [hbs, List.map_map]
        exact h
      have hss : (sortB bs).map strB = ((sortB bs).map (fun b => (⟨b.toArray⟩ : ByteArray))).map Value.string := strs _
      have hsn : ((sortB bs).map (fun b => (⟨b.toArray⟩ : ByteArray))).length = k := by rw [List.length_map, (sortB_perm bs).length_eq]; exact hbn
      generalize (sortB bs).map (fun b => (⟨b.toArray⟩ : ByteArray)) = ss at hss hsn
      have HROWS := Lib.hid hrows
      have HWANT := Lib.hid hwant
      have HSS := Lib.hid hss
      have HSN := Lib.hid hsn
      have HBN := Lib.hid hbn
      have HR1 := Lib.hid (hrows wr (Below.refl _ _))
      have HBB := Lib.hid HSL.out.below
      clear htk hbs hbn hperm hsort hlen hrows hwant hss hsn HSL
      go_wp2_with fail
      refine HR1.out.mono ?_
      rintro e w4 ⟨v4, rfl, hO4, hB4⟩
      obtain ⟨va, vc, rfl, _, hL4, _, _⟩ := own_shape hO4
      have HR2 := Lib.hid (HROWS.out w4 hB4)
      have HL4 := Lib.hid hL4
      have HB4 := Lib.hid hB4
      clear hO4 hL4 hB4 HR1
      go_wp2_with fail
      refine HR2.out.mono ?_
      rintro e w5 ⟨v5, rfl, hO5, hB5⟩
      obtain ⟨ua, uc, rfl, _, hL5, _, _⟩ := own_shape hO5
      have hB45 : Below wr.heap.size wr w5 := HB4.out.trans (hB5.mono HB4.out.size)
      have href := refSorted_any w5 (some ⟨gw, 0, none⟩) cw bs (HWANT.out.later hB45) (by rw [HBN.out]; omega)
      rw [HBN.out] at href
      have HREF := Lib.hid href
      have HL5 := Lib.hid hL5
      have HL45 := Lib.hid (HL4.out.later hB5)
      have HBB5 := Lib.hid (HBB.out.trans (hB45.mono HBB.out.size))
      clear hO5 hL5 hB5 hB45 href HR2
      go_wp2_with fail
      refine HREF.out.mono ?_
      rintro e w6 ⟨v6, rfl, hO6, hB6⟩
      obtain ⟨ta, tc, rfl, _, hL6, _, _⟩ := own_shape hO6
      have hsame := same_yes w6 va ta vc tc ss (by rw [← HSS.out]; exact HL45.out.later hB6) (by rw [← HSS.out]; exact hL6) (by rw [HSN.out]; omega)
      rw [HSN.out] at hsame
      have HSAME := Lib.hid hsame
      have HL56 := Lib.hid (HL5.out.later hB6)
      have HL46 := Lib.hid (HL45.out.later hB6)
      have HBB6 := Lib.hid (HBB5.out.trans (hB6.mono HBB5.out.size))
      clear hO6 hL6 hB6 hsame HREF
      go_wp2_with fail
      refine HSAME.out.mono ?_
      rintro e w7 ⟨rfl, m7, hm7⟩
      have hB7 : Below w6.heap.size w6 w7 := by rw [hm7]; exact ⟨rfl, rfl, rfl, Nat.le_refl _, fun _ _ => rfl⟩
      have hsame2 := same_yes w7 ua va uc vc ss (by rw [← HSS.out]; exact HL56.out.later hB7) (by rw [← HSS.out]; exact HL46.out.later hB7) (by rw [HSN.out]; omega)
      rw [HSN.out] at hsame2
      have HSAME2 := Lib.hid hsame2
      have HBB7 := Lib.hid (HBB6.out.trans (hB7.mono HBB6.out.size))
      clear hm7 hB7 hsame2 HSAME
      go_wp2_with fail
      refine HSAME2.out.mono ?_
      rintro e w8 ⟨rfl, m8, hm8⟩
      have hB8 : Below w7.heap.size w7 w8 := by rw [hm8]; exact ⟨rfl, rfl, rfl, Nat.le_refl _, fun _ _ => rfl⟩
      have HA := Lib.hid (awake_any w8)
      have HBB8 := Lib.hid (HBB7.out.trans (hB8.mono HBB7.out.size))
      clear hm8 hB8 HSAME2
      go_wp2_with fail
      refine HA.out.mono ?_
      rintro e w9 ⟨rfl, hB9⟩
      have HBB9 := Lib.hid (HBB8.out.trans (hB9.mono HBB8.out.size))
      clear hB9 HA
      go_wp2_with fail
      go_ret
      exact ⟨rfl, HBB9.out⟩
end Go.Proofs.YtcdcnhecimajkaaGreat.Runs

/- palmerlaw13: RunsSorts, the whole law. -/
namespace Go.Proofs.YtcdcnhecimajkaaGreat.Runs
open Go.RowKit Go.Deep Go.Shelf Mem Crc Go.Maps Go.Proofs.YtcdcnhecimajkaaGreat.Merge
open Go.Proofs.YtcdcnhecimajkaaGreat.Store (Sto Files bare St none')

attribute [local go_sem] Oper.semAt_some
theorem new_each {d s g cm : Nat} {w : World} {Q : Nat → Prop} (h : St w Q s d g 400 cm false none') (wd rm : Int) :
    Calls Tryz.prog 7 #[.pointer (some ⟨s, 0, none⟩), .string ⟨#[114]⟩, .int .i64 wd, .int .i64 rm] w fun e w' => ∃ (v : Value) (ne : Int), e = .returned (.tuple #[v, .int .i64 ne]) ∧ Below w.heap.size w w' := by
  by_cases hb : wd < 1 ∨ 64 < wd ∨ rm < 1 ∨ 4096 < rm
  · refine (new_bad (.pointer (some ⟨s, 0, none⟩)) w wd rm hb).mono ?_
    rintro e w' ⟨rfl, hB⟩
    exact ⟨_, _, rfl, hB⟩
  · obtain ⟨a, rfl⟩ : ∃ a : Nat, wd = a := ⟨wd.toNat, by omega⟩
    obtain ⟨b, rfl⟩ : ∃ b : Nat, rm = b := ⟨rm.toNat, by omega⟩
    refine (in_new h 0 (fun _ _ => Nat.zero_le _) (Nat.zero_le _) a b (by omega) (by omega) (by omega) (by omega)).mono ?_
    rintro e w' ⟨x, rfl, _, hB⟩
    exact ⟨_, _, rfl, hB⟩
/-- What few answers of rows that came in. -/
theorem few_each (w : World) (a : Option Addr) (c : Nat) (l : List InRec) (hL : InRows w a l) (wd : Int) :
    Calls Tryz.prog 8 #[.slice a l.length c, .int .i64 wd] w fun e w' => e = .returned (.bool (decide (l.length ≤ 100 ∧ 1 ≤ wd ∧ wd ≤ 64 ∧ ∀ x ∈ l, (x.2.length : Int) = wd))) ∧ w' = w := by
  by_cases h0 : 100 < l.length ∨ wd < 1 ∨ 64 < wd
  · rw [decide_eq_false (fun h => by omega)]
    exact few_no w a l.length c wd h0
  · obtain ⟨k, rfl⟩ : ∃ k : Nat, wd = k := ⟨wd.toNat, by omega⟩
    have hrow : Lies w a ((l.map Prod.fst).map sl) := by rw [List.map_map]; exact hL.row
    have hn : (l.map Prod.fst).length ≤ 100 := by rw [List.length_map]; omega
    by_cases hall : ∀ x ∈ l, (x.2.length : Int) = k
    · rw [decide_eq_true ⟨by omega, by omega, by omega, hall⟩]
      have := few_yes w a c k (l.map Prod.fst) hrow hn (by omega) (by omega) (fun y hy => by
        obtain ⟨z, hz, rfl⟩ := List.mem_map.1 hy
        rw [hL.len z hz]
        have := hall z hz
        omega)
      rw [List.length_map] at this
      exact this
    · rw [decide_eq_false (fun h => hall h.2.2.2)]
      have := few_odd w a c k (l.map Prod.fst) hrow hn (by omega) (by omega) (fun h => hall (fun x hx => by
        have h2 := h x.1 (List.mem_map.2 ⟨x, hx, rfl⟩)
        rw [hL.len x hx] at h2
        omega))
      rw [List.length_map] at this
      exact this
set_option maxHeartbeats 1000000 in
set_option maxRecDepth 100000 in
theorem sorts_bad (w : World) (a : Option Addr) (c : Nat) (l : List InRec) (f : Value) (wd rm : Int) (hL : InRows w a l) (hbad : ¬ (l.length ≤ 100 ∧ 1 ≤ wd ∧ wd ≤ 64 ∧ ∀ x ∈ l, (x.2.length : Int) = wd) ∨ (wd < 1 ∨ 64 < wd ∨ rm < 1 ∨ 4096 < rm)) :
    Calls Tryz.prog 3 #[.int .i64 wd, .int .i64 rm, .slice a l.length c, f] w fun e w' => e = .returned (.bool true) ∧ Below w.heap.size w w' := by
  have HFEW : Hid (∀ W, Below w.heap.size w W → Calls Tryz.prog 8 #[.slice a l.length c, .int .i64 wd] W fun e w' => e = .returned (.bool (decide (l.length ≤ 100 ∧ 1 ≤ wd ∧ wd ≤ 64 ∧ ∀ x ∈ l, (x.2.length : Int) = wd))) ∧ w' = W) := Lib.hid (fun W hW => few_each W a c l (hL.later hW) wd)
  have HBG := Lib.hid (begin_any w)
  obtain ⟨n, hn⟩ : ∃ n, n = l.length := ⟨_, rfl⟩
  rw [← hn] at HFEW hbad ⊢
  clear hL hn
  by_cases hf : n ≤ 100 ∧ 1 ≤ wd ∧ wd ≤ 64 ∧ ∀ x ∈ l, (x.2.length : Int) = wd
  · have hb := hbad.resolve_left (fun h => h hf)
    rw [decide_eq_true hf] at HFEW
    have HNEW : Hid (∀ (s : Value) (W : World), Calls Tryz.prog 7 #[s, .string ⟨#[114]⟩, .int .i64 wd, .int .i64 rm] W fun e w' => e = .returned (.tuple #[.pointer none, .int .i64 1]) ∧ Below W.heap.size W w') := Lib.hid (fun s W => new_bad s W wd rm hb)
    clear hf hb hbad
    go_enter Tryz.func3, Tryz.ntmps3
    go_wp2_with fail
    refine HBG.out.mono ?_
    rintro e w1 ⟨d, s, g, cm, Q, rfl, hst, hQ, hB1⟩
    have HN := Lib.hid (HNEW.out (.pointer (some ⟨s, 0, none⟩)) w1)
    have HB1 := Lib.hid hB1
    clear hst hQ hB1 HBG
    go_wp2_with fail
    refine HN.out.mono ?_
    rintro e w2 ⟨rfl, hB2⟩
    have HB2 := Lib.hid (HB1.out.trans (hB2.mono HB1.out.size))
    have HFE := Lib.hid (HFEW.out w2 HB2.out)
    clear hB2 HN HNEW
    go_wp2_with fail
    refine HFE.out.mono ?_
    rintro e w3 ⟨rfl, hw3⟩
    subst hw3
    have HA := Lib.hid (awake_any w3)
    clear HFE HFEW
    go_wp2_with fail
    refine HA.out.mono ?_
    rintro e w4 ⟨rfl, hB4⟩
    have HB4 := Lib.hid (HB2.out.trans (hB4.mono HB2.out.size))
    clear hB4 HA
    go_wp2_with fail
    go_ret
    exact ⟨rfl, HB4.out⟩
  · rw [decide_eq_false hf] at HFEW
    clear hf hbad
    go_enter Tryz.func3, Tryz.ntmps3
    go_wp2_with fail
    refine HBG.out.mono ?_
    rintro e w1 ⟨d, s, g, cm, Q, rfl, hst, hQ, hB1⟩
    have HN := Lib.hid (new_each hst wd rm)
    have HB1 := Lib.hid hB1
    clear hst hQ hB1 HBG
    go_wp2_with fail
    refine HN.out.mono ?_
    rintro e w2 ⟨v, ne, rfl, hB2⟩
    have HB2 := Lib.hid (HB1.out.trans (hB2.mono HB1.out.size))
    have HFE := Lib.hid (HFEW.out w2 HB2.out)
    clear hB2 HN
    go_wp2_with fail
    refine HFE.out.mono ?_
    rintro e w3 ⟨rfl, hw3⟩
    subst hw3
    have HA := Lib.hid (awake_any w3)
    clear HFE HFEW
    go_wp2_with fail
    refine HA.out.mono ?_
    rintro e w4 ⟨rfl, hB4⟩
    have HB4 := Lib.hid (HB2.out.trans (hB4.mono HB2.out.size))
    clear hB4 HA
    go_wp2_with fail
    go_ret
    exact ⟨rfl, HB4.out⟩
set_option maxRecDepth 100000 in
theorem sorts_law {H : Type} {enc : TypeId × Value → H} {base : Nat} (v0 v1 v2 v3 : Value) (d0 d1 d2 d3 : DataW H) (p0 p1 p2 p3 : List MemPlace) (W : World)
    (q0 : Value.okWide Tryz.prog W .any base 3 v0) (h0 : DataW.Trod enc Tryz.prog W 0 (fun _ => true) true 3 v0 d0 p0)
    (q1 : Value.okWide Tryz.prog W .any base 3 v1) (h1 : DataW.Trod enc Tryz.prog W 0 (fun _ => true) true 3 v1 d1 p1)
    (q2 : Value.okWide Tryz.prog W .any base 22 v2) (h2 : DataW.Trod enc Tryz.prog W 0 (fun _ => true) true 22 v2 d2 p2)
    (q3 : Value.okWide Tryz.prog W .any base 23 v3) (h3 : DataW.Trod enc Tryz.prog W 0 (fun _ => true) true 23 v3 d3 p3) :
    Calls Tryz.prog 3 #[v0, v1, v2, v3] W fun e w' => e = .returned (.bool true) ∧ Below W.heap.size W w' := by
  obtain ⟨wd, rfl, _⟩ := Args.int_open Tryz.underlying3 q0 h0
  obtain ⟨rm, rfl, _⟩ := Args.int_open Tryz.underlying3 q1 h1
  obtain ⟨a, cap, l, rfl, _, _, hl, hL⟩ := Args.rows_open Tryz.underlying22 Tryz.underlying36 Tryz.underlying5 (by kernel_rfl) (by kernel_rfl) q2 h2
  obtain ⟨fa, fcap, fl, rfl, _, _, hF⟩ := Args.bools_open Tryz.underlying23 Tryz.underlying4 (by kernel_rfl) q3 h3
  have hI : InRows W a l := ⟨hL, fun x hx => (hl x hx).1, fun x hx => (hl x hx).2.2.2⟩
  by_cases hg : (l.length ≤ 100 ∧ 1 ≤ wd ∧ wd ≤ 64 ∧ ∀ x ∈ l, (x.2.length : Int) = wd) ∧ 1 ≤ rm ∧ rm ≤ 4096
  · obtain ⟨⟨g1, g2, g3, g4⟩, g5, g6⟩ := hg
    obtain ⟨k, rfl⟩ : ∃ k : Nat, wd = k := ⟨wd.toNat, by omega⟩
    obtain ⟨m, rfl⟩ : ∃ k : Nat, rm = k := ⟨rm.toNat, by omega⟩
    exact sorts_in W a cap l fa fcap fl k m hI hF g1 (by omega) (by omega) (by omega) (by omega) (fun x hx => by have := g4 x hx; omega)
  · refine sorts_bad W a cap l (.slice fa fl.length fcap) wd rm hI ?_
    by_cases hf : l.length ≤ 100 ∧ 1 ≤ wd ∧ wd ≤ 64 ∧ ∀ x ∈ l, (x.2.length : Int) = wd
    · refine .inr (.inr (.inr ?_))
      by_cases h : rm < 1
      · exact .inl h
      · refine .inr ?_
        have : ¬ (1 ≤ rm ∧ rm ≤ 4096) := fun h => hg ⟨hf, h⟩
        omega
    · exact .inl hf
end Go.Proofs.YtcdcnhecimajkaaGreat.Runs
