/- Put, Drop, New, Used, Keys, Clear of a cache of int. -/
import Derived.Test.YtddjcamhhjkbfaaOpsI
import Derived.Deep.LoopGhost
namespace Go.Proofs.Ytddjcamhhjkbfaa.CI
open Go.RowKit Go.Shelf Mem

abbrev FR (B : Nat) (w w' : World) : Prop := Fr B [52, 57] w w'

set_option maxHeartbeats 2000000 in
set_option maxRecDepth 100000 in
theorem drop_any (B C : Nat) (v : Value) (room used key : Int) (ts : List Th) (w : World) (h : Holds B C v room used ts w) (hf : Fits room used ts) (hl : ts.length ≤ 999) :
    Calls Try.prog 20 #[.pointer (some ⟨C, 0, none⟩), .int .i64 key] w fun e w' => e = .returned (.bool (ts.find? (fun t => t.key == key)).isSome) ∧
      (∃ v' used', Holds B C v' room used' (ts.eraseP (fun t => t.key == key)) w' ∧ Fits room used' (ts.eraseP (fun t => t.key == key))) ∧ FR B w w' := by
  have hfs := find_size (p := fun t => t.key == key) hf.pos
  have hu0 := total_nonneg hf.pos
  have hfu := hf.sum
  have hfl := hf.le
  have hfm := hf.top
  obtain ⟨ft, hft⟩ : ∃ ft, (ts.find? (fun t => t.key == key)).getD Th.zero = ft := ⟨_, rfl⟩
  rw [hft] at hfs
  have hout : ∀ W, W = w.alloc (.cells #[.int .i64 key] 3) → Calls Try.prog 21 #[.pointer (some ⟨C, 0, none⟩), .func (.func 34) #[] #[.pointer (some ⟨w.heap.size, 0, none⟩)]] W fun e w' => e = .returned (.tuple #[ft.v, .bool (ts.find? (fun t => t.key == key)).isSome]) ∧
      ∃ v', Holds B C v' room (used - ft.size) (ts.eraseP (fun t => t.key == key)) w' ∧ FR B w w' := fun W hW => by
    subst hW
    rw [← hft] at hfs ⊢
    have hh := h.below ((Below.refl _ w).alloc (Nat.le_refl _) (.cells #[.int .i64 key] 3))
    refine (out_any _ _ (fun t => t.key == key) B C room used v ts _ (asks_drop w.heap.size key _ (Blk.new w _ _)) hh (by omega) (by omega)).mono fun e w' ⟨he, v', h1, h2, _⟩ => ⟨he, v', h1, ((Fr.refl _ _ w).alloc _).trans (hh.fr h2)⟩
  have HO := Lib.hid hout
  have HFE : Hid (Fits room (used - ft.size) (ts.eraseP (fun t => t.key == key))) := by rw [← hft]; exact hf.erase _
  clear hout h hf hft hfu
  have hft2 : ft.v = .agg #[.int .i64 ft.key, .int .i64 ft.size, .int .i64 (ft.x)] := rfl
  rw [hft2] at HO
  have hmf : ∀ (fn : Fn) (first cap : Array Value) (w : World), (Instr.makeFunc fn first cap).run Try.prog w = .ok (.func fn first cap) w := fun _ _ _ _ => rfl
  go_enter Try.func20, Try.ntmps20
  go_wp2_with fail
  refine (HO.out _ rfl).mono ?_
  rintro e w1 ⟨rfl, v', hH1, hfr⟩
  have HH1 := Lib.hid hH1
  have HFR := Lib.hid hfr
  clear hH1 hfr
  go_wp2_with fail
  go_ret
  exact ⟨rfl, ⟨v', _, HH1.out.below ((Below.refl _ _).alloc (Nat.le_refl _) _), HFE.out⟩, HFR.out.alloc _⟩

/-- The eldest go till the rest is no more than lim. -/
def evict (lim : Int) : List Th → List Th
  | [] => []
  | t :: r => if lim < total (t :: r) then evict lim r else t :: r
theorem evict_stop {lim : Int} {ts : List Th} (h : ¬ lim < total ts) : evict lim ts = ts := by
  cases ts with
  | nil => rfl
  | cons t r => exact if_neg h
theorem evict_go {lim : Int} {t : Th} {r : List Th} (h : lim < total (t :: r)) : evict lim (t :: r) = evict lim r := if_pos h

/-- Behind a Put that is taken. -/
def putL (room : Int) (t : Th) (ts : List Th) : List Th := evict (room - t.size) (ts.eraseP (fun u => u.key == t.key)) ++ [t]

set_option maxHeartbeats 4000000 in
set_option maxRecDepth 100000 in
theorem put_ok (B C : Nat) (v : Value) (room used : Int) (t : Th) (ts : List Th) (w : World) (h : Holds B C v room used ts w) (hf : Fits room used ts) (hB : B ≤ w.heap.size) (hl : ts.length ≤ 998) (h0 : 0 ≤ t.size) (h1 : t.size ≤ room) :
    Calls Try.prog 10 #[.pointer (some ⟨C, 0, none⟩), .int .i64 t.key, .int .i64 t.size, .int .i64 (t.x)] w fun e w' => e = .returned (.int .i64 0) ∧
      (∃ v' used', Holds B C v' room used' (putL room t ts) w' ∧ Fits room used' (putL room t ts)) ∧ FR B w w' := by
  have c0 := h.blk.cell 0
  simp at c0
  have hfm := hf.top
  have hdrop := (drop_any B C v room used t.key ts w h hf (by omega))
  have HD := Lib.hid hdrop
  clear hdrop
  have hel : (ts.eraseP (fun u => u.key == t.key)).length ≤ 998 := by have := List.length_eraseP_le (p := fun u => u.key == t.key) (l := ts); omega
  have hd1 : decide (t.size < 0) = false := by simp; omega
  have hd2 : decide (room < t.size) = false := by simp; omega
  have hwr : IntKind.i64.wrap (room - t.size) = room - t.size := IntWalk.i64_in _ (by omega)
  clear h hf
  go_enter Try.func10, Try.ntmps10
  go_wp2_with fail
  refine HD.out.mono ?_
  rintro e w1 ⟨rfl, ⟨v1, u1, hh1, hf1⟩, hfr1⟩
  have HH1 := Lib.hid hh1
  have HF1 := Lib.hid hf1
  have HFR1 := Lib.hid hfr1
  clear hh1 hf1 hfr1
  go_wp2_with fail
  go_loopg [37] (ts.eraseP (fun u => u.key == t.key)).length (fun k s wr => ∃ (v2 : Value) (u2 : Int) (ts2 : List Th), k = ts2.length ∧ ts2.length ≤ 998 ∧ Hid (Holds B C v2 room u2 ts2 wr) ∧ Hid (Fits room u2 ts2) ∧ Hid (evict (room - t.size) ts2 = evict (room - t.size) (ts.eraseP (fun u => u.key == t.key))) ∧ Hid (FR B w1 wr))
  case atStart => exact ⟨v1, u1, _, rfl, hel, HH1.out, HF1.out, rfl, Fr.refl _ _ _⟩
  case round =>
    obtain ⟨v2, u2, ts2, hk, hl2, hh2, hf2, hev, hfr2⟩ := hrel
    have hb0 := hh2.out.blk.cell 0
    have hb1 := hh2.out.blk.cell 1
    simp at hb0 hb1
    have hsum := hf2.out.sum
    by_cases hlt : room - t.size < u2
    · have hd3 : decide (room - t.size < u2) = true := by simpa using hlt
      cases ts2 with
      | nil => exfalso; rw [hsum] at hlt; simp [total] at hlt; omega
      | cons y r =>
        have hpos := hf2.out.pos
        have hy := hpos y (by simp)
        have hr := total_nonneg (ts := r) fun z hz => hpos z (by simp [hz])
        have hle := hf2.out.le
        have htot := total_cons y r
        have hkl : r.length < gk := by rw [hk]; simp
        have hlen : (y :: r).length ≤ 1000 := by omega
        have hl3 : r.length ≤ 998 := by simp at hl2; omega
        have hout : ∀ W nd, W = wr.drewN nd → Calls Try.prog 21 #[.pointer (some ⟨C, 0, none⟩), .func (.func 22) #[] #[]] W fun e w' => (∃ x, e = .returned x) ∧
            (∃ v', Holds B C v' room (u2 - y.size) r w') ∧ FR B wr w' := fun W nd hW => by
          subst hW
          have hh := hh2.out.below (below_drewN (Below.refl _ wr) nd)
          refine (out_any _ _ (fun _ => true) B C room u2 v2 (y :: r) _ (asks_true _) hh hlen (by simp; omega)).mono fun e w' ⟨he, v', h1, h2, _⟩ => ⟨⟨_, he⟩, ⟨v', by simpa using h1⟩, ((Fr.refl _ _ wr).drewN nd).trans (hh.fr h2)⟩
        have HOUT := Lib.hid hout
        have hf3 := Lib.hid (show Fits room (u2 - y.size) r by simpa using hf2.out.erase (fun _ => true))
        have hev3 : Hid (evict (room - t.size) r = evict (room - t.size) (ts.eraseP (fun u => u.key == t.key))) := by
          rw [← hev.out, evict_go (by rw [← hsum]; exact hlt)]; rfl
        clear hout hsum hlt hk htot hpos
        go_wp2
        go_quiet (fail)
        go_wp2_with fail
        refine (HOUT.out _ _ rfl).mono ?_
        rintro e w2 ⟨⟨x, rfl⟩, ⟨v3, hh3⟩, hfr3⟩
        have HH3 := Lib.hid hh3
        have HFR3 := Lib.hid hfr3
        clear hh3 hfr3
        go_wp2_with fail
        go_roundg r.length
        case measure => exact hkl
        case rel => exact ⟨v3, _, r, rfl, hl3, HH3.out, hf3, hev3, hfr2.out.trans HFR3.out⟩
    · have hd3 : decide (room - t.size < u2) = false := by simpa using hlt
      have hfin : Hid (ts2 = evict (room - t.size) (ts.eraseP (fun u => u.key == t.key))) := by
        rw [← hev.out, evict_stop (by rw [← hsum]; exact hlt)]; rfl
      have hu2 : u2 ≤ room - t.size := by omega
      have hu0 : 0 ≤ u2 := by rw [hsum]; exact total_nonneg hf2.out.pos
      have hlen : ts2.length ≤ 999 := by omega
      have hws : B ≤ wr.heap.size := by have := hfr2.out.size; have := HFR1.out.size; omega
      have hin : ∀ W nd, W = wr.drewN nd → Calls Try.prog 23 #[.pointer (some ⟨C, 0, none⟩), .agg #[.int .i64 t.key, .int .i64 t.size, .int .i64 (t.x)]] W fun e w' => e = .returned (.tuple #[]) ∧
          (∃ v', Holds B C v' room (u2 + t.size) (ts2 ++ [t]) w') ∧ FR B wr w' := fun W nd hW => by
        subst hW
        have hh := hh2.out.below (below_drewN (Below.refl _ wr) nd)
        refine (in_any B C room u2 v2 t ts2 _ hh.blk hh.own (by exact hws) (by omega) (by omega)).mono fun e w' ⟨he, b, cap, hb, ho, hon, _⟩ => ⟨he, ⟨.slice (some ⟨b, 0, none⟩) (ts2.length + 1) cap, hh.base, hb, by rw [show (ts2 ++ [t]).length = ts2.length + 1 by simp]; exact ho⟩, ((Fr.refl _ _ wr).drewN nd).trans (hh.fr hon)⟩
      have HIN := Lib.hid hin
      have hf3 : Hid (Fits room (u2 + t.size) (ts2 ++ [t])) := by
        refine ⟨fun z hz => ?_, ?_, by omega, hfm⟩
        · rcases List.mem_append.1 hz with hz | hz
          · exact hf2.out.pos z hz
          · obtain rfl : z = t := by simpa using hz
            exact h0
        · rw [total_append, hsum]; simp [total]
      clear hin hsum hlt hk
      go_wp2
      go_quiet (fail)
      go_wp2_with fail
      refine (HIN.out _ _ rfl).mono ?_
      rintro e w2 ⟨rfl, ⟨v3, hh3⟩, hfr3⟩
      have HH3 := Lib.hid hh3
      have HFR3 := Lib.hid hfr3
      clear hh3 hfr3
      go_wp2_with fail
      go_ret
      have e1 : putL room t ts = ts2 ++ [t] := by unfold putL; rw [← hfin.out]
      exact ⟨rfl, ⟨v3, _, by rw [e1]; exact HH3.out, by rw [e1]; exact hf3⟩, (HFR1.out.trans hfr2.out).trans HFR3.out⟩

/-- A Put of a size that is negative, or of a nil cache. -/
theorem put_arg (C : Option Addr) (key size : Int) (x : Int) (w : World) (h : C = none ∨ size < 0) :
    Calls Try.prog 10 #[.pointer C, .int .i64 key, .int .i64 size, .int .i64 (x)] w fun e w' => e = .returned (.int .i64 1) ∧ w = w' := by
  rcases C with _ | C
  · go_enter Try.func10, Try.ntmps10
    go_wp2
    go_ret
    exact ⟨rfl, rfl⟩
  · have h : size < 0 := by simpa using h
    have hd : decide (size < 0) = true := by simpa using h
    go_enter Try.func10, Try.ntmps10
    go_wp2
    go_ret
    exact ⟨rfl, rfl⟩

/-- A Put of what is greater than the room. -/
theorem put_great (B C : Nat) (v : Value) (room used key size : Int) (x : Int) (ts : List Th) (w : World) (h : Holds B C v room used ts w) (h0 : 0 ≤ size) (h1 : room < size) :
    Calls Try.prog 10 #[.pointer (some ⟨C, 0, none⟩), .int .i64 key, .int .i64 size, .int .i64 (x)] w fun e w' => e = .returned (.int .i64 11) ∧ w = w' := by
  have c0 := h.blk.cell 0
  simp at c0
  have hd1 : decide (size < 0) = false := by simp; omega
  have hd2 : decide (room < size) = true := by simpa using h1
  clear h
  go_enter Try.func10, Try.ntmps10
  go_wp2
  go_ret
  exact ⟨rfl, rfl⟩

theorem new_any (room : Int) (w : World) :
    Calls Try.prog 8 #[.int .i64 room] w fun e w' => e = .returned (.pointer (some ⟨w.heap.size, 0, none⟩)) ∧ (∀ B, B ≤ w.heap.size → Holds B w.heap.size (.slice none 0 0) (if 0 ≤ room then room else 0) 0 [] w') ∧ Below w.heap.size w w' := by
  by_cases h : 0 ≤ room
  · rw [if_pos h]
    go_enter Try.func8, Try.ntmps8
    go_wp2
    go_ret
    exact ⟨rfl, fun B hB => ⟨hB, Blk.new w _ _, World.ownsRow_nil _ _ _ _⟩, (Below.refl _ _).alloc (Nat.le_refl _) _⟩
  · rw [if_neg h]
    have h' : room < 0 := by omega
    go_enter Try.func8, Try.ntmps8
    go_wp2
    all_goals
      go_ret
      exact ⟨rfl, fun B hB => ⟨hB, Blk.new w _ _, World.ownsRow_nil _ _ _ _⟩, (Below.refl _ _).alloc (Nat.le_refl _) _⟩

theorem used_any (B C : Nat) (v : Value) (room used : Int) (ts : List Th) (w : World) (h : Holds B C v room used ts w) :
    Calls Try.prog 14 #[.pointer (some ⟨C, 0, none⟩)] w fun e w' => e = .returned (.int .i64 used) ∧ w = w' := by
  have c1 := h.blk.cell 1
  simp at c1
  clear h
  go_enter Try.func14, Try.ntmps14
  go_wp2
  go_ret
  exact ⟨rfl, rfl⟩
theorem used_nil (w : World) :
    Calls Try.prog 14 #[.pointer none] w fun e w' => e = .returned (.int .i64 0) ∧ w = w' := by
  go_enter Try.func14, Try.ntmps14
  go_wp2
  go_ret
  exact ⟨rfl, rfl⟩
theorem get_nil (key : Int) (w : World) :
    Calls Try.prog 12 #[.pointer none, .int .i64 key] w fun e w' => e = .returned (.tuple #[.int .i64 0, .bool false]) ∧ Below w.heap.size w w' := by
  go_enter Try.func12, Try.ntmps12
  go_wp2
  go_ret2
  exact ⟨rfl, (Below.refl _ _).alloc (Nat.le_refl _) _⟩
theorem drop_nil (key : Int) (w : World) :
    Calls Try.prog 20 #[.pointer none, .int .i64 key] w fun e w' => e = .returned (.bool false) ∧ Below w.heap.size w w' := by
  go_enter Try.func20, Try.ntmps20
  go_wp2
  go_ret
  exact ⟨rfl, (Below.refl _ _).alloc (Nat.le_refl _) _⟩
end Go.Proofs.Ytddjcamhhjkbfaa.CI
