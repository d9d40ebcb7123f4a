/- The law CacheAny. -/
import Derived.Test.YtddjcamhhjkbfaaLaws
import Derived.Test.YtddjcamhhjkbfaaArgs
import Derived.StillTailTactics
import Derived.Deep.RegionHeld3
import Derived.Laws.BytesArg
namespace Go.Proofs.Ytddjcamhhjkbfaa.Laws
open Go.RowKit Go.Shelf Mem Args
set_option linter.unusedSimpArgs false

/-- The text of a number: its one byte. -/
def one (x : Int) : ByteArray := strOfNums [x % 256]
theorem one_cell (w : World) (g : Nat) (x : Int) (hb : w.cell? ⟨g, 0, none⟩ = some (.int .u8 (x % 256))) : (convert 33 9 (.slice (some ⟨g, 0, none⟩) 1 1)).run Try.prog w = .ok (.string (one x)) w :=
  run_convert_bytes_arg w 33 5 Try.underlying33 Try.underlying5 g 0 1 1 [x % 256] rfl (fun i hi => by
    obtain rfl : i = 0 := by omega
    exact hb) 9 Try.underlying9
theorem one_conv (w : World) (g : Nat) (x : Int) (hb : Blk w g 5 #[.int .u8 (x % 256)]) : (convert 33 9 (.slice (some ⟨g, 0, none⟩) 1 1)).run Try.prog w = .ok (.string (one x)) w := one_cell w g x (hb.cell 0)
def con (t : CI.Th) : CS.Th := ⟨t.key, t.size, one t.x⟩
theorem con_total (ts : List CI.Th) : CS.total (ts.map con) = CI.total ts := by
  unfold CS.total CI.total
  rw [List.map_map]
  rfl
theorem con_evict (lim : Int) : ∀ ts : List CI.Th, CS.evict lim (ts.map con) = (CI.evict lim ts).map con
  | [] => rfl
  | t :: r => by
    have e := con_total (t :: r)
    by_cases h : lim < CI.total (t :: r)
    · rw [CI.evict_go h, List.map_cons, CS.evict_go (by rw [← List.map_cons, e]; exact h)]
      exact con_evict lim r
    · rw [CI.evict_stop h, CS.evict_stop (by rw [e]; exact h)]
theorem con_erase (key : Int) (ts : List CI.Th) : (ts.map con).eraseP (fun t => t.key == key) = (ts.eraseP (fun t => t.key == key)).map con := by
  rw [List.eraseP_map]; rfl
theorem con_find (key : Int) (ts : List CI.Th) : (ts.map con).find? (fun t => t.key == key) = (ts.find? (fun t => t.key == key)).map con := by
  rw [List.find?_map]; rfl
theorem con_put (room : Int) (t : CI.Th) (ts : List CI.Th) : CS.putL room (con t) (ts.map con) = (CI.putL room t ts).map con := by
  unfold CS.putL CI.putL
  rw [List.map_append, ← con_evict, ← con_erase]
  rfl
theorem con_get (key : Int) (ts : List CI.Th) : CS.getL key (ts.map con) = (CI.getL key ts).map con := by
  unfold CS.getL CI.getL
  rw [con_find]
  cases ts.find? (fun t => t.key == key) with
  | none => rfl
  | some t => simp [con_erase]
theorem len_get (key : Int) {ts : List CI.Th} : (CI.getL key ts).length = ts.length := by
  unfold CI.getL
  cases hf : ts.find? (fun t => t.key == key) with
  | none => rfl
  | some t =>
    have := List.length_eraseP_of_mem (p := fun t : CI.Th => t.key == key) (List.mem_of_find?_eq_some hf) (List.find?_some (p := fun t : CI.Th => t.key == key) hf)
    have h2 : 0 < ts.length := List.length_pos_of_mem (List.mem_of_find?_eq_some hf)
    simp
    omega
theorem evict_len (lim : Int) : ∀ ts : List CI.Th, (CI.evict lim ts).length ≤ ts.length
  | [] => Nat.le_refl _
  | t :: r => by
    by_cases h : lim < CI.total (t :: r)
    · rw [CI.evict_go h]; have := evict_len lim r; simp; omega
    · rw [CI.evict_stop h]; exact Nat.le_refl _
theorem len_put (room : Int) (t : CI.Th) (ts : List CI.Th) : (CI.putL room t ts).length ≤ ts.length + 1 := by
  unfold CI.putL
  have h1 := evict_len (room - t.size) (ts.eraseP (fun u => u.key == t.key))
  have h2 := List.length_eraseP_le (p := fun u : CI.Th => u.key == t.key) (l := ts)
  simp
  omega
theorem ci_keep {B C : Nat} {v : Value} {room used : Int} {ts : List CI.Th} {w w' : World} (h : CI.Holds B C v room used ts w) {L : List TypeId} (f : Fr B L w w') (h1 : 52 ∉ L) (h2 : 57 ∉ L) : CI.Holds B C v room used ts w' :=
  ⟨h.base, f.keep h.blk (.inr h1), f.row h.own h2⟩
theorem cs_keep {B C : Nat} {v : Value} {room used : Int} {ts : List CS.Th} {w w' : World} (h : CS.Holds B C v room used ts w) {L : List TypeId} (f : Fr B L w w') (h1 : 55 ∉ L) (h2 : 63 ∉ L) : CS.Holds B C v room used ts w' :=
  ⟨h.base, f.keep h.blk (.inr h1), f.row h.own h2⟩


/-- The two caches, and the act, behind some of a round's steps. -/
structure St (B C2 q : Nat) (R : Int) (act : Array Value) (ti : List CI.Th) (ts : List CS.Th) (w0 w : World) : Prop where
  ci : ∃ v u, CI.Holds B B v R u ti w ∧ CI.Fits R u ti
  cs : ∃ v u, CS.Holds B C2 v R u ts w ∧ CS.Fits R u ts
  blk : Blk w q 29 act
  bel : Below B w0 w
  big : B ≤ w.heap.size
theorem St.below {B C2 q : Nat} {R : Int} {act : Array Value} {ti : List CI.Th} {ts : List CS.Th} {w0 w w' : World} (h : St B C2 q R act ti ts w0 w) (hb : Below w.heap.size w w') : St B C2 q R act ti ts w0 w' := by
  obtain ⟨⟨v, u, h1, h2⟩, ⟨v', u', h3, h4⟩, h5, h6, h7⟩ := h
  exact ⟨⟨v, u, h1.below hb, h2⟩, ⟨v', u', h3.below hb, h4⟩, h5.below hb h5.lt, h6.trans (hb.mono h7), Nat.le_trans h7 hb.size⟩
theorem St.cells {B C2 q : Nat} {R k key size x : Int} {ti : List CI.Th} {ts : List CS.Th} {w0 w : World} (h : St B C2 q R #[.int .i64 k, .int .i64 key, .int .i64 size, .int .i64 x] ti ts w0 w) :
    w.cell? ⟨q, 1, none⟩ = some (.int .i64 key) ∧ w.cell? ⟨q, 2, none⟩ = some (.int .i64 size) ∧ w.cell? ⟨q, 3, none⟩ = some (.int .i64 x) :=
  ⟨h.blk.cell 1, h.blk.cell 2, h.blk.cell 3⟩
def putE (room size : Int) : Int := if size < 0 then 1 else if room < size then 11 else 0
def putI (room : Int) (t : CI.Th) (ts : List CI.Th) : List CI.Th := if 0 ≤ t.size ∧ t.size ≤ room then CI.putL room t ts else ts
def putS (room : Int) (t : CS.Th) (ts : List CS.Th) : List CS.Th := if 0 ≤ t.size ∧ t.size ≤ room then CS.putL room t ts else ts
theorem con_putI (room : Int) (t : CI.Th) (ts : List CI.Th) : putS room (con t) (ts.map con) = (putI room t ts).map con := by
  unfold putS putI
  by_cases h : 0 ≤ t.size ∧ t.size ≤ room
  · rw [if_pos h, if_pos (show 0 ≤ (con t).size ∧ (con t).size ≤ room from h), con_put]
  · rw [if_neg h, if_neg (show ¬ (0 ≤ (con t).size ∧ (con t).size ≤ room) from h)]
theorem put_st {B C2 q : Nat} {R : Int} {act : Array Value} {ti : List CI.Th} {ts : List CS.Th} {w0 w : World} (key size x : Int) (h : St B C2 q R act ti ts w0 w) (hl : ti.length ≤ 998) :
    Calls Try.prog 10 #[.pointer (some ⟨B, 0, none⟩), .int .i64 key, .int .i64 size, .int .i64 x] w fun e w' => e = .returned (.int .i64 (putE R size)) ∧ St B C2 q R act (putI R ⟨key, size, x⟩ ti) ts w0 w' ∧ Fr B [52, 57] w w' := by
  obtain ⟨⟨v, u, h1, h2⟩, ⟨v', u', h3, h4⟩, h5, h6, h7⟩ := h
  by_cases h0 : size < 0
  · refine (CI.put_arg _ key size x w (.inr h0)).mono fun e w' ⟨he, hw⟩ => ?_
    subst hw
    have e1 : putE R size = 1 := if_pos h0
    have e2 : putI R ⟨key, size, x⟩ ti = ti := if_neg (by show ¬ (0 ≤ size ∧ size ≤ R); omega)
    rw [e1, e2]
    exact ⟨he, ⟨⟨v, u, h1, h2⟩, ⟨v', u', h3, h4⟩, h5, h6, h7⟩, Fr.refl _ _ _⟩
  · by_cases hg : R < size
    · refine (CI.put_great B B v R u key size x ti w h1 (by omega) hg).mono fun e w' ⟨he, hw⟩ => ?_
      subst hw
      have e1 : putE R size = 11 := by unfold putE; rw [if_neg h0, if_pos hg]
      have e2 : putI R ⟨key, size, x⟩ ti = ti := if_neg (by show ¬ (0 ≤ size ∧ size ≤ R); omega)
      rw [e1, e2]
      exact ⟨he, ⟨⟨v, u, h1, h2⟩, ⟨v', u', h3, h4⟩, h5, h6, h7⟩, Fr.refl _ _ _⟩
    · have e1 : putE R size = 0 := by unfold putE; rw [if_neg h0, if_neg hg]
      have e2 : putI R ⟨key, size, x⟩ ti = CI.putL R ⟨key, size, x⟩ ti := if_pos (by show 0 ≤ size ∧ size ≤ R; omega)
      rw [e1, e2]
      refine (CI.put_ok B B v R u ⟨key, size, x⟩ ti w h1 h2 h7 hl (by show 0 ≤ size; omega) (by show size ≤ R; omega)).mono fun e w' ⟨he, ⟨va, ua, ha, hf⟩, hfr⟩ => ?_
      exact ⟨he, ⟨⟨va, ua, ha, hf⟩, ⟨v', u', cs_keep h3 hfr (by decide) (by decide), h4⟩, hfr.keep h5 (.inr (by decide)), h6.trans (hfr.below h7), Nat.le_trans h7 hfr.size⟩, hfr⟩
theorem puts_st {B C2 q : Nat} {R : Int} {act : Array Value} {ti : List CI.Th} {ts : List CS.Th} {w0 w : World} (key size : Int) (x : ByteArray) (h : St B C2 q R act ti ts w0 w) (hl : ts.length ≤ 998) :
    Calls Try.prog 11 #[.pointer (some ⟨C2, 0, none⟩), .int .i64 key, .int .i64 size, .string x] w fun e w' => e = .returned (.int .i64 (putE R size)) ∧ St B C2 q R act ti (putS R ⟨key, size, x⟩ ts) w0 w' := by
  obtain ⟨⟨v', u', h3, h4⟩, ⟨v, u, h1, h2⟩, h5, h6, h7⟩ := h
  by_cases h0 : size < 0
  · refine (CS.put_arg _ key size x w (.inr h0)).mono fun e w' ⟨he, hw⟩ => ?_
    subst hw
    have e1 : putE R size = 1 := if_pos h0
    have e2 : putS R ⟨key, size, x⟩ ts = ts := if_neg (by show ¬ (0 ≤ size ∧ size ≤ R); omega)
    rw [e1, e2]
    exact ⟨he, ⟨v', u', h3, h4⟩, ⟨v, u, h1, h2⟩, h5, h6, h7⟩
  · by_cases hg : R < size
    · refine (CS.put_great B C2 v R u key size x ts w h1 (by omega) hg).mono fun e w' ⟨he, hw⟩ => ?_
      subst hw
      have e1 : putE R size = 11 := by unfold putE; rw [if_neg h0, if_pos hg]
      have e2 : putS R ⟨key, size, x⟩ ts = ts := if_neg (by show ¬ (0 ≤ size ∧ size ≤ R); omega)
      rw [e1, e2]
      exact ⟨he, ⟨v', u', h3, h4⟩, ⟨v, u, h1, h2⟩, h5, h6, h7⟩
    · have e1 : putE R size = 0 := by unfold putE; rw [if_neg h0, if_neg hg]
      have e2 : putS R ⟨key, size, x⟩ ts = CS.putL R ⟨key, size, x⟩ ts := if_pos (by show 0 ≤ size ∧ size ≤ R; omega)
      rw [e1, e2]
      refine (CS.put_ok B C2 v R u ⟨key, size, x⟩ ts w h1 h2 h7 hl (by show 0 ≤ size; omega) (by show size ≤ R; omega)).mono fun e w' ⟨he, ⟨va, ua, ha, hf⟩, hfr⟩ => ?_
      exact ⟨he, ⟨v', u', ci_keep h3 hfr (by decide) (by decide), h4⟩, ⟨va, ua, ha, hf⟩, hfr.keep h5 (.inr (by decide)), h6.trans (hfr.below h7), Nat.le_trans h7 hfr.size⟩
theorem len_putI (room : Int) (t : CI.Th) (ts : List CI.Th) : (putI room t ts).length ≤ ts.length + 1 := by
  unfold putI
  split
  · exact len_put _ _ _
  · omega

theorem any_end {B C2 q : Nat} {R : Int} {act : Array Value} {key size x : Int} {ts : List CI.Th} {w0 w : World} {k len : Nat} (hlt : k < len) (htk : ts.length ≤ k)
    (h : St B C2 q R act (putI R ⟨key, size, x⟩ ts) (putS R ⟨key, size, one x⟩ (ts.map con)) w0 w) :
    (∃ (k_1 : Nat) (v1 v2 : Value) (u : Int) (ts : List CI.Th), k_1 ≤ len ∧ Value.int .i64 ((k : Int) + 1) = .int .i64 k_1 ∧ ts.length ≤ k_1 ∧ Hid (CI.Holds B B v1 R u ts w) ∧ Hid (CI.Fits R u ts) ∧ Hid (CS.Holds B C2 v2 R u (ts.map con) w) ∧ Hid (CS.Fits R u (ts.map con)) ∧ Hid (Below B w0 w)) ∧
      len - (intOf (.int .i64 ((k : Int) + 1))).toNat < len - (intOf (.int .i64 k)).toNat := by
  obtain ⟨⟨v, u, h1, h2⟩, ⟨v', u', h3, h4⟩, _, h6, _⟩ := h
  have e : putS R ⟨key, size, one x⟩ (ts.map con) = (putI R ⟨key, size, x⟩ ts).map con := con_putI R ⟨key, size, x⟩ ts
  rw [e] at h3 h4
  have eu : u' = u := by rw [h4.sum, con_total, h2.sum]
  subst eu
  have hl := len_putI R ⟨key, size, x⟩ ts
  refine ⟨⟨k + 1, v, v', u', _, by omega, by simp, by omega, h1, h2, h3, h4, h6⟩, ?_⟩
  simp [intOf]; omega
set_option maxHeartbeats 4000000 in
set_option maxRecDepth 100000 in
theorem any_walk (room : Int) (a : Option Addr) (len cap : Nat) (l : List Args.Act) (w : World) (hr : In64 room) (ha : Acts w a len l) :
    Calls Try.prog 3 #[.int .i64 room, .slice a len cap] w fun e w' => e = .returned (.bool true) ∧ Below w.heap.size w w' := by
  obtain ⟨hr0, hr1⟩ := hr
  by_cases h1 : 100 < len
  · clear ha
    go_enter Try.func3, Try.ntmps3
    go_wp2_with (go_at_call 7; refine (awake_any _).mono ?_; rintro e w' ⟨rfl, hB⟩)
    go_ret
    exact ⟨rfl, hB⟩
  have HA := Lib.hid ha
  have h4 : len ≤ 100 := by omega
  clear ha
  go_enter Try.func3, Try.ntmps3
  go_wp2_with fail
  refine (CI.new_any room w).mono ?_
  rintro e w1 ⟨rfl, hH, hB1⟩
  have hs1 := hB1.size
  have HH1 := Lib.hid (hH w.heap.size (Nat.le_refl _))
  have HB1 := Lib.hid hB1
  clear hH hB1
  go_wp2_with fail
  refine (CS.new_any room w1).mono ?_
  rintro e w2 ⟨rfl, hH, hB2⟩
  have HH2 := Lib.hid (hH w.heap.size hs1)
  have HH3 := Lib.hid (HH1.out.below hB2)
  have HB2 := Lib.hid (HB1.out.trans (hB2.mono hs1))
  clear hH hB2 HH1 HB1
  obtain ⟨R, hR⟩ : ∃ R, R = if 0 ≤ room then room else 0 := ⟨_, rfl⟩
  have hR0 : 0 ≤ R := by rw [hR]; split <;> omega
  have hR1 : R ≤ 9223372036854775807 := by rw [hR]; split <;> omega
  rw [← hR] at HH2 HH3
  generalize hC2 : w1.heap.size = C2 at *
  have hC2' : w.heap.size ≤ C2 := hs1
  clear hC2 hs1
  go_wp2_with fail
  go_loopw [7] (fun i wr => ∃ (k : Nat) (v1 v2 : Value) (u : Int) (ts : List CI.Th), k ≤ len ∧ i = .int .i64 k ∧ ts.length ≤ k ∧ Hid (CI.Holds w.heap.size w.heap.size v1 R u ts wr) ∧ Hid (CI.Fits R u ts) ∧ Hid (CS.Holds w.heap.size C2 v2 R u (ts.map con) wr) ∧ Hid (CS.Fits R u (ts.map con)) ∧ Hid (Below w.heap.size w wr)) (fun i _ => len - (intOf i).toNat)
  case atStart => exact ⟨0, _, _, 0, [], Nat.zero_le _, rfl, Nat.le_refl _, HH3, fits_nil R hR0 hR1, HH2, ⟨(fun t ht => by cases ht), rfl, hR0, hR1⟩, HB2⟩
  case round =>
    obtain ⟨k, v1, v2, u, ts, hk, rfl, htk, hh, hf, hh', hf', hB⟩ := hrel
    have hws := hB.out.size
    by_cases hlt : k < len
    · obtain ⟨t, ht⟩ : ∃ t, l[k]? = some t := ⟨_, List.getElem?_eq_getElem (by have := HA.out.len; omega)⟩
      obtain ⟨b, off, hab, hb, a0, a1, a2, a3, i0, i1, i2, i3⟩ := HA.out.cells k t ht
      subst hab
      have HT := Lib.hid ht
      clear ht
      have c0 := (hB.out.cell (p := ⟨b, off + k * 4, none⟩) hb).trans a0
      have c1 := (hB.out.cell (p := ⟨b, off + k * 4 + 1, none⟩) hb).trans a1
      have c2 := (hB.out.cell (p := ⟨b, off + k * 4 + 2, none⟩) hb).trans a2
      have c3 := (hB.out.cell (p := ⟨b, off + k * 4 + 3, none⟩) hb).trans a3
      clear a0 a1 a2 a3
      obtain ⟨W1, hW1⟩ : ∃ W1, W1 = wr.alloc (.cells #[.int .i64 t.kind, .int .i64 t.key, .int .i64 t.size, .int .i64 t.x] 29) := ⟨_, rfl⟩
      have hal : Below wr.heap.size wr W1 := by rw [hW1]; exact (Below.refl _ wr).alloc (Nat.le_refl _) _
      have hblk : Blk W1 wr.heap.size 29 #[.int .i64 t.kind, .int .i64 t.key, .int .i64 t.size, .int .i64 t.x] := by rw [hW1]; exact Blk.new _ _ _
      have hh1 := hh.out.below hal
      have hh1' := hh'.out.below hal
      have hBa := hB.out.trans (hal.mono hws)
      have hws1 : w.heap.size ≤ W1.heap.size := hBa.size
      by_cases hkind : t.kind = 1
      · have hkd : (t.kind == 1) = true := by simpa using hkind
        have hst : St w.heap.size C2 wr.heap.size R #[.int .i64 t.kind, .int .i64 t.key, .int .i64 t.size, .int .i64 t.x] ts (ts.map con) w W1 := ⟨⟨v1, u, hh1, hf.out⟩, ⟨v2, u, hh1', hf'.out⟩, hblk, hBa, hws1⟩
        have HST := Lib.hid hst
        rw [hkind] at hW1
        have HW1 := Lib.hid hW1
        have hcv : ∀ (w' : World) (g : Nat), w'.cell? ⟨g, 0, none⟩ = some (.int .u8 (t.x % 256)) → (convert 33 9 (.slice (some ⟨g, 0, none⟩) 1 1)).run Try.prog w' = .ok (.string (one t.x)) w' := fun w' g hc => one_cell w' g t.x hc
        have d1 := hblk.cell 1
        have d2 := hblk.cell 2
        have d3 := hblk.cell 3
        simp at d1 d2 d3
        clear hW1 hal hblk hh1 hh1' hBa hst
        go_wp2_with fail
        rw [← HW1.out]
        have HST1 := Lib.hid (HST.out.below ((Below.refl _ W1).drew))
        have hww : IntKind.u8.wrap t.x = t.x % 256 := by simp [IntKind.wrap, IntKind.bits, IntKind.signed]
        have HWW := Lib.hid hww
        clear hww
        have HST2 := Lib.hid (HST1.out.below ((Below.refl W1.drew.heap.size W1.drew).alloc (Nat.le_refl _) (.cells #[.int .u8 (IntKind.u8.wrap t.x)] 5)))
        have hcw : ∀ w' : World, (convert 33 9 (.slice (some ⟨w'.heap.size, 0, none⟩) 1 1)).run Try.prog (w'.alloc (.cells #[.int .u8 (t.x % 256)] 5)) = .ok (.string (one t.x)) (w'.alloc (.cells #[.int .u8 (t.x % 256)] 5)) := fun w' => one_conv _ _ _ (Blk.new w' _ _)
        have hcu : ∀ w' : World, (convert 33 9 (.slice (some ⟨w'.heap.size, 0, none⟩) 1 1)).run Try.prog (w'.alloc (.cells #[.int .u8 (IntKind.u8.wrap t.x)] 5)) = .ok (.string (one t.x)) (w'.alloc (.cells #[.int .u8 (IntKind.u8.wrap t.x)] 5)) := fun w' => by rw [HWW.out]; exact one_conv _ _ _ (Blk.new w' _ _)
        have hlm : (ts.map con).length ≤ 998 := by simp; omega
        have hl1 : ts.length ≤ 998 := by omega
        have hcd := hcw W1.drew
        have hcd2 := hcu W1.drew
        have hcd3 : (convert 33 9 (.slice (some ⟨W1.heap.size, 0, none⟩) 1 1)).run Try.prog (W1.alloc (.cells #[.int .u8 (IntKind.u8.wrap t.x)] 5)).drew = .ok (.string (one t.x)) (W1.alloc (.cells #[.int .u8 (IntKind.u8.wrap t.x)] 5)).drew := by rw [HWW.out]; exact one_conv _ _ _ (Blk.new W1 _ _)
        refine wp_region_noPanic ?_
        refine wp_region_held_drew (S := fun w' => w'.cell? ⟨wr.heap.size, 1, none⟩ = some (.int .i64 t.key) ∧ w'.cell? ⟨wr.heap.size, 2, none⟩ = some (.int .i64 t.size) ∧ w'.cell? ⟨wr.heap.size, 3, none⟩ = some (.int .i64 t.x)) (by kernel_rfl) (St.cells HST1.out) (fun hHeld => ?_)
        refine' wpAnyH_take (i := 0) (oi := ?oi1) (v := ?v1) ?hi1 (by kernel_rfl) (by kernel_rfl) (by kernel_rfl) (fun _ _ _ h => h) (Or.inl ⟨?hh1, ?hy1⟩) (by assumption) ?rest1
        case hi1 => (simp only [List.getElem?_toArray, List.getElem?_cons_succ, List.getElem?_cons_zero]; rfl)
        case hh1 => rfl
        case hy1 => (intro w' hSw; (try dsimp only at hSw); go_simp; try with_reducible rfl)
        try simp only [Act.put, List.setIfInBounds_toArray, List.set_cons_zero, List.set_cons_succ]
        refine' wpAnyH_take (i := 1) (oi := ?oi2) (v := ?v2) ?hi2 (by kernel_rfl) (by kernel_rfl) (by kernel_rfl) (fun _ _ _ h => h) (Or.inl ⟨?hh2, ?hy2⟩) (by assumption) ?rest2
        case hi2 => (simp only [List.getElem?_toArray, List.getElem?_cons_succ, List.getElem?_cons_zero]; rfl)
        case hh2 => rfl
        case hy2 => (intro w' hSw; (try dsimp only at hSw); go_simp; try with_reducible rfl)
        try simp only [Act.put, List.setIfInBounds_toArray, List.set_cons_zero, List.set_cons_succ]
        refine' wpAnyH_take (i := 2) (oi := ?oi3) (v := ?v3) ?hi3 (by kernel_rfl) (by kernel_rfl) (by kernel_rfl) (fun _ _ _ h => h) (Or.inl ⟨?hh3, ?hy3⟩) (by assumption) ?rest3
        case hi3 => (simp only [List.getElem?_toArray, List.getElem?_cons_succ, List.getElem?_cons_zero]; rfl)
        case hh3 => rfl
        case hy3 => (intro w' hSw; (try dsimp only at hSw); go_simp; try with_reducible rfl)
        try simp only [Act.put, List.setIfInBounds_toArray, List.set_cons_zero, List.set_cons_succ]
        refine' wpAnyH_take (i := 3) (oi := ?oi4) (v := ?v4) ?hi4 (by kernel_rfl) (by kernel_rfl) (by kernel_rfl) (fun _ _ _ h => h) (Or.inl ⟨?hh4, ?hy4⟩) (by assumption) ?rest4
        case hi4 => (simp only [List.getElem?_toArray, List.getElem?_cons_succ, List.getElem?_cons_zero]; rfl)
        case hh4 => rfl
        case hy4 => (intro w' hSw; (try dsimp only at hSw); go_simp; try with_reducible rfl)
        try simp only [Act.put, List.setIfInBounds_toArray, List.set_cons_zero, List.set_cons_succ]
        refine' wpAnyH_take (i := 4) (oi := ?oi5) (v := ?v5) ?hi5 (by kernel_rfl) (by kernel_rfl) (by kernel_rfl) (fun _ _ _ h => h) (Or.inl ⟨?hh5, ?hy5⟩) (by assumption) ?rest5
        case hi5 => (simp only [List.getElem?_toArray, List.getElem?_cons_succ, List.getElem?_cons_zero]; rfl)
        case hh5 => rfl
        case hy5 => (intro w' hSw; (try dsimp only at hSw); go_simp; try with_reducible rfl)
        try simp only [Act.put, List.setIfInBounds_toArray, List.set_cons_zero, List.set_cons_succ]
        refine' wpAnyH_take (i := 5) (oi := ?oi6) (v := ?v6) ?hi6 (by kernel_rfl) (by kernel_rfl) (by kernel_rfl) (fun _ _ _ h => h) (Or.inl ⟨?hh6, ?hy6⟩) (by assumption) ?rest6
        case hi6 => (simp only [List.getElem?_toArray, List.getElem?_cons_succ, List.getElem?_cons_zero]; rfl)
        case hh6 => rfl
        case hy6 => (intro w' hSw; (try dsimp only at hSw); go_simp; try with_reducible rfl)
        try simp only [Act.put, List.setIfInBounds_toArray, List.set_cons_zero, List.set_cons_succ]
        refine' wpAnyH_take (i := 6) (oi := ?oi7) (v := ?v7) ?hi7 (by kernel_rfl) (by kernel_rfl) (by kernel_rfl) (fun _ _ _ h => h) (Or.inl ⟨?hh7, ?hy7⟩) (by assumption) ?rest7
        case hi7 => (simp only [List.getElem?_toArray, List.getElem?_cons_succ, List.getElem?_cons_zero]; rfl)
        case hh7 => rfl
        case hy7 => (intro w' hSw; (try dsimp only at hSw); go_simp; try with_reducible rfl)
        try simp only [Act.put, List.setIfInBounds_toArray, List.set_cons_zero, List.set_cons_succ]
        refine' wpAnyH_take (i := 8) (oi := ?oi8) (v := ?v8) ?hi8 (by kernel_rfl) (by kernel_rfl) (by kernel_rfl) (fun _ _ _ h => h) (Or.inl ⟨?hh8, ?hy8⟩) (by assumption) ?rest8
        case hi8 => (simp only [List.getElem?_toArray, List.getElem?_cons_succ, List.getElem?_cons_zero]; rfl)
        case hh8 => rfl
        case hy8 => (intro w' hSw; (try dsimp only at hSw); go_simp; try with_reducible rfl)
        try simp only [Act.put, List.setIfInBounds_toArray, List.set_cons_zero, List.set_cons_succ]
        refine' wpAnyH_take (i := 9) (oi := ?oi9) (v := ?v9) ?hi9 (by kernel_rfl) (by kernel_rfl) (by kernel_rfl) (fun _ _ _ h => h) (Or.inl ⟨?hh9, ?hy9⟩) (by assumption) ?rest9
        case hi9 => (simp only [List.getElem?_toArray, List.getElem?_cons_succ, List.getElem?_cons_zero]; rfl)
        case hh9 => rfl
        case hy9 => (intro w' hSw; (try dsimp only at hSw); go_simp; try with_reducible rfl)
        try simp only [Act.put, List.setIfInBounds_toArray, List.set_cons_zero, List.set_cons_succ]
        refine' wpAnyH_take (i := 10) (oi := ?oi10) (v := ?v10) ?hi10 (by kernel_rfl) (by kernel_rfl) (by kernel_rfl) (fun _ _ _ h => h) (Or.inl ⟨?hh10, ?hy10⟩) (by assumption) ?rest10
        case hi10 => (simp only [List.getElem?_toArray, List.getElem?_cons_succ, List.getElem?_cons_zero]; rfl)
        case hh10 => rfl
        case hy10 => (intro w' hSw; (try dsimp only at hSw); go_simp; try with_reducible rfl)
        try simp only [Act.put, List.setIfInBounds_toArray, List.set_cons_zero, List.set_cons_succ]
        refine' wpAnyH_take (i := 11) (oi := ?oi11) (v := ?v11) ?hi11 (by kernel_rfl) (by kernel_rfl) (by kernel_rfl) (fun _ _ _ h => h) (Or.inl ⟨?hh11, ?hy11⟩) (by assumption) ?rest11
        case hi11 => (simp only [List.getElem?_toArray, List.getElem?_cons_succ, List.getElem?_cons_zero]; rfl)
        case hh11 => rfl
        case hy11 => (intro w' hSw; (try dsimp only at hSw); go_simp; try with_reducible rfl)
        try simp only [Act.put, List.setIfInBounds_toArray, List.set_cons_zero, List.set_cons_succ]
        refine' wpAnyH_take (i := 12) (oi := ?oi12) (v := ?v12) ?hi12 (by kernel_rfl) (by kernel_rfl) (by kernel_rfl) (fun _ _ _ h => h) (Or.inl ⟨?hh12, ?hy12⟩) (by assumption) ?rest12
        case hi12 => (simp only [List.getElem?_toArray, List.getElem?_cons_succ, List.getElem?_cons_zero]; rfl)
        case hh12 => rfl
        case hy12 => (intro w' hSw; (try dsimp only at hSw); go_simp; try with_reducible rfl)
        try simp only [Act.put, List.setIfInBounds_toArray, List.set_cons_zero, List.set_cons_succ]
        refine' wpAnyH_take (i := 13) (oi := ?oi13) (v := ?v13) ?hi13 (by kernel_rfl) (by kernel_rfl) (by kernel_rfl) (fun _ _ _ h => h) (Or.inl ⟨?hh13, ?hy13⟩) (by assumption) ?rest13
        case hi13 => (simp only [List.getElem?_toArray, List.getElem?_cons_succ, List.getElem?_cons_zero]; rfl)
        case hh13 => rfl
        case hy13 => (intro w' hSw; (try dsimp only at hSw); go_simp; try with_reducible rfl)
        try simp only [Act.put, List.setIfInBounds_toArray, List.set_cons_zero, List.set_cons_succ]
        refine' wpAnyH_take (i := 14) (oi := ?oi14) (v := ?v14) ?hi14 (by kernel_rfl) (by kernel_rfl) (by kernel_rfl) (fun _ _ _ h => h) (Or.inl ⟨?hh14, ?hy14⟩) (by assumption) ?rest14
        case hi14 => (simp only [List.getElem?_toArray, List.getElem?_cons_succ, List.getElem?_cons_zero]; rfl)
        case hh14 => rfl
        case hy14 => (intro w' hSw; (try dsimp only at hSw); go_simp; try with_reducible rfl)
        try simp only [Act.put, List.setIfInBounds_toArray, List.set_cons_zero, List.set_cons_succ]
        refine' wpAnyH_take (i := 15) (oi := ?oi15) (v := ?v15) ?hi15 (by kernel_rfl) (by kernel_rfl) (by kernel_rfl) (fun _ _ _ h => h) (Or.inl ⟨?hh15, ?hy15⟩) (by assumption) ?rest15
        case hi15 => (simp only [List.getElem?_toArray, List.getElem?_cons_succ, List.getElem?_cons_zero]; rfl)
        case hh15 => rfl
        case hy15 => (intro w' hSw; (try dsimp only at hSw); go_simp; try with_reducible rfl)
        try simp only [Act.put, List.setIfInBounds_toArray, List.set_cons_zero, List.set_cons_succ]
        refine wpAnyH_ready (rs := [7, 16]) (by kernel_rfl) (by simp) ?_
        refine' AllReadyH.cons (o := ?o16) ?ho16 (fun K hK => ?step16) ?more16
        case ho16 => (simp only [List.getElem?_toArray, List.getElem?_cons_succ, List.getElem?_cons_zero]; rfl)
        case step16 =>
          go_simp
          (go_at_call 10; refine (put_st t.key t.size t.x HST1.out hl1).mono ?_; rintro e w3 ⟨rfl, hst3, hfr3⟩; have hcx := hcw w3; have hcx2 := hcu w3; dsimp only)
          refine hK.out _ _ ?_ (fun hHeld => ?_)
          · (first | exact St.cells hst4 | exact St.cells hst3 | go_keep)
          clear hK K
          try simp only [Act.put, List.setIfInBounds_toArray, List.set_cons_zero, List.set_cons_succ]
          refine wpAnyH_ready (rs := [16]) (by kernel_rfl) (by simp) ?_
          refine' AllReadyH.cons (o := ?o17) ?ho17 (fun K hK => ?step17) ?more17
          case ho17 => (simp only [List.getElem?_toArray, List.getElem?_cons_succ, List.getElem?_cons_zero]; rfl)
          case step17 =>
            go_simp
            refine hK.out _ _ ?_ (fun hHeld => ?_)
            · (first | exact St.cells hst4 | exact St.cells hst3 | go_keep)
            clear hK K
            try simp only [Act.put, List.setIfInBounds_toArray, List.set_cons_zero, List.set_cons_succ]
            refine wpAnyH_ready (rs := [17]) (by kernel_rfl) (by simp) ?_
            refine' AllReadyH.cons (o := ?o18) ?ho18 (fun K hK => ?step18) ?more18
            case ho18 => (simp only [List.getElem?_toArray, List.getElem?_cons_succ, List.getElem?_cons_zero]; rfl)
            case step18 =>
              go_simp
              refine hK.out _ _ ?_ (fun hHeld => ?_)
              · (first | exact St.cells hst4 | exact St.cells hst3 | go_keep)
              clear hK K
              try simp only [Act.put, List.setIfInBounds_toArray, List.set_cons_zero, List.set_cons_succ]
              refine wpAnyH_ready (rs := [18]) (by kernel_rfl) (by simp) ?_
              refine' AllReadyH.cons (o := ?o19) ?ho19 (fun K hK => ?step19) ?more19
              case ho19 => (simp only [List.getElem?_toArray, List.getElem?_cons_succ, List.getElem?_cons_zero]; rfl)
              case step19 =>
                go_simp
                (go_at_call 11; refine (puts_st t.key t.size (one t.x) (hst3.below ((Below.refl _ _).alloc (Nat.le_refl _) _)) hlm).mono ?_; rintro e w4 ⟨rfl, hst4⟩; dsimp only)
                refine hK.out _ _ ?_ (fun hHeld => ?_)
                · (first | exact St.cells hst4 | exact St.cells hst3 | go_keep)
                clear hK K
                try simp only [Act.put, List.setIfInBounds_toArray, List.set_cons_zero, List.set_cons_succ]
                refine' wpAnyH_take (i := 19) (oi := ?oi20) (v := ?v20) ?hi20 (by kernel_rfl) (by kernel_rfl) (by kernel_rfl) (fun _ _ _ h => h) (Or.inl ⟨?hh20, ?hy20⟩) (by assumption) ?rest20
                case hi20 => (simp only [List.getElem?_toArray, List.getElem?_cons_succ, List.getElem?_cons_zero]; rfl)
                case hh20 => rfl
                case hy20 => (intro w' hSw; (try dsimp only at hSw); go_simp; try with_reducible rfl)
                try simp only [Act.put, List.setIfInBounds_toArray, List.set_cons_zero, List.set_cons_succ]
                refine wpAnyH_done (by kernel_rfl) ?_ _
                refine NoPanic.normal ?_
                go_wp2_with fail
                exact any_end hlt htk hst4
              exact AllReadyH.nil
            exact AllReadyH.nil
          exact AllReadyH.nil
        refine' AllReadyH.cons (o := ?o21) ?ho21 (fun K hK => ?step21) ?more21
        case ho21 => (simp only [List.getElem?_toArray, List.getElem?_cons_succ, List.getElem?_cons_zero]; rfl)
        case step21 =>
          go_simp
          refine hK.out _ _ ?_ (fun hHeld => ?_)
          · (first | exact St.cells hst4 | exact St.cells hst3 | go_keep)
          clear hK K
          try simp only [Act.put, List.setIfInBounds_toArray, List.set_cons_zero, List.set_cons_succ]
          refine wpAnyH_ready (rs := [7, 17]) (by kernel_rfl) (by simp) ?_
          refine' AllReadyH.cons (o := ?o22) ?ho22 (fun K hK => ?step22) ?more22
          case ho22 => (simp only [List.getElem?_toArray, List.getElem?_cons_succ, List.getElem?_cons_zero]; rfl)
          case step22 =>
            go_simp
            (go_at_call 10; refine (put_st t.key t.size t.x HST2.out hl1).mono ?_; rintro e w3 ⟨rfl, hst3, hfr3⟩; have hcx := one_conv w3 W1.heap.size t.x (HWW.out ▸ hfr3.keep (Blk.new W1.drew 5 #[.int .u8 (IntKind.u8.wrap t.x)]) (.inr (by decide))); dsimp only)
            refine hK.out _ _ ?_ (fun hHeld => ?_)
            · (first | exact St.cells hst4 | exact St.cells hst3 | go_keep)
            clear hK K
            try simp only [Act.put, List.setIfInBounds_toArray, List.set_cons_zero, List.set_cons_succ]
            refine wpAnyH_ready (rs := [17]) (by kernel_rfl) (by simp) ?_
            refine' AllReadyH.cons (o := ?o23) ?ho23 (fun K hK => ?step23) ?more23
            case ho23 => (simp only [List.getElem?_toArray, List.getElem?_cons_succ, List.getElem?_cons_zero]; rfl)
            case step23 =>
              go_simp
              refine hK.out _ _ ?_ (fun hHeld => ?_)
              · (first | exact St.cells hst4 | exact St.cells hst3 | go_keep)
              clear hK K
              try simp only [Act.put, List.setIfInBounds_toArray, List.set_cons_zero, List.set_cons_succ]
              refine wpAnyH_ready (rs := [18]) (by kernel_rfl) (by simp) ?_
              refine' AllReadyH.cons (o := ?o24) ?ho24 (fun K hK => ?step24) ?more24
              case ho24 => (simp only [List.getElem?_toArray, List.getElem?_cons_succ, List.getElem?_cons_zero]; rfl)
              case step24 =>
                go_simp
                (go_at_call 11; refine (puts_st t.key t.size (one t.x) hst3 hlm).mono ?_; rintro e w4 ⟨rfl, hst4⟩; dsimp only)
                refine hK.out _ _ ?_ (fun hHeld => ?_)
                · (first | exact St.cells hst4 | exact St.cells hst3 | go_keep)
                clear hK K
                try simp only [Act.put, List.setIfInBounds_toArray, List.set_cons_zero, List.set_cons_succ]
                refine' wpAnyH_take (i := 19) (oi := ?oi25) (v := ?v25) ?hi25 (by kernel_rfl) (by kernel_rfl) (by kernel_rfl) (fun _ _ _ h => h) (Or.inl ⟨?hh25, ?hy25⟩) (by assumption) ?rest25
                case hi25 => (simp only [List.getElem?_toArray, List.getElem?_cons_succ, List.getElem?_cons_zero]; rfl)
                case hh25 => rfl
                case hy25 => (intro w' hSw; (try dsimp only at hSw); go_simp; try with_reducible rfl)
                try simp only [Act.put, List.setIfInBounds_toArray, List.set_cons_zero, List.set_cons_succ]
                refine wpAnyH_done (by kernel_rfl) ?_ _
                refine NoPanic.normal ?_
                go_wp2_with fail
                exact any_end hlt htk hst4
              exact AllReadyH.nil
            exact AllReadyH.nil
          refine' AllReadyH.cons (o := ?o26) ?ho26 (fun K hK => ?step26) ?more26
          case ho26 => (simp only [List.getElem?_toArray, List.getElem?_cons_succ, List.getElem?_cons_zero]; rfl)
          case step26 =>
            go_simp
            refine hK.out _ _ ?_ (fun hHeld => ?_)
            · (first | exact St.cells hst4 | exact St.cells hst3 | go_keep)
            clear hK K
            try simp only [Act.put, List.setIfInBounds_toArray, List.set_cons_zero, List.set_cons_succ]
            refine wpAnyH_ready (rs := [7]) (by kernel_rfl) (by simp) ?_
            refine' AllReadyH.cons (o := ?o27) ?ho27 (fun K hK => ?step27) ?more27
            case ho27 => (simp only [List.getElem?_toArray, List.getElem?_cons_succ, List.getElem?_cons_zero]; rfl)
            case step27 =>
              go_simp
              (go_at_call 10; refine (put_st t.key t.size t.x HST2.out hl1).mono ?_; rintro e w3 ⟨rfl, hst3, hfr3⟩; have hcx := one_conv w3 W1.heap.size t.x (HWW.out ▸ hfr3.keep (Blk.new W1.drew 5 #[.int .u8 (IntKind.u8.wrap t.x)]) (.inr (by decide))); dsimp only)
              refine hK.out _ _ ?_ (fun hHeld => ?_)
              · (first | exact St.cells hst4 | exact St.cells hst3 | go_keep)
              clear hK K
              try simp only [Act.put, List.setIfInBounds_toArray, List.set_cons_zero, List.set_cons_succ]
              refine wpAnyH_ready (rs := [18]) (by kernel_rfl) (by simp) ?_
              refine' AllReadyH.cons (o := ?o28) ?ho28 (fun K hK => ?step28) ?more28
              case ho28 => (simp only [List.getElem?_toArray, List.getElem?_cons_succ, List.getElem?_cons_zero]; rfl)
              case step28 =>
                go_simp
                (go_at_call 11; refine (puts_st t.key t.size (one t.x) hst3 hlm).mono ?_; rintro e w4 ⟨rfl, hst4⟩; dsimp only)
                refine hK.out _ _ ?_ (fun hHeld => ?_)
                · (first | exact St.cells hst4 | exact St.cells hst3 | go_keep)
                clear hK K
                try simp only [Act.put, List.setIfInBounds_toArray, List.set_cons_zero, List.set_cons_succ]
                refine' wpAnyH_take (i := 19) (oi := ?oi29) (v := ?v29) ?hi29 (by kernel_rfl) (by kernel_rfl) (by kernel_rfl) (fun _ _ _ h => h) (Or.inl ⟨?hh29, ?hy29⟩) (by assumption) ?rest29
                case hi29 => (simp only [List.getElem?_toArray, List.getElem?_cons_succ, List.getElem?_cons_zero]; rfl)
                case hh29 => rfl
                case hy29 => (intro w' hSw; (try dsimp only at hSw); go_simp; try with_reducible rfl)
                try simp only [Act.put, List.setIfInBounds_toArray, List.set_cons_zero, List.set_cons_succ]
                refine wpAnyH_done (by kernel_rfl) ?_ _
                refine NoPanic.normal ?_
                go_wp2_with fail
                exact any_end hlt htk hst4
              exact AllReadyH.nil
            exact AllReadyH.nil
          exact AllReadyH.nil
        exact AllReadyH.nil
      · have hkd : (t.kind == 1) = false := by simpa using hkind
        have HG := Lib.hid (CI.get_any _ _ v1 R u t.key _ W1 hh1 hf.out hws1 (by omega))
        have HW1 := Lib.hid hW1
        have HHS := Lib.hid hh1'
        have HBL := Lib.hid hblk
        have HBA := Lib.hid hBa
        clear hW1 hal hblk hh1 hh1' hBa
        go_wp2_with fail
        rw [← HW1.out]
        refine HG.out.mono ?_
        rintro e w3 ⟨rfl, ⟨v3, hh3⟩, hf3, hfr3⟩
        have hs3 := hfr3.size
        have hblk3 := hfr3.keep HBL.out (.inr (by decide))
        have hc3 := hblk3.cell 1
        simp at hc3
        have HBL3 := Lib.hid hblk3
        have HG2 := Lib.hid (CS.get_any _ _ v2 R u t.key _ w3 (cs_keep HHS.out hfr3 (by decide) (by decide)) hf'.out (by omega) (by simp; omega))
        have HH3 := Lib.hid hh3
        have HF3 := Lib.hid hf3
        have HB3 := Lib.hid (HBA.out.trans (hfr3.below hws1))
        clear HG hh3 hf3 hfr3 hblk3 HBL HHS
        go_wp2_with fail
        refine HG2.out.mono ?_
        rintro e w4 ⟨rfl, ⟨v4, hh4⟩, hf4, hfr4⟩
        have hs4 := hfr4.size
        have HH4 := Lib.hid hh4
        have HF4 := Lib.hid hf4
        have HH3' := Lib.hid (ci_keep HH3.out hfr4 (by decide) (by decide))
        have HB4 := Lib.hid (HB3.out.trans (hfr4.below (by omega)))
        clear HG2 hh4 hf4 hfr4 HH3
        rw [con_get] at HH4 HF4
        rw [con_find]
        have HU1 := Lib.hid (CI.used_any _ _ v3 R u _ w4 HH3'.out)
        have HU2 := Lib.hid (CS.used_any _ _ v4 R u _ w4 HH4.out)
        cases hfd : ts.find? (fun y => y.key == t.key) with
        | none =>
          simp only [Option.map_none, Option.getD_none, Option.isSome_none]
          have hz : CS.Th.zero.x = ByteArray.empty := rfl
          rw [hz]
          go_wp2_with (first | (go_at_call 14; refine HU1.out.mono ?_; rintro e w5 ⟨rfl, rfl⟩) | (go_at_call 15; refine HU2.out.mono ?_; rintro e w5 ⟨rfl, rfl⟩))
          refine ⟨⟨k + 1, v3, v4, u, CI.getL t.key ts, by omega, by simp, by rw [len_get]; omega, HH3', HF3, HH4, HF4, HB4⟩, ?_⟩
          simp [intOf]; omega
        | some y =>
          simp only [Option.map_some, Option.getD_some, Option.isSome_some]
          have hcx : (con y).x = one y.x := rfl
          rw [hcx]
          have hcv := one_conv _ _ y.x (Blk.new w4 5 #[.int .u8 (y.x % 256)])
          have hab := (Below.refl w4.heap.size w4).alloc (Nat.le_refl _) (.cells #[.int .u8 (y.x % 256)] 5)
          have HH5 := Lib.hid (HH3'.out.below hab)
          have HH6 := Lib.hid (HH4.out.below hab)
          have HB5 := Lib.hid (HB4.out.trans (hab.mono (show w.heap.size ≤ w4.heap.size by omega)))
          have HU3 := Lib.hid (CI.used_any _ _ v3 R u _ _ HH5.out)
          have HU4 := Lib.hid (CS.used_any _ _ v4 R u _ _ HH6.out)
          clear hab
          go_wp2_with (first | (go_at_call 14; refine HU3.out.mono ?_; rintro e w5 ⟨rfl, rfl⟩) | (go_at_call 15; refine HU4.out.mono ?_; rintro e w5 ⟨rfl, rfl⟩))
          refine ⟨⟨k + 1, v3, v4, u, CI.getL t.key ts, by omega, by simp, by rw [len_get]; omega, HH5, HF3, HH6, HF4, HB5⟩, ?_⟩
          simp [intOf]; omega
    · obtain rfl : k = len := by omega
      go_wp2_with (go_at_call 7; refine (awake_any _).mono ?_; rintro e w' ⟨rfl, hB3⟩)
      go_ret
      exact ⟨rfl, hB.out.trans (hB3.mono hws)⟩
end Go.Proofs.Ytddjcamhhjkbfaa.Laws
