/- The law CacheRoom. -/
import Derived.Test.YtddjcamhhjkbfaaLaws
import Derived.Test.YtddjcamhhjkbfaaArgs
import Derived.StillTailTactics
namespace Go.Proofs.Ytddjcamhhjkbfaa.Laws
open Go.RowKit Go.Shelf Mem Args
open CI (Th Holds Fits putL getL evict total FR keysOf flat)

theorem own_form {w : World} {base : Nat} {e : TypeId} {size n : Nat} {v : Value} {xs : List Value} (h : w.ownsRow base e size v n xs) : ∃ a cap, v = .slice a n cap ∧ (0 < n → ∃ g, a = some ⟨g, 0, none⟩ ∧ g < w.heap.size ∧ ∀ j u, xs[j]? = some u → w.cell? ⟨g, j, none⟩ = some u) := by
  rcases h.2 with ⟨rfl, rfl⟩ | ⟨g, cap, cur, rfl, r⟩
  · exact ⟨none, 0, rfl, fun h => by omega⟩
  · exact ⟨some ⟨g, 0, none⟩, cap, rfl, fun _ => ⟨g, rfl, (h.lt g rfl).2, fun j u hj => by
      have := h.cells (g := g) rfl j u hj
      rwa [CI.addr_add] at this⟩⟩

/-- No key twice. -/
def Uniq (ts : List Th) : Prop := (ts.map Th.key).Nodup
theorem uniq_sub {ts us : List Th} (h : Uniq ts) (hs : us.Sublist ts) : Uniq us := List.Nodup.sublist (hs.map _) h
theorem evict_sub (lim : Int) (ts : List Th) : (evict lim ts).Sublist ts := by
  induction ts with
  | nil => exact List.Sublist.refl _
  | cons t r ih =>
    by_cases h : lim < total (t :: r)
    · rw [CI.evict_go h]; exact ih.cons _
    · rw [CI.evict_stop h]; exact List.Sublist.refl _
theorem erase_no {key : Int} : ∀ {ts : List Th}, Uniq ts → ∀ t ∈ ts.eraseP (fun t => t.key == key), t.key ≠ key
  | [], _, t, ht => by simp at ht
  | y :: r, h, t, ht => by
    have hn : (∀ a ∈ r, a.key ≠ y.key) ∧ Uniq r := by
      unfold Uniq at h ⊢
      simp only [List.map_cons, List.nodup_cons, List.mem_map, not_exists, not_and] at h
      exact ⟨h.1, h.2⟩
    by_cases e : (y.key == key) = true
    · rw [List.eraseP_cons_of_pos (by simpa using e)] at ht
      have e : y.key = key := by simpa using e
      rw [← e]
      exact hn.1 t ht
    · rw [List.eraseP_cons_of_neg (by simpa using e)] at ht
      rcases List.mem_cons.1 ht with rfl | ht
      · simpa using e
      · exact erase_no hn.2 t ht
theorem uniq_snoc {ts : List Th} {t : Th} (h : Uniq ts) (hn : ∀ u ∈ ts, u.key ≠ t.key) : Uniq (ts ++ [t]) := by
  unfold Uniq at h ⊢
  rw [List.map_append, List.nodup_append]
  refine ⟨h, by simp, fun a ha b hb => ?_⟩
  obtain ⟨u, hu, rfl⟩ := List.mem_map.1 ha
  have : b = t.key := by simpa using hb
  rw [this]
  exact hn u hu
theorem put_no {room : Int} {t : Th} {ts : List Th} (h : Uniq ts) : ∀ u ∈ evict (room - t.size) (ts.eraseP (fun u => u.key == t.key)), u.key ≠ t.key := fun u hu =>
  erase_no h u ((evict_sub _ _).subset hu)
theorem uniq_put {room : Int} {t : Th} {ts : List Th} (h : Uniq ts) : Uniq (putL room t ts) :=
  uniq_snoc (uniq_sub h ((evict_sub _ _).trans List.eraseP_sublist)) (put_no h)
theorem uniq_get {key : Int} {ts : List Th} (h : Uniq ts) : Uniq (getL key ts) := by
  unfold getL
  cases hf : ts.find? (fun t : Th => t.key == key) with
  | none => exact h
  | some t =>
    have ht : t.key = key := by simpa using List.find?_some (p := fun t : Th => t.key == key) hf
    refine uniq_snoc (uniq_sub h List.eraseP_sublist) (fun u hu => ?_)
    rw [ht]
    exact erase_no h u hu
theorem find_put {room : Int} {t : Th} {ts : List Th} (h : Uniq ts) : (putL room t ts).find? (fun u => u.key == t.key) = some t := by
  unfold putL
  rw [List.find?_append, List.find?_eq_none.2 (fun u hu => by have := put_no (room := room) h u hu; simpa using this)]
  simp
theorem put_length (room : Int) (t : Th) (ts : List Th) : (putL room t ts).length ≤ ts.length + 1 := by
  unfold putL
  have h1 := (evict_sub (room - t.size) (ts.eraseP (fun u => u.key == t.key))).length_le
  have h2 := List.length_eraseP_le (p := fun u => u.key == t.key) (l := ts)
  simp
  omega
theorem get_length (key : Int) {ts : List Th} : (getL key ts).length = ts.length := by
  unfold getL
  cases hf : ts.find? (fun t : Th => t.key == key) with
  | none => rfl
  | some t =>
    have := List.length_eraseP_of_mem (p := fun t : Th => t.key == key) (List.mem_of_find?_eq_some hf) (List.find?_some (p := fun t : Th => t.key == key) hf)
    have h2 : 0 < ts.length := List.length_pos_of_mem (List.mem_of_find?_eq_some hf)
    simp
    omega

/-- The error of a Put, and the things behind it. -/
def putE (room size : Int) : Int := if size < 0 then 1 else if room < size then 11 else 0
def putR (room : Int) (t : Th) (ts : List Th) : List Th := if 0 ≤ t.size ∧ t.size ≤ room then putL room t ts else ts

theorem put_any (B C : Nat) (v : Value) (room used key size x : Int) (ts : List Th) (w : World) (h : Holds B C v room used ts w) (hf : Fits room used ts) (hB : B ≤ w.heap.size) (hl : ts.length ≤ 998) :
    Calls Try.prog 10 #[.pointer (some ⟨C, 0, none⟩), .int .i64 key, .int .i64 size, .int .i64 x] w fun e w' => e = .returned (.int .i64 (putE room size)) ∧
      (∃ v' used', Holds B C v' room used' (putR room ⟨key, size, x⟩ ts) w' ∧ Fits room used' (putR room ⟨key, size, x⟩ ts)) ∧ FR B w w' := by
  by_cases h0 : size < 0
  · refine (CI.put_arg _ key size x w (.inr h0)).mono fun e w' ⟨he, hw⟩ => ?_
    subst hw
    have e1 : putE room size = 1 := if_pos h0
    have e2 : putR room ⟨key, size, x⟩ ts = ts := if_neg (by show ¬ (0 ≤ size ∧ size ≤ room); omega)
    rw [e1, e2]
    exact ⟨he, ⟨v, used, h, hf⟩, Fr.refl _ _ _⟩
  · by_cases h1 : room < size
    · refine (CI.put_great B C v room used key size x ts w h (by omega) h1).mono fun e w' ⟨he, hw⟩ => ?_
      subst hw
      have e1 : putE room size = 11 := by unfold putE; rw [if_neg h0, if_pos h1]
      have e2 : putR room ⟨key, size, x⟩ ts = ts := if_neg (by show ¬ (0 ≤ size ∧ size ≤ room); omega)
      rw [e1, e2]
      exact ⟨he, ⟨v, used, h, hf⟩, Fr.refl _ _ _⟩
    · have e1 : putE room size = 0 := by unfold putE; rw [if_neg h0, if_neg h1]
      have e2 : putR room ⟨key, size, x⟩ ts = putL room ⟨key, size, x⟩ ts := if_pos (by show 0 ≤ size ∧ size ≤ room; omega)
      rw [e1, e2]
      exact CI.put_ok B C v room used ⟨key, size, x⟩ ts w h hf hB hl (by show 0 ≤ size; omega) (by show size ≤ room; omega)

set_option maxHeartbeats 4000000 in
set_option maxRecDepth 100000 in
theorem room_walk (room : Int) (a : Option Addr) (len cap : Nat) (l : List Args.Act) (w : World) (hr : In64 room) (ha : Acts w a len l) :
    Calls Try.prog 4 #[.int .i64 room, .slice a len cap] w fun e w' => e = .returned (.bool true) ∧ Below w.heap.size w w' := by
  obtain ⟨hr0, hr1⟩ := hr
  by_cases h1 : 100 < len
  · clear ha
    go_enter Try.func4, Try.ntmps4
    go_wp2_with (go_at_call 7; refine (awake_any _).mono ?_; rintro e w' ⟨rfl, hB⟩)
    go_ret
    exact ⟨rfl, hB⟩
  by_cases h2 : room < 0
  · clear ha
    go_enter Try.func4, Try.ntmps4
    go_wp2_with (go_at_call 7; refine (awake_any _).mono ?_; rintro e w' ⟨rfl, hB⟩)
    go_ret
    exact ⟨rfl, hB⟩
  have HA := Lib.hid ha
  have h3 : 0 ≤ room := by omega
  have h4 : len ≤ 100 := by omega
  clear ha
  go_enter Try.func4, Try.ntmps4
  go_wp2_with fail
  refine (CI.new_any room w).mono ?_
  rintro e w1 ⟨rfl, hH, hB1⟩
  have HH1 := Lib.hid (hH w.heap.size (Nat.le_refl _))
  have HB1 := Lib.hid hB1
  clear hH hB1
  go_wp2_with fail
  go_loopw [6] (fun i wr => ∃ (k : Nat) (v : Value) (used : Int) (ts : List Th), k ≤ len ∧ i = .int .i64 k ∧ ts.length ≤ k ∧ Hid (Holds w.heap.size w.heap.size v room used ts wr) ∧ Hid (Fits room used ts) ∧ Hid (Uniq ts) ∧ Hid (Below w.heap.size w wr)) (fun i _ => len - (intOf i).toNat)
  case atStart => exact ⟨0, _, 0, [], Nat.zero_le _, rfl, Nat.le_refl _, by have := HH1.out; rwa [if_pos h3] at this, fits_nil room h3 hr1, List.nodup_nil, HB1.out⟩
  case round =>
    obtain ⟨k, v, used, ts, hk, rfl, htk, hh, hf, hu, hB⟩ := hrel
    have hws := hB.out.size
    by_cases hlt : k < len
    · obtain ⟨t, ht⟩ : ∃ t, l[k]? = some t := ⟨_, List.getElem?_eq_getElem (by have := HA.out.len; omega)⟩
      obtain ⟨b, off, hab, hb, a0, a1, a2, a3, _, i1, i2, i3⟩ := HA.out.cells k t ht
      subst hab
      have HT := Lib.hid ht
      clear ht
      have hkeys := CI.keys_any _ _ v room used ts wr hh.out (by omega)
      have HK := Lib.hid hkeys
      clear hkeys
      go_wp2_with fail
      refine HK.out.mono ?_
      rintro e w2 ⟨v2, rfl, ho2, hB2⟩
      obtain ⟨ka, kc, rfl, _⟩ := own_form ho2
      have hb0 := hB.out.trans (hB2.mono hws)
      have c1 := (hb0.cell (p := ⟨b, off + k * 4 + 1, none⟩) hb).trans a1
      have c2 := (hb0.cell (p := ⟨b, off + k * 4 + 2, none⟩) hb).trans a2
      have c3 := (hb0.cell (p := ⟨b, off + k * 4 + 3, none⟩) hb).trans a3
      have hh2 := hh.out.below hB2
      have HB2 := Lib.hid hb0
      have HH2 := Lib.hid hh2
      clear a0 a1 a2 a3 ho2 hB2 hb0 hh2
      go_wp2_with fail
      have hput := put_any _ _ v room used t.key t.size t.x ts w2.drew (HH2.out.below (Below.refl _ w2).drew) hf.out (by have := HB2.out.size; exact this) (by omega)
      have HP := Lib.hid hput
      clear hput
      go_still_tail 16, (by kernel_rfl)
      change wpList _ _ _ _ _ w2.drew
      go_wp2_with fail
      refine HP.out.mono ?_
      rintro e w3 ⟨rfl, ⟨v3, used3, hh3, hf3⟩, hfr3⟩
      have hs3 : w.heap.size ≤ w3.heap.size := Nat.le_trans HB2.out.size hfr3.size
      have hl3 : (putR room ⟨t.key, t.size, t.x⟩ ts).length ≤ k + 1 := by
        unfold putR
        split
        · have := put_length room ⟨t.key, t.size, t.x⟩ ts; omega
        · omega
      have HK3 := Lib.hid (CI.keys_any _ _ v3 room used3 _ w3 hh3 (by omega))
      have HB3 := Lib.hid (HB2.out.trans (((Below.refl w.heap.size w2).drew).trans (hfr3.below HB2.out.size)))
      have HH3 := Lib.hid hh3
      have HF3 := Lib.hid hf3
      clear hh3 hf3 hfr3
      go_wp2_with fail
      refine HK3.out.mono ?_
      rintro e w4 ⟨v4, rfl, ho4, hB4⟩
      obtain ⟨kb, kd, rfl, _⟩ := own_form ho4
      have HKB := Lib.hid ho4
      have hs4 := hB4.size
      have hb4 := HB3.out.trans (hB4.mono hs3)
      have c1' := (hb4.cell (p := ⟨b, off + k * 4 + 1, none⟩) hb).trans (HA.out.cells k t HT.out |> fun ⟨b', off', hab, _, _, h, _⟩ => by cases hab; exact h)
      have c2' := (hb4.cell (p := ⟨b, off + k * 4 + 2, none⟩) hb).trans (HA.out.cells k t HT.out |> fun ⟨b', off', hab, _, _, _, h, _⟩ => by cases hab; exact h)
      have c3' := (hb4.cell (p := ⟨b, off + k * 4 + 3, none⟩) hb).trans (HA.out.cells k t HT.out |> fun ⟨b', off', hab, _, _, _, _, h, _⟩ => by cases hab; exact h)
      have HB4 := Lib.hid hb4
      have HH4 := Lib.hid (HH3.out.below hB4)
      clear hb4 ho4 hB4
      go_wp2_with fail
      have hu0 : 0 ≤ used3 := by rw [HF3.out.sum]; exact CI.total_nonneg HF3.out.pos
      have hu1 : used3 ≤ room := HF3.out.le
      have hU := CI.used_any _ _ v3 room used3 _ w4 HH4.out
      have HU := Lib.hid hU
      clear hU
      by_cases hok : 0 ≤ t.size ∧ t.size ≤ room
      · obtain ⟨ho1, ho2⟩ := hok
        have eR : putR room ⟨t.key, t.size, t.x⟩ ts = putL room ⟨t.key, t.size, t.x⟩ ts := if_pos ⟨ho1, ho2⟩
        have eE : putE room t.size = 0 := by unfold putE; rw [if_neg (by omega), if_neg (by omega)]
        rw [eR] at HH4 HF3 HKB hl3
        rw [eR, eE]
        clear eR eE HP HK3 HH3
        refine HU.out.mono ?_
        rintro e w5 ⟨rfl, rfl⟩
        go_wp2_with (go_at_call 14; refine HU.out.mono ?_; rintro e w5 ⟨rfl, rfl⟩)
        obtain ⟨n, hn⟩ : ∃ n, (putL room ⟨t.key, t.size, t.x⟩ ts).length = n + 1 := ⟨_, by unfold putL; rw [List.length_append]; rfl⟩
        have hlast : (keysOf (putL room ⟨t.key, t.size, t.x⟩ ts))[n]? = some (.int .i64 t.key) := by
          have hn' := hn
          unfold putL at hn' ⊢
          rw [List.length_append] at hn'
          have hn' : (evict (room - t.size) (ts.eraseP fun u => u.key == t.key)).length = n := by simpa using hn'
          unfold CI.keysOf
          rw [List.map_append, List.getElem?_append_right (by simp [hn']), List.length_map]
          simp [hn']
        have HL := Lib.hid hlast
        have hfind := find_put (room := room) (t := ⟨t.key, t.size, t.x⟩) hu.out
        simp only at hfind
        have HG := Lib.hid (CI.get_any _ _ v3 room used3 t.key _ w4 HH4.out HF3.out (by omega) (by omega))
        rw [hfind] at HG
        have huq : Uniq (getL t.key (putL room ⟨t.key, t.size, t.x⟩ ts)) := uniq_get (uniq_put hu.out)
        have hlq : (getL t.key (putL room ⟨t.key, t.size, t.x⟩ ts)).length ≤ k + 1 := by rw [get_length]; exact hl3
        have HUQ := Lib.hid huq
        clear hlast hfind huq HU HH4 HF3
        rw [hn] at HKB ⊢
        refine HG.out.mono ?_
        rintro e w5 ⟨rfl, ⟨v5, hh5⟩, hf5, hfr5⟩
        have hs5 := hfr5.size
        obtain ⟨g, cap', e', hg⟩ := own_form (hfr5.row HKB.out (by decide))
        cases e'
        obtain ⟨_, rfl, hg, hcs⟩ := hg (by omega)
        have hc := hcs n _ HL.out
        have hb5 := HB4.out.trans (hfr5.below (show w.heap.size ≤ w4.heap.size by omega))
        have d1 := (hb5.cell (p := ⟨b, off + k * 4 + 1, none⟩) hb).trans (HA.out.cells k t HT.out |> fun ⟨b', off', hab, _, _, h, _⟩ => by cases hab; exact h)
        have d3 := (hb5.cell (p := ⟨b, off + k * 4 + 3, none⟩) hb).trans (HA.out.cells k t HT.out |> fun ⟨b', off', hab, _, _, _, _, h, _⟩ => by cases hab; exact h)
        have HB5 := Lib.hid hb5
        have HH5 := Lib.hid hh5
        have HF5 := Lib.hid hf5
        have hn1 : IntKind.i64.wrap ((n : Int) + 1 - 1) = n := by rw [show (n : Int) + 1 - 1 = n by omega]; exact IntWalk.i64_in _ (by omega)
        have hn2 : ((n : Int) + 1 == 0) = false := by simp; omega
        have hn3 : (((n + 1 : Nat) : Int) == 0) = false := by simp; omega
        have hn4 : IntKind.i64.wrap (((n + 1 : Nat) : Int) - 1) = n := by rw [show ((n + 1 : Nat) : Int) - 1 = n by omega]; exact IntWalk.i64_in _ (by omega)
        clear hh5 hf5 hfr5 hb5 hcs HKB
        go_wp2_with fail
        go_quiet (fail)
        go_wp2_with fail
        refine ⟨⟨k + 1, v5, used3, _, by omega, by simp, hlq, Lib.hid ?_, HF5, HUQ, Lib.hid ?_⟩, ?_⟩
        · exact HH5.out.below (below_drewN (Below.refl _ _) _)
        · exact below_drewN HB5.out _
        · simp [intOf]; omega
      · have eR : putR room ⟨t.key, t.size, t.x⟩ ts = ts := if_neg hok
        rw [eR] at HH4 HF3 HKB hl3
        rw [eR]
        clear eR HP HK3 HH3 HKB
        refine HU.out.mono ?_
        rintro e w5 ⟨rfl, rfl⟩
        by_cases hz : t.size < 0
        · have eE : putE room t.size = 1 := by unfold putE; rw [if_pos hz]
          rw [eE]
          go_wp2_with (go_at_call 14; refine HU.out.mono ?_; rintro e w5 ⟨rfl, rfl⟩)
          refine ⟨⟨k + 1, v3, used3, ts, by omega, by simp, by omega, HH4, HF3, hu, HB4⟩, ?_⟩
          simp [intOf]; omega
        · have hz1 : room < t.size := by omega
          have hz2 : 0 ≤ t.size := by omega
          have eE : putE room t.size = 11 := by unfold putE; rw [if_neg hz, if_pos hz1]
          rw [eE]
          go_wp2_with (go_at_call 14; refine HU.out.mono ?_; rintro e w5 ⟨rfl, rfl⟩)
          refine ⟨⟨k + 1, v3, used3, ts, by omega, by simp, by omega, HH4, HF3, hu, HB4⟩, ?_⟩
          simp [intOf]; omega
    · obtain rfl : k = len := by omega
      go_wp2_with (go_at_call 7; refine (awake_any _).mono ?_; rintro e w' ⟨rfl, hB3⟩)
      go_ret
      exact ⟨rfl, hB.out.trans (hB3.mono hws)⟩
end Go.Proofs.Ytddjcamhhjkbfaa.Laws
