/- The reference of law 25: Put. -/
import Derived.Test.YtddjcamhhjkbfaaRefGet
import Derived.WalkSmall
import Derived.Deep.RegionHeld3
import Derived.Deep.AppendLies
namespace Go.Proofs.Ytddjcamhhjkbfaa.Refs
open Go.RowKit Go.Shelf Mem Args
open CI (Th flat total putL getL evict)
open Laws (Uniq)

def lenOf : Value → Nat
  | .slice _ n _ => n
  | _ => 0
theorem RowO.drop {w : World} {b off : Nat} {ts : List Th} (h : RowO w b off ts) (d : Nat) : RowO w b (off + d * 3) (ts.drop d) := fun i t ht => by
  have := h (d + i) t (by rw [← ht, List.getElem?_drop])
  rw [show off + (d + i) * 3 = off + d * 3 + i * 3 by omega] at this
  exact this
theorem flat_row {w : World} {b off : Nat} : ∀ {ts : List Th}, RowO w b off ts → ∀ j u, (flat ts)[j]? = some u → w.cell? ((⟨b, off, none⟩ : Addr).add j) = some u := by
  intro ts h j u hj
  have hlt : j < ts.length * 3 := by
    have := (List.getElem?_eq_some_iff.1 hj).1
    rwa [CI.flat_length] at this
  obtain ⟨t, ht⟩ : ∃ t, ts[j / 3]? = some t := ⟨_, List.getElem?_eq_getElem (by omega)⟩
  obtain ⟨e0, e1, e2⟩ := CI.flat_at ts (j / 3) t ht
  obtain ⟨c0, c1, c2⟩ := h (j / 3) t ht
  have ha : (⟨b, off, none⟩ : Addr).add j = ⟨b, off + j, none⟩ := by unfold Addr.add; split <;> simp_all
  rw [ha]
  have h3 : j % 3 = 0 ∨ j % 3 = 1 ∨ j % 3 = 2 := by omega
  rcases h3 with h3 | h3 | h3
  · rw [show j = j / 3 * 3 by omega] at hj ⊢
    rw [e0] at hj; rw [c0]; exact hj
  · rw [show j = j / 3 * 3 + 1 by omega] at hj ⊢
    rw [e1] at hj; rw [← Nat.add_assoc, c1]; exact hj
  · rw [show j = j / 3 * 3 + 2 by omega] at hj ⊢
    rw [e2] at hj; rw [← Nat.add_assoc, c2]; exact hj
theorem own_at {w : World} {base size g : Nat} {e : TypeId} (hg : g = w.heap.size) (hb : base ≤ w.heap.size) : (w.alloc (.cells #[] e)).ownsRow base e size (.slice (some ⟨g, 0, none⟩) 0 0) 0 [] := by
  subst hg
  exact World.ownsRow_lit w #[] 0 hb (by decide) (by simp)
theorem vs_one (t : Th) : ∀ u ∈ t.vs, u.oneCell' = true := by
  intro u hu
  simp only [CI.Th.vs, List.mem_cons, List.not_mem_nil, or_false] at hu
  rcases hu with rfl | rfl | rfl <;> rfl
theorem flat_one (ts : List Th) : ∀ u ∈ flat ts, u.oneCell' = true := by
  intro u hu
  obtain ⟨t, _, ht⟩ := List.mem_flatMap.1 hu
  exact vs_one t u ht
theorem t_cells {w : World} {q : Nat} {k s x : Int} (h : Blk w q 47 #[.int .i64 k, .int .i64 s, .int .i64 x]) : w.cell? ⟨q, 0, none⟩ = some (.int .i64 k) ∧ w.cell? ⟨q, 1, none⟩ = some (.int .i64 s) ∧ w.cell? ⟨q, 2, none⟩ = some (.int .i64 x) := ⟨h.cell 0, h.cell 1, h.cell 2⟩
theorem ne_own {q gA n c : Nat} (h : q ≠ gA) : some q ≠ (Value.slice (some ⟨gA, 0, none⟩) n c).ownBlock := fun e => h (by simpa [Value.ownBlock] using e)
theorem ne_own2 {w : World} {B q g5 n c m : Nat} {e : TypeId} {xs : List Value} (h : w.ownsRow B e 3 (.slice (some ⟨g5, 0, none⟩) n c) m xs) (hq : q < B) : some q ≠ (Value.slice (some ⟨g5, 0, none⟩) n c).ownBlock := fun e => by
  have h1 := (h.lt g5 rfl).1
  have : q = g5 := by simpa [Value.ownBlock] using e
  omega
set_option maxHeartbeats 8000000 in
set_option maxRecDepth 100000 in
theorem put_any (b off cap : Nat) (room : Int) (t : Th) (ts : List Th) (w : World) (h : Lies w b off cap ts) (hl : ts.length ≤ 1000) (hu : Uniq ts) (hp : ∀ t ∈ ts, 0 ≤ t.size) (ht : total ts ≤ 9223372036854775807) (h0 : 0 ≤ t.size) (h1 : t.size ≤ room) (hr : room ≤ 9223372036854775807) :
    Calls Try.prog 32 #[.slice (some ⟨b, off, none⟩) ts.length cap, .int .i64 room, t.v] w fun e w' => ∃ b' off' cap', e = .returned (.slice (some ⟨b', off', none⟩) (putL room t ts).length cap') ∧ Lies w' b' off' cap' (putL room t ts) ∧ Below w.heap.size w w' := by
  obtain ⟨i0, hi, hz0, hz1, hz2⟩ := info_parts infoT
  unfold CI.Th.v putL
  rw [← no_erase hu]
  have hal := (Below.refl w.heap.size w).alloc (Nat.le_refl _) (.cells #[.int .i64 t.key, .int .i64 t.size, .int .i64 t.x] 47)
  have hl2 := h.below hal
  have HW := Lib.hid (without_any b off cap t.key ts _ hl2.row hl2.lt hl)
  have HB0 := Lib.hid hal
  have hnl : (no t.key ts).length ≤ ts.length := List.length_filter_le _ _
  have hnp : Hid (∀ y ∈ no t.key ts, 0 ≤ y.size) := fun y hy => hp y ((List.mem_filter.1 hy).1)
  have hnt : total (no t.key ts) ≤ 9223372036854775807 := by
    have := CI.total_erase (fun u => u.key == t.key) ts
    rw [no_erase hu]
    have hfs := (CI.find_size (p := fun u : Th => u.key == t.key) hp).1
    omega
  have hwr : IntKind.i64.wrap (room - t.size) = room - t.size := IntWalk.i64_in _ (by omega)
  generalize hL : no t.key ts = L at *
  clear hal hl2 h hu hp hL
  go_enter Try.func32, Try.ntmps32
  go_wp2_with fail
  refine HW.out.mono ?_
  rintro e w1 ⟨v1, rfl, ho1, ⟨g, cap1, rfl⟩, hB1⟩
  have HB1 := Lib.hid (HB0.out.trans (hB1.mono HB0.out.size))
  have hbt := (Blk.new w 47 #[.int .i64 t.key, .int .i64 t.size, .int .i64 t.x]).below hB1 (by simp)
  have HLI := Lib.hid (lies_own ho1)
  have hcap : L.length ≤ cap1 := by
    rcases ho1.2 with ⟨e, _⟩ | ⟨g', cap', cur, e, _, _, hc, _⟩
    · cases e
    · cases e; exact hc
  have q0 := hbt.cell 0
  have q1 := hbt.cell 1
  have q2 := hbt.cell 2
  simp at q0 q1 q2
  have HBT := Lib.hid hbt
  clear ho1 hB1 hbt
  go_wp2_with fail
  go_loopw [7] (fun o wr => ∃ d off' : Nat, d ≤ L.length ∧ o = .slice (some ⟨g, off', none⟩) (L.length - d) (cap1 - d) ∧ (d < L.length → off' = d * 3) ∧ Hid (Lies wr g 0 cap1 L) ∧ Hid (Blk wr w.heap.size 47 #[.int .i64 t.key, .int .i64 t.size, .int .i64 t.x]) ∧ Hid (Below w.heap.size w wr) ∧ Hid (evict (room - t.size) L = evict (room - t.size) (L.drop d))) (fun o _ => lenOf o)
  case atStart => exact ⟨0, 0, Nat.zero_le _, by simp, by simp, HLI, HBT, HB1, rfl⟩
  case round =>
    obtain ⟨d, off', hd, rfl, hoff, hlies, hbt, hB, hev⟩ := hrel
    have hro := hlies.out.row.drop d
    rw [Nat.zero_add] at hro
    have HRO := Lib.hid hro
    have r0 := hbt.out.cell 0
    have r1 := hbt.out.cell 1
    have r2 := hbt.out.cell 2
    simp at r0 r1 r2
    clear hro
    by_cases hlt : d < L.length
    · obtain rfl := hoff hlt
      clear hoff
      have hcast : (((L.length - d : Nat) : Int) = (L.length : Int) - d) := by omega
      have hpos : decide (0 < L.length - d) = true := by simp; omega
      have hlc : (L.drop d).length = L.length - d := List.length_drop
      have hsp : total L = total (L.take d) + total (L.drop d) := by rw [← CI.total_append, List.take_append_drop]
      have ht0 : 0 ≤ total (L.take d) := CI.total_nonneg (fun y hy => hnp.out y (List.mem_of_mem_take hy))
      have ht1 : 0 ≤ total (L.drop d) := CI.total_nonneg (fun y hy => hnp.out y (List.mem_of_mem_drop hy))
      have HU := Lib.hid (fun n : Nat => (used_any g (d * 3) (cap1 - d) (L.drop d) (wr.drewN n) HRO.out (by omega) (fun y hy => hnp.out y (List.mem_of_mem_drop hy)) (by omega)).mono fun e w' (he : _ ∧ _) => (⟨he.1, he.2.symm⟩ : e = .returned (.int .i64 (total (L.drop d))) ∧ w' = wr.drewN n))
      rw [hlc] at HU
      by_cases hgt : room - t.size < total (L.drop d)
      · have hgd : decide (room - t.size < total (L.drop d)) = true := by simpa using hgt
        clear hsp ht0 ht1 hcast
        go_wp2_with fail
        go_quiet ((go_at_call 18; refine Calls.quiet_of_same (HU.out _)))
        go_wp2_with fail
        have HBN := Lib.hid (below_drewN (Below.refl wr.heap.size wr) nq)
        have hev2 : evict (room - t.size) L = evict (room - t.size) (L.drop (d + 1)) := by
          rw [hev.out]
          have hc : L.drop d = L[d] :: L.drop (d + 1) := List.drop_eq_getElem_cons hlt
          rw [hc] at hgt ⊢
          exact CI.evict_go hgt
        refine ⟨⟨d + 1, if cap1 - d = 1 then d * 3 else d * 3 + 3, by omega, ?_, ?_, hlies.out.below HBN.out, hbt.out.drewN nq, below_drewN hB.out nq, hev2⟩, ?_⟩
        · split <;> simp <;> omega
        · intro h
          rw [if_neg (by omega)]
          omega
        · show L.length - d - 1 < L.length - d
          omega
      · have hgd : decide (room - t.size < total (L.drop d)) = false := by simpa using hgt
        clear hsp ht0 ht1 hcast
        go_wp2_with fail
        go_quiet ((go_at_call 18; refine Calls.quiet_of_same (HU.out _)))
        have hev2 : evict (room - t.size) L = L.drop d := by rw [hev.out]; exact CI.evict_stop (by omega)
        go_wp2_with fail
        obtain ⟨W, hW⟩ : ∃ W, W = wr.drewN nq := ⟨_, rfl⟩
        have HBW : Hid (Blk W w.heap.size 47 #[.int .i64 t.key, .int .i64 t.size, .int .i64 t.x]) := by rw [hW]; exact hbt.out.drewN nq
        have HBD : Hid (Below w.heap.size w W) := by rw [hW]; exact below_drewN hB.out nq
        have HLW : Lies W g 0 cap1 L := by rw [hW]; exact hlies.out.below (below_drewN (Below.refl wr.heap.size wr) nq)
        have hgw : w.heap.size < W.heap.size := HBW.out.lt
        have HNEW : Hid (∀ V, Below W.heap.size W V → ∀ j u, (flat (L.drop d))[j]? = some u → V.cell? ((⟨g, d * 3, none⟩ : Addr).add j) = some u) := fun V hV => flat_row (by have := (HLW.below hV).row.drop d; rwa [Nat.zero_add] at this)
        have HFL : Hid ((flat (L.drop d)).length = (L.length - d) * 3) := by show _ = _; rw [CI.flat_length, List.length_drop]
        have HONE : Hid (∀ u ∈ flat (L.drop d), u.oneCell' = true) := flat_one _
        have hmpos : 0 < L.length - d := by omega
        have hone : Hid (∀ u ∈ t.vs, u.oneCell' = true) := vs_one t
        have HW2 := Lib.hid hW
        have q0 := HBW.out.cell 0
        have q1 := HBW.out.cell 1
        have q2 := HBW.out.cell 2
        simp at q0 q1 q2
        clear hW HLW
        rw [← HW2.out]
        go_region_held3 (fun w' => w'.cell? ⟨w.heap.size, 0, none⟩ = some (.int .i64 t.key) ∧ w'.cell? ⟨w.heap.size, 1, none⟩ = some (.int .i64 t.size) ∧ w'.cell? ⟨w.heap.size, 2, none⟩ = some (.int .i64 t.x)) (first | exact hk6 | exact hk5 | exact t_cells HBW.out | go_keep) ((first | (refine step_append_lies _ rfl (.tmp 26) (.tmp 27) 42 rfl W.heap.size 47 i0 (.agg #[.int .i64 0, .int .i64 0, .int .i64 0]) 3 24 Try.underlying42 hi hz0 hz1 hz2 rfl (by decide) (.slice (some ⟨W.heap.size, 0, none⟩) 0 0) 0 [] (by simp [Act.eval]) (World.ownsRow_lit (base := W.heap.size) (e := 47) (size := 3) W.drew #[] 0 (Nat.le_refl _) (by decide) rfl) ⟨g, d * 3, none⟩ (L.length - d) (cap1 - d) (flat (L.drop d)) (by simp [Act.eval]) HFL.out (HNEW.out _ ((Below.refl W.heap.size W).drew.alloc (Nat.le_refl _) (.cells #[] 47))) HONE.out hmpos (by unfold maxLen; omega) (by omega) (by first | exact Nat.le_refl _ | exact HSZ.out | (simp <;> omega)) _ rfl ?_; intro g5 cap5 w5 hown hgrow hat hlt; have hb5 := (HBW.out.drew.alloc (.cells #[] 47)).grown hgrow (ne_own (by omega)); have hk5 := t_cells hb5; have hs5 := hgrow.size; simp at hs5; have HO := Lib.hid (hown.alloc (.cells #[.int .i64 t.key, .int .i64 t.size, .int .i64 t.x] 47)); have HN := Lib.hid (news_next w5 t); have HSZ := Lib.hid (show W.heap.size ≤ (w5.alloc (.cells #[.int .i64 t.key, .int .i64 t.size, .int .i64 t.x] 47)).heap.size by simp <;> omega); have HBL := Lib.hid (((Below.refl W.heap.size W).drew.alloc (Nat.le_refl _) (.cells #[] 47)).grown hgrow (by simp) (fun j hj => ((World.ownsRow_lit (base := W.heap.size) (e := 47) (size := 3) W.drew #[] 0 (Nat.le_refl _) (by decide) rfl).lt j hj).1)); have HG5 := Lib.hid hgrow; have HO5 := Lib.hid hown; clear hown hgrow hat) | (refine step_append_lies _ rfl (.tmp 26) (.tmp 27) 42 rfl W.heap.size 47 i0 (.agg #[.int .i64 0, .int .i64 0, .int .i64 0]) 3 24 Try.underlying42 hi hz0 hz1 hz2 rfl (by decide) (.slice (some ⟨W.heap.size, 0, none⟩) 0 0) 0 [] (by simp [Act.eval]) ((World.ownsRow_lit (base := W.heap.size) (e := 47) (size := 3) W.drew #[] 0 (Nat.le_refl _) (by decide) rfl).alloc (.cells #[.int .i64 t.key, .int .i64 t.size, .int .i64 t.x] 47)) ⟨g, d * 3, none⟩ (L.length - d) (cap1 - d) (flat (L.drop d)) (by simp [Act.eval]) HFL.out (HNEW.out _ (((Below.refl W.heap.size W).drew.alloc (Nat.le_refl _) (.cells #[] 47)).alloc (by simp) (.cells #[.int .i64 t.key, .int .i64 t.size, .int .i64 t.x] 47))) HONE.out hmpos (by unfold maxLen; omega) (by omega) (by first | exact Nat.le_refl _ | exact HSZ.out | (simp <;> omega)) _ rfl ?_; intro g5 cap5 w5 hown hgrow hat hlt; have hb5 := ((HBW.out.drew.alloc (.cells #[] 47)).alloc (.cells #[.int .i64 t.key, .int .i64 t.size, .int .i64 t.x] 47)).grown hgrow (ne_own (by omega)); have hk5 := t_cells hb5; have hs5 := hgrow.size; simp at hs5; have HO := Lib.hid hown; have HN := Lib.hid (news_kept (t := t) (w := w5) ((Blk.at_ (w := W.drew.alloc (.cells #[] 47)) (g := W.heap.size + 1) (t := 47) (cs := #[.int .i64 t.key, .int .i64 t.size, .int .i64 t.x]) (by rw [World.size_alloc]; rfl)).grown hgrow (ne_own (by simp))) (Below.refl _ _)); have HSZ := Lib.hid (show W.heap.size ≤ w5.heap.size by omega); have HBL := Lib.hid ((((Below.refl W.heap.size W).drew.alloc (Nat.le_refl _) (.cells #[] 47)).alloc (by simp) (.cells #[.int .i64 t.key, .int .i64 t.size, .int .i64 t.x] 47)).grown hgrow (by simp <;> omega) (fun j hj => (((World.ownsRow_lit (base := W.heap.size) (e := 47) (size := 3) W.drew #[] 0 (Nat.le_refl _) (by decide) rfl).alloc (.cells #[.int .i64 t.key, .int .i64 t.size, .int .i64 t.x] 47)).lt j hj).1)); have HG5 := Lib.hid hgrow; have HO5 := Lib.hid hown; clear hown hgrow hat) | (refine step_append_lies _ rfl (.tmp 26) (.tmp 27) 42 rfl W.heap.size 47 i0 (.agg #[.int .i64 0, .int .i64 0, .int .i64 0]) 3 24 Try.underlying42 hi hz0 hz1 hz2 rfl (by decide) (.slice (some ⟨(W.heap.size + 1), 0, none⟩) 0 0) 0 [] (by simp [Act.eval]) (own_at (base := W.heap.size) (e := 47) (size := 3) (w := W.drew.alloc (.cells #[.int .i64 t.key, .int .i64 t.size, .int .i64 t.x] 47)) (g := W.heap.size + 1) (by rw [World.size_alloc]; rfl) (by simp)) ⟨g, d * 3, none⟩ (L.length - d) (cap1 - d) (flat (L.drop d)) (by simp [Act.eval]) HFL.out (HNEW.out _ (((Below.refl W.heap.size W).drew.alloc (Nat.le_refl _) (.cells #[.int .i64 t.key, .int .i64 t.size, .int .i64 t.x] 47)).alloc (by simp) (.cells #[] 47))) HONE.out hmpos (by unfold maxLen; omega) (by omega) (by first | exact Nat.le_refl _ | exact HSZ.out | (simp <;> omega)) _ rfl ?_; intro g5 cap5 w5 hown hgrow hat hlt; have hb5 := ((HBW.out.drew.alloc (.cells #[.int .i64 t.key, .int .i64 t.size, .int .i64 t.x] 47)).alloc (.cells #[] 47)).grown hgrow (ne_own (by omega)); have hk5 := t_cells hb5; have hs5 := hgrow.size; simp at hs5; have HO := Lib.hid hown; have HN := Lib.hid (news_kept (t := t) (w := w5) (((Blk.new W.drew 47 #[.int .i64 t.key, .int .i64 t.size, .int .i64 t.x]).alloc (.cells #[] 47)).grown hgrow (ne_own (by simp))) (Below.refl _ _)); have HSZ := Lib.hid (show W.heap.size ≤ w5.heap.size by omega); have HBL := Lib.hid ((((Below.refl W.heap.size W).drew.alloc (Nat.le_refl _) (.cells #[.int .i64 t.key, .int .i64 t.size, .int .i64 t.x] 47)).alloc (by simp) (.cells #[] 47)).grown hgrow (by simp <;> omega) (fun j hj => ((own_at (base := W.heap.size) (e := 47) (size := 3) (w := W.drew.alloc (.cells #[.int .i64 t.key, .int .i64 t.size, .int .i64 t.x] 47)) (g := W.heap.size + 1) (by rw [World.size_alloc]; rfl) (by simp)).lt j hj).1)); have HG5 := Lib.hid hgrow; have HO5 := Lib.hid hown; clear hown hgrow hat) | (refine step_append_lies _ rfl (.tmp 28) (.tmp 30) 42 rfl W.heap.size 47 i0 (.agg #[.int .i64 0, .int .i64 0, .int .i64 0]) 3 24 Try.underlying42 hi hz0 hz1 hz2 rfl (by decide) (.slice (some ⟨g5, 0, none⟩) (0 + (L.length - d)) cap5) (0 + (L.length - d)) ([] ++ flat (L.drop d)) (by simp [Act.eval]) HO.out ⟨w5.heap.size, 0, none⟩ 1 1 t.vs (by simp [Act.eval]) rfl HN.out hone.out (by decide) (by unfold maxLen; omega) (by omega) (by first | exact Nat.le_refl _ | exact HSZ.out | (simp <;> omega)) _ rfl ?_; intro g6 cap6 w6 hown hgrow hat hlt; have hb6 := (hb5.alloc (.cells #[.int .i64 t.key, .int .i64 t.size, .int .i64 t.x] 47)).grown hgrow (ne_own2 HO5.out hgw); have hk6 := t_cells hb6; have HG6 := Lib.hid hgrow; have HO6 := Lib.hid hown; clear hown hgrow hat) | (refine step_append_lies _ rfl (.tmp 28) (.tmp 30) 42 rfl W.heap.size 47 i0 (.agg #[.int .i64 0, .int .i64 0, .int .i64 0]) 3 24 Try.underlying42 hi hz0 hz1 hz2 rfl (by decide) (.slice (some ⟨g5, 0, none⟩) (0 + (L.length - d)) cap5) (0 + (L.length - d)) ([] ++ flat (L.drop d)) (by simp [Act.eval]) HO.out ⟨(W.heap.size + 1), 0, none⟩ 1 1 t.vs (by simp [Act.eval]) rfl HN.out hone.out (by decide) (by unfold maxLen; omega) (by omega) (by first | exact Nat.le_refl _ | exact HSZ.out | (simp <;> omega)) _ rfl ?_; intro g6 cap6 w6 hown hgrow hat hlt; have hb6 := (hb5).grown hgrow (ne_own2 HO5.out hgw); have hk6 := t_cells hb6; have HG6 := Lib.hid hgrow; have HO6 := Lib.hid hown; clear hown hgrow hat) | (refine step_append_lies _ rfl (.tmp 28) (.tmp 30) 42 rfl W.heap.size 47 i0 (.agg #[.int .i64 0, .int .i64 0, .int .i64 0]) 3 24 Try.underlying42 hi hz0 hz1 hz2 rfl (by decide) (.slice (some ⟨g5, 0, none⟩) (0 + (L.length - d)) cap5) (0 + (L.length - d)) ([] ++ flat (L.drop d)) (by simp [Act.eval]) HO.out ⟨W.heap.size, 0, none⟩ 1 1 t.vs (by simp [Act.eval]) rfl HN.out hone.out (by decide) (by unfold maxLen; omega) (by omega) (by first | exact Nat.le_refl _ | exact HSZ.out | (simp <;> omega)) _ rfl ?_; intro g6 cap6 w6 hown hgrow hat hlt; have hb6 := (hb5).grown hgrow (ne_own2 HO5.out hgw); have hk6 := t_cells hb6; have HG6 := Lib.hid hgrow; have HO6 := Lib.hid hown; clear hown hgrow hat)))
        all_goals
          go_wp2
          go_ret
          have hlen : (L.drop d ++ [t]).length = 0 + (L.length - d) + 1 := by simp
          rw [hev2]
          refine ⟨g6, 0, cap6, by rw [hlen]; first | rfl | simp, lies_snoc HO6.out, HBD.out.trans (Below.mono ?_ (Nat.le_of_lt hgw))⟩
          first | exact HBL.out.grown HG6.out HBL.out.size (fun j hj => (HO.out.lt j hj).1) | exact (HBL.out.alloc HBL.out.size _).grown HG6.out HSZ.out (fun j hj => (HO.out.lt j hj).1)
    · have hnn : decide (0 < L.length - d) = false := by simp; omega
      obtain rfl : d = L.length := by omega
      go_wp2_with fail
      go_quiet (fail)
      have hev2 : evict (room - t.size) L = [] := by rw [hev.out, List.drop_length]; rfl
      go_wp2_with fail
      obtain ⟨W, hW⟩ : ∃ W, W = wr.drewN nq := ⟨_, rfl⟩
      have HBW : Hid (Blk W w.heap.size 47 #[.int .i64 t.key, .int .i64 t.size, .int .i64 t.x]) := by rw [hW]; exact hbt.out.drewN nq
      have HBD : Hid (Below w.heap.size w W) := by rw [hW]; exact below_drewN hB.out nq
      have hgw : w.heap.size < W.heap.size := HBW.out.lt
      have hone : Hid (∀ u ∈ t.vs, u.oneCell' = true) := vs_one t
      have HW2 := Lib.hid hW
      have q0 := HBW.out.cell 0
      have q1 := HBW.out.cell 1
      have q2 := HBW.out.cell 2
      simp at q0 q1 q2
      clear hW
      rw [← HW2.out, Nat.sub_self]
      go_region_held3 (fun w' => w'.cell? ⟨w.heap.size, 0, none⟩ = some (.int .i64 t.key) ∧ w'.cell? ⟨w.heap.size, 1, none⟩ = some (.int .i64 t.size) ∧ w'.cell? ⟨w.heap.size, 2, none⟩ = some (.int .i64 t.x)) (first | exact hk6 | exact t_cells HBW.out | go_keep) ((first | (refine step_append_lies _ rfl (.tmp 28) (.tmp 30) 42 rfl W.heap.size 47 i0 (.agg #[.int .i64 0, .int .i64 0, .int .i64 0]) 3 24 Try.underlying42 hi hz0 hz1 hz2 rfl (by decide) (.slice (some ⟨W.heap.size, 0, none⟩) 0 0) 0 [] (by simp [Act.eval]) ((World.ownsRow_lit (base := W.heap.size) (e := 47) (size := 3) W.drew #[] 0 (Nat.le_refl _) (by decide) rfl).alloc (.cells #[.int .i64 t.key, .int .i64 t.size, .int .i64 t.x] 47)) ⟨(W.heap.size + 1), 0, none⟩ 1 1 t.vs (by simp [Act.eval]) rfl (news_kept (t := t) (Blk.at_ (w := W.drew.alloc (.cells #[] 47)) (g := W.heap.size + 1) (t := 47) (cs := #[.int .i64 t.key, .int .i64 t.size, .int .i64 t.x]) (by rw [World.size_alloc]; rfl)) (Below.refl _ _)) hone.out (by decide) (by unfold maxLen; omega) (by omega) (by first | exact Nat.le_refl _ | exact HSZ.out | (simp <;> omega)) _ rfl ?_; intro g6 cap6 w6 hown hgrow hat hlt; have hb6 := ((HBW.out.drew.alloc (.cells #[] 47)).alloc (.cells #[.int .i64 t.key, .int .i64 t.size, .int .i64 t.x] 47)).grown hgrow (ne_own (by omega)); have hk6 := t_cells hb6; have HBL := Lib.hid ((((Below.refl W.heap.size W).drew.alloc (Nat.le_refl _) (.cells #[] 47)).alloc (by simp) (.cells #[.int .i64 t.key, .int .i64 t.size, .int .i64 t.x] 47)).grown hgrow (by simp <;> omega) (fun j hj => (((World.ownsRow_lit (base := W.heap.size) (e := 47) (size := 3) W.drew #[] 0 (Nat.le_refl _) (by decide) rfl).alloc (.cells #[.int .i64 t.key, .int .i64 t.size, .int .i64 t.x] 47)).lt j hj).1)); have HO6 := Lib.hid hown; clear hown hgrow hat) | (refine step_append_lies _ rfl (.tmp 28) (.tmp 30) 42 rfl W.heap.size 47 i0 (.agg #[.int .i64 0, .int .i64 0, .int .i64 0]) 3 24 Try.underlying42 hi hz0 hz1 hz2 rfl (by decide) (.slice (some ⟨(W.heap.size + 1), 0, none⟩) 0 0) 0 [] (by simp [Act.eval]) (own_at (base := W.heap.size) (e := 47) (size := 3) (w := W.drew.alloc (.cells #[.int .i64 t.key, .int .i64 t.size, .int .i64 t.x] 47)) (g := W.heap.size + 1) (by rw [World.size_alloc]; rfl) (by simp)) ⟨W.heap.size, 0, none⟩ 1 1 t.vs (by simp [Act.eval]) rfl (news_kept (t := t) ((Blk.new W.drew 47 #[.int .i64 t.key, .int .i64 t.size, .int .i64 t.x]).alloc (.cells #[] 47)) (Below.refl _ _)) hone.out (by decide) (by unfold maxLen; omega) (by omega) (by first | exact Nat.le_refl _ | exact HSZ.out | (simp <;> omega)) _ rfl ?_; intro g6 cap6 w6 hown hgrow hat hlt; have hb6 := ((HBW.out.drew.alloc (.cells #[.int .i64 t.key, .int .i64 t.size, .int .i64 t.x] 47)).alloc (.cells #[] 47)).grown hgrow (ne_own (by omega)); have hk6 := t_cells hb6; have HBL := Lib.hid ((((Below.refl W.heap.size W).drew.alloc (Nat.le_refl _) (.cells #[.int .i64 t.key, .int .i64 t.size, .int .i64 t.x] 47)).alloc (by simp) (.cells #[] 47)).grown hgrow (by simp <;> omega) (fun j hj => ((own_at (base := W.heap.size) (e := 47) (size := 3) (w := W.drew.alloc (.cells #[.int .i64 t.key, .int .i64 t.size, .int .i64 t.x] 47)) (g := W.heap.size + 1) (by rw [World.size_alloc]; rfl) (by simp)).lt j hj).1)); have HO6 := Lib.hid hown; clear hown hgrow hat)))
      all_goals
        go_wp2
        go_ret
        rw [hev2]
        exact ⟨g6, 0, cap6, rfl, lies_snoc (ts := []) HO6.out, HBD.out.trans (HBL.out.mono (Nat.le_of_lt hgw))⟩
end Go.Proofs.Ytddjcamhhjkbfaa.Refs
