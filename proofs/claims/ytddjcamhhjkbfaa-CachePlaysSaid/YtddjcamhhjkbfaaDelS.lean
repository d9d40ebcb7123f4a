/- slices.Delete of one thing of a cache of string. -/
import Derived.Test.YtddjcamhhjkbfaaThingS
import Derived.Deep.RegionLaw
import Derived.Lib.SliceRun
namespace Go.Proofs.Ytddjcamhhjkbfaa.CS
open Go.RowKit Mem

theorem flat_drop (ts : List Th) (j : Nat) : flat (ts.drop j) = (flat ts).drop (j * 3) := by
  induction j generalizing ts with
  | zero => simp
  | succ j ih =>
    cases ts with
    | nil => simp [flat]
    | cons t r =>
      have e3 : t.vs.length = 3 := rfl
      rw [List.drop_succ_cons, ih, flat_cons, List.drop_append, @List.drop_eq_nil_of_le _ t.vs _ (by omega), e3, show (j + 1) * 3 - 3 = j * 3 by omega]
      simp
theorem flat_take (ts : List Th) (j : Nat) : flat (ts.take j) = (flat ts).take (j * 3) := by
  induction j generalizing ts with
  | zero => simp [flat]
  | succ j ih =>
    cases ts with
    | nil => simp [flat]
    | cons t r =>
      have e3 : t.vs.length = 3 := rfl
      rw [List.take_succ_cons, flat_cons, ih, flat_cons, List.take_append, List.take_of_length_le (l := t.vs) (by omega), e3, show (j + 1) * 3 - 3 = j * 3 by omega]
theorem flat_one (ts : List Th) : ∀ u ∈ flat ts, u.oneCell' = true := by
  intro u hu
  simp only [flat, List.mem_flatMap] at hu
  obtain ⟨t, _, h⟩ := hu
  simp only [Th.vs, List.mem_cons, List.not_mem_nil, or_false] at h
  rcases h with rfl | rfl | rfl <;> rfl

theorem clear_run (w : World) (ty : TypeId) (b o n c : Nat) (hn : n = 1) (hc : ∀ j, j < 3 → (w.cell? ⟨b, o + j, none⟩).isSome = true) (hf : ∀ j, j < 3 → w.frozen? ⟨b, o + j, none⟩ = false) :
    (Builtin.clear_ #[53] ty #[.slice (some ⟨b, o, none⟩) n c]).run Try.prog w = .ok (.tuple #[]) (w.setCells b o [.int .i64 0, .int .i64 0, .string ByteArray.empty]) := by
  subst hn
  have hv : ∀ w, (zeroValue 63).run Try.prog w = .ok (.agg #[.int .i64 0, .int .i64 0, .string ByteArray.empty]) w := fun w => by kernel_rfl
  have hst := run_storeCells_cells (P := Try.prog) b o [.int .i64 0, .int .i64 0, .string ByteArray.empty] 0 w (by simpa using hc) (by simpa using hf) (by intro v hv'; simp at hv'; rcases hv' with rfl | rfl <;> rfl)
  simp only [Nat.add_zero] at hst
  have hzc : (Builtin.zeroCells (Value.agg #[.int .i64 0, .int .i64 0, .string ByteArray.empty]).cells 1).toList = [.int .i64 0, .int .i64 0, .string ByteArray.empty] := by kernel_rfl
  simp [Builtin.clear_, run_underlying Try.underlying53, hv, hzc, hst, Result.andThen]

set_option maxHeartbeats 2000000 in
set_option maxRecDepth 100000 in
theorem delete_core (B b cap i j : Nat) (ts : List Th) (w : World) (hown : w.ownsRow B 63 3 (.slice (some ⟨b, 0, none⟩) ts.length cap) ts.length (flat ts)) (hij : j = i + 1) (hi : i < ts.length) (hl : ts.length ≤ 1000) :
    Calls Try.prog 41 #[.slice (some ⟨b, 0, none⟩) ts.length cap, .int .i64 i, .int .i64 (j : Int)] w fun e w' => e = .returned (.slice (some ⟨b, 0, none⟩) (ts.length - 1) cap) ∧
      w'.ownsRow B 63 3 (.slice (some ⟨b, 0, none⟩) (ts.length - 1) cap) (ts.length - 1) (flat (ts.eraseIdx i)) ∧ w.grownBy w' (some b) := by
  obtain ⟨i0, hi0, hz0, hz1, hz2⟩ := info_parts info
  obtain ⟨cur, hblk, hBb, hc1, hc2, hcs, hct⟩ : ∃ cur, Blk w b 63 cur ∧ B ≤ b ∧ ts.length ≤ cap ∧ cap ≤ 9223372036854775807 ∧ cur.size = cap * 3 ∧ cur.toList.take (ts.length * 3) = flat ts := by
    rcases hown.2 with ⟨e, _⟩ | ⟨g, cap', cur, e, h0, h1, h2, h3, h4, h5⟩
    · cases e
    · cases e; exact ⟨cur, h1, h0, h2, h3, h4, h5⟩
  have hfl := flat_length ts
  -- what is moved to the left
  obtain ⟨news, hnews⟩ : ∃ news, news = flat (ts.drop j) := ⟨_, rfl⟩
  have hlen : news.length = (ts.length - j) * 3 := by rw [hnews, flat_length, List.length_drop]
  obtain ⟨A, hA, hsrc⟩ : ∃ A : Addr, (if cap = j then some (⟨b, 0, none⟩ : Addr) else some ⟨b, j * 3, none⟩) = some A ∧ Hid (∀ t u, news[t]? = some u → w.drew.cell? (A.add t) = some u) := by
    by_cases h : cap = j
    · refine ⟨⟨b, 0, none⟩, by simp [h], fun t u hu => ?_⟩
      have h0 : news.length = 0 := by rw [hlen]; omega
      rw [List.length_eq_zero_iff.1 h0] at hu
      simp at hu
    · refine ⟨⟨b, j * 3, none⟩, by simp [h], fun t u hu => ?_⟩
      rw [hnews, flat_drop, List.getElem?_drop] at hu
      have := (Row.of_own hown)
      have hc := hown.cells (g := b) rfl (j * 3 + t) u hu
      rw [addr_add] at hc
      have e : (⟨b, j * 3, none⟩ : Addr).add t = ⟨b, j * 3 + t, none⟩ := by unfold Addr.add; split <;> simp_all
      rw [e]
      exact hc
  have s1 : Hid (news.length = (ts.length - j) * 3) := hlen
  have s2 : Hid (∀ u ∈ news, u.oneCell' = true) := by rw [hnews]; exact flat_one _
  have s3 : Hid (∀ t, t < news.length → (w.drew.cell? ⟨b, 0 + i * 3 + t, none⟩).isSome = true ∧ w.drew.frozen? ⟨b, 0 + i * 3 + t, none⟩ = false) := by
    intro t ht
    rw [hlen] at ht
    refine ⟨?_, hblk.drew.frozen _⟩
    rw [hblk.drew.cell]
    simp
    omega
  obtain ⟨W1, hW1⟩ : ∃ W1, W1 = w.drew.setCells b (0 + i * 3) news := ⟨_, rfl⟩
  obtain ⟨cs1, hb1, hl1⟩ := Blk.splice news (0 + i * 3) w.drew cur hblk.drew (by rw [hlen]; omega)
  rw [← hW1] at hb1
  have hs1 : cs1.size = cap * 3 := by
    have := congrArg List.length hl1
    simp at this
    omega
  obtain ⟨cs2, hb2, hl2⟩ := Blk.splice [.int .i64 0, .int .i64 0, .string ByteArray.empty] ((ts.length - 1) * 3) W1 cs1 hb1 (by simp; omega)
  have hfr : w.grownBy (W1.setCells b ((ts.length - 1) * 3) [.int .i64 0, .int .i64 0, .string ByteArray.empty]) (some b) := by
    refine grown_trans ?_ (only_setCells b _ _ _)
    rw [hW1]
    exact grown_trans grown_drew (only_setCells b _ _ _)
  have hfin : (W1.setCells b ((ts.length - 1) * 3) [.int .i64 0, .int .i64 0, .string ByteArray.empty]).ownsRow B 63 3 (.slice (some ⟨b, 0, none⟩) (ts.length - 1) cap) (ts.length - 1) (flat (ts.eraseIdx i)) := by
    refine ⟨by rw [flat_length, List.length_eraseIdx_of_lt hi], .inr ⟨b, cap, cs2, rfl, hBb, hb2, by omega, hc2, ?_, ?_⟩⟩
    · have := congrArg List.length hl2
      simp at this
      omega
    · rw [hl2, hl1]
      have ec : (cur.toList.take (i * 3)) = (flat ts).take (i * 3) := by rw [← hct, List.take_take, Nat.min_eq_left (by omega)]
      have ex : (flat ts).take (i * 3) ++ news = flat (ts.eraseIdx i) := by
        rw [hnews, ← flat_take, ← flat_append, List.eraseIdx_eq_take_drop_succ, hij]
      have exl : (flat (ts.eraseIdx i)).length = (ts.length - 1) * 3 := by rw [flat_length, List.length_eraseIdx_of_lt hi]
      rw [Nat.zero_add, ec, ex, List.take_left' exl, List.append_assoc, List.take_left' exl]
  have hcl : ∀ ty, (Builtin.clear_ #[53] ty #[.slice (some ⟨b, (i + (ts.length - j)) * 3, none⟩) (ts.length - (i + (ts.length - j))) (cap - (i + (ts.length - j)))]).run Try.prog W1 = .ok (.tuple #[]) (W1.setCells b ((ts.length - 1) * 3) [.int .i64 0, .int .i64 0, .string ByteArray.empty]) := fun ty =>
    by rw [show i + (ts.length - j) = ts.length - 1 by omega]; exact clear_run W1 ty b _ _ _ (by omega) (fun t ht => by rw [hb1.cell]; simp; omega) (fun t ht => hb1.frozen _)
  have hW : Hid (W1 = w.drew.setCells b (0 + i * 3) news) := hW1
  have HFR := Lib.hid hfr
  have HFIN := Lib.hid hfin
  have HIJ := Lib.hid hij
  have hlt : i < j := by omega
  have hjn : j ≤ ts.length := by omega
  have hjc : j ≤ cap := by omega
  have hic : i ≤ cap := by omega
  clear hown hblk hcs hct hfl hnews hlen hW1 hb1 hl1 hs1 hb2 hl2 hfr hfin hij
  go_enter Try.func41, Try.ntmps41
  go_wp2_with fail
  go_region_law (refine step_append_room rfl (.tmp 22) (.tmp 25) 53 rfl 63 i0 3 Try.underlying53 hi0 hz1 b 0 i cap (by simp [Act.eval, Act.put]) A (ts.length - j) (cap - j) news (by simp [Act.eval, Act.put]) s1.out hsrc.out s2.out (by omega) s3.out ?_; rw [← hW.out])
  go_wp2
  go_ret
  have := HIJ.out
  exact ⟨by rw [show ts.length - 1 = i + (ts.length - j) by omega]; rfl, HFIN.out, HFR.out⟩

theorem delete_any (B b cap i : Nat) (ts : List Th) (w : World) (hown : w.ownsRow B 63 3 (.slice (some ⟨b, 0, none⟩) ts.length cap) ts.length (flat ts)) (hi : i < ts.length) (hl : ts.length ≤ 1000) :
    Calls Try.prog 41 #[.slice (some ⟨b, 0, none⟩) ts.length cap, .int .i64 i, .int .i64 ((i : Int) + 1)] w fun e w' => e = .returned (.slice (some ⟨b, 0, none⟩) (ts.length - 1) cap) ∧
      w'.ownsRow B 63 3 (.slice (some ⟨b, 0, none⟩) (ts.length - 1) cap) (ts.length - 1) (flat (ts.eraseIdx i)) ∧ w.grownBy w' (some b) := by
  have h := delete_core B b cap i (i + 1) ts w hown rfl hi hl
  rwa [show (((i + 1 : Nat)) : Int) = (i : Int) + 1 by omega] at h
end Go.Proofs.Ytddjcamhhjkbfaa.CS
