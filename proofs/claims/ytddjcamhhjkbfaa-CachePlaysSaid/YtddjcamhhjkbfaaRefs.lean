/- The reference of law 25: its functions on rows that lie still. -/
import Derived.Test.YtddjcamhhjkbfaaLaws
import Derived.Test.YtddjcamhhjkbfaaArgs
import Derived.Maps.AppendAt
namespace Go.Proofs.Ytddjcamhhjkbfaa.Refs
open Go.RowKit Go.Shelf Mem Args
open CI (Th flat total)

def RowO (w : World) (b off : Nat) (ts : List Th) : Prop := ∀ i t, ts[i]? = some t → w.cell? ⟨b, off + i * 3, none⟩ = some (.int .i64 t.key) ∧ w.cell? ⟨b, off + i * 3 + 1, none⟩ = some (.int .i64 t.size) ∧ w.cell? ⟨b, off + i * 3 + 2, none⟩ = some (.int .i64 t.x)
theorem RowO.below {w w' : World} {B b off : Nat} {ts : List Th} (h : RowO w b off ts) (hB : Below B w w') (hb : b < B) : RowO w' b off ts := fun i t ht => by
  obtain ⟨h0, h1, h2⟩ := h i t ht
  exact ⟨(hB.cell (p := ⟨b, _, none⟩) hb).trans h0, (hB.cell (p := ⟨b, _, none⟩) hb).trans h1, (hB.cell (p := ⟨b, _, none⟩) hb).trans h2⟩
theorem find_at {p : Th → Bool} : ∀ {ts : List Th} {k : Nat} {t : Th}, (∀ y ∈ ts.take k, p y = false) → ts[k]? = some t → p t = true → ts.find? p = some t
  | [], k, t, _, h, _ => by simp at h
  | y :: r, 0, t, _, h, hp => by
    obtain rfl : y = t := by simpa using h
    simp [hp]
  | y :: r, k + 1, t, hn, h, hp => by
    have hy := hn y (by simp)
    rw [List.find?_cons, hy]
    exact find_at (k := k) (fun z hz => hn z (by simp [hz])) (by simpa using h) hp

set_option maxHeartbeats 1000000 in
theorem find_any (b off cap : Nat) (key : Int) (ts : List Th) (w : World) (h : RowO w b off ts) (hb : b < w.heap.size) (hl : ts.length ≤ 1000) :
    Calls Try.prog 30 #[.slice (some ⟨b, off, none⟩) ts.length cap, .int .i64 key] w fun e w' => e = .returned (.tuple #[((ts.find? (fun t => t.key == key)).getD Th.zero).v, .bool (ts.find? (fun t => t.key == key)).isSome]) ∧ Below w.heap.size w w' := by
  have HR := Lib.hid h
  clear h
  go_enter Try.func30, Try.ntmps30
  go_wp2_with fail
  go_loopw [9] (fun i wr => ∃ k : Nat, k ≤ ts.length ∧ i = .int .i64 k ∧ Hid (∀ y ∈ ts.take k, (y.key == key) = false) ∧ Hid (Below w.heap.size w wr) ∧ Hid (Blk wr w.heap.size 47 #[.int .i64 0, .int .i64 0, .int .i64 0])) (fun i _ => ts.length - (intOf i).toNat)
  case atStart => exact ⟨0, Nat.zero_le _, rfl, (by intro y hy; simp at hy), (Below.refl _ w).alloc (Nat.le_refl _) _, Blk.new _ _ _⟩
  case round =>
    obtain ⟨k, hk, rfl, hno, hB, hbl⟩ := hrel
    have hs := hB.out.size
    have hsl := hbl.out.lt
    have q0 := hbl.out.cell 0
    have q1 := hbl.out.cell 1
    have q2 := hbl.out.cell 2
    simp at q0 q1 q2
    have l0 := hbl.out.frozen 0
    have l1 := hbl.out.frozen 1
    have l2 := hbl.out.frozen 2
    by_cases hlt : k < ts.length
    · obtain ⟨t, ht⟩ : ∃ t, ts[k]? = some t := ⟨_, List.getElem?_eq_getElem hlt⟩
      obtain ⟨f1, f2, f3⟩ := (HR.out.below hB.out hb) k t ht
      have HT := Lib.hid ht
      clear ht
      by_cases hkey : (t.key == key) = true
      · have hf := find_at hno.out HT.out hkey
        have hne : b ≠ w.heap.size := by omega
        have HE := Lib.hid hf
        clear hf
        go_wp2_with fail
        have bf := ((hbl.out.set 0 (.int .i64 t.key)).set 1 (.int .i64 t.size)).set 2 (.int .i64 t.x)
        have r0 := bf.cell 0
        have r1 := bf.cell 1
        have r2 := bf.cell 2
        simp at r0 r1 r2
        refine bodyPost_ret (v := .tuple #[t.v, .bool true]) (by simp [results, Try.results30, go_sem, r0, r1, r2, Th.v]) rfl ⟨by rw [HE.out]; rfl, ?_⟩
        exact ((hB.out.setCell (p := ⟨_, 0, none⟩) (Nat.le_refl _) _).setCell (p := ⟨_, 1, none⟩) (Nat.le_refl _) _).setCell (p := ⟨_, 2, none⟩) (Nat.le_refl _) _
      · have hkey : (t.key == key) = false := by simpa using hkey
        go_wp2_with fail
        refine ⟨⟨k + 1, by omega, by simp, fun y hy => ?_, hB, hbl⟩, ?_⟩
        · rw [List.take_add_one, HT.out] at hy
          rcases List.mem_append.1 hy with hy | hy
          · exact hno.out y hy
          · obtain rfl : y = t := by simpa using hy
            exact hkey
        · simp [intOf]; omega
    · obtain rfl : k = ts.length := by omega
      have hf : ts.find? (fun t => t.key == key) = none := by
        rw [List.find?_eq_none]
        intro y hy
        have := hno.out y (by rw [List.take_length]; exact hy)
        simp [this]
      have HE := Lib.hid hf
      clear hf
      go_wp2_with fail
      have bf := ((hbl.out.set 0 (.int .i64 0)).set 1 (.int .i64 0)).set 2 (.int .i64 0)
      have r0 := bf.cell 0
      have r1 := bf.cell 1
      have r2 := bf.cell 2
      simp at r0 r1 r2
      refine bodyPost_ret (v := .tuple #[Th.zero.v, .bool false]) (by simp [results, Try.results30, go_sem, r0, r1, r2, Th.v, Th.zero]) rfl ⟨by rw [HE.out]; rfl, ?_⟩
      exact ((hB.out.setCell (p := ⟨_, 0, none⟩) (Nat.le_refl _) _).setCell (p := ⟨_, 1, none⟩) (Nat.le_refl _) _).setCell (p := ⟨_, 2, none⟩) (Nat.le_refl _) _
set_option maxHeartbeats 1000000 in
theorem used_any (b off cap : Nat) (ts : List Th) (w : World) (h : RowO w b off ts) (hl : ts.length ≤ 1000) (hp : ∀ t ∈ ts, 0 ≤ t.size) (ht : total ts ≤ 9223372036854775807) :
    Calls Try.prog 18 #[.slice (some ⟨b, off, none⟩) ts.length cap] w fun e w' => e = .returned (.int .i64 (total ts)) ∧ w = w' := by
  have HR := Lib.hid h
  have HP := Lib.hid hp
  clear h hp
  go_enter Try.func18, Try.ntmps18
  go_wp2_with fail
  go_loopw [3, 7] (fun o i wr => ∃ k : Nat, k ≤ ts.length ∧ i = .int .i64 k ∧ o = .int .i64 (total (ts.take k)) ∧ w = wr) (fun _ i _ => ts.length - (intOf i).toNat)
  case atStart => exact ⟨0, Nat.zero_le _, rfl, rfl, rfl⟩
  case round =>
    obtain ⟨k, hk, rfl, rfl, rfl⟩ := hrel
    by_cases hlt : k < ts.length
    · obtain ⟨t, ht'⟩ : ∃ t, ts[k]? = some t := ⟨_, List.getElem?_eq_getElem hlt⟩
      obtain ⟨f1, f2, f3⟩ := HR.out k t ht'
      have e1 : total (ts.take (k + 1)) = total (ts.take k) + t.size := by
        rw [List.take_add_one, ht', CI.total_append]; simp [total]
      have h0 : 0 ≤ total (ts.take k) := CI.total_nonneg (fun t ht => HP.out t (List.mem_of_mem_take ht))
      have h1 : 0 ≤ t.size := HP.out t (List.mem_of_getElem? ht')
      have h2 : total ts = total (ts.take (k + 1)) + total (ts.drop (k + 1)) := by rw [← CI.total_append, List.take_append_drop]
      have h3 : 0 ≤ total (ts.drop (k + 1)) := CI.total_nonneg (fun t ht => HP.out t (List.mem_of_mem_drop ht))
      have hw : IntKind.i64.wrap (total (ts.take k) + t.size) = total (ts.take k) + t.size := IntWalk.i64_in _ (by omega)
      have HE := Lib.hid e1
      clear e1 h2 h3 ht'
      go_wp2_with fail
      refine ⟨⟨k + 1, by omega, by simp, by rw [HE.out], trivial⟩, ?_⟩
      simp [intOf]; omega
    · obtain rfl : k = ts.length := by omega
      go_wp2_with fail
      go_ret
      exact ⟨by rw [List.take_length]; rfl, rfl⟩
end Go.Proofs.Ytddjcamhhjkbfaa.Refs
