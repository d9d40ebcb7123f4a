/- The reference of law 25: Without. -/
import Derived.Test.YtddjcamhhjkbfaaRefs
namespace Go.Proofs.Ytddjcamhhjkbfaa.Refs
open Go.RowKit Go.Shelf Mem Args
open CI (Th flat total)

theorem infoT : (Try.prog.info? 47).map (fun i => (i.zero, i.size, i.bytes)) = some (some (.agg #[.int .i64 0, .int .i64 0, .int .i64 0]), 3, 24) := by kernel_rfl
def no (key : Int) (ts : List Th) : List Th := ts.filter (fun t => t.key != key)

set_option maxHeartbeats 1000000 in
theorem without_any (b off cap : Nat) (key : Int) (ts : List Th) (w : World) (h : RowO w b off ts) (hb : b < w.heap.size) (hl : ts.length ≤ 1000) :
    Calls Try.prog 33 #[.slice (some ⟨b, off, none⟩) ts.length cap, .int .i64 key] w fun e w' => ∃ v', e = .returned v' ∧ w'.ownsRow w.heap.size 47 3 v' (no key ts).length (flat (no key ts)) ∧ (∃ g cap, v' = .slice (some ⟨g, 0, none⟩) (no key ts).length cap) ∧ Below w.heap.size w w' := by
  obtain ⟨i0, hi, hz0, hz1, hz2⟩ := info_parts infoT
  have HR := Lib.hid h
  clear h
  go_enter Try.func33, Try.ntmps33
  go_wp2_with fail
  go_loopw [5, 10] (fun o i wr => ∃ k : Nat, k ≤ ts.length ∧ i = .int .i64 k ∧ Hid (wr.ownsRow w.heap.size 47 3 o (no key (ts.take k)).length (flat (no key (ts.take k)))) ∧ Hid (∃ g cap, o = .slice (some ⟨g, 0, none⟩) (no key (ts.take k)).length cap) ∧ Hid (Below w.heap.size w wr)) (fun _ i _ => ts.length - (intOf i).toNat)
  case atStart => exact ⟨0, Nat.zero_le _, rfl, World.ownsRow_lit w #[] 0 (Nat.le_refl _) (by decide) rfl, ⟨_, _, rfl⟩, (Below.refl _ w).alloc (Nat.le_refl _) _⟩
  case round =>
    obtain ⟨k, hk, rfl, hown, hsome, hB⟩ := hrel
    have hs := hB.out.size
    by_cases hlt : k < ts.length
    · obtain ⟨t, ht⟩ : ∃ t, ts[k]? = some t := ⟨_, List.getElem?_eq_getElem hlt⟩
      obtain ⟨f1, f2, f3⟩ := (HR.out.below hB.out hb) k t ht
      have htk : ts.take (k + 1) = ts.take k ++ [t] := by rw [List.take_add_one, ht]; rfl
      have HT := Lib.hid htk
      clear ht htk
      by_cases hkey : (t.key == key) = true
      · have hkey' : (t.key != key) = false := by simpa using hkey
        have en : Hid (no key (ts.take (k + 1)) = no key (ts.take k)) := by
          show no key _ = _
          unfold no
          rw [HT.out, List.filter_append]; simp [hkey']
        go_wp2_with fail
        refine ⟨⟨k + 1, by omega, by simp, ?_, ?_, hB⟩, by simp [intOf]; omega⟩
        · rw [en.out]; exact hown
        · rw [en.out]; exact hsome
      · have hkey : (t.key == key) = false := by simpa using hkey
        have hkey' : (t.key != key) = true := by simpa using hkey
        have en : Hid (no key (ts.take (k + 1)) = no key (ts.take k) ++ [t]) := by
          show no key _ = _
          unfold no
          rw [HT.out, List.filter_append]; simp [hkey']
        have hnl : (no key (ts.take k)).length ≤ k := by
          have := List.length_filter_le (fun t : Th => t.key != key) (ts.take k)
          have h2 : (ts.take k).length ≤ k := by rw [List.length_take]; omega
          unfold no
          omega
        have HN : Hid (∀ j u, t.vs[j]? = some u → (wr.alloc (.cells #[.int .i64 t.key, .int .i64 t.size, .int .i64 t.x] 47)).cell? ((⟨wr.heap.size, 0, none⟩ : Addr).add j) = some u) := fun j u h => by
          have hbn := Blk.new wr 47 #[.int .i64 t.key, .int .i64 t.size, .int .i64 t.x]
          rw [CI.addr_add, hbn.cell]
          simpa [CI.Th.vs] using h
        have hone : Hid (∀ u ∈ t.vs, u.oneCell' = true) := by
          intro u hu
          simp only [CI.Th.vs, List.mem_cons, List.not_mem_nil, or_false] at hu
          rcases hu with rfl | rfl | rfl <;> rfl
        have HO := Lib.hid (hown.out.alloc (.cells #[.int .i64 t.key, .int .i64 t.size, .int .i64 t.x] 47))
        go_wp2_with (at_builtin; refine wpList_append_own _ rfl _ _ 42 rfl w.heap.size 47 i0 (.agg #[.int .i64 0, .int .i64 0, .int .i64 0]) 3 24 Try.underlying42 hi hz0 hz1 hz2 rfl (by decide) _ _ _ rfl HO.out ⟨wr.heap.size, 0, none⟩ 1 1 t.vs rfl rfl HN.out hone.out (by unfold maxLen; omega) (by omega) (by simp; omega) ?_; intro v' w1 hown' hgrow _)
        go_roundw
        case rel =>
          refine ⟨k + 1, by omega, by go_num, ?_, ?_, ?_⟩
          · rw [en.out]
            show w1.ownsRow _ _ 3 _ _ _
            have ef : flat (no key (ts.take k) ++ [t]) = flat (no key (ts.take k)) ++ t.vs := by simp [flat]
            rw [ef, List.length_append]
            exact hown'
          · rw [en.out]
            rcases hown'.2 with ⟨_, h0⟩ | ⟨g, cp, cur, e', _⟩
            · omega
            · exact ⟨g, cp, by rw [e', List.length_append]; rfl⟩
          · exact (hB.out.alloc hs _).grown hgrow (by simp; omega) (fun j hj => (HO.out.lt j hj).1)
        case measure => simp [intOf]; omega
    · obtain rfl : k = ts.length := by omega
      go_wp2_with fail
      go_ret
      exact ⟨_, rfl, by have := hown.out; rw [List.take_length] at this; exact this, by have := hsome.out; rw [List.take_length] at this; exact this, hB.out⟩
end Go.Proofs.Ytddjcamhhjkbfaa.Refs
