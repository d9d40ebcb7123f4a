/- The example of law 25, and the law of a nil cache. -/
import Derived.Test.YtddjcamhhjkbfaaKeysI
import Derived.Test.YtddjcamhhjkbfaaPutS
namespace Go.Proofs.Ytddjcamhhjkbfaa.Laws
open Go.RowKit Go.Shelf Mem

theorem fits_nil (room : Int) (h : 0 ≤ room) (h2 : room ≤ 9223372036854775807) : CI.Fits room 0 [] := ⟨(fun t ht => by cases ht), rfl, h, h2⟩

set_option maxHeartbeats 1000000 in
theorem awake_any (w : World) :
    Calls Try.prog 7 #[] w fun e w' => e = .returned (.bool true) ∧ Below w.heap.size w w' := by
  go_enter Try.func7, Try.ntmps7
  go_wp2_with fail
  refine (CI.new_any 5 w).mono ?_
  rintro e w1 ⟨rfl, hH, hB1⟩
  have hs1 := hB1.size
  have hp1 := CI.put_ok w.heap.size w.heap.size _ 5 0 ⟨1, 3, 7⟩ [] w1 (hH w.heap.size (Nat.le_refl _)) (fits_nil 5 (by decide) (by decide)) hs1 (by decide) (by decide) (by decide)
  have HP1 := Lib.hid hp1
  have HB1 := Lib.hid hB1
  clear hH hB1 hp1
  go_wp2_with fail
  refine HP1.out.mono ?_
  rintro e w2 ⟨rfl, ⟨v2, u2, hh2, hf2⟩, hfr2⟩
  have e2 : CI.putL 5 ⟨1, 3, 7⟩ [] = [⟨1, 3, 7⟩] := rfl
  rw [e2] at hh2 hf2
  have hs2 := hfr2.size
  have HP2 := Lib.hid (CI.put_ok w.heap.size w.heap.size v2 5 u2 ⟨2, 3, 8⟩ _ w2 hh2 hf2 (by omega) (by decide) (by decide) (by decide))
  have HFR2 := Lib.hid hfr2
  clear hh2 hf2 hfr2 e2
  go_wp2_with fail
  refine HP2.out.mono ?_
  rintro e w3 ⟨rfl, ⟨v3, u3, hh3, hf3⟩, hfr3⟩
  have e3 : CI.putL 5 ⟨2, 3, 8⟩ [⟨1, 3, 7⟩] = [⟨2, 3, 8⟩] := rfl
  rw [e3] at hh3 hf3
  have hs3 := hfr3.size
  have HG1 := Lib.hid (CI.get_any w.heap.size w.heap.size v3 5 u3 1 _ w3 hh3 hf3 (by omega) (by decide))
  have HFR3 := Lib.hid hfr3
  clear hh3 hf3 hfr3 e3
  go_wp2_with fail
  refine HG1.out.mono ?_
  rintro e w4 ⟨rfl, ⟨v4, hh4⟩, hf4, hfr4⟩
  have e4 : CI.getL 1 [⟨2, 3, 8⟩] = [⟨2, 3, 8⟩] := rfl
  rw [e4] at hh4 hf4
  have hs4 := hfr4.size
  have HG2 := Lib.hid (CI.get_any w.heap.size w.heap.size v4 5 u3 2 _ w4 hh4 hf4 (by omega) (by decide))
  have HFR4 := Lib.hid hfr4
  clear hh4 hf4 hfr4 e4
  go_wp2_with fail
  refine HG2.out.mono ?_
  rintro e w5 ⟨rfl, _, _, hfr5⟩
  have HFR5 := Lib.hid hfr5
  clear hfr5
  go_wp2
  go_ret
  refine ⟨rfl, ?_⟩
  exact HB1.out.trans ((((HFR2.out.trans HFR3.out).trans HFR4.out).trans HFR5.out).below hs1)

set_option maxHeartbeats 1000000 in
theorem nil_walk (key size : Int) (w : World) :
    Calls Try.prog 6 #[.int .i64 key, .int .i64 size] w fun e w' => e = .returned (.bool true) ∧ Below w.heap.size w w' := by
  go_enter Try.func6, Try.ntmps6
  go_wp2_with fail
  refine (CI.get_nil key w).mono ?_
  rintro e w1 ⟨rfl, hB1⟩
  have HB1 := Lib.hid hB1
  clear hB1
  go_wp2_with (first | (go_at_call 19; refine (CI.clear_nil _).mono ?_; rintro e w' ⟨rfl, rfl⟩) | (go_at_call 10; refine (CI.put_arg none _ _ 1 _ (.inl rfl)).mono ?_; rintro e w' ⟨rfl, rfl⟩) | (go_at_call 14; refine (CI.used_nil _).mono ?_; rintro e w' ⟨rfl, rfl⟩) | (go_at_call 16; refine (CI.keys_nil _).mono ?_; rintro e w' ⟨rfl, rfl⟩) | (go_at_call 20; refine (CI.drop_nil _ _).mono ?_; rintro e w2 ⟨rfl, hB2⟩; have HB2 := Lib.hid hB2; clear hB2) | (go_at_call 7; refine (awake_any _).mono ?_; rintro e w3 ⟨rfl, hB3⟩; have HB3 := Lib.hid hB3; clear hB3))
  go_ret
  refine ⟨rfl, ?_⟩
  have h2 := HB1.out.trans (HB2.out.mono HB1.out.size)
  exact h2.trans (HB3.out.mono h2.size)
end Go.Proofs.Ytddjcamhhjkbfaa.Laws
