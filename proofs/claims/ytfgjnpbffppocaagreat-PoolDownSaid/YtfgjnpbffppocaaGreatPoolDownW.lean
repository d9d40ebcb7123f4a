/- palmerlaw24.PoolDown, walked. -/
import Derived.Test.YtfgjnpbffppocaaGreatPoolDown
import Derived.Outline
namespace Go.Proofs.YtfgjnpbffppocaaGreat.Pool
open Go.RowKit Go.Deep Go.ChangeShapes Go.WideShapes Mem Crc Walk
open Go.Proofs.YtfgjnpbffppocaaGreat.Store (St Chg setC none')

set_option maxHeartbeats 4000000 in
set_option maxRecDepth 100000 in
theorem down_in (a : Option Addr) (cap : Nat) (l : List (List Nat)) (sh : Int) (W : World) (hn1 : 1 ≤ l.length) (hn2 : l.length ≤ 20) (hok : ∀ x ∈ l, ok x) (hL : Lies W a (flatW l)) :
    Calls Tryz.prog 4 #[.slice a l.length cap, .int .i64 sh] W fun e w' => e = .returned (.bool true) ∧ Below W.heap.size W w' := by
  have hne : flatW l ≠ [] := fun e => by
    have := flatW_length l hok
    rw [e] at this
    simp at this
    omega
  obtain ⟨gl, ol, rfl, hgl, _⟩ := hL.resolve_left hne
  have hql : ∀ (wq : World), Below W.heap.size W wq → ∀ k x, l[k]? = some x → ∀ j u, (vals x)[j]? = some u → wq.cell? ⟨gl, ol + (k * 7 + j), none⟩ = some u := fun wq hb k x hx j u hu => cells_at hok (hL.later hb) hx j u hu
  have HQL := Lib.hid hql
  have HOK := Lib.hid hok
  have HL := Lib.hid hL
  have HNE := Lib.hid hne
  have hx0 : l[0]? = some (l[0]'(by omega)) := List.getElem?_eq_getElem _
  obtain ⟨x, hxe⟩ : ∃ x, x = l[0]'(by omega) := ⟨_, rfl⟩
  rw [← hxe] at hx0
  have hxo := hok x (List.mem_of_getElem? hx0)
  obtain ⟨a, b, c, d, e, f, g, rfl⟩ := ok_seven hxo
  have HXO := Lib.hid hxo
  have HX0 := Lib.hid hx0
  obtain ⟨n, hn⟩ : ∃ n, n = l.length := ⟨_, rfl⟩
  rw [← hn] at hn1 hn2 ⊢
  have HN := Lib.hid hn
  have t1 : decide ((n : Int) < 1) = false := by simp; omega
  have t2 : decide (20 < (n : Int)) = false := by simp; omega
  have hc0 := hql W (Below.refl _ _) 0 _ hx0
  have p0 := hc0 0 _ rfl
  have p1 := hc0 1 _ rfl
  have p2 := hc0 2 _ rfl
  have p3 := hc0 3 _ rfl
  have p4 := hc0 4 _ rfl
  have p5 := hc0 5 _ rfl
  have p6 := hc0 6 _ rfl
  simp only [Nat.add_zero, Nat.zero_mul, Nat.zero_add] at p0 p1 p2 p3 p4 p5 p6
  have HPN := Lib.hid (put_nilp sh [a, b, c, d, e, f, g] hxo W)
  clear hql hok hL hne hxe hx0 hxo hn hc0
  go_enter Tryz.func4, Tryz.ntmps4
  go_wp2_with fail
  refine (take_nilp _ _ _).mono ?_
  rintro e1 w1 ⟨rfl, hw1⟩
  obtain rfl : W = w1 := hw1.symm
  go_wp2_with fail
  refine HPN.out.mono ?_
  rintro e2 w2 ⟨rfl, hB2⟩
  have HB2 := Lib.hid hB2
  clear hB2 p0 p1 p2 p3 p4 p5 p6
  go_wp2_with fail
  refine (spill_nilp _ _).mono ?_
  rintro e3 w3 ⟨rfl, rfl⟩
  go_wp2_with fail
  refine (save_nilp _).mono ?_
  rintro e4 w4 ⟨rfl, hB4⟩
  have HB4 := Lib.hid (HB2.out.trans (hB4.mono HB2.out.size))
  clear hB4
  go_wp2_with fail
  refine (waiting_nil _ _).mono ?_
  rintro e5 w5 ⟨rfl, rfl⟩
  go_wp2_with fail
  refine (all_nilp _).mono ?_
  rintro e6 w6 ⟨rfl, rfl⟩
  go_wp2_with fail
  refine (held_nil _).mono ?_
  rintro e7 w7 ⟨rfl, rfl⟩
  have HBG := Lib.hid (begin_any w7)
  go_wp2_with fail
  refine HBG.out.mono ?_
  rintro e8 w8 ⟨dk, s, g8, cm, Q, rfl, hst, hQ, hB8⟩
  have hB8' := HB4.out.trans (hB8.mono HB4.out.size)
  have HNW : Hid (Calls Tryz.prog 7 #[.pointer (some ⟨s, 0, none⟩), .int .i64 2, .int .i64 (n : Int)] w8 fun e w' => ∃ A : Pa, e = .returned (.tuple #[.pointer (some ⟨A.p, 0, none⟩), .int .i64 0]) ∧ Pl A false w' Q (fun _ => none) no no ∧ (∀ k, allQ A Q (fun _ => none) k → W.heap.size ≤ k) ∧ A.n = 2 ∧ A.room = n ∧ A.s = s ∧ A.d = dk ∧ A.g = g8 ∧ A.N = 400 ∧ A.cm = cm ∧ Below w8.heap.size w8 w') := Lib.hid (new_at hst (fun k hk => Nat.le_trans HB4.out.size (hQ k hk)) hB8'.size 2 n (by decide) hn1 (by omega))
  have HB8 := Lib.hid hB8'
  clear hst hQ hB8 hB8'
  go_wp2_with fail
  refine HNW.out.mono ?_
  rintro e9 w9 ⟨A, rfl, hp, hq, hAn, hAr, hAs, hAd, _, _, _, hB9⟩
  have HAN := Lib.hid hAn
  have HAR := Lib.hid hAr
  have HAD := Lib.hid hAd
  have hdn : Dn A false W.heap.size (l.take 0) W w9 := ⟨⟨Q, _, no, no, hp, hq, fun _ _ => rfl, rfl, rfl⟩, HB8.out.trans (hB9.mono HB8.out.size)⟩
  have HDN := Lib.hid hdn
  clear hp hq hAn hAr hAs hAd hB9 hdn
  go_wp2_with fail
  go_loopw [13] (fun i wr => ∃ k : Nat, k ≤ n ∧ i = .int .i64 (k : Int) ∧ Hid (Dn A false W.heap.size (l.take k) W wr)) (fun i _ => n - (intOf i).toNat)
  case atStart => exact ⟨0, Nat.zero_le _, rfl, HDN⟩
  case round =>
    obtain ⟨k, hk, rfl, hI⟩ := hrel
    by_cases hlt : k < n
    · have hxk : l[k]? = some (l[k]'(by rw [← HN.out]; exact hlt)) := List.getElem?_eq_getElem _
      obtain ⟨y, hye⟩ : ∃ y, y = l[k]'(by rw [← HN.out]; exact hlt) := ⟨_, rfl⟩
      rw [← hye] at hxk
      have hyo := HOK.out y (List.mem_of_getElem? hxk)
      have hsn : l.take (k + 1) = l.take k ++ [y] := by rw [List.take_add_one, hxk]; rfl
      obtain ⟨a1, b1, c1, d1, e1, f1, g1, rfl⟩ := ok_seven hyo
      have hcl := HQL.out wr hI.out.below k _ hxk
      have p0 := hcl 0 _ rfl
      have p1 := hcl 1 _ rfl
      have p2 := hcl 2 _ rfl
      have p3 := hcl 3 _ rfl
      have p4 := hcl 4 _ rfl
      have p5 := hcl 5 _ rfl
      have p6 := hcl 6 _ rfl
      simp only [Nat.add_zero, ← Nat.add_assoc] at p0 p1 p2 p3 p4 p5 p6
      have hlk : (l.take k).length = k := by rw [List.length_take, ← HN.out]; omega
      have hpt := dn_put hI.out (Nat.le_refl _) HAN.out (by rw [hlk, HAR.out]; exact hlt) (by rw [hlk]; omega) _ hyo
      rw [← hsn] at hpt
      have HPT := Lib.hid hpt
      clear hxk hye hyo hsn hcl hlk hpt hI
      go_wp2_with fail
      refine HPT.out.mono ?_
      rintro e10 w10 ⟨rfl, hd10⟩
      have HD10 := Lib.hid hd10
      clear hd10
      go_wp2_with fail
      go_roundw
      case rel => exact ⟨k + 1, by omega, by go_num, HD10⟩
      case measure => simp [intOf]; omega
    · obtain rfl : n = k := by omega
      have hd0 := hI.out
      rw [List.take_of_length_le (by rw [HN.out]; exact Nat.le_refl _)] at hd0
      have hof := dn_off hd0 (Nat.le_refl _) HAN.out
      rw [HAD.out] at hof
      have HOF := Lib.hid hof
      clear hd0 hof hI
      go_wp2_with fail
      refine HOF.out.mono ?_
      rintro e10 w10 ⟨rfl, hd10⟩
      have hll : 1 ≤ l.length ∧ l.length ≤ 1000 := by rw [← HN.out]; omega
      have HLL := Lib.hid hll
      have hc0 := HQL.out w10 hd10.below 0 _ HX0.out
      have p0 := hc0 0 _ rfl
      have p1 := hc0 1 _ rfl
      have p2 := hc0 2 _ rfl
      have p3 := hc0 3 _ rfl
      have p4 := hc0 4 _ rfl
      have p5 := hc0 5 _ rfl
      have p6 := hc0 6 _ rfl
      simp only [Nat.add_zero, Nat.zero_mul, Nat.zero_add] at p0 p1 p2 p3 p4 p5 p6
      have HPO := Lib.hid (dn_put_off hd10 (Nat.le_refl _) HAN.out (by rw [HAR.out, HN.out]) hll _ HXO.out)
      clear hd10 hc0 hll
      go_wp2_with fail
      refine HPO.out.mono ?_
      rintro e11 w11 ⟨rfl, hd11⟩
      have HSO := Lib.hid (dn_spill_off hd11 (Nat.le_refl _) HAN.out HLL.out)
      clear hd11 p0 p1 p2 p3 p4 p5 p6
      go_wp2_with fail
      refine HSO.out.mono ?_
      rintro e12 w12 ⟨rfl, hd12⟩
      have HSV := Lib.hid (dn_save_off hd12 (Nat.le_refl _) HAN.out HLL.out)
      clear hd12
      go_wp2_with fail
      refine HSV.out.mono ?_
      rintro e13 w13 ⟨rfl, hd13⟩
      have hhd := dn_held hd13 HAN.out
      rw [← HN.out] at hhd
      have HHD := Lib.hid hhd
      have HD13 := Lib.hid hd13
      clear hd13 hhd
      go_wp2_with fail
      refine HHD.out.mono ?_
      rintro e14 w14 ⟨rfl, rfl⟩
      have hal := dn_all HD13.out (Nat.le_refl _) HAN.out HLL.out.2
      rw [← HN.out] at hal
      have HAL := Lib.hid hal
      clear hal
      go_wp2_with fail
      refine HAL.out.mono ?_
      rintro e15 w15 ⟨rfl, hd15⟩
      have htk := dn_take hd15 (Nat.le_refl _) HAN.out HLL.out
      rw [← HN.out] at htk
      have HTK := Lib.hid htk
      clear hd15 htk
      go_wp2_with fail
      refine HTK.out.mono ?_
      rintro e16 w16 ⟨v, rfl, hO16, hd16⟩
      obtain ⟨va, vc, rfl, _, hLv, _, _⟩ := own_shape hO16
      have hsm := same_eq va (some ⟨gl, ol, none⟩) vc cap l w16 hLv (HL.out.later hd16.below) HOK.out (by rw [← HN.out]; omega)
      rw [← HN.out] at hsm ⊢
      have HSM := Lib.hid hsm
      have HD16 := Lib.hid hd16
      clear hO16 hd16 hLv hsm
      go_wp2_with fail
      refine HSM.out.mono ?_
      rintro e17 w17 ⟨rfl, hb17⟩
      have hd17 := HD16.out.later (Nat.le_refl _) hb17
      have hc0 := HQL.out w17 hd17.below 0 _ HX0.out
      have p0 := hc0 0 _ rfl
      have p1 := hc0 1 _ rfl
      have p2 := hc0 2 _ rfl
      have p3 := hc0 3 _ rfl
      have p4 := hc0 4 _ rfl
      have p5 := hc0 5 _ rfl
      have p6 := hc0 6 _ rfl
      simp only [Nat.add_zero, Nat.zero_mul, Nat.zero_add] at p0 p1 p2 p3 p4 p5 p6
      have HPL := Lib.hid (dn_put_last hd17 (Nat.le_refl _) HAN.out (by rw [HAR.out]; exact hn1) _ HXO.out)
      clear hd17 hc0 hb17
      go_wp2_with fail
      refine HPL.out.mono ?_
      rintro e18 w18 ⟨rfl, hb18⟩
      have HAW := Lib.hid (awake_any w18)
      have HB18 := Lib.hid hb18
      clear hb18 p0 p1 p2 p3 p4 p5 p6
      go_wp2_with fail
      refine HAW.out.mono ?_
      rintro e19 w19 ⟨rfl, hb19⟩
      have HB19 := Lib.hid hb19
      clear hb19
      go_wp2_with fail
      go_ret
      exact ⟨rfl, HB18.out.trans (HB19.out.mono HB18.out.size)⟩
set_option maxRecDepth 100000 in
theorem down_law {H : Type} {enc : TypeId × Value → H} {base : Nat} (v0 v1 : Value) (d0 d1 : DataW H) (p0 p1 : List MemPlace) (W : World)
    (q0 : Value.okWide Tryz.prog W .any base 22 v0) (h0 : DataW.Trod enc Tryz.prog W 0 (fun _ => true) true 22 v0 d0 p0)
    (q1 : Value.okWide Tryz.prog W .any base 3 v1) (h1 : DataW.Trod enc Tryz.prog W 0 (fun _ => true) true 3 v1 d1 p1) :
    Calls Tryz.prog 4 #[v0, v1] W fun e w' => e = .returned (.bool true) ∧ Below W.heap.size W w' := by
  obtain ⟨a, cap, l, rfl, _, _, hok, hL⟩ := walkers_open q0 h0
  obtain ⟨k0, rfl, _⟩ := Args.int_open Tryz.underlying3 q1 h1
  by_cases h : l.length < 1 ∨ 20 < l.length
  · exact down_out a l.length cap _ W h
  · exact down_in a cap l k0 W (by omega) (by omega) hok hL
end Go.Proofs.YtfgjnpbffppocaaGreat.Pool
