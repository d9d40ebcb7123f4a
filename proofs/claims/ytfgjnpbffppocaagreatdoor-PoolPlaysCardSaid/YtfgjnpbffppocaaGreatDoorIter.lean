/- What the shelf laid. -/
import Derived.Shelf.SlIter.Nil
import Derived.Shelf.SortM.Plain
import Derived.Shelf.SortM.SortNone
import Derived.Ground.GgzProg
import Derived.Ground.SlgmProg
import Derived.Test.YtfgjnpbffppocaaGreatDoorProg
namespace Go.Proofs
open Go.Shelf
def Tryz.keys51_ren : Go.Shelf.Ren := ⟨fun | 7 => 51 | 10 => 84 | n => n, fun | 23 => 112 | 26 => 9 | 3 => 113 | 28 => 118 | 0 => 0 | 27 => 117 | 33 => 122 | 4 => 4 | n => n, fun | n => n⟩
theorem Tryz.keys51 : Go.Proofs.SlLaysZ.n7 Tryz.prog Tryz.keys51_ren := {
  mixed := by kernel_rfl
  f7 := ⟨Tryz.f51.name, by decide, Tryz.func51.trans (congrArg some (by kernel_rfl))⟩
  f10 := ⟨Tryz.f84.name, by decide, Tryz.func84.trans (congrArg some (by kernel_rfl))⟩
  t0 := Tryz.underlying0
  a0 := Tryz.isAgg0
  z0 := Tryz.sizeOf0
  v0 := Tryz.zeroValue0
  t4 := Tryz.underlying4
  a4 := Tryz.isAgg4
  z4 := Tryz.sizeOf4
  v4 := Tryz.zeroValue4
  t23 := Tryz.underlying112
  a23 := Tryz.isAgg112
  z23 := Tryz.sizeOf112
  v23 := Tryz.zeroValue112
  t26 := Tryz.underlying9
  a26 := Tryz.isAgg9
  z26 := Tryz.sizeOf9
  v26 := Tryz.zeroValue9
  t27 := Tryz.underlying117
  a27 := Tryz.isAgg117
  z27 := Tryz.sizeOf117
  v27 := Tryz.zeroValue117
  t28 := Tryz.underlying118
  a28 := Tryz.isAgg118
  z28 := Tryz.sizeOf118
  v28 := Tryz.zeroValue118
  t33 := Tryz.underlying122
  a33 := Tryz.isAgg122
  z33 := Tryz.sizeOf122
  v33 := Tryz.zeroValue122 }
def Tryz.sorted50_ren : Go.Shelf.Ren := ⟨fun | 6 => 50 | 8 => 82 | 9 => 83 | 11 => 116 | 13 => 118 | 12 => 117 | 23 => 150 | 24 => 151 | 14 => 142 | 15 => 143 | 16 => 144 | 17 => 145 | 18 => 146 | 19 => 147 | 20 => 52 | 21 => 148 | 22 => 149 | 25 => 160 | 26 => 161 | 27 => 162 | 28 => 163 | 29 => 164 | 30 => 85 | 31 => 169 | n => n, fun | 26 => 9 | 28 => 118 | 24 => 66 | 0 => 0 | 3 => 3 | 37 => 120 | 48 => 24 | 50 => 98 | 4 => 4 | 40 => 226 | 39 => 225 | 45 => 68 | 5 => 5 | 9 => 9 | 51 => 245 | 55 => 249 | 57 => 253 | 58 => 254 | 33 => 122 | n => n, fun | n => n⟩
theorem Tryz.sorted50 : Go.Proofs.SlLaysZ.n6 Tryz.prog Tryz.sorted50_ren := {
  mixed := by kernel_rfl
  f6 := ⟨Tryz.f50.name, by decide, Tryz.func50.trans (congrArg some (by kernel_rfl))⟩
  f8 := ⟨Tryz.f82.name, by decide, Tryz.func82.trans (congrArg some (by kernel_rfl))⟩
  f11 := ⟨Tryz.f116.name, by decide, Tryz.func116.trans (congrArg some (by kernel_rfl))⟩
  t0 := Tryz.underlying0
  a0 := Tryz.isAgg0
  z0 := Tryz.sizeOf0
  v0 := Tryz.zeroValue0
  t24 := Tryz.underlying66
  a24 := Tryz.isAgg66
  z24 := Tryz.sizeOf66
  v24 := Tryz.zeroValue66
  t26 := Tryz.underlying9
  a26 := Tryz.isAgg9
  z26 := Tryz.sizeOf9
  v26 := Tryz.zeroValue9
  t28 := Tryz.underlying118
  a28 := Tryz.isAgg118
  z28 := Tryz.sizeOf118
  v28 := Tryz.zeroValue118
  i26 := by kernel_rfl }
def Tryz.sort83_ren : Go.Shelf.Ren := ⟨fun | 6 => 83 | 8 => 118 | 9 => 117 | 19 => 150 | 20 => 151 | 21 => 142 | 22 => 143 | 23 => 144 | 24 => 145 | 25 => 146 | 26 => 147 | 27 => 52 | 28 => 148 | 29 => 149 | 36 => 160 | 31 => 161 | 32 => 162 | 37 => 163 | 38 => 164 | 39 => 85 | 41 => 169 | n => n, fun | 27 => 66 | 29 => 9 | 3 => 3 | 32 => 120 | 26 => 66 | 0 => 0 | 44 => 24 | 46 => 98 | 4 => 4 | 36 => 226 | 35 => 225 | 41 => 68 | 5 => 5 | 9 => 9 | 53 => 245 | 57 => 249 | 63 => 253 | 64 => 254 | n => n, fun | n => n⟩
theorem Tryz.sort83 : Go.Proofs.SlLaysM.n6 Tryz.prog Tryz.sort83_ren := {
  mixed := by kernel_rfl
  f6 := ⟨Tryz.f83.name, by decide, Tryz.func83.trans (congrArg some (by kernel_rfl))⟩
  f8 := Tryz.func118.trans (congrArg some (by kernel_rfl))
  f9 := ⟨Tryz.f117.name, by decide, Tryz.func117.trans (congrArg some (by kernel_rfl))⟩
  f19 := Tryz.func150.trans (congrArg some (by kernel_rfl))
  f20 := Tryz.func151.trans (congrArg some (by kernel_rfl))
  f21 := ⟨Tryz.f142.name, by decide, Tryz.func142.trans (congrArg some (by kernel_rfl))⟩
  f22 := ⟨Tryz.f143.name, by decide, Tryz.func143.trans (congrArg some (by kernel_rfl))⟩
  f23 := ⟨Tryz.f144.name, by decide, Tryz.func144.trans (congrArg some (by kernel_rfl))⟩
  f24 := ⟨Tryz.f145.name, by decide, Tryz.func145.trans (congrArg some (by kernel_rfl))⟩
  f25 := ⟨Tryz.f146.name, by decide, Tryz.func146.trans (congrArg some (by kernel_rfl))⟩
  f26 := ⟨Tryz.f147.name, by decide, Tryz.func147.trans (congrArg some (by kernel_rfl))⟩
  f27 := ⟨Tryz.f52.name, by decide, Tryz.func52.trans (congrArg some (by kernel_rfl))⟩
  f28 := ⟨Tryz.f148.name, by decide, Tryz.func148.trans (congrArg some (by kernel_rfl))⟩
  f29 := ⟨Tryz.f149.name, by decide, Tryz.func149.trans (congrArg some (by kernel_rfl))⟩
  f31 := Tryz.func161.trans (congrArg some (by kernel_rfl))
  f32 := Tryz.func162.trans (congrArg some (by kernel_rfl))
  f36 := ⟨Tryz.f160.name, by decide, Tryz.func160.trans (congrArg some (by kernel_rfl))⟩
  f37 := ⟨Tryz.f163.name, by decide, Tryz.func163.trans (congrArg some (by kernel_rfl))⟩
  f38 := ⟨Tryz.f164.name, by decide, Tryz.func164.trans (congrArg some (by kernel_rfl))⟩
  f39 := ⟨Tryz.f85.name, by decide, Tryz.func85.trans (congrArg some (by kernel_rfl))⟩
  f41 := ⟨Tryz.f169.name, by decide, Tryz.func169.trans (congrArg some (by kernel_rfl))⟩
  t0 := Tryz.underlying0
  a0 := Tryz.isAgg0
  z0 := Tryz.sizeOf0
  v0 := Tryz.zeroValue0
  t3 := Tryz.underlying3
  a3 := Tryz.isAgg3
  z3 := Tryz.sizeOf3
  v3 := Tryz.zeroValue3
  t4 := Tryz.underlying4
  a4 := Tryz.isAgg4
  z4 := Tryz.sizeOf4
  v4 := Tryz.zeroValue4
  t5 := Tryz.underlying5
  a5 := Tryz.isAgg5
  z5 := Tryz.sizeOf5
  v5 := Tryz.zeroValue5
  t9 := Tryz.underlying9
  a9 := Tryz.isAgg9
  z9 := Tryz.sizeOf9
  v9 := Tryz.zeroValue9
  t26 := Tryz.underlying66
  a26 := Tryz.isAgg66
  z26 := Tryz.sizeOf66
  v26 := Tryz.zeroValue66
  t27 := Tryz.underlying66
  a27 := Tryz.isAgg66
  z27 := Tryz.sizeOf66
  v27 := Tryz.zeroValue66
  t29 := Tryz.underlying9
  a29 := Tryz.isAgg9
  z29 := Tryz.sizeOf9
  v29 := Tryz.zeroValue9
  t32 := Tryz.underlying120
  a32 := Tryz.isAgg120
  z32 := Tryz.sizeOf120
  v32 := Tryz.zeroValue120
  t35 := Tryz.underlying225
  a35 := Tryz.isAgg225
  z35 := Tryz.sizeOf225
  v35 := Tryz.zeroValue225
  t36 := Tryz.underlying226
  a36 := Tryz.isAgg226
  z36 := Tryz.sizeOf226
  v36 := Tryz.zeroValue226
  t41 := Tryz.underlying68
  a41 := Tryz.isAgg68
  z41 := Tryz.sizeOf68
  v41 := Tryz.zeroValue68
  t44 := Tryz.underlying24
  a44 := Tryz.isAgg24
  z44 := Tryz.sizeOf24
  v44 := Tryz.zeroValue24
  t46 := Tryz.underlying98
  a46 := Tryz.isAgg98
  z46 := Tryz.sizeOf98
  v46 := Tryz.zeroValue98
  t53 := Tryz.underlying245
  a53 := Tryz.isAgg245
  z53 := Tryz.sizeOf245
  v53 := Tryz.zeroValue245
  t57 := Tryz.underlying249
  a57 := Tryz.isAgg249
  z57 := Tryz.sizeOf249
  v57 := Tryz.zeroValue249
  t63 := Tryz.underlying253
  a63 := Tryz.isAgg253
  z63 := Tryz.sizeOf253
  v63 := Tryz.zeroValue253
  t64 := Tryz.underlying254
  a64 := Tryz.isAgg254
  z64 := Tryz.sizeOf254
  v64 := Tryz.zeroValue254 }
open Go.RowKit Go.Maps Go.Sort in
theorem Tryz.sorts50 (m : Nat) : AnyZ.SortsIn Tryz.prog Tryz.sorted50_ren Fence.wide m :=
  ⟨fun blk off cap ss W hH hblk hsz => callsIn_wide.2 (AnyM.slices_Sort_string Tryz.sort83 blk off cap ss W hH hblk hsz),
   fun p cap W => callsIn_wide.2 (AnyM.slices_Sort_string_none Tryz.sort83 p cap W)⟩
open Go.RowKit Go.Maps Go.Sort in
theorem Tryz.maps_Keys_51 (mb : Option Nat) (W : World) : CallsIn Fence.wide 5 Tryz.prog 51 #[.map mb] W fun e w' => e = .returned (.func (.func 84) #[] #[.pointer (some ⟨W.heap.size, 0, none⟩)]) ∧ w' = W.alloc (.cells #[.map mb] 112) :=
  AnyZ.keys_in Tryz.keys51 Fence.wide 5 trivial rfl mb W
open Go.RowKit Go.Maps Go.Sort in
theorem Tryz.slices_Sorted_keys_50_51 {H : Type} (b nn : Nat) (D0 : DataW H) (R : Value → Option (DataW H × List MemPlace)) (w : World) (hown : w.ownsMap Tryz.prog 9 R b nn D0) (hmax : Maps.size D0 ≤ maxLen) (hbytes : Maps.size D0 * 16 ≤ 140737488355328) :
    CallsIn Fence.wide 5 Tryz.prog 50 #[.func (.func 84) #[] #[.pointer (some ⟨w.heap.size, 0, none⟩)]] (w.alloc (.cells #[.map (some b)] 112)) fun e w' => ∃ (v : Value) (ss : List (List UInt8)), e = .returned v ∧ ss.Perm (strKeys D0) ∧
      w'.ownsRow (w.alloc (.cells #[.map (some b)] 112)).heap.size 9 1 v ss.length ((ss.mergeSort (fun x y => decide (x ≤ y))).map encStr) ∧ (v = .slice none 0 0 ↔ ss = []) ∧ Below (w.alloc (.cells #[.map (some b)] 112)).heap.size (w.alloc (.cells #[.map (some b)] 112)) w' := by
  have hbl := hown.lt
  have hseq : SeqGives Fence.wide 2 Tryz.prog 84 #[.pointer (some ⟨w.heap.size, 0, none⟩)] encStr (fun ss => ss.Perm (strKeys D0)) (Maps.size D0) (w.alloc (.cells #[.map (some b)] 112)) :=
    AnyZ.keys_gives (ρ := Tryz.keys51_ren) { Tryz.keys51 with } Fence.wide _ trivial rfl (by omega) w.heap.size b nn D0 _ (by simp) (by simp) (by
      obtain ⟨es, clock, hb, Ft, hs, hD⟩ := hown
      exact ⟨es, clock, (Below.heap_alloc _ _ b hbl).trans hb, Ft, hs, hD⟩)
  exact AnyZ.sorted_in Tryz.sorted50 Fence.wide 5 trivial trivial trivial trivial rfl (by omega) (Tryz.sorts50 _) (enters_of Tryz.func83 (by kernel_rfl) rfl) 84 #[.pointer (some ⟨w.heap.size, 0, none⟩)] trivial (enters_of Tryz.func84 (by kernel_rfl) rfl) _ _ hmax hbytes _ hseq
open Go.RowKit Go.Maps Go.Sort in
theorem Tryz.slices_Sorted_keys_nil_50_51 (w : World) :
    CallsIn Fence.wide 5 Tryz.prog 50 #[.func (.func 84) #[] #[.pointer (some ⟨w.heap.size, 0, none⟩)]] (w.alloc (.cells #[.map none] 112)) fun e w' => ∃ (v : Value) (ss : List (List UInt8)), e = .returned v ∧ ss = [] ∧
      w'.ownsRow (w.alloc (.cells #[.map none] 112)).heap.size 9 1 v ss.length ((ss.mergeSort (fun x y => decide (x ≤ y))).map encStr) ∧ (v = .slice none 0 0 ↔ ss = []) ∧ Below (w.alloc (.cells #[.map none] 112)).heap.size (w.alloc (.cells #[.map none] 112)) w' := by
  have hseq : SeqGives Fence.wide 2 Tryz.prog 84 #[.pointer (some ⟨w.heap.size, 0, none⟩)] encStr (fun ss : List (List UInt8) => ss = []) 0 (w.alloc (.cells #[.map none] 112)) :=
    AnyZ.keys_gives_nil (ρ := Tryz.keys51_ren) { Tryz.keys51 with } Fence.wide _ trivial rfl w.heap.size _ (by simp) (by simp)
  exact AnyZ.sorted_in Tryz.sorted50 Fence.wide 5 trivial trivial trivial trivial rfl (by omega) (Tryz.sorts50 _) (enters_of Tryz.func83 (by kernel_rfl) rfl) 84 #[.pointer (some ⟨w.heap.size, 0, none⟩)] trivial (enters_of Tryz.func84 (by kernel_rfl) rfl) _ 0 (Nat.zero_le _) (by omega) _ hseq
def Tryz.keys93_ren : Go.Shelf.Ren := ⟨fun | 7 => 93 | 10 => 123 | n => n, fun | 23 => 109 | 26 => 9 | 3 => 115 | 28 => 118 | 0 => 0 | 27 => 117 | 33 => 122 | 4 => 4 | n => n, fun | n => n⟩
theorem Tryz.keys93 : Go.Proofs.SlLaysZ.n7 Tryz.prog Tryz.keys93_ren := {
  mixed := by kernel_rfl
  f7 := ⟨Tryz.f93.name, by decide, Tryz.func93.trans (congrArg some (by kernel_rfl))⟩
  f10 := ⟨Tryz.f123.name, by decide, Tryz.func123.trans (congrArg some (by kernel_rfl))⟩
  t0 := Tryz.underlying0
  a0 := Tryz.isAgg0
  z0 := Tryz.sizeOf0
  v0 := Tryz.zeroValue0
  t4 := Tryz.underlying4
  a4 := Tryz.isAgg4
  z4 := Tryz.sizeOf4
  v4 := Tryz.zeroValue4
  t23 := Tryz.underlying109
  a23 := Tryz.isAgg109
  z23 := Tryz.sizeOf109
  v23 := Tryz.zeroValue109
  t26 := Tryz.underlying9
  a26 := Tryz.isAgg9
  z26 := Tryz.sizeOf9
  v26 := Tryz.zeroValue9
  t27 := Tryz.underlying117
  a27 := Tryz.isAgg117
  z27 := Tryz.sizeOf117
  v27 := Tryz.zeroValue117
  t28 := Tryz.underlying118
  a28 := Tryz.isAgg118
  z28 := Tryz.sizeOf118
  v28 := Tryz.zeroValue118
  t33 := Tryz.underlying122
  a33 := Tryz.isAgg122
  z33 := Tryz.sizeOf122
  v33 := Tryz.zeroValue122 }
open Go.RowKit Go.Maps Go.Sort in
theorem Tryz.maps_Keys_93 (mb : Option Nat) (W : World) : CallsIn Fence.wide 5 Tryz.prog 93 #[.map mb] W fun e w' => e = .returned (.func (.func 123) #[] #[.pointer (some ⟨W.heap.size, 0, none⟩)]) ∧ w' = W.alloc (.cells #[.map mb] 109) :=
  AnyZ.keys_in Tryz.keys93 Fence.wide 5 trivial rfl mb W
open Go.RowKit Go.Maps Go.Sort in
theorem Tryz.slices_Sorted_keys_50_93 {H : Type} (b nn : Nat) (D0 : DataW H) (R : Value → Option (DataW H × List MemPlace)) (w : World) (hown : w.ownsMap Tryz.prog 9 R b nn D0) (hmax : Maps.size D0 ≤ maxLen) (hbytes : Maps.size D0 * 16 ≤ 140737488355328) :
    CallsIn Fence.wide 5 Tryz.prog 50 #[.func (.func 123) #[] #[.pointer (some ⟨w.heap.size, 0, none⟩)]] (w.alloc (.cells #[.map (some b)] 109)) fun e w' => ∃ (v : Value) (ss : List (List UInt8)), e = .returned v ∧ ss.Perm (strKeys D0) ∧
      w'.ownsRow (w.alloc (.cells #[.map (some b)] 109)).heap.size 9 1 v ss.length ((ss.mergeSort (fun x y => decide (x ≤ y))).map encStr) ∧ (v = .slice none 0 0 ↔ ss = []) ∧ Below (w.alloc (.cells #[.map (some b)] 109)).heap.size (w.alloc (.cells #[.map (some b)] 109)) w' := by
  have hbl := hown.lt
  have hseq : SeqGives Fence.wide 2 Tryz.prog 123 #[.pointer (some ⟨w.heap.size, 0, none⟩)] encStr (fun ss => ss.Perm (strKeys D0)) (Maps.size D0) (w.alloc (.cells #[.map (some b)] 109)) :=
    AnyZ.keys_gives (ρ := Tryz.keys93_ren) { Tryz.keys93 with } Fence.wide _ trivial rfl (by omega) w.heap.size b nn D0 _ (by simp) (by simp) (by
      obtain ⟨es, clock, hb, Ft, hs, hD⟩ := hown
      exact ⟨es, clock, (Below.heap_alloc _ _ b hbl).trans hb, Ft, hs, hD⟩)
  exact AnyZ.sorted_in Tryz.sorted50 Fence.wide 5 trivial trivial trivial trivial rfl (by omega) (Tryz.sorts50 _) (enters_of Tryz.func83 (by kernel_rfl) rfl) 123 #[.pointer (some ⟨w.heap.size, 0, none⟩)] trivial (enters_of Tryz.func123 (by kernel_rfl) rfl) _ _ hmax hbytes _ hseq
open Go.RowKit Go.Maps Go.Sort in
theorem Tryz.slices_Sorted_keys_nil_50_93 (w : World) :
    CallsIn Fence.wide 5 Tryz.prog 50 #[.func (.func 123) #[] #[.pointer (some ⟨w.heap.size, 0, none⟩)]] (w.alloc (.cells #[.map none] 109)) fun e w' => ∃ (v : Value) (ss : List (List UInt8)), e = .returned v ∧ ss = [] ∧
      w'.ownsRow (w.alloc (.cells #[.map none] 109)).heap.size 9 1 v ss.length ((ss.mergeSort (fun x y => decide (x ≤ y))).map encStr) ∧ (v = .slice none 0 0 ↔ ss = []) ∧ Below (w.alloc (.cells #[.map none] 109)).heap.size (w.alloc (.cells #[.map none] 109)) w' := by
  have hseq : SeqGives Fence.wide 2 Tryz.prog 123 #[.pointer (some ⟨w.heap.size, 0, none⟩)] encStr (fun ss : List (List UInt8) => ss = []) 0 (w.alloc (.cells #[.map none] 109)) :=
    AnyZ.keys_gives_nil (ρ := Tryz.keys93_ren) { Tryz.keys93 with } Fence.wide _ trivial rfl w.heap.size _ (by simp) (by simp)
  exact AnyZ.sorted_in Tryz.sorted50 Fence.wide 5 trivial trivial trivial trivial rfl (by omega) (Tryz.sorts50 _) (enters_of Tryz.func83 (by kernel_rfl) rfl) 123 #[.pointer (some ⟨w.heap.size, 0, none⟩)] trivial (enters_of Tryz.func123 (by kernel_rfl) rfl) _ 0 (Nat.zero_le _) (by omega) _ hseq
end Go.Proofs
