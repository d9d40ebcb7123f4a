/- What the kit's shelf has laid for this seat. -/
import Derived.Shelf.SlIter.Nil
import Derived.Shelf.SortM.Plain
import Derived.Shelf.SortM.SortNone
import Derived.Ground.GgzProg
import Derived.Ground.SlgmProg
import Derived.Test.YtbfochdoeibofaaGreatDoorProg
namespace Go.Proofs
open Go.Shelf
def Tryz.keys59_ren : Go.Shelf.Ren := ⟨fun | 7 => 59 | 10 => 93 | n => n, fun | 23 => 118 | 26 => 9 | 3 => 119 | 28 => 122 | 0 => 0 | 27 => 121 | 33 => 166 | 4 => 4 | n => n, fun | n => n⟩
theorem Tryz.keys59 : Go.Proofs.SlLaysZ.n7 Tryz.prog Tryz.keys59_ren := {
  mixed := by kernel_rfl
  f7 := ⟨Tryz.f59.name, by decide, Tryz.func59.trans (congrArg some (by kernel_rfl))⟩
  f10 := ⟨Tryz.f93.name, by decide, Tryz.func93.trans (congrArg some (by kernel_rfl))⟩
  t0 := Tryz.underlying0
  a0 := Tryz.isAgg0
  z0 := Tryz.sizeOf0
  v0 := Tryz.zeroValue0
  t4 := Tryz.underlying4
  a4 := Tryz.isAgg4
  z4 := Tryz.sizeOf4
  v4 := Tryz.zeroValue4
  t23 := Tryz.underlying118
  a23 := Tryz.isAgg118
  z23 := Tryz.sizeOf118
  v23 := Tryz.zeroValue118
  t26 := Tryz.underlying9
  a26 := Tryz.isAgg9
  z26 := Tryz.sizeOf9
  v26 := Tryz.zeroValue9
  t27 := Tryz.underlying121
  a27 := Tryz.isAgg121
  z27 := Tryz.sizeOf121
  v27 := Tryz.zeroValue121
  t28 := Tryz.underlying122
  a28 := Tryz.isAgg122
  z28 := Tryz.sizeOf122
  v28 := Tryz.zeroValue122
  t33 := Tryz.underlying166
  a33 := Tryz.isAgg166
  z33 := Tryz.sizeOf166
  v33 := Tryz.zeroValue166 }
def Tryz.sorted58_ren : Go.Shelf.Ren := ⟨fun | 6 => 58 | 8 => 91 | 9 => 92 | 11 => 124 | 13 => 126 | 12 => 125 | 23 => 155 | 24 => 156 | 14 => 146 | 15 => 147 | 16 => 148 | 17 => 149 | 18 => 150 | 19 => 151 | 20 => 152 | 21 => 153 | 22 => 154 | 25 => 164 | 26 => 165 | 27 => 166 | 28 => 167 | 29 => 168 | 30 => 105 | 31 => 171 | n => n, fun | 26 => 9 | 28 => 122 | 24 => 36 | 0 => 0 | 3 => 3 | 37 => 183 | 48 => 31 | 50 => 30 | 4 => 4 | 40 => 223 | 39 => 222 | 45 => 92 | 5 => 5 | 9 => 9 | 51 => 236 | 55 => 239 | 57 => 245 | 58 => 246 | 33 => 166 | n => n, fun | n => n⟩
theorem Tryz.sorted58 : Go.Proofs.SlLaysZ.n6 Tryz.prog Tryz.sorted58_ren := {
  mixed := by kernel_rfl
  f6 := ⟨Tryz.f58.name, by decide, Tryz.func58.trans (congrArg some (by kernel_rfl))⟩
  f8 := ⟨Tryz.f91.name, by decide, Tryz.func91.trans (congrArg some (by kernel_rfl))⟩
  f11 := ⟨Tryz.f124.name, by decide, Tryz.func124.trans (congrArg some (by kernel_rfl))⟩
  t0 := Tryz.underlying0
  a0 := Tryz.isAgg0
  z0 := Tryz.sizeOf0
  v0 := Tryz.zeroValue0
  t24 := Tryz.underlying36
  a24 := Tryz.isAgg36
  z24 := Tryz.sizeOf36
  v24 := Tryz.zeroValue36
  t26 := Tryz.underlying9
  a26 := Tryz.isAgg9
  z26 := Tryz.sizeOf9
  v26 := Tryz.zeroValue9
  t28 := Tryz.underlying122
  a28 := Tryz.isAgg122
  z28 := Tryz.sizeOf122
  v28 := Tryz.zeroValue122
  i26 := by kernel_rfl }
def Tryz.sort92_ren : Go.Shelf.Ren := ⟨fun | 6 => 92 | 8 => 126 | 9 => 125 | 19 => 155 | 20 => 156 | 21 => 146 | 22 => 147 | 23 => 148 | 24 => 149 | 25 => 150 | 26 => 151 | 27 => 152 | 28 => 153 | 29 => 154 | 36 => 164 | 31 => 165 | 32 => 166 | 37 => 167 | 38 => 168 | 39 => 105 | 41 => 171 | n => n, fun | 27 => 36 | 29 => 9 | 3 => 3 | 32 => 183 | 26 => 36 | 0 => 0 | 44 => 31 | 46 => 30 | 4 => 4 | 36 => 223 | 35 => 222 | 41 => 92 | 5 => 5 | 9 => 9 | 53 => 236 | 57 => 239 | 63 => 245 | 64 => 246 | n => n, fun | n => n⟩
theorem Tryz.sort92 : Go.Proofs.SlLaysM.n6 Tryz.prog Tryz.sort92_ren := {
  mixed := by kernel_rfl
  f6 := ⟨Tryz.f92.name, by decide, Tryz.func92.trans (congrArg some (by kernel_rfl))⟩
  f8 := Tryz.func126.trans (congrArg some (by kernel_rfl))
  f9 := ⟨Tryz.f125.name, by decide, Tryz.func125.trans (congrArg some (by kernel_rfl))⟩
  f19 := Tryz.func155.trans (congrArg some (by kernel_rfl))
  f20 := Tryz.func156.trans (congrArg some (by kernel_rfl))
  f21 := ⟨Tryz.f146.name, by decide, Tryz.func146.trans (congrArg some (by kernel_rfl))⟩
  f22 := ⟨Tryz.f147.name, by decide, Tryz.func147.trans (congrArg some (by kernel_rfl))⟩
  f23 := ⟨Tryz.f148.name, by decide, Tryz.func148.trans (congrArg some (by kernel_rfl))⟩
  f24 := ⟨Tryz.f149.name, by decide, Tryz.func149.trans (congrArg some (by kernel_rfl))⟩
  f25 := ⟨Tryz.f150.name, by decide, Tryz.func150.trans (congrArg some (by kernel_rfl))⟩
  f26 := ⟨Tryz.f151.name, by decide, Tryz.func151.trans (congrArg some (by kernel_rfl))⟩
  f27 := ⟨Tryz.f152.name, by decide, Tryz.func152.trans (congrArg some (by kernel_rfl))⟩
  f28 := ⟨Tryz.f153.name, by decide, Tryz.func153.trans (congrArg some (by kernel_rfl))⟩
  f29 := ⟨Tryz.f154.name, by decide, Tryz.func154.trans (congrArg some (by kernel_rfl))⟩
  f31 := Tryz.func165.trans (congrArg some (by kernel_rfl))
  f32 := Tryz.func166.trans (congrArg some (by kernel_rfl))
  f36 := ⟨Tryz.f164.name, by decide, Tryz.func164.trans (congrArg some (by kernel_rfl))⟩
  f37 := ⟨Tryz.f167.name, by decide, Tryz.func167.trans (congrArg some (by kernel_rfl))⟩
  f38 := ⟨Tryz.f168.name, by decide, Tryz.func168.trans (congrArg some (by kernel_rfl))⟩
  f39 := ⟨Tryz.f105.name, by decide, Tryz.func105.trans (congrArg some (by kernel_rfl))⟩
  f41 := ⟨Tryz.f171.name, by decide, Tryz.func171.trans (congrArg some (by kernel_rfl))⟩
  t0 := Tryz.underlying0
  a0 := Tryz.isAgg0
  z0 := Tryz.sizeOf0
  v0 := Tryz.zeroValue0
  t3 := Tryz.underlying3
  a3 := Tryz.isAgg3
  z3 := Tryz.sizeOf3
  v3 := Tryz.zeroValue3
  t4 := Tryz.underlying4
  a4 := Tryz.isAgg4
  z4 := Tryz.sizeOf4
  v4 := Tryz.zeroValue4
  t5 := Tryz.underlying5
  a5 := Tryz.isAgg5
  z5 := Tryz.sizeOf5
  v5 := Tryz.zeroValue5
  t9 := Tryz.underlying9
  a9 := Tryz.isAgg9
  z9 := Tryz.sizeOf9
  v9 := Tryz.zeroValue9
  t26 := Tryz.underlying36
  a26 := Tryz.isAgg36
  z26 := Tryz.sizeOf36
  v26 := Tryz.zeroValue36
  t27 := Tryz.underlying36
  a27 := Tryz.isAgg36
  z27 := Tryz.sizeOf36
  v27 := Tryz.zeroValue36
  t29 := Tryz.underlying9
  a29 := Tryz.isAgg9
  z29 := Tryz.sizeOf9
  v29 := Tryz.zeroValue9
  t32 := Tryz.underlying183
  a32 := Tryz.isAgg183
  z32 := Tryz.sizeOf183
  v32 := Tryz.zeroValue183
  t35 := Tryz.underlying222
  a35 := Tryz.isAgg222
  z35 := Tryz.sizeOf222
  v35 := Tryz.zeroValue222
  t36 := Tryz.underlying223
  a36 := Tryz.isAgg223
  z36 := Tryz.sizeOf223
  v36 := Tryz.zeroValue223
  t41 := Tryz.underlying92
  a41 := Tryz.isAgg92
  z41 := Tryz.sizeOf92
  v41 := Tryz.zeroValue92
  t44 := Tryz.underlying31
  a44 := Tryz.isAgg31
  z44 := Tryz.sizeOf31
  v44 := Tryz.zeroValue31
  t46 := Tryz.underlying30
  a46 := Tryz.isAgg30
  z46 := Tryz.sizeOf30
  v46 := Tryz.zeroValue30
  t53 := Tryz.underlying236
  a53 := Tryz.isAgg236
  z53 := Tryz.sizeOf236
  v53 := Tryz.zeroValue236
  t57 := Tryz.underlying239
  a57 := Tryz.isAgg239
  z57 := Tryz.sizeOf239
  v57 := Tryz.zeroValue239
  t63 := Tryz.underlying245
  a63 := Tryz.isAgg245
  z63 := Tryz.sizeOf245
  v63 := Tryz.zeroValue245
  t64 := Tryz.underlying246
  a64 := Tryz.isAgg246
  z64 := Tryz.sizeOf246
  v64 := Tryz.zeroValue246 }
open Go.RowKit Go.Maps Go.Sort in
theorem Tryz.sorts58 (m : Nat) : AnyZ.SortsIn Tryz.prog Tryz.sorted58_ren Fence.wide m :=
  ⟨fun blk off cap ss W hH hblk hsz => callsIn_wide.2 (AnyM.slices_Sort_string Tryz.sort92 blk off cap ss W hH hblk hsz),
   fun p cap W => callsIn_wide.2 (AnyM.slices_Sort_string_none Tryz.sort92 p cap W)⟩
open Go.RowKit Go.Maps Go.Sort in
theorem Tryz.maps_Keys_59 (mb : Option Nat) (W : World) : CallsIn Fence.wide 5 Tryz.prog 59 #[.map mb] W fun e w' => e = .returned (.func (.func 93) #[] #[.pointer (some ⟨W.heap.size, 0, none⟩)]) ∧ w' = W.alloc (.cells #[.map mb] 118) :=
  AnyZ.keys_in Tryz.keys59 Fence.wide 5 trivial rfl mb W
open Go.RowKit Go.Maps Go.Sort in
theorem Tryz.slices_Sorted_keys_58_59 {H : Type} (b nn : Nat) (D0 : DataW H) (R : Value → Option (DataW H × List MemPlace)) (w : World) (hown : w.ownsMap Tryz.prog 9 R b nn D0) (hmax : Maps.size D0 ≤ maxLen) (hbytes : Maps.size D0 * 16 ≤ 140737488355328) :
    CallsIn Fence.wide 5 Tryz.prog 58 #[.func (.func 93) #[] #[.pointer (some ⟨w.heap.size, 0, none⟩)]] (w.alloc (.cells #[.map (some b)] 118)) fun e w' => ∃ (v : Value) (ss : List (List UInt8)), e = .returned v ∧ ss.Perm (strKeys D0) ∧
      w'.ownsRow (w.alloc (.cells #[.map (some b)] 118)).heap.size 9 1 v ss.length ((ss.mergeSort (fun x y => decide (x ≤ y))).map encStr) ∧ (v = .slice none 0 0 ↔ ss = []) ∧ Below (w.alloc (.cells #[.map (some b)] 118)).heap.size (w.alloc (.cells #[.map (some b)] 118)) w' := by
  have hbl := hown.lt
  have hseq : SeqGives Fence.wide 2 Tryz.prog 93 #[.pointer (some ⟨w.heap.size, 0, none⟩)] encStr (fun ss => ss.Perm (strKeys D0)) (Maps.size D0) (w.alloc (.cells #[.map (some b)] 118)) :=
    AnyZ.keys_gives (ρ := Tryz.keys59_ren) { Tryz.keys59 with } Fence.wide _ trivial rfl (by omega) w.heap.size b nn D0 _ (by simp) (by simp) (by
      obtain ⟨es, clock, hb, Ft, hs, hD⟩ := hown
      exact ⟨es, clock, (Below.heap_alloc _ _ b hbl).trans hb, Ft, hs, hD⟩)
  exact AnyZ.sorted_in Tryz.sorted58 Fence.wide 5 trivial trivial trivial trivial rfl (by omega) (Tryz.sorts58 _) (enters_of Tryz.func92 (by kernel_rfl) rfl) 93 #[.pointer (some ⟨w.heap.size, 0, none⟩)] trivial (enters_of Tryz.func93 (by kernel_rfl) rfl) _ _ hmax hbytes _ hseq
open Go.RowKit Go.Maps Go.Sort in
theorem Tryz.slices_Sorted_keys_nil_58_59 (w : World) :
    CallsIn Fence.wide 5 Tryz.prog 58 #[.func (.func 93) #[] #[.pointer (some ⟨w.heap.size, 0, none⟩)]] (w.alloc (.cells #[.map none] 118)) fun e w' => ∃ (v : Value) (ss : List (List UInt8)), e = .returned v ∧ ss = [] ∧
      w'.ownsRow (w.alloc (.cells #[.map none] 118)).heap.size 9 1 v ss.length ((ss.mergeSort (fun x y => decide (x ≤ y))).map encStr) ∧ (v = .slice none 0 0 ↔ ss = []) ∧ Below (w.alloc (.cells #[.map none] 118)).heap.size (w.alloc (.cells #[.map none] 118)) w' := by
  have hseq : SeqGives Fence.wide 2 Tryz.prog 93 #[.pointer (some ⟨w.heap.size, 0, none⟩)] encStr (fun ss : List (List UInt8) => ss = []) 0 (w.alloc (.cells #[.map none] 118)) :=
    AnyZ.keys_gives_nil (ρ := Tryz.keys59_ren) { Tryz.keys59 with } Fence.wide _ trivial rfl w.heap.size _ (by simp) (by simp)
  exact AnyZ.sorted_in Tryz.sorted58 Fence.wide 5 trivial trivial trivial trivial rfl (by omega) (Tryz.sorts58 _) (enters_of Tryz.func92 (by kernel_rfl) rfl) 93 #[.pointer (some ⟨w.heap.size, 0, none⟩)] trivial (enters_of Tryz.func93 (by kernel_rfl) rfl) _ 0 (Nat.zero_le _) (by omega) _ hseq
def Tryz.keys72_ren : Go.Shelf.Ren := ⟨fun | 7 => 72 | 10 => 108 | n => n, fun | 23 => 88 | 26 => 9 | 3 => 87 | 28 => 122 | 0 => 0 | 27 => 121 | 33 => 166 | 4 => 4 | n => n, fun | n => n⟩
theorem Tryz.keys72 : Go.Proofs.SlLaysZ.n7 Tryz.prog Tryz.keys72_ren := {
  mixed := by kernel_rfl
  f7 := ⟨Tryz.f72.name, by decide, Tryz.func72.trans (congrArg some (by kernel_rfl))⟩
  f10 := ⟨Tryz.f108.name, by decide, Tryz.func108.trans (congrArg some (by kernel_rfl))⟩
  t0 := Tryz.underlying0
  a0 := Tryz.isAgg0
  z0 := Tryz.sizeOf0
  v0 := Tryz.zeroValue0
  t4 := Tryz.underlying4
  a4 := Tryz.isAgg4
  z4 := Tryz.sizeOf4
  v4 := Tryz.zeroValue4
  t23 := Tryz.underlying88
  a23 := Tryz.isAgg88
  z23 := Tryz.sizeOf88
  v23 := Tryz.zeroValue88
  t26 := Tryz.underlying9
  a26 := Tryz.isAgg9
  z26 := Tryz.sizeOf9
  v26 := Tryz.zeroValue9
  t27 := Tryz.underlying121
  a27 := Tryz.isAgg121
  z27 := Tryz.sizeOf121
  v27 := Tryz.zeroValue121
  t28 := Tryz.underlying122
  a28 := Tryz.isAgg122
  z28 := Tryz.sizeOf122
  v28 := Tryz.zeroValue122
  t33 := Tryz.underlying166
  a33 := Tryz.isAgg166
  z33 := Tryz.sizeOf166
  v33 := Tryz.zeroValue166 }
open Go.RowKit Go.Maps Go.Sort in
theorem Tryz.maps_Keys_72 (mb : Option Nat) (W : World) : CallsIn Fence.wide 5 Tryz.prog 72 #[.map mb] W fun e w' => e = .returned (.func (.func 108) #[] #[.pointer (some ⟨W.heap.size, 0, none⟩)]) ∧ w' = W.alloc (.cells #[.map mb] 88) :=
  AnyZ.keys_in Tryz.keys72 Fence.wide 5 trivial rfl mb W
open Go.RowKit Go.Maps Go.Sort in
theorem Tryz.slices_Sorted_keys_58_72 {H : Type} (b nn : Nat) (D0 : DataW H) (R : Value → Option (DataW H × List MemPlace)) (w : World) (hown : w.ownsMap Tryz.prog 9 R b nn D0) (hmax : Maps.size D0 ≤ maxLen) (hbytes : Maps.size D0 * 16 ≤ 140737488355328) :
    CallsIn Fence.wide 5 Tryz.prog 58 #[.func (.func 108) #[] #[.pointer (some ⟨w.heap.size, 0, none⟩)]] (w.alloc (.cells #[.map (some b)] 88)) fun e w' => ∃ (v : Value) (ss : List (List UInt8)), e = .returned v ∧ ss.Perm (strKeys D0) ∧
      w'.ownsRow (w.alloc (.cells #[.map (some b)] 88)).heap.size 9 1 v ss.length ((ss.mergeSort (fun x y => decide (x ≤ y))).map encStr) ∧ (v = .slice none 0 0 ↔ ss = []) ∧ Below (w.alloc (.cells #[.map (some b)] 88)).heap.size (w.alloc (.cells #[.map (some b)] 88)) w' := by
  have hbl := hown.lt
  have hseq : SeqGives Fence.wide 2 Tryz.prog 108 #[.pointer (some ⟨w.heap.size, 0, none⟩)] encStr (fun ss => ss.Perm (strKeys D0)) (Maps.size D0) (w.alloc (.cells #[.map (some b)] 88)) :=
    AnyZ.keys_gives (ρ := Tryz.keys72_ren) { Tryz.keys72 with } Fence.wide _ trivial rfl (by omega) w.heap.size b nn D0 _ (by simp) (by simp) (by
      obtain ⟨es, clock, hb, Ft, hs, hD⟩ := hown
      exact ⟨es, clock, (Below.heap_alloc _ _ b hbl).trans hb, Ft, hs, hD⟩)
  exact AnyZ.sorted_in Tryz.sorted58 Fence.wide 5 trivial trivial trivial trivial rfl (by omega) (Tryz.sorts58 _) (enters_of Tryz.func92 (by kernel_rfl) rfl) 108 #[.pointer (some ⟨w.heap.size, 0, none⟩)] trivial (enters_of Tryz.func108 (by kernel_rfl) rfl) _ _ hmax hbytes _ hseq
open Go.RowKit Go.Maps Go.Sort in
theorem Tryz.slices_Sorted_keys_nil_58_72 (w : World) :
    CallsIn Fence.wide 5 Tryz.prog 58 #[.func (.func 108) #[] #[.pointer (some ⟨w.heap.size, 0, none⟩)]] (w.alloc (.cells #[.map none] 88)) fun e w' => ∃ (v : Value) (ss : List (List UInt8)), e = .returned v ∧ ss = [] ∧
      w'.ownsRow (w.alloc (.cells #[.map none] 88)).heap.size 9 1 v ss.length ((ss.mergeSort (fun x y => decide (x ≤ y))).map encStr) ∧ (v = .slice none 0 0 ↔ ss = []) ∧ Below (w.alloc (.cells #[.map none] 88)).heap.size (w.alloc (.cells #[.map none] 88)) w' := by
  have hseq : SeqGives Fence.wide 2 Tryz.prog 108 #[.pointer (some ⟨w.heap.size, 0, none⟩)] encStr (fun ss : List (List UInt8) => ss = []) 0 (w.alloc (.cells #[.map none] 88)) :=
    AnyZ.keys_gives_nil (ρ := Tryz.keys72_ren) { Tryz.keys72 with } Fence.wide _ trivial rfl w.heap.size _ (by simp) (by simp)
  exact AnyZ.sorted_in Tryz.sorted58 Fence.wide 5 trivial trivial trivial trivial rfl (by omega) (Tryz.sorts58 _) (enters_of Tryz.func92 (by kernel_rfl) rfl) 108 #[.pointer (some ⟨w.heap.size, 0, none⟩)] trivial (enters_of Tryz.func108 (by kernel_rfl) rfl) _ 0 (Nat.zero_le _) (by omega) _ hseq
end Go.Proofs
