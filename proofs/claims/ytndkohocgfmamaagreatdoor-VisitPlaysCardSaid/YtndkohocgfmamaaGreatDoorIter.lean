/- What the shelf laid. -/
import Derived.Shelf.SlIter.Nil
import Derived.Shelf.SortM.Plain
import Derived.Shelf.SortM.SortNone
import Derived.Ground.GgzProg
import Derived.Ground.SlgmProg
import Derived.Test.YtndkohocgfmamaaGreatDoorProg
namespace Go.Proofs
open Go.Shelf
def Tryz.keys87_ren : Go.Shelf.Ren := ⟨fun | 7 => 87 | 10 => 133 | n => n, fun | 23 => 167 | 26 => 9 | 3 => 168 | 28 => 171 | 0 => 0 | 27 => 170 | 33 => 224 | 4 => 4 | n => n, fun | n => n⟩
theorem Tryz.keys87 : Go.Proofs.SlLaysZ.n7 Tryz.prog Tryz.keys87_ren := {
 mixed := by kernel_rfl
 f7 := ⟨Tryz.f87.name, by decide, Tryz.func87.trans (congrArg some (by kernel_rfl))⟩
 f10 := ⟨Tryz.f133.name, by decide, Tryz.func133.trans (congrArg some (by kernel_rfl))⟩
 t0 := Tryz.underlying0
 a0 := Tryz.isAgg0
 z0 := Tryz.sizeOf0
 v0 := Tryz.zeroValue0
 t4 := Tryz.underlying4
 a4 := Tryz.isAgg4
 z4 := Tryz.sizeOf4
 v4 := Tryz.zeroValue4
 t23 := Tryz.underlying167
 a23 := Tryz.isAgg167
 z23 := Tryz.sizeOf167
 v23 := Tryz.zeroValue167
 t26 := Tryz.underlying9
 a26 := Tryz.isAgg9
 z26 := Tryz.sizeOf9
 v26 := Tryz.zeroValue9
 t27 := Tryz.underlying170
 a27 := Tryz.isAgg170
 z27 := Tryz.sizeOf170
 v27 := Tryz.zeroValue170
 t28 := Tryz.underlying171
 a28 := Tryz.isAgg171
 z28 := Tryz.sizeOf171
 v28 := Tryz.zeroValue171
 t33 := Tryz.underlying224
 a33 := Tryz.isAgg224
 z33 := Tryz.sizeOf224
 v33 := Tryz.zeroValue224 }
def Tryz.sorted86_ren : Go.Shelf.Ren := ⟨fun | 6 => 86 | 8 => 131 | 9 => 132 | 11 => 167 | 13 => 169 | 12 => 168 | 23 => 193 | 24 => 194 | 14 => 184 | 15 => 185 | 16 => 186 | 17 => 187 | 18 => 188 | 19 => 189 | 20 => 190 | 21 => 191 | 22 => 192 | 25 => 208 | 26 => 209 | 27 => 210 | 28 => 211 | 29 => 212 | 30 => 172 | 31 => 216 | n => n, fun | 26 => 9 | 28 => 171 | 24 => 33 | 0 => 0 | 3 => 3 | 37 => 189 | 48 => 46 | 50 => 47 | 4 => 4 | 40 => 284 | 39 => 283 | 45 => 125 | 5 => 5 | 9 => 9 | 51 => 300 | 55 => 304 | 57 => 308 | 58 => 309 | 33 => 224 | n => n, fun | n => n⟩
theorem Tryz.sorted86 : Go.Proofs.SlLaysZ.n6 Tryz.prog Tryz.sorted86_ren := {
 mixed := by kernel_rfl
 f6 := ⟨Tryz.f86.name, by decide, Tryz.func86.trans (congrArg some (by kernel_rfl))⟩
 f8 := ⟨Tryz.f131.name, by decide, Tryz.func131.trans (congrArg some (by kernel_rfl))⟩
 f11 := ⟨Tryz.f167.name, by decide, Tryz.func167.trans (congrArg some (by kernel_rfl))⟩
 t0 := Tryz.underlying0
 a0 := Tryz.isAgg0
 z0 := Tryz.sizeOf0
 v0 := Tryz.zeroValue0
 t24 := Tryz.underlying33
 a24 := Tryz.isAgg33
 z24 := Tryz.sizeOf33
 v24 := Tryz.zeroValue33
 t26 := Tryz.underlying9
 a26 := Tryz.isAgg9
 z26 := Tryz.sizeOf9
 v26 := Tryz.zeroValue9
 t28 := Tryz.underlying171
 a28 := Tryz.isAgg171
 z28 := Tryz.sizeOf171
 v28 := Tryz.zeroValue171
 i26 := by kernel_rfl }
def Tryz.sort132_ren : Go.Shelf.Ren := ⟨fun | 6 => 132 | 8 => 169 | 9 => 168 | 19 => 193 | 20 => 194 | 21 => 184 | 22 => 185 | 23 => 186 | 24 => 187 | 25 => 188 | 26 => 189 | 27 => 190 | 28 => 191 | 29 => 192 | 36 => 208 | 31 => 209 | 32 => 210 | 37 => 211 | 38 => 212 | 39 => 172 | 41 => 216 | n => n, fun | 27 => 33 | 29 => 9 | 3 => 3 | 32 => 189 | 26 => 33 | 0 => 0 | 44 => 46 | 46 => 47 | 4 => 4 | 36 => 284 | 35 => 283 | 41 => 125 | 5 => 5 | 9 => 9 | 53 => 300 | 57 => 304 | 63 => 308 | 64 => 309 | n => n, fun | n => n⟩
theorem Tryz.sort132 : Go.Proofs.SlLaysM.n6 Tryz.prog Tryz.sort132_ren := {
 mixed := by kernel_rfl
 f6 := ⟨Tryz.f132.name, by decide, Tryz.func132.trans (congrArg some (by kernel_rfl))⟩
 f8 := Tryz.func169.trans (congrArg some (by kernel_rfl))
 f9 := ⟨Tryz.f168.name, by decide, Tryz.func168.trans (congrArg some (by kernel_rfl))⟩
 f19 := Tryz.func193.trans (congrArg some (by kernel_rfl))
 f20 := Tryz.func194.trans (congrArg some (by kernel_rfl))
 f21 := ⟨Tryz.f184.name, by decide, Tryz.func184.trans (congrArg some (by kernel_rfl))⟩
 f22 := ⟨Tryz.f185.name, by decide, Tryz.func185.trans (congrArg some (by kernel_rfl))⟩
 f23 := ⟨Tryz.f186.name, by decide, Tryz.func186.trans (congrArg some (by kernel_rfl))⟩
 f24 := ⟨Tryz.f187.name, by decide, Tryz.func187.trans (congrArg some (by kernel_rfl))⟩
 f25 := ⟨Tryz.f188.name, by decide, Tryz.func188.trans (congrArg some (by kernel_rfl))⟩
 f26 := ⟨Tryz.f189.name, by decide, Tryz.func189.trans (congrArg some (by kernel_rfl))⟩
 f27 := ⟨Tryz.f190.name, by decide, Tryz.func190.trans (congrArg some (by kernel_rfl))⟩
 f28 := ⟨Tryz.f191.name, by decide, Tryz.func191.trans (congrArg some (by kernel_rfl))⟩
 f29 := ⟨Tryz.f192.name, by decide, Tryz.func192.trans (congrArg some (by kernel_rfl))⟩
 f31 := Tryz.func209.trans (congrArg some (by kernel_rfl))
 f32 := Tryz.func210.trans (congrArg some (by kernel_rfl))
 f36 := ⟨Tryz.f208.name, by decide, Tryz.func208.trans (congrArg some (by kernel_rfl))⟩
 f37 := ⟨Tryz.f211.name, by decide, Tryz.func211.trans (congrArg some (by kernel_rfl))⟩
 f38 := ⟨Tryz.f212.name, by decide, Tryz.func212.trans (congrArg some (by kernel_rfl))⟩
 f39 := ⟨Tryz.f172.name, by decide, Tryz.func172.trans (congrArg some (by kernel_rfl))⟩
 f41 := ⟨Tryz.f216.name, by decide, Tryz.func216.trans (congrArg some (by kernel_rfl))⟩
 t0 := Tryz.underlying0
 a0 := Tryz.isAgg0
 z0 := Tryz.sizeOf0
 v0 := Tryz.zeroValue0
 t3 := Tryz.underlying3
 a3 := Tryz.isAgg3
 z3 := Tryz.sizeOf3
 v3 := Tryz.zeroValue3
 t4 := Tryz.underlying4
 a4 := Tryz.isAgg4
 z4 := Tryz.sizeOf4
 v4 := Tryz.zeroValue4
 t5 := Tryz.underlying5
 a5 := Tryz.isAgg5
 z5 := Tryz.sizeOf5
 v5 := Tryz.zeroValue5
 t9 := Tryz.underlying9
 a9 := Tryz.isAgg9
 z9 := Tryz.sizeOf9
 v9 := Tryz.zeroValue9
 t26 := Tryz.underlying33
 a26 := Tryz.isAgg33
 z26 := Tryz.sizeOf33
 v26 := Tryz.zeroValue33
 t27 := Tryz.underlying33
 a27 := Tryz.isAgg33
 z27 := Tryz.sizeOf33
 v27 := Tryz.zeroValue33
 t29 := Tryz.underlying9
 a29 := Tryz.isAgg9
 z29 := Tryz.sizeOf9
 v29 := Tryz.zeroValue9
 t32 := Tryz.underlying189
 a32 := Tryz.isAgg189
 z32 := Tryz.sizeOf189
 v32 := Tryz.zeroValue189
 t35 := Tryz.underlying283
 a35 := Tryz.isAgg283
 z35 := Tryz.sizeOf283
 v35 := Tryz.zeroValue283
 t36 := Tryz.underlying284
 a36 := Tryz.isAgg284
 z36 := Tryz.sizeOf284
 v36 := Tryz.zeroValue284
 t41 := Tryz.underlying125
 a41 := Tryz.isAgg125
 z41 := Tryz.sizeOf125
 v41 := Tryz.zeroValue125
 t44 := Tryz.underlying46
 a44 := Tryz.isAgg46
 z44 := Tryz.sizeOf46
 v44 := Tryz.zeroValue46
 t46 := Tryz.underlying47
 a46 := Tryz.isAgg47
 z46 := Tryz.sizeOf47
 v46 := Tryz.zeroValue47
 t53 := Tryz.underlying300
 a53 := Tryz.isAgg300
 z53 := Tryz.sizeOf300
 v53 := Tryz.zeroValue300
 t57 := Tryz.underlying304
 a57 := Tryz.isAgg304
 z57 := Tryz.sizeOf304
 v57 := Tryz.zeroValue304
 t63 := Tryz.underlying308
 a63 := Tryz.isAgg308
 z63 := Tryz.sizeOf308
 v63 := Tryz.zeroValue308
 t64 := Tryz.underlying309
 a64 := Tryz.isAgg309
 z64 := Tryz.sizeOf309
 v64 := Tryz.zeroValue309 }
open Go.RowKit Go.Maps Go.Sort in
theorem Tryz.sorts86 (m : Nat) : AnyZ.SortsIn Tryz.prog Tryz.sorted86_ren Fence.wide m :=
 ⟨fun blk off cap ss W hH hblk hsz => callsIn_wide.2 (AnyM.slices_Sort_string Tryz.sort132 blk off cap ss W hH hblk hsz),
  fun p cap W => callsIn_wide.2 (AnyM.slices_Sort_string_none Tryz.sort132 p cap W)⟩
open Go.RowKit Go.Maps Go.Sort in
theorem Tryz.maps_Keys_87 (mb : Option Nat) (W : World) : CallsIn Fence.wide 5 Tryz.prog 87 #[.map mb] W fun e w' => e = .returned (.func (.func 133) #[] #[.pointer (some ⟨W.heap.size, 0, none⟩)]) ∧ w' = W.alloc (.cells #[.map mb] 167) :=
 AnyZ.keys_in Tryz.keys87 Fence.wide 5 trivial rfl mb W
open Go.RowKit Go.Maps Go.Sort in
theorem Tryz.slices_Sorted_keys_86_87 {H : Type} (b nn : Nat) (D0 : DataW H) (R : Value → Option (DataW H × List MemPlace)) (w : World) (hown : w.ownsMap Tryz.prog 9 R b nn D0) (hmax : Maps.size D0 ≤ maxLen) (hbytes : Maps.size D0 * 16 ≤ 140737488355328) :
  CallsIn Fence.wide 5 Tryz.prog 86 #[.func (.func 133) #[] #[.pointer (some ⟨w.heap.size, 0, none⟩)]] (w.alloc (.cells #[.map (some b)] 167)) fun e w' => ∃ (v : Value) (ss : List (List UInt8)), e = .returned v ∧ ss.Perm (strKeys D0) ∧
   w'.ownsRow (w.alloc (.cells #[.map (some b)] 167)).heap.size 9 1 v ss.length ((ss.mergeSort (fun x y => decide (x ≤ y))).map encStr) ∧ (v = .slice none 0 0 ↔ ss = []) ∧ Below (w.alloc (.cells #[.map (some b)] 167)).heap.size (w.alloc (.cells #[.map (some b)] 167)) w' := by
 have hbl := hown.lt
 have hseq : SeqGives Fence.wide 2 Tryz.prog 133 #[.pointer (some ⟨w.heap.size, 0, none⟩)] encStr (fun ss => ss.Perm (strKeys D0)) (Maps.size D0) (w.alloc (.cells #[.map (some b)] 167)) :=
  AnyZ.keys_gives (ρ := Tryz.keys87_ren) { Tryz.keys87 with } Fence.wide _ trivial rfl (by omega) w.heap.size b nn D0 _ (by simp) (by simp) (by
   obtain ⟨es, clock, hb, Ft, hs, hD⟩ := hown
   exact ⟨es, clock, (Below.heap_alloc _ _ b hbl).trans hb, Ft, hs, hD⟩)
 exact AnyZ.sorted_in Tryz.sorted86 Fence.wide 5 trivial trivial trivial trivial rfl (by omega) (Tryz.sorts86 _) (enters_of Tryz.func132 (by kernel_rfl) rfl) 133 #[.pointer (some ⟨w.heap.size, 0, none⟩)] trivial (enters_of Tryz.func133 (by kernel_rfl) rfl) _ _ hmax hbytes _ hseq
def Tryz.keys94_ren : Go.Shelf.Ren := ⟨fun | 7 => 94 | 10 => 137 | n => n, fun | 23 => 117 | 26 => 9 | 3 => 140 | 28 => 171 | 0 => 0 | 27 => 170 | 33 => 224 | 4 => 4 | n => n, fun | n => n⟩
theorem Tryz.keys94 : Go.Proofs.SlLaysZ.n7 Tryz.prog Tryz.keys94_ren := {
 mixed := by kernel_rfl
 f7 := ⟨Tryz.f94.name, by decide, Tryz.func94.trans (congrArg some (by kernel_rfl))⟩
 f10 := ⟨Tryz.f137.name, by decide, Tryz.func137.trans (congrArg some (by kernel_rfl))⟩
 t0 := Tryz.underlying0
 a0 := Tryz.isAgg0
 z0 := Tryz.sizeOf0
 v0 := Tryz.zeroValue0
 t4 := Tryz.underlying4
 a4 := Tryz.isAgg4
 z4 := Tryz.sizeOf4
 v4 := Tryz.zeroValue4
 t23 := Tryz.underlying117
 a23 := Tryz.isAgg117
 z23 := Tryz.sizeOf117
 v23 := Tryz.zeroValue117
 t26 := Tryz.underlying9
 a26 := Tryz.isAgg9
 z26 := Tryz.sizeOf9
 v26 := Tryz.zeroValue9
 t27 := Tryz.underlying170
 a27 := Tryz.isAgg170
 z27 := Tryz.sizeOf170
 v27 := Tryz.zeroValue170
 t28 := Tryz.underlying171
 a28 := Tryz.isAgg171
 z28 := Tryz.sizeOf171
 v28 := Tryz.zeroValue171
 t33 := Tryz.underlying224
 a33 := Tryz.isAgg224
 z33 := Tryz.sizeOf224
 v33 := Tryz.zeroValue224 }
open Go.RowKit Go.Maps Go.Sort in
theorem Tryz.maps_Keys_94 (mb : Option Nat) (W : World) : CallsIn Fence.wide 5 Tryz.prog 94 #[.map mb] W fun e w' => e = .returned (.func (.func 137) #[] #[.pointer (some ⟨W.heap.size, 0, none⟩)]) ∧ w' = W.alloc (.cells #[.map mb] 117) :=
 AnyZ.keys_in Tryz.keys94 Fence.wide 5 trivial rfl mb W
open Go.RowKit Go.Maps Go.Sort in
theorem Tryz.slices_Sorted_keys_86_94 {H : Type} (b nn : Nat) (D0 : DataW H) (R : Value → Option (DataW H × List MemPlace)) (w : World) (hown : w.ownsMap Tryz.prog 9 R b nn D0) (hmax : Maps.size D0 ≤ maxLen) (hbytes : Maps.size D0 * 16 ≤ 140737488355328) :
  CallsIn Fence.wide 5 Tryz.prog 86 #[.func (.func 137) #[] #[.pointer (some ⟨w.heap.size, 0, none⟩)]] (w.alloc (.cells #[.map (some b)] 117)) fun e w' => ∃ (v : Value) (ss : List (List UInt8)), e = .returned v ∧ ss.Perm (strKeys D0) ∧
   w'.ownsRow (w.alloc (.cells #[.map (some b)] 117)).heap.size 9 1 v ss.length ((ss.mergeSort (fun x y => decide (x ≤ y))).map encStr) ∧ (v = .slice none 0 0 ↔ ss = []) ∧ Below (w.alloc (.cells #[.map (some b)] 117)).heap.size (w.alloc (.cells #[.map (some b)] 117)) w' := by
 have hbl := hown.lt
 have hseq : SeqGives Fence.wide 2 Tryz.prog 137 #[.pointer (some ⟨w.heap.size, 0, none⟩)] encStr (fun ss => ss.Perm (strKeys D0)) (Maps.size D0) (w.alloc (.cells #[.map (some b)] 117)) :=
  AnyZ.keys_gives (ρ := Tryz.keys94_ren) { Tryz.keys94 with } Fence.wide _ trivial rfl (by omega) w.heap.size b nn D0 _ (by simp) (by simp) (by
   obtain ⟨es, clock, hb, Ft, hs, hD⟩ := hown
   exact ⟨es, clock, (Below.heap_alloc _ _ b hbl).trans hb, Ft, hs, hD⟩)
 exact AnyZ.sorted_in Tryz.sorted86 Fence.wide 5 trivial trivial trivial trivial rfl (by omega) (Tryz.sorts86 _) (enters_of Tryz.func132 (by kernel_rfl) rfl) 137 #[.pointer (some ⟨w.heap.size, 0, none⟩)] trivial (enters_of Tryz.func137 (by kernel_rfl) rfl) _ _ hmax hbytes _ hseq
end Go.Proofs
