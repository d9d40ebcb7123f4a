/- What the shelf laid. -/
import Derived.Shelf.SlIter.Nil
import Derived.Shelf.SortM.Plain
import Derived.Shelf.SortM.SortNone
import Derived.Ground.GgzProg
import Derived.Ground.SlgmProg
import Derived.Test.YtcdcnhecimajkaaGreatDoorProg
namespace Go.Proofs
open Go.Shelf
def Tryz.keys44_ren : Go.Shelf.Ren := ⟨fun | 7 => 44 | 10 => 71 | n => n, fun | 23 => 106 | 26 => 9 | 3 => 107 | 28 => 112 | 0 => 0 | 27 => 111 | 33 => 145 | 4 => 4 | n => n, fun | n => n⟩
theorem Tryz.keys44 : Go.Proofs.SlLaysZ.n7 Tryz.prog Tryz.keys44_ren := {
 mixed := by kernel_rfl
 f7 := ⟨Tryz.f44.name, by decide, Tryz.func44.trans (congrArg some (by kernel_rfl))⟩
 f10 := ⟨Tryz.f71.name, by decide, Tryz.func71.trans (congrArg some (by kernel_rfl))⟩
 t0 := Tryz.underlying0
 a0 := Tryz.isAgg0
 z0 := Tryz.sizeOf0
 v0 := Tryz.zeroValue0
 t4 := Tryz.underlying4
 a4 := Tryz.isAgg4
 z4 := Tryz.sizeOf4
 v4 := Tryz.zeroValue4
 t23 := Tryz.underlying106
 a23 := Tryz.isAgg106
 z23 := Tryz.sizeOf106
 v23 := Tryz.zeroValue106
 t26 := Tryz.underlying9
 a26 := Tryz.isAgg9
 z26 := Tryz.sizeOf9
 v26 := Tryz.zeroValue9
 t27 := Tryz.underlying111
 a27 := Tryz.isAgg111
 z27 := Tryz.sizeOf111
 v27 := Tryz.zeroValue111
 t28 := Tryz.underlying112
 a28 := Tryz.isAgg112
 z28 := Tryz.sizeOf112
 v28 := Tryz.zeroValue112
 t33 := Tryz.underlying145
 a33 := Tryz.isAgg145
 z33 := Tryz.sizeOf145
 v33 := Tryz.zeroValue145 }
def Tryz.sorted43_ren : Go.Shelf.Ren := ⟨fun | 6 => 43 | 8 => 69 | 9 => 70 | 11 => 108 | 13 => 110 | 12 => 109 | 23 => 154 | 24 => 155 | 14 => 145 | 15 => 146 | 16 => 147 | 17 => 148 | 18 => 149 | 19 => 150 | 20 => 151 | 21 => 152 | 22 => 153 | 25 => 169 | 26 => 170 | 27 => 171 | 28 => 172 | 29 => 173 | 30 => 160 | 31 => 187 | n => n, fun | 26 => 9 | 28 => 112 | 24 => 36 | 0 => 0 | 3 => 3 | 37 => 192 | 48 => 91 | 50 => 90 | 4 => 4 | 40 => 230 | 39 => 229 | 45 => 64 | 5 => 5 | 9 => 9 | 51 => 253 | 55 => 257 | 57 => 268 | 58 => 269 | 33 => 145 | n => n, fun | n => n⟩
theorem Tryz.sorted43 : Go.Proofs.SlLaysZ.n6 Tryz.prog Tryz.sorted43_ren := {
 mixed := by kernel_rfl
 f6 := ⟨Tryz.f43.name, by decide, Tryz.func43.trans (congrArg some (by kernel_rfl))⟩
 f8 := ⟨Tryz.f69.name, by decide, Tryz.func69.trans (congrArg some (by kernel_rfl))⟩
 f11 := ⟨Tryz.f108.name, by decide, Tryz.func108.trans (congrArg some (by kernel_rfl))⟩
 t0 := Tryz.underlying0
 a0 := Tryz.isAgg0
 z0 := Tryz.sizeOf0
 v0 := Tryz.zeroValue0
 t24 := Tryz.underlying36
 a24 := Tryz.isAgg36
 z24 := Tryz.sizeOf36
 v24 := Tryz.zeroValue36
 t26 := Tryz.underlying9
 a26 := Tryz.isAgg9
 z26 := Tryz.sizeOf9
 v26 := Tryz.zeroValue9
 t28 := Tryz.underlying112
 a28 := Tryz.isAgg112
 z28 := Tryz.sizeOf112
 v28 := Tryz.zeroValue112
 i26 := by kernel_rfl }
def Tryz.sort70_ren : Go.Shelf.Ren := ⟨fun | 6 => 70 | 8 => 110 | 9 => 109 | 19 => 154 | 20 => 155 | 21 => 145 | 22 => 146 | 23 => 147 | 24 => 148 | 25 => 149 | 26 => 150 | 27 => 151 | 28 => 152 | 29 => 153 | 36 => 169 | 31 => 170 | 32 => 171 | 37 => 172 | 38 => 173 | 39 => 160 | 41 => 187 | n => n, fun | 27 => 36 | 29 => 9 | 3 => 3 | 32 => 192 | 26 => 36 | 0 => 0 | 44 => 91 | 46 => 90 | 4 => 4 | 36 => 230 | 35 => 229 | 41 => 64 | 5 => 5 | 9 => 9 | 53 => 253 | 57 => 257 | 63 => 268 | 64 => 269 | n => n, fun | n => n⟩
theorem Tryz.sort70 : Go.Proofs.SlLaysM.n6 Tryz.prog Tryz.sort70_ren := {
 mixed := by kernel_rfl
 f6 := ⟨Tryz.f70.name, by decide, Tryz.func70.trans (congrArg some (by kernel_rfl))⟩
 f8 := Tryz.func110.trans (congrArg some (by kernel_rfl))
 f9 := ⟨Tryz.f109.name, by decide, Tryz.func109.trans (congrArg some (by kernel_rfl))⟩
 f19 := Tryz.func154.trans (congrArg some (by kernel_rfl))
 f20 := Tryz.func155.trans (congrArg some (by kernel_rfl))
 f21 := ⟨Tryz.f145.name, by decide, Tryz.func145.trans (congrArg some (by kernel_rfl))⟩
 f22 := ⟨Tryz.f146.name, by decide, Tryz.func146.trans (congrArg some (by kernel_rfl))⟩
 f23 := ⟨Tryz.f147.name, by decide, Tryz.func147.trans (congrArg some (by kernel_rfl))⟩
 f24 := ⟨Tryz.f148.name, by decide, Tryz.func148.trans (congrArg some (by kernel_rfl))⟩
 f25 := ⟨Tryz.f149.name, by decide, Tryz.func149.trans (congrArg some (by kernel_rfl))⟩
 f26 := ⟨Tryz.f150.name, by decide, Tryz.func150.trans (congrArg some (by kernel_rfl))⟩
 f27 := ⟨Tryz.f151.name, by decide, Tryz.func151.trans (congrArg some (by kernel_rfl))⟩
 f28 := ⟨Tryz.f152.name, by decide, Tryz.func152.trans (congrArg some (by kernel_rfl))⟩
 f29 := ⟨Tryz.f153.name, by decide, Tryz.func153.trans (congrArg some (by kernel_rfl))⟩
 f31 := Tryz.func170.trans (congrArg some (by kernel_rfl))
 f32 := Tryz.func171.trans (congrArg some (by kernel_rfl))
 f36 := ⟨Tryz.f169.name, by decide, Tryz.func169.trans (congrArg some (by kernel_rfl))⟩
 f37 := ⟨Tryz.f172.name, by decide, Tryz.func172.trans (congrArg some (by kernel_rfl))⟩
 f38 := ⟨Tryz.f173.name, by decide, Tryz.func173.trans (congrArg some (by kernel_rfl))⟩
 f39 := ⟨Tryz.f160.name, by decide, Tryz.func160.trans (congrArg some (by kernel_rfl))⟩
 f41 := ⟨Tryz.f187.name, by decide, Tryz.func187.trans (congrArg some (by kernel_rfl))⟩
 t0 := Tryz.underlying0
 a0 := Tryz.isAgg0
 z0 := Tryz.sizeOf0
 v0 := Tryz.zeroValue0
 t3 := Tryz.underlying3
 a3 := Tryz.isAgg3
 z3 := Tryz.sizeOf3
 v3 := Tryz.zeroValue3
 t4 := Tryz.underlying4
 a4 := Tryz.isAgg4
 z4 := Tryz.sizeOf4
 v4 := Tryz.zeroValue4
 t5 := Tryz.underlying5
 a5 := Tryz.isAgg5
 z5 := Tryz.sizeOf5
 v5 := Tryz.zeroValue5
 t9 := Tryz.underlying9
 a9 := Tryz.isAgg9
 z9 := Tryz.sizeOf9
 v9 := Tryz.zeroValue9
 t26 := Tryz.underlying36
 a26 := Tryz.isAgg36
 z26 := Tryz.sizeOf36
 v26 := Tryz.zeroValue36
 t27 := Tryz.underlying36
 a27 := Tryz.isAgg36
 z27 := Tryz.sizeOf36
 v27 := Tryz.zeroValue36
 t29 := Tryz.underlying9
 a29 := Tryz.isAgg9
 z29 := Tryz.sizeOf9
 v29 := Tryz.zeroValue9
 t32 := Tryz.underlying192
 a32 := Tryz.isAgg192
 z32 := Tryz.sizeOf192
 v32 := Tryz.zeroValue192
 t35 := Tryz.underlying229
 a35 := Tryz.isAgg229
 z35 := Tryz.sizeOf229
 v35 := Tryz.zeroValue229
 t36 := Tryz.underlying230
 a36 := Tryz.isAgg230
 z36 := Tryz.sizeOf230
 v36 := Tryz.zeroValue230
 t41 := Tryz.underlying64
 a41 := Tryz.isAgg64
 z41 := Tryz.sizeOf64
 v41 := Tryz.zeroValue64
 t44 := Tryz.underlying91
 a44 := Tryz.isAgg91
 z44 := Tryz.sizeOf91
 v44 := Tryz.zeroValue91
 t46 := Tryz.underlying90
 a46 := Tryz.isAgg90
 z46 := Tryz.sizeOf90
 v46 := Tryz.zeroValue90
 t53 := Tryz.underlying253
 a53 := Tryz.isAgg253
 z53 := Tryz.sizeOf253
 v53 := Tryz.zeroValue253
 t57 := Tryz.underlying257
 a57 := Tryz.isAgg257
 z57 := Tryz.sizeOf257
 v57 := Tryz.zeroValue257
 t63 := Tryz.underlying268
 a63 := Tryz.isAgg268
 z63 := Tryz.sizeOf268
 v63 := Tryz.zeroValue268
 t64 := Tryz.underlying269
 a64 := Tryz.isAgg269
 z64 := Tryz.sizeOf269
 v64 := Tryz.zeroValue269 }
open Go.RowKit Go.Maps Go.Sort in
theorem Tryz.sorts43 (m : Nat) : AnyZ.SortsIn Tryz.prog Tryz.sorted43_ren Fence.wide m :=
 ⟨fun blk off cap ss W hH hblk hsz => callsIn_wide.2 (AnyM.slices_Sort_string Tryz.sort70 blk off cap ss W hH hblk hsz),
  fun p cap W => callsIn_wide.2 (AnyM.slices_Sort_string_none Tryz.sort70 p cap W)⟩
open Go.RowKit Go.Maps Go.Sort in
theorem Tryz.maps_Keys_44 (mb : Option Nat) (W : World) : CallsIn Fence.wide 5 Tryz.prog 44 #[.map mb] W fun e w' => e = .returned (.func (.func 71) #[] #[.pointer (some ⟨W.heap.size, 0, none⟩)]) ∧ w' = W.alloc (.cells #[.map mb] 106) :=
 AnyZ.keys_in Tryz.keys44 Fence.wide 5 trivial rfl mb W
open Go.RowKit Go.Maps Go.Sort in
theorem Tryz.slices_Sorted_keys_43_44 {H : Type} (b nn : Nat) (D0 : DataW H) (R : Value → Option (DataW H × List MemPlace)) (w : World) (hown : w.ownsMap Tryz.prog 9 R b nn D0) (hmax : Maps.size D0 ≤ maxLen) (hbytes : Maps.size D0 * 16 ≤ 140737488355328) :
  CallsIn Fence.wide 5 Tryz.prog 43 #[.func (.func 71) #[] #[.pointer (some ⟨w.heap.size, 0, none⟩)]] (w.alloc (.cells #[.map (some b)] 106)) fun e w' => ∃ (v : Value) (ss : List (List UInt8)), e = .returned v ∧ ss.Perm (strKeys D0) ∧
   w'.ownsRow (w.alloc (.cells #[.map (some b)] 106)).heap.size 9 1 v ss.length ((ss.mergeSort (fun x y => decide (x ≤ y))).map encStr) ∧ (v = .slice none 0 0 ↔ ss = []) ∧ Below (w.alloc (.cells #[.map (some b)] 106)).heap.size (w.alloc (.cells #[.map (some b)] 106)) w' := by
 have hbl := hown.lt
 have hseq : SeqGives Fence.wide 2 Tryz.prog 71 #[.pointer (some ⟨w.heap.size, 0, none⟩)] encStr (fun ss => ss.Perm (strKeys D0)) (Maps.size D0) (w.alloc (.cells #[.map (some b)] 106)) :=
  AnyZ.keys_gives (ρ := Tryz.keys44_ren) { Tryz.keys44 with } Fence.wide _ trivial rfl (by omega) w.heap.size b nn D0 _ (by simp) (by simp) (by
   obtain ⟨es, clock, hb, Ft, hs, hD⟩ := hown
   exact ⟨es, clock, (Below.heap_alloc _ _ b hbl).trans hb, Ft, hs, hD⟩)
 exact AnyZ.sorted_in Tryz.sorted43 Fence.wide 5 trivial trivial trivial trivial rfl (by omega) (Tryz.sorts43 _) (enters_of Tryz.func70 (by kernel_rfl) rfl) 71 #[.pointer (some ⟨w.heap.size, 0, none⟩)] trivial (enters_of Tryz.func71 (by kernel_rfl) rfl) _ _ hmax hbytes _ hseq
def Tryz.keys80_ren : Go.Shelf.Ren := ⟨fun | 7 => 80 | 10 => 120 | n => n, fun | 23 => 103 | 26 => 9 | 3 => 109 | 28 => 112 | 0 => 0 | 27 => 111 | 33 => 145 | 4 => 4 | n => n, fun | n => n⟩
theorem Tryz.keys80 : Go.Proofs.SlLaysZ.n7 Tryz.prog Tryz.keys80_ren := {
 mixed := by kernel_rfl
 f7 := ⟨Tryz.f80.name, by decide, Tryz.func80.trans (congrArg some (by kernel_rfl))⟩
 f10 := ⟨Tryz.f120.name, by decide, Tryz.func120.trans (congrArg some (by kernel_rfl))⟩
 t0 := Tryz.underlying0
 a0 := Tryz.isAgg0
 z0 := Tryz.sizeOf0
 v0 := Tryz.zeroValue0
 t4 := Tryz.underlying4
 a4 := Tryz.isAgg4
 z4 := Tryz.sizeOf4
 v4 := Tryz.zeroValue4
 t23 := Tryz.underlying103
 a23 := Tryz.isAgg103
 z23 := Tryz.sizeOf103
 v23 := Tryz.zeroValue103
 t26 := Tryz.underlying9
 a26 := Tryz.isAgg9
 z26 := Tryz.sizeOf9
 v26 := Tryz.zeroValue9
 t27 := Tryz.underlying111
 a27 := Tryz.isAgg111
 z27 := Tryz.sizeOf111
 v27 := Tryz.zeroValue111
 t28 := Tryz.underlying112
 a28 := Tryz.isAgg112
 z28 := Tryz.sizeOf112
 v28 := Tryz.zeroValue112
 t33 := Tryz.underlying145
 a33 := Tryz.isAgg145
 z33 := Tryz.sizeOf145
 v33 := Tryz.zeroValue145 }
open Go.RowKit Go.Maps Go.Sort in
theorem Tryz.maps_Keys_80 (mb : Option Nat) (W : World) : CallsIn Fence.wide 5 Tryz.prog 80 #[.map mb] W fun e w' => e = .returned (.func (.func 120) #[] #[.pointer (some ⟨W.heap.size, 0, none⟩)]) ∧ w' = W.alloc (.cells #[.map mb] 103) :=
 AnyZ.keys_in Tryz.keys80 Fence.wide 5 trivial rfl mb W
open Go.RowKit Go.Maps Go.Sort in
theorem Tryz.slices_Sorted_keys_43_80 {H : Type} (b nn : Nat) (D0 : DataW H) (R : Value → Option (DataW H × List MemPlace)) (w : World) (hown : w.ownsMap Tryz.prog 9 R b nn D0) (hmax : Maps.size D0 ≤ maxLen) (hbytes : Maps.size D0 * 16 ≤ 140737488355328) :
  CallsIn Fence.wide 5 Tryz.prog 43 #[.func (.func 120) #[] #[.pointer (some ⟨w.heap.size, 0, none⟩)]] (w.alloc (.cells #[.map (some b)] 103)) fun e w' => ∃ (v : Value) (ss : List (List UInt8)), e = .returned v ∧ ss.Perm (strKeys D0) ∧
   w'.ownsRow (w.alloc (.cells #[.map (some b)] 103)).heap.size 9 1 v ss.length ((ss.mergeSort (fun x y => decide (x ≤ y))).map encStr) ∧ (v = .slice none 0 0 ↔ ss = []) ∧ Below (w.alloc (.cells #[.map (some b)] 103)).heap.size (w.alloc (.cells #[.map (some b)] 103)) w' := by
 have hbl := hown.lt
 have hseq : SeqGives Fence.wide 2 Tryz.prog 120 #[.pointer (some ⟨w.heap.size, 0, none⟩)] encStr (fun ss => ss.Perm (strKeys D0)) (Maps.size D0) (w.alloc (.cells #[.map (some b)] 103)) :=
  AnyZ.keys_gives (ρ := Tryz.keys80_ren) { Tryz.keys80 with } Fence.wide _ trivial rfl (by omega) w.heap.size b nn D0 _ (by simp) (by simp) (by
   obtain ⟨es, clock, hb, Ft, hs, hD⟩ := hown
   exact ⟨es, clock, (Below.heap_alloc _ _ b hbl).trans hb, Ft, hs, hD⟩)
 exact AnyZ.sorted_in Tryz.sorted43 Fence.wide 5 trivial trivial trivial trivial rfl (by omega) (Tryz.sorts43 _) (enters_of Tryz.func70 (by kernel_rfl) rfl) 120 #[.pointer (some ⟨w.heap.size, 0, none⟩)] trivial (enters_of Tryz.func120 (by kernel_rfl) rfl) _ _ hmax hbytes _ hseq
end Go.Proofs
