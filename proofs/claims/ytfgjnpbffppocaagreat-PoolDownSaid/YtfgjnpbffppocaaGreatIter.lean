/-
  DERIVED: THE SHELF's CONTRACTS AT THIS DUMP, IN PLAIN WORDS (tools/lay-plain.mjs out of 'YtfgjnpbffppocaaGreatIter.lean', which tools/lay-shelf.mjs wrote): THE SAME DECLARATIONS UNDER THE SAME NAMES: 'import', 'namespace', 'open', 'def', 'theorem' AND NOTHING ELSE: no command of the shelf's: FOR A HAND-IN. Each laying: the table of numbers ('.._ren') and one theorem, a field a fact of the dump's own or the kernel's comparison; each contract: ONE APPLICATION.
-/
import Derived.Shelf.SlIter.Nil
import Derived.Shelf.SortM.Plain
import Derived.Shelf.SortM.SortNone
import Derived.Ground.GgzProg
import Derived.Ground.SlgmProg
import Derived.Test.YtfgjnpbffppocaaGreatProg
namespace Go.Proofs
open Go.Shelf
def Tryz.keys28_ren : Go.Shelf.Ren := ⟨fun | 7 => 28 | 10 => 47 | n => n, fun | 23 => 65 | 26 => 9 | 3 => 76 | 28 => 81 | 0 => 0 | 27 => 80 | 33 => 96 | 4 => 4 | n => n, fun | n => n⟩
theorem Tryz.keys28 : Go.Proofs.SlLaysZ.n7 Tryz.prog Tryz.keys28_ren := {
  mixed := by kernel_rfl
  f7 := ⟨Tryz.f28.name, by decide, Tryz.func28.trans (congrArg some (by kernel_rfl))⟩
  f10 := ⟨Tryz.f47.name, by decide, Tryz.func47.trans (congrArg some (by kernel_rfl))⟩
  t0 := Tryz.underlying0
  a0 := Tryz.isAgg0
  z0 := Tryz.sizeOf0
  v0 := Tryz.zeroValue0
  t4 := Tryz.underlying4
  a4 := Tryz.isAgg4
  z4 := Tryz.sizeOf4
  v4 := Tryz.zeroValue4
  t23 := Tryz.underlying65
  a23 := Tryz.isAgg65
  z23 := Tryz.sizeOf65
  v23 := Tryz.zeroValue65
  t26 := Tryz.underlying9
  a26 := Tryz.isAgg9
  z26 := Tryz.sizeOf9
  v26 := Tryz.zeroValue9
  t27 := Tryz.underlying80
  a27 := Tryz.isAgg80
  z27 := Tryz.sizeOf80
  v27 := Tryz.zeroValue80
  t28 := Tryz.underlying81
  a28 := Tryz.isAgg81
  z28 := Tryz.sizeOf81
  v28 := Tryz.zeroValue81
  t33 := Tryz.underlying96
  a33 := Tryz.isAgg96
  z33 := Tryz.sizeOf96
  v33 := Tryz.zeroValue96 }
def Tryz.sorted27_ren : Go.Shelf.Ren := ⟨fun | 6 => 27 | 8 => 45 | 9 => 46 | 11 => 68 | 13 => 70 | 12 => 69 | 23 => 95 | 24 => 96 | 14 => 87 | 15 => 88 | 16 => 89 | 17 => 90 | 18 => 91 | 19 => 92 | 20 => 35 | 21 => 93 | 22 => 94 | 25 => 110 | 26 => 111 | 27 => 112 | 28 => 113 | 29 => 114 | 30 => 58 | 31 => 120 | n => n, fun | 26 => 9 | 28 => 81 | 24 => 45 | 0 => 0 | 3 => 3 | 37 => 94 | 48 => 36 | 50 => 66 | 4 => 4 | 40 => 155 | 39 => 154 | 45 => 58 | 5 => 5 | 9 => 9 | 51 => 177 | 55 => 181 | 57 => 191 | 58 => 192 | 33 => 96 | n => n, fun | n => n⟩
theorem Tryz.sorted27 : Go.Proofs.SlLaysZ.n6 Tryz.prog Tryz.sorted27_ren := {
  mixed := by kernel_rfl
  f6 := ⟨Tryz.f27.name, by decide, Tryz.func27.trans (congrArg some (by kernel_rfl))⟩
  f8 := ⟨Tryz.f45.name, by decide, Tryz.func45.trans (congrArg some (by kernel_rfl))⟩
  f11 := ⟨Tryz.f68.name, by decide, Tryz.func68.trans (congrArg some (by kernel_rfl))⟩
  t0 := Tryz.underlying0
  a0 := Tryz.isAgg0
  z0 := Tryz.sizeOf0
  v0 := Tryz.zeroValue0
  t24 := Tryz.underlying45
  a24 := Tryz.isAgg45
  z24 := Tryz.sizeOf45
  v24 := Tryz.zeroValue45
  t26 := Tryz.underlying9
  a26 := Tryz.isAgg9
  z26 := Tryz.sizeOf9
  v26 := Tryz.zeroValue9
  t28 := Tryz.underlying81
  a28 := Tryz.isAgg81
  z28 := Tryz.sizeOf81
  v28 := Tryz.zeroValue81
  i26 := by kernel_rfl }
def Tryz.sort46_ren : Go.Shelf.Ren := ⟨fun | 6 => 46 | 8 => 70 | 9 => 69 | 19 => 95 | 20 => 96 | 21 => 87 | 22 => 88 | 23 => 89 | 24 => 90 | 25 => 91 | 26 => 92 | 27 => 35 | 28 => 93 | 29 => 94 | 36 => 110 | 31 => 111 | 32 => 112 | 37 => 113 | 38 => 114 | 39 => 58 | 41 => 120 | n => n, fun | 27 => 45 | 29 => 9 | 3 => 3 | 32 => 94 | 26 => 45 | 0 => 0 | 44 => 36 | 46 => 66 | 4 => 4 | 36 => 155 | 35 => 154 | 41 => 58 | 5 => 5 | 9 => 9 | 53 => 177 | 57 => 181 | 63 => 191 | 64 => 192 | n => n, fun | n => n⟩
theorem Tryz.sort46 : Go.Proofs.SlLaysM.n6 Tryz.prog Tryz.sort46_ren := {
  mixed := by kernel_rfl
  f6 := ⟨Tryz.f46.name, by decide, Tryz.func46.trans (congrArg some (by kernel_rfl))⟩
  f8 := Tryz.func70.trans (congrArg some (by kernel_rfl))
  f9 := ⟨Tryz.f69.name, by decide, Tryz.func69.trans (congrArg some (by kernel_rfl))⟩
  f19 := Tryz.func95.trans (congrArg some (by kernel_rfl))
  f20 := Tryz.func96.trans (congrArg some (by kernel_rfl))
  f21 := ⟨Tryz.f87.name, by decide, Tryz.func87.trans (congrArg some (by kernel_rfl))⟩
  f22 := ⟨Tryz.f88.name, by decide, Tryz.func88.trans (congrArg some (by kernel_rfl))⟩
  f23 := ⟨Tryz.f89.name, by decide, Tryz.func89.trans (congrArg some (by kernel_rfl))⟩
  f24 := ⟨Tryz.f90.name, by decide, Tryz.func90.trans (congrArg some (by kernel_rfl))⟩
  f25 := ⟨Tryz.f91.name, by decide, Tryz.func91.trans (congrArg some (by kernel_rfl))⟩
  f26 := ⟨Tryz.f92.name, by decide, Tryz.func92.trans (congrArg some (by kernel_rfl))⟩
  f27 := ⟨Tryz.f35.name, by decide, Tryz.func35.trans (congrArg some (by kernel_rfl))⟩
  f28 := ⟨Tryz.f93.name, by decide, Tryz.func93.trans (congrArg some (by kernel_rfl))⟩
  f29 := ⟨Tryz.f94.name, by decide, Tryz.func94.trans (congrArg some (by kernel_rfl))⟩
  f31 := Tryz.func111.trans (congrArg some (by kernel_rfl))
  f32 := Tryz.func112.trans (congrArg some (by kernel_rfl))
  f36 := ⟨Tryz.f110.name, by decide, Tryz.func110.trans (congrArg some (by kernel_rfl))⟩
  f37 := ⟨Tryz.f113.name, by decide, Tryz.func113.trans (congrArg some (by kernel_rfl))⟩
  f38 := ⟨Tryz.f114.name, by decide, Tryz.func114.trans (congrArg some (by kernel_rfl))⟩
  f39 := ⟨Tryz.f58.name, by decide, Tryz.func58.trans (congrArg some (by kernel_rfl))⟩
  f41 := ⟨Tryz.f120.name, by decide, Tryz.func120.trans (congrArg some (by kernel_rfl))⟩
  t0 := Tryz.underlying0
  a0 := Tryz.isAgg0
  z0 := Tryz.sizeOf0
  v0 := Tryz.zeroValue0
  t3 := Tryz.underlying3
  a3 := Tryz.isAgg3
  z3 := Tryz.sizeOf3
  v3 := Tryz.zeroValue3
  t4 := Tryz.underlying4
  a4 := Tryz.isAgg4
  z4 := Tryz.sizeOf4
  v4 := Tryz.zeroValue4
  t5 := Tryz.underlying5
  a5 := Tryz.isAgg5
  z5 := Tryz.sizeOf5
  v5 := Tryz.zeroValue5
  t9 := Tryz.underlying9
  a9 := Tryz.isAgg9
  z9 := Tryz.sizeOf9
  v9 := Tryz.zeroValue9
  t26 := Tryz.underlying45
  a26 := Tryz.isAgg45
  z26 := Tryz.sizeOf45
  v26 := Tryz.zeroValue45
  t27 := Tryz.underlying45
  a27 := Tryz.isAgg45
  z27 := Tryz.sizeOf45
  v27 := Tryz.zeroValue45
  t29 := Tryz.underlying9
  a29 := Tryz.isAgg9
  z29 := Tryz.sizeOf9
  v29 := Tryz.zeroValue9
  t32 := Tryz.underlying94
  a32 := Tryz.isAgg94
  z32 := Tryz.sizeOf94
  v32 := Tryz.zeroValue94
  t35 := Tryz.underlying154
  a35 := Tryz.isAgg154
  z35 := Tryz.sizeOf154
  v35 := Tryz.zeroValue154
  t36 := Tryz.underlying155
  a36 := Tryz.isAgg155
  z36 := Tryz.sizeOf155
  v36 := Tryz.zeroValue155
  t41 := Tryz.underlying58
  a41 := Tryz.isAgg58
  z41 := Tryz.sizeOf58
  v41 := Tryz.zeroValue58
  t44 := Tryz.underlying36
  a44 := Tryz.isAgg36
  z44 := Tryz.sizeOf36
  v44 := Tryz.zeroValue36
  t46 := Tryz.underlying66
  a46 := Tryz.isAgg66
  z46 := Tryz.sizeOf66
  v46 := Tryz.zeroValue66
  t53 := Tryz.underlying177
  a53 := Tryz.isAgg177
  z53 := Tryz.sizeOf177
  v53 := Tryz.zeroValue177
  t57 := Tryz.underlying181
  a57 := Tryz.isAgg181
  z57 := Tryz.sizeOf181
  v57 := Tryz.zeroValue181
  t63 := Tryz.underlying191
  a63 := Tryz.isAgg191
  z63 := Tryz.sizeOf191
  v63 := Tryz.zeroValue191
  t64 := Tryz.underlying192
  a64 := Tryz.isAgg192
  z64 := Tryz.sizeOf192
  v64 := Tryz.zeroValue192 }
open Go.RowKit Go.Maps Go.Sort in
/-- slices.Sort's two contracts at this dump, at the fence that asks nothing. -/
theorem Tryz.sorts27 (m : Nat) : AnyZ.SortsIn Tryz.prog Tryz.sorted27_ren Fence.wide m :=
  ⟨fun blk off cap ss W hH hblk hsz => callsIn_wide.2 (AnyM.slices_Sort_string Tryz.sort46 blk off cap ss W hH hblk hsz),
   fun p cap W => callsIn_wide.2 (AnyM.slices_Sort_string_none Tryz.sort46 p cap W)⟩
open Go.RowKit Go.Maps Go.Sort in
/-- **maps.Keys[map[string]struct{},string,struct{}], at whatever map, the nil one too:** a function value over ONE NEW BLOCK, which holds the map. -/
theorem Tryz.maps_Keys_28 (mb : Option Nat) (W : World) : CallsIn Fence.wide 5 Tryz.prog 28 #[.map mb] W fun e w' => e = .returned (.func (.func 47) #[] #[.pointer (some ⟨W.heap.size, 0, none⟩)]) ∧ w' = W.alloc (.cells #[.map mb] 65) :=
  AnyZ.keys_in Tryz.keys28 Fence.wide 5 trivial rfl mb W
open Go.RowKit Go.Maps Go.Sort in
/-- **slices.Sorted[string] AT WHAT maps.Keys[map[string]struct{},string,struct{}] HANDED BACK FOR A MAP THAT IS NOT nil** ('w': the world AHEAD of maps.Keys' call): A NEW SLICE THAT HOLDS THE MAP's KEYS, SORTED; nil just where it has none; nothing that lay before has turned. -/
theorem Tryz.slices_Sorted_keys_27_28 {H : Type} (b nn : Nat) (D0 : DataW H) (R : Value → Option (DataW H × List MemPlace)) (w : World) (hown : w.ownsMap Tryz.prog 9 R b nn D0) (hmax : Maps.size D0 ≤ maxLen) (hbytes : Maps.size D0 * 16 ≤ 140737488355328) :
    CallsIn Fence.wide 5 Tryz.prog 27 #[.func (.func 47) #[] #[.pointer (some ⟨w.heap.size, 0, none⟩)]] (w.alloc (.cells #[.map (some b)] 65)) fun e w' => ∃ (v : Value) (ss : List (List UInt8)), e = .returned v ∧ ss.Perm (strKeys D0) ∧
      w'.ownsRow (w.alloc (.cells #[.map (some b)] 65)).heap.size 9 1 v ss.length ((ss.mergeSort (fun x y => decide (x ≤ y))).map encStr) ∧ (v = .slice none 0 0 ↔ ss = []) ∧ Below (w.alloc (.cells #[.map (some b)] 65)).heap.size (w.alloc (.cells #[.map (some b)] 65)) w' := by
  have hbl := hown.lt
  have hseq : SeqGives Fence.wide 2 Tryz.prog 47 #[.pointer (some ⟨w.heap.size, 0, none⟩)] encStr (fun ss => ss.Perm (strKeys D0)) (Maps.size D0) (w.alloc (.cells #[.map (some b)] 65)) :=
    AnyZ.keys_gives (ρ := Tryz.keys28_ren) { Tryz.keys28 with } Fence.wide _ trivial rfl (by omega) w.heap.size b nn D0 _ (by simp) (by simp) (by
      obtain ⟨es, clock, hb, Ft, hs, hD⟩ := hown
      exact ⟨es, clock, (Below.heap_alloc _ _ b hbl).trans hb, Ft, hs, hD⟩)
  exact AnyZ.sorted_in Tryz.sorted27 Fence.wide 5 trivial trivial trivial trivial rfl (by omega) (Tryz.sorts27 _) (enters_of Tryz.func46 (by kernel_rfl) rfl) 47 #[.pointer (some ⟨w.heap.size, 0, none⟩)] trivial (enters_of Tryz.func47 (by kernel_rfl) rfl) _ _ hmax hbytes _ hseq
open Go.RowKit Go.Maps Go.Sort in
/-- **.. AND FOR THE nil MAP: nil.** -/
theorem Tryz.slices_Sorted_keys_nil_27_28 (w : World) :
    CallsIn Fence.wide 5 Tryz.prog 27 #[.func (.func 47) #[] #[.pointer (some ⟨w.heap.size, 0, none⟩)]] (w.alloc (.cells #[.map none] 65)) fun e w' => ∃ (v : Value) (ss : List (List UInt8)), e = .returned v ∧ ss = [] ∧
      w'.ownsRow (w.alloc (.cells #[.map none] 65)).heap.size 9 1 v ss.length ((ss.mergeSort (fun x y => decide (x ≤ y))).map encStr) ∧ (v = .slice none 0 0 ↔ ss = []) ∧ Below (w.alloc (.cells #[.map none] 65)).heap.size (w.alloc (.cells #[.map none] 65)) w' := by
  have hseq : SeqGives Fence.wide 2 Tryz.prog 47 #[.pointer (some ⟨w.heap.size, 0, none⟩)] encStr (fun ss : List (List UInt8) => ss = []) 0 (w.alloc (.cells #[.map none] 65)) :=
    AnyZ.keys_gives_nil (ρ := Tryz.keys28_ren) { Tryz.keys28 with } Fence.wide _ trivial rfl w.heap.size _ (by simp) (by simp)
  exact AnyZ.sorted_in Tryz.sorted27 Fence.wide 5 trivial trivial trivial trivial rfl (by omega) (Tryz.sorts27 _) (enters_of Tryz.func46 (by kernel_rfl) rfl) 47 #[.pointer (some ⟨w.heap.size, 0, none⟩)] trivial (enters_of Tryz.func47 (by kernel_rfl) rfl) _ 0 (Nat.zero_le _) (by omega) _ hseq
end Go.Proofs
