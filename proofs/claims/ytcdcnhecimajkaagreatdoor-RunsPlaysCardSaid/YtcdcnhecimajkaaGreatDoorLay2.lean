/- What the kit's shelf has laid for this seat. -/
import Derived.Shelf.SlSortCmp.NoneTotal
import Derived.Shelf.SlCmpFuncs.IsSortedFunc
import Derived.Shelf.SlCmpFuncs.None
import Derived.Shelf.SlGeneric
import Derived.Ground.SlsfProg
import Derived.Ground.SlsgProg
import Derived.Test.YtcdcnhecimajkaaGreatDoorProg
namespace Go.Proofs
open Go.Shelf
def Tryz.sortRec_ren : Go.Shelf.Ren := ⟨fun | 6 => 113 | 15 => 110 | 14 => 157 | 28 => 154 | 29 => 155 | 20 => 175 | 21 => 176 | 22 => 177 | 23 => 178 | 24 => 179 | 25 => 180 | 26 => 181 | 27 => 182 | 46 => 188 | 47 => 170 | 48 => 171 | 49 => 189 | 50 => 190 | 57 => 191 | n => n, fun | 22 => 25 | 24 => 24 | 25 => 151 | 3 => 3 | 39 => 192 | 0 => 0 | 53 => 91 | 55 => 90 | 4 => 4 | 46 => 230 | 45 => 229 | 50 => 64 | 5 => 5 | 9 => 9 | 66 => 253 | 70 => 257 | 76 => 268 | 77 => 269 | n => n, fun | n => n⟩
theorem Tryz.sortRec : Go.Proofs.SlLaysF.n6 Tryz.prog Tryz.sortRec_ren := {
 mixed := by kernel_rfl
 f6 := ⟨Tryz.f113.name, by decide, Tryz.func113.trans (congrArg some (by kernel_rfl))⟩
 f14 := ⟨Tryz.f157.name, by decide, Tryz.func157.trans (congrArg some (by kernel_rfl))⟩
 f15 := Tryz.func110.trans (congrArg some (by kernel_rfl))
 f20 := ⟨Tryz.f175.name, by decide, Tryz.func175.trans (congrArg some (by kernel_rfl))⟩
 f21 := ⟨Tryz.f176.name, by decide, Tryz.func176.trans (congrArg some (by kernel_rfl))⟩
 f22 := ⟨Tryz.f177.name, by decide, Tryz.func177.trans (congrArg some (by kernel_rfl))⟩
 f23 := ⟨Tryz.f178.name, by decide, Tryz.func178.trans (congrArg some (by kernel_rfl))⟩
 f24 := ⟨Tryz.f179.name, by decide, Tryz.func179.trans (congrArg some (by kernel_rfl))⟩
 f25 := ⟨Tryz.f180.name, by decide, Tryz.func180.trans (congrArg some (by kernel_rfl))⟩
 f26 := ⟨Tryz.f181.name, by decide, Tryz.func181.trans (congrArg some (by kernel_rfl))⟩
 f27 := ⟨Tryz.f182.name, by decide, Tryz.func182.trans (congrArg some (by kernel_rfl))⟩
 f28 := Tryz.func154.trans (congrArg some (by kernel_rfl))
 f29 := Tryz.func155.trans (congrArg some (by kernel_rfl))
 f46 := ⟨Tryz.f188.name, by decide, Tryz.func188.trans (congrArg some (by kernel_rfl))⟩
 f47 := Tryz.func170.trans (congrArg some (by kernel_rfl))
 f48 := Tryz.func171.trans (congrArg some (by kernel_rfl))
 f49 := ⟨Tryz.f189.name, by decide, Tryz.func189.trans (congrArg some (by kernel_rfl))⟩
 f50 := ⟨Tryz.f190.name, by decide, Tryz.func190.trans (congrArg some (by kernel_rfl))⟩
 f57 := ⟨Tryz.f191.name, by decide, Tryz.func191.trans (congrArg some (by kernel_rfl))⟩
 t0 := Tryz.underlying0
 a0 := Tryz.isAgg0
 z0 := Tryz.sizeOf0
 v0 := Tryz.zeroValue0
 t3 := Tryz.underlying3
 a3 := Tryz.isAgg3
 z3 := Tryz.sizeOf3
 v3 := Tryz.zeroValue3
 t4 := Tryz.underlying4
 a4 := Tryz.isAgg4
 z4 := Tryz.sizeOf4
 v4 := Tryz.zeroValue4
 t5 := Tryz.underlying5
 a5 := Tryz.isAgg5
 z5 := Tryz.sizeOf5
 v5 := Tryz.zeroValue5
 t9 := Tryz.underlying9
 a9 := Tryz.isAgg9
 z9 := Tryz.sizeOf9
 v9 := Tryz.zeroValue9
 t22 := Tryz.underlying25
 a22 := Tryz.isAgg25
 z22 := Tryz.sizeOf25
 v22 := Tryz.zeroValue25
 a24 := Tryz.isAgg24
 z24 := Tryz.sizeOf24
 t25 := Tryz.underlying151
 a25 := Tryz.isAgg151
 z25 := Tryz.sizeOf151
 v25 := Tryz.zeroValue151
 t39 := Tryz.underlying192
 a39 := Tryz.isAgg192
 z39 := Tryz.sizeOf192
 v39 := Tryz.zeroValue192
 t45 := Tryz.underlying229
 a45 := Tryz.isAgg229
 z45 := Tryz.sizeOf229
 v45 := Tryz.zeroValue229
 t46 := Tryz.underlying230
 a46 := Tryz.isAgg230
 z46 := Tryz.sizeOf230
 v46 := Tryz.zeroValue230
 t50 := Tryz.underlying64
 a50 := Tryz.isAgg64
 z50 := Tryz.sizeOf64
 v50 := Tryz.zeroValue64
 t53 := Tryz.underlying91
 a53 := Tryz.isAgg91
 z53 := Tryz.sizeOf91
 v53 := Tryz.zeroValue91
 t55 := Tryz.underlying90
 a55 := Tryz.isAgg90
 z55 := Tryz.sizeOf90
 v55 := Tryz.zeroValue90
 t66 := Tryz.underlying253
 a66 := Tryz.isAgg253
 z66 := Tryz.sizeOf253
 v66 := Tryz.zeroValue253
 t70 := Tryz.underlying257
 a70 := Tryz.isAgg257
 z70 := Tryz.sizeOf257
 v70 := Tryz.zeroValue257
 t76 := Tryz.underlying268
 a76 := Tryz.isAgg268
 z76 := Tryz.sizeOf268
 v76 := Tryz.zeroValue268
 t77 := Tryz.underlying269
 a77 := Tryz.isAgg269
 z77 := Tryz.sizeOf269
 v77 := Tryz.zeroValue269 }
def Tryz.isSortedRec_ren : Go.Shelf.Ren := ⟨fun | 7 => 90 | n => n, fun | 22 => 25 | 24 => 24 | 25 => 151 | 4 => 4 | 3 => 3 | 0 => 0 | n => n, fun | n => n⟩
theorem Tryz.isSortedRec : Go.Proofs.SlLaysG2.n7 Tryz.prog Tryz.isSortedRec_ren := {
 mixed := by kernel_rfl
 f7 := ⟨Tryz.f90.name, by decide, Tryz.func90.trans (congrArg some (by kernel_rfl))⟩
 t0 := Tryz.underlying0
 a0 := Tryz.isAgg0
 z0 := Tryz.sizeOf0
 v0 := Tryz.zeroValue0
 t3 := Tryz.underlying3
 a3 := Tryz.isAgg3
 z3 := Tryz.sizeOf3
 v3 := Tryz.zeroValue3
 t4 := Tryz.underlying4
 a4 := Tryz.isAgg4
 z4 := Tryz.sizeOf4
 v4 := Tryz.zeroValue4
 t22 := Tryz.underlying25
 a22 := Tryz.isAgg25
 z22 := Tryz.sizeOf25
 v22 := Tryz.zeroValue25
 a24 := Tryz.isAgg24
 z24 := Tryz.sizeOf24
 t25 := Tryz.underlying151
 a25 := Tryz.isAgg151
 z25 := Tryz.sizeOf151
 v25 := Tryz.zeroValue151 }
end Go.Proofs
