/- What the kit's shelf has laid for this seat. -/
import Derived.Shelf.SlSortCmp.NoneTotal
import Derived.Shelf.SlCmpFuncs.IsSortedFunc
import Derived.Shelf.SlCmpFuncs.None
import Derived.Shelf.SlGeneric
import Derived.Ground.SlsfProg
import Derived.Ground.SlsgProg
import Derived.Test.YtndkohocgfmamaaGreatDoorProg
namespace Go.Proofs
open Go.Shelf
def Tryz.sortRec_ren : Go.Shelf.Ren := ⟨fun | 6 => 148 | 15 => 169 | 14 => 175 | 28 => 193 | 29 => 194 | 20 => 199 | 21 => 200 | 22 => 201 | 23 => 202 | 24 => 203 | 25 => 204 | 26 => 205 | 27 => 206 | 46 => 213 | 47 => 209 | 48 => 210 | 49 => 214 | 50 => 215 | 57 => 217 | n => n, fun | 22 => 120 | 24 => 84 | 25 => 194 | 3 => 3 | 39 => 189 | 0 => 0 | 53 => 46 | 55 => 47 | 4 => 4 | 46 => 284 | 45 => 283 | 50 => 125 | 5 => 5 | 9 => 9 | 66 => 300 | 70 => 304 | 76 => 308 | 77 => 309 | n => n, fun | n => n⟩
theorem Tryz.sortRec : Go.Proofs.SlLaysF.n6 Tryz.prog Tryz.sortRec_ren := {
 mixed := by kernel_rfl
 f6 := ⟨Tryz.f148.name, by decide, Tryz.func148.trans (congrArg some (by kernel_rfl))⟩
 f14 := ⟨Tryz.f175.name, by decide, Tryz.func175.trans (congrArg some (by kernel_rfl))⟩
 f15 := Tryz.func169.trans (congrArg some (by kernel_rfl))
 f20 := ⟨Tryz.f199.name, by decide, Tryz.func199.trans (congrArg some (by kernel_rfl))⟩
 f21 := ⟨Tryz.f200.name, by decide, Tryz.func200.trans (congrArg some (by kernel_rfl))⟩
 f22 := ⟨Tryz.f201.name, by decide, Tryz.func201.trans (congrArg some (by kernel_rfl))⟩
 f23 := ⟨Tryz.f202.name, by decide, Tryz.func202.trans (congrArg some (by kernel_rfl))⟩
 f24 := ⟨Tryz.f203.name, by decide, Tryz.func203.trans (congrArg some (by kernel_rfl))⟩
 f25 := ⟨Tryz.f204.name, by decide, Tryz.func204.trans (congrArg some (by kernel_rfl))⟩
 f26 := ⟨Tryz.f205.name, by decide, Tryz.func205.trans (congrArg some (by kernel_rfl))⟩
 f27 := ⟨Tryz.f206.name, by decide, Tryz.func206.trans (congrArg some (by kernel_rfl))⟩
 f28 := Tryz.func193.trans (congrArg some (by kernel_rfl))
 f29 := Tryz.func194.trans (congrArg some (by kernel_rfl))
 f46 := ⟨Tryz.f213.name, by decide, Tryz.func213.trans (congrArg some (by kernel_rfl))⟩
 f47 := Tryz.func209.trans (congrArg some (by kernel_rfl))
 f48 := Tryz.func210.trans (congrArg some (by kernel_rfl))
 f49 := ⟨Tryz.f214.name, by decide, Tryz.func214.trans (congrArg some (by kernel_rfl))⟩
 f50 := ⟨Tryz.f215.name, by decide, Tryz.func215.trans (congrArg some (by kernel_rfl))⟩
 f57 := ⟨Tryz.f217.name, by decide, Tryz.func217.trans (congrArg some (by kernel_rfl))⟩
 t0 := Tryz.underlying0
 a0 := Tryz.isAgg0
 z0 := Tryz.sizeOf0
 v0 := Tryz.zeroValue0
 t3 := Tryz.underlying3
 a3 := Tryz.isAgg3
 z3 := Tryz.sizeOf3
 v3 := Tryz.zeroValue3
 t4 := Tryz.underlying4
 a4 := Tryz.isAgg4
 z4 := Tryz.sizeOf4
 v4 := Tryz.zeroValue4
 t5 := Tryz.underlying5
 a5 := Tryz.isAgg5
 z5 := Tryz.sizeOf5
 v5 := Tryz.zeroValue5
 t9 := Tryz.underlying9
 a9 := Tryz.isAgg9
 z9 := Tryz.sizeOf9
 v9 := Tryz.zeroValue9
 t22 := Tryz.underlying120
 a22 := Tryz.isAgg120
 z22 := Tryz.sizeOf120
 v22 := Tryz.zeroValue120
 a24 := Tryz.isAgg84
 z24 := Tryz.sizeOf84
 t25 := Tryz.underlying194
 a25 := Tryz.isAgg194
 z25 := Tryz.sizeOf194
 v25 := Tryz.zeroValue194
 t39 := Tryz.underlying189
 a39 := Tryz.isAgg189
 z39 := Tryz.sizeOf189
 v39 := Tryz.zeroValue189
 t45 := Tryz.underlying283
 a45 := Tryz.isAgg283
 z45 := Tryz.sizeOf283
 v45 := Tryz.zeroValue283
 t46 := Tryz.underlying284
 a46 := Tryz.isAgg284
 z46 := Tryz.sizeOf284
 v46 := Tryz.zeroValue284
 t50 := Tryz.underlying125
 a50 := Tryz.isAgg125
 z50 := Tryz.sizeOf125
 v50 := Tryz.zeroValue125
 t53 := Tryz.underlying46
 a53 := Tryz.isAgg46
 z53 := Tryz.sizeOf46
 v53 := Tryz.zeroValue46
 t55 := Tryz.underlying47
 a55 := Tryz.isAgg47
 z55 := Tryz.sizeOf47
 v55 := Tryz.zeroValue47
 t66 := Tryz.underlying300
 a66 := Tryz.isAgg300
 z66 := Tryz.sizeOf300
 v66 := Tryz.zeroValue300
 t70 := Tryz.underlying304
 a70 := Tryz.isAgg304
 z70 := Tryz.sizeOf304
 v70 := Tryz.zeroValue304
 t76 := Tryz.underlying308
 a76 := Tryz.isAgg308
 z76 := Tryz.sizeOf308
 v76 := Tryz.zeroValue308
 t77 := Tryz.underlying309
 a77 := Tryz.isAgg309
 z77 := Tryz.sizeOf309
 v77 := Tryz.zeroValue309 }
def Tryz.isSortedRec_ren : Go.Shelf.Ren := ⟨fun | 7 => 111 | n => n, fun | 22 => 120 | 24 => 84 | 25 => 194 | 4 => 4 | 3 => 3 | 0 => 0 | n => n, fun | n => n⟩
theorem Tryz.isSortedRec : Go.Proofs.SlLaysG2.n7 Tryz.prog Tryz.isSortedRec_ren := {
 mixed := by kernel_rfl
 f7 := ⟨Tryz.f111.name, by decide, Tryz.func111.trans (congrArg some (by kernel_rfl))⟩
 t0 := Tryz.underlying0
 a0 := Tryz.isAgg0
 z0 := Tryz.sizeOf0
 v0 := Tryz.zeroValue0
 t3 := Tryz.underlying3
 a3 := Tryz.isAgg3
 z3 := Tryz.sizeOf3
 v3 := Tryz.zeroValue3
 t4 := Tryz.underlying4
 a4 := Tryz.isAgg4
 z4 := Tryz.sizeOf4
 v4 := Tryz.zeroValue4
 t22 := Tryz.underlying120
 a22 := Tryz.isAgg120
 z22 := Tryz.sizeOf120
 v22 := Tryz.zeroValue120
 a24 := Tryz.isAgg84
 z24 := Tryz.sizeOf84
 t25 := Tryz.underlying194
 a25 := Tryz.isAgg194
 z25 := Tryz.sizeOf194
 v25 := Tryz.zeroValue194 }
end Go.Proofs
