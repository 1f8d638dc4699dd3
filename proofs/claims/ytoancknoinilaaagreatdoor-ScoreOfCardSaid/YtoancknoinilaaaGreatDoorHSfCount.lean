import Derived.Shelf.SlGeneric
import Derived.Shelf.SlSortCmp.NoneTotal
import Derived.Ground.SlsfProg
import Derived.Test.YtoancknoinilaaaGreatDoorProg
/- slices.SortFunc at api.Count: the kit's contract,laid at this program (the table was printed by the kit's lay-plain,then turned into names). -/
set_option linter.unusedVariables false
set_option linter.unusedSimpArgs false
namespace Go.Proofs
open Go.Shelf
def Tryz.sortCount_ren : Go.Shelf.Ren := ⟨fun | 6 => 207 | 15 => 244 | 14 => 243 | 28 => 278 | 29 => 234 | 20 => 270 | 21 => 271 | 22 => 272 | 23 => 273 | 24 => 274 | 25 => 275 | 26 => 276 | 27 => 277 | 46 => 304 | 47 => 305 | 48 => 306 | 49 => 307 | 50 => 308 | 57 => 326 | n => n,fun | 22 => 163 | 24 => 166 | 25 => 285 | 3 => 3 | 39 => 296 | 0 => 0 | 53 => 317 | 55 => 259 | 4 => 4 | 46 => 341 | 45 => 340 | 50 => 345 | 5 => 5 | 9 => 9 | 66 => 369 | 70 => 373 | 76 => 384 | 77 => 385 | n => n,fun | n => n⟩
theorem Tryz.sortCount : Go.Proofs.SlLaysF0.n6 Tryz.prog Tryz.sortCount_ren := {
 mixed := by kernel_rfl
 f6 := ⟨Tryz.f207.name,by decide,Tryz.func207.trans (congrArg some (by kernel_rfl))⟩
 f14 := ⟨Tryz.f243.name,by decide,Tryz.func243.trans (congrArg some (by kernel_rfl))⟩
 f15 := Tryz.func244.trans (congrArg some (by kernel_rfl))
 f20 := ⟨Tryz.f270.name,by decide,Tryz.func270.trans (congrArg some (by kernel_rfl))⟩
 f21 := ⟨Tryz.f271.name,by decide,Tryz.func271.trans (congrArg some (by kernel_rfl))⟩
 f22 := ⟨Tryz.f272.name,by decide,Tryz.func272.trans (congrArg some (by kernel_rfl))⟩
 f23 := ⟨Tryz.f273.name,by decide,Tryz.func273.trans (congrArg some (by kernel_rfl))⟩
 f24 := ⟨Tryz.f274.name,by decide,Tryz.func274.trans (congrArg some (by kernel_rfl))⟩
 f25 := ⟨Tryz.f275.name,by decide,Tryz.func275.trans (congrArg some (by kernel_rfl))⟩
 f26 := ⟨Tryz.f276.name,by decide,Tryz.func276.trans (congrArg some (by kernel_rfl))⟩
 f27 := ⟨Tryz.f277.name,by decide,Tryz.func277.trans (congrArg some (by kernel_rfl))⟩
 f28 := Tryz.func278.trans (congrArg some (by kernel_rfl))
 f29 := Tryz.func234.trans (congrArg some (by kernel_rfl))
 f46 := ⟨Tryz.f304.name,by decide,Tryz.func304.trans (congrArg some (by kernel_rfl))⟩
 f47 := Tryz.func305.trans (congrArg some (by kernel_rfl))
 f48 := Tryz.func306.trans (congrArg some (by kernel_rfl))
 f49 := ⟨Tryz.f307.name,by decide,Tryz.func307.trans (congrArg some (by kernel_rfl))⟩
 f50 := ⟨Tryz.f308.name,by decide,Tryz.func308.trans (congrArg some (by kernel_rfl))⟩
 f57 := ⟨Tryz.f326.name,by decide,Tryz.func326.trans (congrArg some (by kernel_rfl))⟩
 t0 := Tryz.underlying0
 a0 := Tryz.isAgg0
 z0 := Tryz.sizeOf0
 v0 := Tryz.zeroValue0
 t3 := Tryz.underlying3
 a3 := Tryz.isAgg3
 z3 := Tryz.sizeOf3
 v3 := Tryz.zeroValue3
 t4 := Tryz.underlying4
 a4 := Tryz.isAgg4
 z4 := Tryz.sizeOf4
 v4 := Tryz.zeroValue4
 t5 := Tryz.underlying5
 a5 := Tryz.isAgg5
 z5 := Tryz.sizeOf5
 v5 := Tryz.zeroValue5
 t9 := Tryz.underlying9
 a9 := Tryz.isAgg9
 z9 := Tryz.sizeOf9
 v9 := Tryz.zeroValue9
 t22 := Tryz.underlying163
 a22 := Tryz.isAgg163
 z22 := Tryz.sizeOf163
 v22 := Tryz.zeroValue163
 t25 := Tryz.underlying285
 a25 := Tryz.isAgg285
 z25 := Tryz.sizeOf285
 v25 := Tryz.zeroValue285
 t39 := Tryz.underlying296
 a39 := Tryz.isAgg296
 z39 := Tryz.sizeOf296
 v39 := Tryz.zeroValue296
 t45 := Tryz.underlying340
 a45 := Tryz.isAgg340
 z45 := Tryz.sizeOf340
 v45 := Tryz.zeroValue340
 t46 := Tryz.underlying341
 a46 := Tryz.isAgg341
 z46 := Tryz.sizeOf341
 v46 := Tryz.zeroValue341
 t50 := Tryz.underlying345
 a50 := Tryz.isAgg345
 z50 := Tryz.sizeOf345
 v50 := Tryz.zeroValue345
 t53 := Tryz.underlying317
 a53 := Tryz.isAgg317
 z53 := Tryz.sizeOf317
 v53 := Tryz.zeroValue317
 t55 := Tryz.underlying259
 a55 := Tryz.isAgg259
 z55 := Tryz.sizeOf259
 v55 := Tryz.zeroValue259
 t66 := Tryz.underlying369
 a66 := Tryz.isAgg369
 z66 := Tryz.sizeOf369
 v66 := Tryz.zeroValue369
 t70 := Tryz.underlying373
 a70 := Tryz.isAgg373
 z70 := Tryz.sizeOf373
 v70 := Tryz.zeroValue373
 t76 := Tryz.underlying384
 a76 := Tryz.isAgg384
 z76 := Tryz.sizeOf384
 v76 := Tryz.zeroValue384
 t77 := Tryz.underlying385
 a77 := Tryz.isAgg385
 z77 := Tryz.sizeOf385
 v77 := Tryz.zeroValue385 }
end Go.Proofs
