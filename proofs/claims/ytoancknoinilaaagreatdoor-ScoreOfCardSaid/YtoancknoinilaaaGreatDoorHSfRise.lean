import Derived.Shelf.SlGeneric
import Derived.Shelf.SlSortCmp.NoneTotal
import Derived.Ground.SlsfProg
import Derived.Test.YtoancknoinilaaaGreatDoorProg
/- slices.SortFunc at api.Rise: the kit's contract,laid at this program (the table was printed by the kit's lay-plain,then turned into names). -/
set_option linter.unusedVariables false
set_option linter.unusedSimpArgs false
namespace Go.Proofs
open Go.Shelf
def Tryz.sortRise_ren : Go.Shelf.Ren := ⟨fun | 6 => 217 | 15 => 244 | 14 => 251 | 28 => 278 | 29 => 234 | 20 => 281 | 21 => 282 | 22 => 283 | 23 => 284 | 24 => 285 | 25 => 286 | 26 => 287 | 27 => 288 | 46 => 318 | 47 => 305 | 48 => 306 | 49 => 319 | 50 => 320 | 57 => 330 | n => n,fun | 22 => 219 | 24 => 223 | 25 => 293 | 3 => 3 | 39 => 296 | 0 => 0 | 53 => 317 | 55 => 259 | 4 => 4 | 46 => 341 | 45 => 340 | 50 => 345 | 5 => 5 | 9 => 9 | 66 => 369 | 70 => 373 | 76 => 384 | 77 => 385 | n => n,fun | n => n⟩
theorem Tryz.sortRise : Go.Proofs.SlLaysF0.n6 Tryz.prog Tryz.sortRise_ren := {
 mixed := by kernel_rfl
 f6 := ⟨Tryz.f217.name,by decide,Tryz.func217.trans (congrArg some (by kernel_rfl))⟩
 f14 := ⟨Tryz.f251.name,by decide,Tryz.func251.trans (congrArg some (by kernel_rfl))⟩
 f15 := Tryz.func244.trans (congrArg some (by kernel_rfl))
 f20 := ⟨Tryz.f281.name,by decide,Tryz.func281.trans (congrArg some (by kernel_rfl))⟩
 f21 := ⟨Tryz.f282.name,by decide,Tryz.func282.trans (congrArg some (by kernel_rfl))⟩
 f22 := ⟨Tryz.f283.name,by decide,Tryz.func283.trans (congrArg some (by kernel_rfl))⟩
 f23 := ⟨Tryz.f284.name,by decide,Tryz.func284.trans (congrArg some (by kernel_rfl))⟩
 f24 := ⟨Tryz.f285.name,by decide,Tryz.func285.trans (congrArg some (by kernel_rfl))⟩
 f25 := ⟨Tryz.f286.name,by decide,Tryz.func286.trans (congrArg some (by kernel_rfl))⟩
 f26 := ⟨Tryz.f287.name,by decide,Tryz.func287.trans (congrArg some (by kernel_rfl))⟩
 f27 := ⟨Tryz.f288.name,by decide,Tryz.func288.trans (congrArg some (by kernel_rfl))⟩
 f28 := Tryz.func278.trans (congrArg some (by kernel_rfl))
 f29 := Tryz.func234.trans (congrArg some (by kernel_rfl))
 f46 := ⟨Tryz.f318.name,by decide,Tryz.func318.trans (congrArg some (by kernel_rfl))⟩
 f47 := Tryz.func305.trans (congrArg some (by kernel_rfl))
 f48 := Tryz.func306.trans (congrArg some (by kernel_rfl))
 f49 := ⟨Tryz.f319.name,by decide,Tryz.func319.trans (congrArg some (by kernel_rfl))⟩
 f50 := ⟨Tryz.f320.name,by decide,Tryz.func320.trans (congrArg some (by kernel_rfl))⟩
 f57 := ⟨Tryz.f330.name,by decide,Tryz.func330.trans (congrArg some (by kernel_rfl))⟩
 t0 := Tryz.underlying0
 a0 := Tryz.isAgg0
 z0 := Tryz.sizeOf0
 v0 := Tryz.zeroValue0
 t3 := Tryz.underlying3
 a3 := Tryz.isAgg3
 z3 := Tryz.sizeOf3
 v3 := Tryz.zeroValue3
 t4 := Tryz.underlying4
 a4 := Tryz.isAgg4
 z4 := Tryz.sizeOf4
 v4 := Tryz.zeroValue4
 t5 := Tryz.underlying5
 a5 := Tryz.isAgg5
 z5 := Tryz.sizeOf5
 v5 := Tryz.zeroValue5
 t9 := Tryz.underlying9
 a9 := Tryz.isAgg9
 z9 := Tryz.sizeOf9
 v9 := Tryz.zeroValue9
 t22 := Tryz.underlying219
 a22 := Tryz.isAgg219
 z22 := Tryz.sizeOf219
 v22 := Tryz.zeroValue219
 t25 := Tryz.underlying293
 a25 := Tryz.isAgg293
 z25 := Tryz.sizeOf293
 v25 := Tryz.zeroValue293
 t39 := Tryz.underlying296
 a39 := Tryz.isAgg296
 z39 := Tryz.sizeOf296
 v39 := Tryz.zeroValue296
 t45 := Tryz.underlying340
 a45 := Tryz.isAgg340
 z45 := Tryz.sizeOf340
 v45 := Tryz.zeroValue340
 t46 := Tryz.underlying341
 a46 := Tryz.isAgg341
 z46 := Tryz.sizeOf341
 v46 := Tryz.zeroValue341
 t50 := Tryz.underlying345
 a50 := Tryz.isAgg345
 z50 := Tryz.sizeOf345
 v50 := Tryz.zeroValue345
 t53 := Tryz.underlying317
 a53 := Tryz.isAgg317
 z53 := Tryz.sizeOf317
 v53 := Tryz.zeroValue317
 t55 := Tryz.underlying259
 a55 := Tryz.isAgg259
 z55 := Tryz.sizeOf259
 v55 := Tryz.zeroValue259
 t66 := Tryz.underlying369
 a66 := Tryz.isAgg369
 z66 := Tryz.sizeOf369
 v66 := Tryz.zeroValue369
 t70 := Tryz.underlying373
 a70 := Tryz.isAgg373
 z70 := Tryz.sizeOf373
 v70 := Tryz.zeroValue373
 t76 := Tryz.underlying384
 a76 := Tryz.isAgg384
 z76 := Tryz.sizeOf384
 v76 := Tryz.zeroValue384
 t77 := Tryz.underlying385
 a77 := Tryz.isAgg385
 z77 := Tryz.sizeOf385
 v77 := Tryz.zeroValue385 }
end Go.Proofs
