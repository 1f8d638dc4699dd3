import Derived.Shelf.SlGeneric
import Derived.Shelf.SlSortCmp.NoneTotal
import Derived.Ground.SlsfProg
import Derived.Test.YtopncieoolkhjaaGreatDoorProg
/- slices.SortFunc at api.Count: the kit's contract,laid at this program (the table was printed by the kit's lay-plain,then turned into names). -/
set_option linter.unusedVariables false
set_option linter.unusedSimpArgs false
namespace Go.Proofs
open Go.Shelf
def Tryz.sortCount_ren : Go.Shelf.Ren := ⟨fun | 6 => 83 | 15 => 146 | 14 => 145 | 28 => 205 | 29 => 206 | 20 => 197 | 21 => 198 | 22 => 199 | 23 => 200 | 24 => 201 | 25 => 202 | 26 => 203 | 27 => 204 | 46 => 246 | 47 => 247 | 48 => 248 | 49 => 249 | 50 => 250 | 57 => 278 | n => n,fun | 22 => 93 | 24 => 193 | 25 => 199 | 3 => 3 | 39 => 249 | 0 => 0 | 53 => 300 | 55 => 30 | 4 => 4 | 46 => 293 | 45 => 292 | 50 => 297 | 5 => 5 | 9 => 9 | 66 => 337 | 70 => 341 | 76 => 359 | 77 => 360 | n => n,fun | n => n⟩
theorem Tryz.sortCount : Go.Proofs.SlLaysF0.n6 Tryz.prog Tryz.sortCount_ren := {
 mixed := by kernel_rfl
 f6 := ⟨Tryz.f83.name,by decide,Tryz.func83.trans (congrArg some (by kernel_rfl))⟩
 f14 := ⟨Tryz.f145.name,by decide,Tryz.func145.trans (congrArg some (by kernel_rfl))⟩
 f15 := Tryz.func146.trans (congrArg some (by kernel_rfl))
 f20 := ⟨Tryz.f197.name,by decide,Tryz.func197.trans (congrArg some (by kernel_rfl))⟩
 f21 := ⟨Tryz.f198.name,by decide,Tryz.func198.trans (congrArg some (by kernel_rfl))⟩
 f22 := ⟨Tryz.f199.name,by decide,Tryz.func199.trans (congrArg some (by kernel_rfl))⟩
 f23 := ⟨Tryz.f200.name,by decide,Tryz.func200.trans (congrArg some (by kernel_rfl))⟩
 f24 := ⟨Tryz.f201.name,by decide,Tryz.func201.trans (congrArg some (by kernel_rfl))⟩
 f25 := ⟨Tryz.f202.name,by decide,Tryz.func202.trans (congrArg some (by kernel_rfl))⟩
 f26 := ⟨Tryz.f203.name,by decide,Tryz.func203.trans (congrArg some (by kernel_rfl))⟩
 f27 := ⟨Tryz.f204.name,by decide,Tryz.func204.trans (congrArg some (by kernel_rfl))⟩
 f28 := Tryz.func205.trans (congrArg some (by kernel_rfl))
 f29 := Tryz.func206.trans (congrArg some (by kernel_rfl))
 f46 := ⟨Tryz.f246.name,by decide,Tryz.func246.trans (congrArg some (by kernel_rfl))⟩
 f47 := Tryz.func247.trans (congrArg some (by kernel_rfl))
 f48 := Tryz.func248.trans (congrArg some (by kernel_rfl))
 f49 := ⟨Tryz.f249.name,by decide,Tryz.func249.trans (congrArg some (by kernel_rfl))⟩
 f50 := ⟨Tryz.f250.name,by decide,Tryz.func250.trans (congrArg some (by kernel_rfl))⟩
 f57 := ⟨Tryz.f278.name,by decide,Tryz.func278.trans (congrArg some (by kernel_rfl))⟩
 t0 := Tryz.underlying0
 a0 := Tryz.isAgg0
 z0 := Tryz.sizeOf0
 v0 := Tryz.zeroValue0
 t3 := Tryz.underlying3
 a3 := Tryz.isAgg3
 z3 := Tryz.sizeOf3
 v3 := Tryz.zeroValue3
 t4 := Tryz.underlying4
 a4 := Tryz.isAgg4
 z4 := Tryz.sizeOf4
 v4 := Tryz.zeroValue4
 t5 := Tryz.underlying5
 a5 := Tryz.isAgg5
 z5 := Tryz.sizeOf5
 v5 := Tryz.zeroValue5
 t9 := Tryz.underlying9
 a9 := Tryz.isAgg9
 z9 := Tryz.sizeOf9
 v9 := Tryz.zeroValue9
 t22 := Tryz.underlying93
 a22 := Tryz.isAgg93
 z22 := Tryz.sizeOf93
 v22 := Tryz.zeroValue93
 t25 := Tryz.underlying199
 a25 := Tryz.isAgg199
 z25 := Tryz.sizeOf199
 v25 := Tryz.zeroValue199
 t39 := Tryz.underlying249
 a39 := Tryz.isAgg249
 z39 := Tryz.sizeOf249
 v39 := Tryz.zeroValue249
 t45 := Tryz.underlying292
 a45 := Tryz.isAgg292
 z45 := Tryz.sizeOf292
 v45 := Tryz.zeroValue292
 t46 := Tryz.underlying293
 a46 := Tryz.isAgg293
 z46 := Tryz.sizeOf293
 v46 := Tryz.zeroValue293
 t50 := Tryz.underlying297
 a50 := Tryz.isAgg297
 z50 := Tryz.sizeOf297
 v50 := Tryz.zeroValue297
 t53 := Tryz.underlying300
 a53 := Tryz.isAgg300
 z53 := Tryz.sizeOf300
 v53 := Tryz.zeroValue300
 t55 := Tryz.underlying30
 a55 := Tryz.isAgg30
 z55 := Tryz.sizeOf30
 v55 := Tryz.zeroValue30
 t66 := Tryz.underlying337
 a66 := Tryz.isAgg337
 z66 := Tryz.sizeOf337
 v66 := Tryz.zeroValue337
 t70 := Tryz.underlying341
 a70 := Tryz.isAgg341
 z70 := Tryz.sizeOf341
 v70 := Tryz.zeroValue341
 t76 := Tryz.underlying359
 a76 := Tryz.isAgg359
 z76 := Tryz.sizeOf359
 v76 := Tryz.zeroValue359
 t77 := Tryz.underlying360
 a77 := Tryz.isAgg360
 z77 := Tryz.sizeOf360
 v77 := Tryz.zeroValue360 }
end Go.Proofs
