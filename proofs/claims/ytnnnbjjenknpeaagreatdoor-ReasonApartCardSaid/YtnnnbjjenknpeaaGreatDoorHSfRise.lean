import Derived.Shelf.SlGeneric
import Derived.Shelf.SlSortCmp.NoneTotal
import Derived.Ground.SlsfProg
import Derived.Test.YtnnnbjjenknpeaaGreatDoorProg
/- slices.SortFunc at api.Rise: the kit's contract,laid at this program (the table was printed by the kit's lay-plain,then turned into names). -/
set_option linter.unusedVariables false
set_option linter.unusedSimpArgs false
namespace Go.Proofs
open Go.Shelf
def Tryz.sortRise_ren : Go.Shelf.Ren := ⟨fun | 6 => 199 | 15 => 223 | 14 => 229 | 28 => 259 | 29 => 203 | 20 => 261 | 21 => 262 | 22 => 263 | 23 => 264 | 24 => 265 | 25 => 266 | 26 => 267 | 27 => 268 | 46 => 292 | 47 => 288 | 48 => 289 | 49 => 293 | 50 => 294 | 57 => 301 | n => n,fun | 22 => 218 | 24 => 222 | 25 => 283 | 3 => 3 | 39 => 234 | 0 => 0 | 53 => 287 | 55 => 228 | 4 => 4 | 46 => 323 | 45 => 322 | 50 => 327 | 5 => 5 | 9 => 9 | 66 => 346 | 70 => 350 | 76 => 362 | 77 => 363 | n => n,fun | n => n⟩
theorem Tryz.sortRise : Go.Proofs.SlLaysF0.n6 Tryz.prog Tryz.sortRise_ren := {
 mixed := by kernel_rfl
 f6 := ⟨Tryz.f199.name,by decide,Tryz.func199.trans (congrArg some (by kernel_rfl))⟩
 f14 := ⟨Tryz.f229.name,by decide,Tryz.func229.trans (congrArg some (by kernel_rfl))⟩
 f15 := Tryz.func223.trans (congrArg some (by kernel_rfl))
 f20 := ⟨Tryz.f261.name,by decide,Tryz.func261.trans (congrArg some (by kernel_rfl))⟩
 f21 := ⟨Tryz.f262.name,by decide,Tryz.func262.trans (congrArg some (by kernel_rfl))⟩
 f22 := ⟨Tryz.f263.name,by decide,Tryz.func263.trans (congrArg some (by kernel_rfl))⟩
 f23 := ⟨Tryz.f264.name,by decide,Tryz.func264.trans (congrArg some (by kernel_rfl))⟩
 f24 := ⟨Tryz.f265.name,by decide,Tryz.func265.trans (congrArg some (by kernel_rfl))⟩
 f25 := ⟨Tryz.f266.name,by decide,Tryz.func266.trans (congrArg some (by kernel_rfl))⟩
 f26 := ⟨Tryz.f267.name,by decide,Tryz.func267.trans (congrArg some (by kernel_rfl))⟩
 f27 := ⟨Tryz.f268.name,by decide,Tryz.func268.trans (congrArg some (by kernel_rfl))⟩
 f28 := Tryz.func259.trans (congrArg some (by kernel_rfl))
 f29 := Tryz.func203.trans (congrArg some (by kernel_rfl))
 f46 := ⟨Tryz.f292.name,by decide,Tryz.func292.trans (congrArg some (by kernel_rfl))⟩
 f47 := Tryz.func288.trans (congrArg some (by kernel_rfl))
 f48 := Tryz.func289.trans (congrArg some (by kernel_rfl))
 f49 := ⟨Tryz.f293.name,by decide,Tryz.func293.trans (congrArg some (by kernel_rfl))⟩
 f50 := ⟨Tryz.f294.name,by decide,Tryz.func294.trans (congrArg some (by kernel_rfl))⟩
 f57 := ⟨Tryz.f301.name,by decide,Tryz.func301.trans (congrArg some (by kernel_rfl))⟩
 t0 := Tryz.underlying0
 a0 := Tryz.isAgg0
 z0 := Tryz.sizeOf0
 v0 := Tryz.zeroValue0
 t3 := Tryz.underlying3
 a3 := Tryz.isAgg3
 z3 := Tryz.sizeOf3
 v3 := Tryz.zeroValue3
 t4 := Tryz.underlying4
 a4 := Tryz.isAgg4
 z4 := Tryz.sizeOf4
 v4 := Tryz.zeroValue4
 t5 := Tryz.underlying5
 a5 := Tryz.isAgg5
 z5 := Tryz.sizeOf5
 v5 := Tryz.zeroValue5
 t9 := Tryz.underlying9
 a9 := Tryz.isAgg9
 z9 := Tryz.sizeOf9
 v9 := Tryz.zeroValue9
 t22 := Tryz.underlying218
 a22 := Tryz.isAgg218
 z22 := Tryz.sizeOf218
 v22 := Tryz.zeroValue218
 t25 := Tryz.underlying283
 a25 := Tryz.isAgg283
 z25 := Tryz.sizeOf283
 v25 := Tryz.zeroValue283
 t39 := Tryz.underlying234
 a39 := Tryz.isAgg234
 z39 := Tryz.sizeOf234
 v39 := Tryz.zeroValue234
 t45 := Tryz.underlying322
 a45 := Tryz.isAgg322
 z45 := Tryz.sizeOf322
 v45 := Tryz.zeroValue322
 t46 := Tryz.underlying323
 a46 := Tryz.isAgg323
 z46 := Tryz.sizeOf323
 v46 := Tryz.zeroValue323
 t50 := Tryz.underlying327
 a50 := Tryz.isAgg327
 z50 := Tryz.sizeOf327
 v50 := Tryz.zeroValue327
 t53 := Tryz.underlying287
 a53 := Tryz.isAgg287
 z53 := Tryz.sizeOf287
 v53 := Tryz.zeroValue287
 t55 := Tryz.underlying228
 a55 := Tryz.isAgg228
 z55 := Tryz.sizeOf228
 v55 := Tryz.zeroValue228
 t66 := Tryz.underlying346
 a66 := Tryz.isAgg346
 z66 := Tryz.sizeOf346
 v66 := Tryz.zeroValue346
 t70 := Tryz.underlying350
 a70 := Tryz.isAgg350
 z70 := Tryz.sizeOf350
 v70 := Tryz.zeroValue350
 t76 := Tryz.underlying362
 a76 := Tryz.isAgg362
 z76 := Tryz.sizeOf362
 v76 := Tryz.zeroValue362
 t77 := Tryz.underlying363
 a77 := Tryz.isAgg363
 z77 := Tryz.sizeOf363
 v77 := Tryz.zeroValue363 }
end Go.Proofs
