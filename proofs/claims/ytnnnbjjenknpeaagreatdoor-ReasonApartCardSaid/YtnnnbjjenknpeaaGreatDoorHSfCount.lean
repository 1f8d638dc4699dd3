import Derived.Shelf.SlGeneric
import Derived.Shelf.SlSortCmp.NoneTotal
import Derived.Ground.SlsfProg
import Derived.Test.YtnnnbjjenknpeaaGreatDoorProg
/- slices.SortFunc at api.Count: the kit's contract,laid at this program (the table was printed by the kit's lay-plain,then turned into names). -/
set_option linter.unusedVariables false
set_option linter.unusedSimpArgs false
namespace Go.Proofs
open Go.Shelf
def Tryz.sortCount_ren : Go.Shelf.Ren := ⟨fun | 6 => 189 | 15 => 223 | 14 => 222 | 28 => 259 | 29 => 203 | 20 => 251 | 21 => 252 | 22 => 253 | 23 => 254 | 24 => 255 | 25 => 256 | 26 => 257 | 27 => 258 | 46 => 287 | 47 => 288 | 48 => 289 | 49 => 290 | 50 => 291 | 57 => 300 | n => n,fun | 22 => 211 | 24 => 214 | 25 => 274 | 3 => 3 | 39 => 234 | 0 => 0 | 53 => 287 | 55 => 228 | 4 => 4 | 46 => 323 | 45 => 322 | 50 => 327 | 5 => 5 | 9 => 9 | 66 => 346 | 70 => 350 | 76 => 362 | 77 => 363 | n => n,fun | n => n⟩
theorem Tryz.sortCount : Go.Proofs.SlLaysF0.n6 Tryz.prog Tryz.sortCount_ren := {
 mixed := by kernel_rfl
 f6 := ⟨Tryz.f189.name,by decide,Tryz.func189.trans (congrArg some (by kernel_rfl))⟩
 f14 := ⟨Tryz.f222.name,by decide,Tryz.func222.trans (congrArg some (by kernel_rfl))⟩
 f15 := Tryz.func223.trans (congrArg some (by kernel_rfl))
 f20 := ⟨Tryz.f251.name,by decide,Tryz.func251.trans (congrArg some (by kernel_rfl))⟩
 f21 := ⟨Tryz.f252.name,by decide,Tryz.func252.trans (congrArg some (by kernel_rfl))⟩
 f22 := ⟨Tryz.f253.name,by decide,Tryz.func253.trans (congrArg some (by kernel_rfl))⟩
 f23 := ⟨Tryz.f254.name,by decide,Tryz.func254.trans (congrArg some (by kernel_rfl))⟩
 f24 := ⟨Tryz.f255.name,by decide,Tryz.func255.trans (congrArg some (by kernel_rfl))⟩
 f25 := ⟨Tryz.f256.name,by decide,Tryz.func256.trans (congrArg some (by kernel_rfl))⟩
 f26 := ⟨Tryz.f257.name,by decide,Tryz.func257.trans (congrArg some (by kernel_rfl))⟩
 f27 := ⟨Tryz.f258.name,by decide,Tryz.func258.trans (congrArg some (by kernel_rfl))⟩
 f28 := Tryz.func259.trans (congrArg some (by kernel_rfl))
 f29 := Tryz.func203.trans (congrArg some (by kernel_rfl))
 f46 := ⟨Tryz.f287.name,by decide,Tryz.func287.trans (congrArg some (by kernel_rfl))⟩
 f47 := Tryz.func288.trans (congrArg some (by kernel_rfl))
 f48 := Tryz.func289.trans (congrArg some (by kernel_rfl))
 f49 := ⟨Tryz.f290.name,by decide,Tryz.func290.trans (congrArg some (by kernel_rfl))⟩
 f50 := ⟨Tryz.f291.name,by decide,Tryz.func291.trans (congrArg some (by kernel_rfl))⟩
 f57 := ⟨Tryz.f300.name,by decide,Tryz.func300.trans (congrArg some (by kernel_rfl))⟩
 t0 := Tryz.underlying0
 a0 := Tryz.isAgg0
 z0 := Tryz.sizeOf0
 v0 := Tryz.zeroValue0
 t3 := Tryz.underlying3
 a3 := Tryz.isAgg3
 z3 := Tryz.sizeOf3
 v3 := Tryz.zeroValue3
 t4 := Tryz.underlying4
 a4 := Tryz.isAgg4
 z4 := Tryz.sizeOf4
 v4 := Tryz.zeroValue4
 t5 := Tryz.underlying5
 a5 := Tryz.isAgg5
 z5 := Tryz.sizeOf5
 v5 := Tryz.zeroValue5
 t9 := Tryz.underlying9
 a9 := Tryz.isAgg9
 z9 := Tryz.sizeOf9
 v9 := Tryz.zeroValue9
 t22 := Tryz.underlying211
 a22 := Tryz.isAgg211
 z22 := Tryz.sizeOf211
 v22 := Tryz.zeroValue211
 t25 := Tryz.underlying274
 a25 := Tryz.isAgg274
 z25 := Tryz.sizeOf274
 v25 := Tryz.zeroValue274
 t39 := Tryz.underlying234
 a39 := Tryz.isAgg234
 z39 := Tryz.sizeOf234
 v39 := Tryz.zeroValue234
 t45 := Tryz.underlying322
 a45 := Tryz.isAgg322
 z45 := Tryz.sizeOf322
 v45 := Tryz.zeroValue322
 t46 := Tryz.underlying323
 a46 := Tryz.isAgg323
 z46 := Tryz.sizeOf323
 v46 := Tryz.zeroValue323
 t50 := Tryz.underlying327
 a50 := Tryz.isAgg327
 z50 := Tryz.sizeOf327
 v50 := Tryz.zeroValue327
 t53 := Tryz.underlying287
 a53 := Tryz.isAgg287
 z53 := Tryz.sizeOf287
 v53 := Tryz.zeroValue287
 t55 := Tryz.underlying228
 a55 := Tryz.isAgg228
 z55 := Tryz.sizeOf228
 v55 := Tryz.zeroValue228
 t66 := Tryz.underlying346
 a66 := Tryz.isAgg346
 z66 := Tryz.sizeOf346
 v66 := Tryz.zeroValue346
 t70 := Tryz.underlying350
 a70 := Tryz.isAgg350
 z70 := Tryz.sizeOf350
 v70 := Tryz.zeroValue350
 t76 := Tryz.underlying362
 a76 := Tryz.isAgg362
 z76 := Tryz.sizeOf362
 v76 := Tryz.zeroValue362
 t77 := Tryz.underlying363
 a77 := Tryz.isAgg363
 z77 := Tryz.sizeOf363
 v77 := Tryz.zeroValue363 }
end Go.Proofs
