import Derived.Shelf.SlGeneric
import Derived.Shelf.SlSortCmp.NoneTotal
import Derived.Ground.SlsfProg
import Derived.Test.YteabekcdcphjpaaGreatDoorProg
/- slices.SortFunc at api.Count: the kit's contract,laid at this program (the table was printed by the kit's lay-plain,then turned into names). -/
set_option linter.unusedVariables false
set_option linter.unusedSimpArgs false
namespace Go.Proofs
open Go.Shelf
def Tryz.sortCount_ren : Go.Shelf.Ren := ⟨fun | 6 => 84 | 15 => 161 | 14 => 160 | 28 => 219 | 29 => 220 | 20 => 211 | 21 => 212 | 22 => 213 | 23 => 214 | 24 => 215 | 25 => 216 | 26 => 217 | 27 => 218 | 46 => 251 | 47 => 252 | 48 => 253 | 49 => 254 | 50 => 255 | 57 => 273 | n => n,fun | 22 => 53 | 24 => 98 | 25 => 142 | 3 => 3 | 39 => 237 | 0 => 0 | 53 => 289 | 55 => 160 | 4 => 4 | 46 => 282 | 45 => 281 | 50 => 286 | 5 => 5 | 9 => 9 | 66 => 311 | 70 => 315 | 76 => 328 | 77 => 329 | n => n,fun | n => n⟩
theorem Tryz.sortCount : Go.Proofs.SlLaysF0.n6 Tryz.prog Tryz.sortCount_ren := {
 mixed := by kernel_rfl
 f6 := ⟨Tryz.f84.name,by decide,Tryz.func84.trans (congrArg some (by kernel_rfl))⟩
 f14 := ⟨Tryz.f160.name,by decide,Tryz.func160.trans (congrArg some (by kernel_rfl))⟩
 f15 := Tryz.func161.trans (congrArg some (by kernel_rfl))
 f20 := ⟨Tryz.f211.name,by decide,Tryz.func211.trans (congrArg some (by kernel_rfl))⟩
 f21 := ⟨Tryz.f212.name,by decide,Tryz.func212.trans (congrArg some (by kernel_rfl))⟩
 f22 := ⟨Tryz.f213.name,by decide,Tryz.func213.trans (congrArg some (by kernel_rfl))⟩
 f23 := ⟨Tryz.f214.name,by decide,Tryz.func214.trans (congrArg some (by kernel_rfl))⟩
 f24 := ⟨Tryz.f215.name,by decide,Tryz.func215.trans (congrArg some (by kernel_rfl))⟩
 f25 := ⟨Tryz.f216.name,by decide,Tryz.func216.trans (congrArg some (by kernel_rfl))⟩
 f26 := ⟨Tryz.f217.name,by decide,Tryz.func217.trans (congrArg some (by kernel_rfl))⟩
 f27 := ⟨Tryz.f218.name,by decide,Tryz.func218.trans (congrArg some (by kernel_rfl))⟩
 f28 := Tryz.func219.trans (congrArg some (by kernel_rfl))
 f29 := Tryz.func220.trans (congrArg some (by kernel_rfl))
 f46 := ⟨Tryz.f251.name,by decide,Tryz.func251.trans (congrArg some (by kernel_rfl))⟩
 f47 := Tryz.func252.trans (congrArg some (by kernel_rfl))
 f48 := Tryz.func253.trans (congrArg some (by kernel_rfl))
 f49 := ⟨Tryz.f254.name,by decide,Tryz.func254.trans (congrArg some (by kernel_rfl))⟩
 f50 := ⟨Tryz.f255.name,by decide,Tryz.func255.trans (congrArg some (by kernel_rfl))⟩
 f57 := ⟨Tryz.f273.name,by decide,Tryz.func273.trans (congrArg some (by kernel_rfl))⟩
 t0 := Tryz.underlying0
 a0 := Tryz.isAgg0
 z0 := Tryz.sizeOf0
 v0 := Tryz.zeroValue0
 t3 := Tryz.underlying3
 a3 := Tryz.isAgg3
 z3 := Tryz.sizeOf3
 v3 := Tryz.zeroValue3
 t4 := Tryz.underlying4
 a4 := Tryz.isAgg4
 z4 := Tryz.sizeOf4
 v4 := Tryz.zeroValue4
 t5 := Tryz.underlying5
 a5 := Tryz.isAgg5
 z5 := Tryz.sizeOf5
 v5 := Tryz.zeroValue5
 t9 := Tryz.underlying9
 a9 := Tryz.isAgg9
 z9 := Tryz.sizeOf9
 v9 := Tryz.zeroValue9
 t22 := Tryz.underlying53
 a22 := Tryz.isAgg53
 z22 := Tryz.sizeOf53
 v22 := Tryz.zeroValue53
 t25 := Tryz.underlying142
 a25 := Tryz.isAgg142
 z25 := Tryz.sizeOf142
 v25 := Tryz.zeroValue142
 t39 := Tryz.underlying237
 a39 := Tryz.isAgg237
 z39 := Tryz.sizeOf237
 v39 := Tryz.zeroValue237
 t45 := Tryz.underlying281
 a45 := Tryz.isAgg281
 z45 := Tryz.sizeOf281
 v45 := Tryz.zeroValue281
 t46 := Tryz.underlying282
 a46 := Tryz.isAgg282
 z46 := Tryz.sizeOf282
 v46 := Tryz.zeroValue282
 t50 := Tryz.underlying286
 a50 := Tryz.isAgg286
 z50 := Tryz.sizeOf286
 v50 := Tryz.zeroValue286
 t53 := Tryz.underlying289
 a53 := Tryz.isAgg289
 z53 := Tryz.sizeOf289
 v53 := Tryz.zeroValue289
 t55 := Tryz.underlying160
 a55 := Tryz.isAgg160
 z55 := Tryz.sizeOf160
 v55 := Tryz.zeroValue160
 t66 := Tryz.underlying311
 a66 := Tryz.isAgg311
 z66 := Tryz.sizeOf311
 v66 := Tryz.zeroValue311
 t70 := Tryz.underlying315
 a70 := Tryz.isAgg315
 z70 := Tryz.sizeOf315
 v70 := Tryz.zeroValue315
 t76 := Tryz.underlying328
 a76 := Tryz.isAgg328
 z76 := Tryz.sizeOf328
 v76 := Tryz.zeroValue328
 t77 := Tryz.underlying329
 a77 := Tryz.isAgg329
 z77 := Tryz.sizeOf329
 v77 := Tryz.zeroValue329 }
end Go.Proofs
