import Derived.Shelf.SlGeneric
import Derived.Shelf.SlSortCmp.NoneTotal
import Derived.Ground.SlsfProg
import Derived.Test.YtdahooejkjcjiaaGreatDoorProg
/- slices.SortFunc at api.Count: the kit's contract,laid at this program (the table was printed by the kit's lay-plain,then turned into names). -/
set_option linter.unusedVariables false
set_option linter.unusedSimpArgs false
namespace Go.Proofs
open Go.Shelf
def Tryz.sortCount_ren:Go.Shelf.Ren:=⟨fun | 6=>120 | 15=>186 | 14=>185 | 28=>232 | 29=>233 | 20=>224 | 21=>225 | 22=>226 | 23=>227 | 24=>228 | 25=>229 | 26=>230 | 27=>231 | 46=>258 | 47=>259 | 48=>260 | 49=>261 | 50=>262 | 57=>288 | n=>n,fun | 22=>99 | 24=>102 | 25=>176 | 3=>3 | 39=>253 | 0=>0 | 53=>290 | 55=>256 | 4=>4 | 46=>283 | 45=>282 | 50=>287 | 5=>5 | 9=>9 | 66=>311 | 70=>315 | 76=>330 | 77=>331 | n=>n,fun | n=>n⟩
theorem Tryz.sortCount:Go.Proofs.SlLaysF0.n6 Tryz.prog Tryz.sortCount_ren:={
 mixed:=by kernel_rfl
 f6:=⟨Tryz.f120.name,by decide,Tryz.func120.trans (congrArg some (by kernel_rfl))⟩
 f14:=⟨Tryz.f185.name,by decide,Tryz.func185.trans (congrArg some (by kernel_rfl))⟩
 f15:=Tryz.func186.trans (congrArg some (by kernel_rfl))
 f20:=⟨Tryz.f224.name,by decide,Tryz.func224.trans (congrArg some (by kernel_rfl))⟩
 f21:=⟨Tryz.f225.name,by decide,Tryz.func225.trans (congrArg some (by kernel_rfl))⟩
 f22:=⟨Tryz.f226.name,by decide,Tryz.func226.trans (congrArg some (by kernel_rfl))⟩
 f23:=⟨Tryz.f227.name,by decide,Tryz.func227.trans (congrArg some (by kernel_rfl))⟩
 f24:=⟨Tryz.f228.name,by decide,Tryz.func228.trans (congrArg some (by kernel_rfl))⟩
 f25:=⟨Tryz.f229.name,by decide,Tryz.func229.trans (congrArg some (by kernel_rfl))⟩
 f26:=⟨Tryz.f230.name,by decide,Tryz.func230.trans (congrArg some (by kernel_rfl))⟩
 f27:=⟨Tryz.f231.name,by decide,Tryz.func231.trans (congrArg some (by kernel_rfl))⟩
 f28:=Tryz.func232.trans (congrArg some (by kernel_rfl))
 f29:=Tryz.func233.trans (congrArg some (by kernel_rfl))
 f46:=⟨Tryz.f258.name,by decide,Tryz.func258.trans (congrArg some (by kernel_rfl))⟩
 f47:=Tryz.func259.trans (congrArg some (by kernel_rfl))
 f48:=Tryz.func260.trans (congrArg some (by kernel_rfl))
 f49:=⟨Tryz.f261.name,by decide,Tryz.func261.trans (congrArg some (by kernel_rfl))⟩
 f50:=⟨Tryz.f262.name,by decide,Tryz.func262.trans (congrArg some (by kernel_rfl))⟩
 f57:=⟨Tryz.f288.name,by decide,Tryz.func288.trans (congrArg some (by kernel_rfl))⟩
 t0:=Tryz.underlying0
 a0:=Tryz.isAgg0
 z0:=Tryz.sizeOf0
 v0:=Tryz.zeroValue0
 t3:=Tryz.underlying3
 a3:=Tryz.isAgg3
 z3:=Tryz.sizeOf3
 v3:=Tryz.zeroValue3
 t4:=Tryz.underlying4
 a4:=Tryz.isAgg4
 z4:=Tryz.sizeOf4
 v4:=Tryz.zeroValue4
 t5:=Tryz.underlying5
 a5:=Tryz.isAgg5
 z5:=Tryz.sizeOf5
 v5:=Tryz.zeroValue5
 t9:=Tryz.underlying9
 a9:=Tryz.isAgg9
 z9:=Tryz.sizeOf9
 v9:=Tryz.zeroValue9
 t22:=Tryz.underlying99
 a22:=Tryz.isAgg99
 z22:=Tryz.sizeOf99
 v22:=Tryz.zeroValue99
 t25:=Tryz.underlying176
 a25:=Tryz.isAgg176
 z25:=Tryz.sizeOf176
 v25:=Tryz.zeroValue176
 t39:=Tryz.underlying253
 a39:=Tryz.isAgg253
 z39:=Tryz.sizeOf253
 v39:=Tryz.zeroValue253
 t45:=Tryz.underlying282
 a45:=Tryz.isAgg282
 z45:=Tryz.sizeOf282
 v45:=Tryz.zeroValue282
 t46:=Tryz.underlying283
 a46:=Tryz.isAgg283
 z46:=Tryz.sizeOf283
 v46:=Tryz.zeroValue283
 t50:=Tryz.underlying287
 a50:=Tryz.isAgg287
 z50:=Tryz.sizeOf287
 v50:=Tryz.zeroValue287
 t53:=Tryz.underlying290
 a53:=Tryz.isAgg290
 z53:=Tryz.sizeOf290
 v53:=Tryz.zeroValue290
 t55:=Tryz.underlying256
 a55:=Tryz.isAgg256
 z55:=Tryz.sizeOf256
 v55:=Tryz.zeroValue256
 t66:=Tryz.underlying311
 a66:=Tryz.isAgg311
 z66:=Tryz.sizeOf311
 v66:=Tryz.zeroValue311
 t70:=Tryz.underlying315
 a70:=Tryz.isAgg315
 z70:=Tryz.sizeOf315
 v70:=Tryz.zeroValue315
 t76:=Tryz.underlying330
 a76:=Tryz.isAgg330
 z76:=Tryz.sizeOf330
 v76:=Tryz.zeroValue330
 t77:=Tryz.underlying331
 a77:=Tryz.isAgg331
 z77:=Tryz.sizeOf331
 v77:=Tryz.zeroValue331 }
end Go.Proofs
