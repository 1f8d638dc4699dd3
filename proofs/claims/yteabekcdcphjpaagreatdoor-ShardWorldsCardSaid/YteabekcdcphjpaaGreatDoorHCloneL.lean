/-
  DERIVED: THE SHELF's CONTRACTS AT THIS DUMP, IN PLAIN WORDS (tools/lay-plain.mjs out of 'YteabekcdcphjpaaGreatDoorCloneL.lean', which tools/lay-shelf.mjs wrote): THE SAME DECLARATIONS UNDER THE SAME NAMES: 'import', 'namespace', 'open', 'def', 'theorem' AND NOTHING ELSE: no command of the shelf's: FOR A HAND-IN. Each laying: the table of numbers ('.._ren') and one theorem, a field a fact of the dump's own or the kernel's comparison; each contract: ONE APPLICATION.
-/
import Derived.Shelf.SlMaps.Clone
import Derived.Ground.SlmcProg
import Derived.Test.YteabekcdcphjpaaGreatDoorProg
namespace Go.Proofs
open Go.Shelf
def Tryz.clone147_ren : Go.Shelf.Ren := ⟨fun | 5 => 147 | 7 => 208 | n => n,fun | 23 => 122 | 25 => 3 | 3 => 2 | 4 => 4 | 20 => 20 | n => n,fun | n => n⟩
theorem Tryz.clone147 : Go.Proofs.SlLaysW.n5 Tryz.prog Tryz.clone147_ren := {
 mixed := by kernel_rfl
 f5 := ⟨Tryz.f147.name,by decide,Tryz.func147.trans (congrArg some (by kernel_rfl))⟩
 f7 := Tryz.func208.trans (congrArg some (by kernel_rfl))
 t4 := Tryz.underlying4
 a4 := Tryz.isAgg4
 z4 := Tryz.sizeOf4
 v4 := Tryz.zeroValue4
 t20 := Tryz.underlying20
 a20 := Tryz.isAgg20
 z20 := Tryz.sizeOf20
 v20 := Tryz.zeroValue20
 t23 := Tryz.underlying122
 a23 := Tryz.isAgg122
 z23 := Tryz.sizeOf122
 v23 := Tryz.zeroValue122 }
def Tryz.clone148_ren : Go.Shelf.Ren := ⟨fun | 5 => 148 | 7 => 208 | n => n,fun | 23 => 123 | 25 => 9 | 3 => 122 | 4 => 4 | 20 => 20 | n => n,fun | n => n⟩
theorem Tryz.clone148 : Go.Proofs.SlLaysW.n5 Tryz.prog Tryz.clone148_ren := {
 mixed := by kernel_rfl
 f5 := ⟨Tryz.f148.name,by decide,Tryz.func148.trans (congrArg some (by kernel_rfl))⟩
 f7 := Tryz.func208.trans (congrArg some (by kernel_rfl))
 t4 := Tryz.underlying4
 a4 := Tryz.isAgg4
 z4 := Tryz.sizeOf4
 v4 := Tryz.zeroValue4
 t20 := Tryz.underlying20
 a20 := Tryz.isAgg20
 z20 := Tryz.sizeOf20
 v20 := Tryz.zeroValue20
 t23 := Tryz.underlying123
 a23 := Tryz.isAgg123
 z23 := Tryz.sizeOf123
 v23 := Tryz.zeroValue123 }
def Tryz.clone150_ren : Go.Shelf.Ren := ⟨fun | 5 => 150 | 7 => 208 | n => n,fun | 23 => 130 | 25 => 135 | 3 => 2 | 4 => 4 | 20 => 20 | n => n,fun | n => n⟩
theorem Tryz.clone150 : Go.Proofs.SlLaysW.n5 Tryz.prog Tryz.clone150_ren := {
 mixed := by kernel_rfl
 f5 := ⟨Tryz.f150.name,by decide,Tryz.func150.trans (congrArg some (by kernel_rfl))⟩
 f7 := Tryz.func208.trans (congrArg some (by kernel_rfl))
 t4 := Tryz.underlying4
 a4 := Tryz.isAgg4
 z4 := Tryz.sizeOf4
 v4 := Tryz.zeroValue4
 t20 := Tryz.underlying20
 a20 := Tryz.isAgg20
 z20 := Tryz.sizeOf20
 v20 := Tryz.zeroValue20
 t23 := Tryz.underlying130
 a23 := Tryz.isAgg130
 z23 := Tryz.sizeOf130
 v23 := Tryz.zeroValue130 }
def Tryz.clone209_ren : Go.Shelf.Ren := ⟨fun | 5 => 209 | 7 => 208 | n => n,fun | 23 => 147 | 25 => 9 | 3 => 3 | 4 => 4 | 20 => 20 | n => n,fun | n => n⟩
theorem Tryz.clone209 : Go.Proofs.SlLaysW.n5 Tryz.prog Tryz.clone209_ren := {
 mixed := by kernel_rfl
 f5 := ⟨Tryz.f209.name,by decide,Tryz.func209.trans (congrArg some (by kernel_rfl))⟩
 f7 := Tryz.func208.trans (congrArg some (by kernel_rfl))
 t4 := Tryz.underlying4
 a4 := Tryz.isAgg4
 z4 := Tryz.sizeOf4
 v4 := Tryz.zeroValue4
 t20 := Tryz.underlying20
 a20 := Tryz.isAgg20
 z20 := Tryz.sizeOf20
 v20 := Tryz.zeroValue20
 t23 := Tryz.underlying147
 a23 := Tryz.isAgg147
 z23 := Tryz.sizeOf147
 v23 := Tryz.zeroValue147 }
end Go.Proofs
