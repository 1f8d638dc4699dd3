/- The table of the types that the seat's operations name, and that the program has them so. Written by a program (seat.py). -/
import Derived.Test.YtopncieoolkhjaaGreatDoorRows
import Derived.Test.YtopncieoolkhjaaGreatDoorGA
set_option linter.unusedVariables false
set_option linter.unusedSimpArgs false
namespace Go.Proofs.YtopncieoolkhjaaGreatDoor
open Go.Se Go.RowKit
def ty2 : TyE := ⟨Ty.int IntKind.i64, 1, false, .int .i64 0⟩
theorem ty2_ok : Xe Tryz.prog 2 = some ty2 := by kernel_rfl
def ty3 : TyE := ⟨Ty.int IntKind.i64, 1, false, .int .i64 0⟩
theorem ty3_ok : Xe Tryz.prog 3 = some ty3 := by kernel_rfl
def ty4 : TyE := ⟨Ty.bool, 1, false, Value.bool false⟩
theorem ty4_ok : Xe Tryz.prog 4 = some ty4 := by kernel_rfl
def ty5 : TyE := ⟨Ty.int IntKind.u8, 1, false, .int .u8 0⟩
theorem ty5_ok : Xe Tryz.prog 5 = some ty5 := by kernel_rfl
def ty9 : TyE := ⟨Ty.str, 1, false, .string ⟨#[]⟩⟩
theorem ty9_ok : Xe Tryz.prog 9 = some ty9 := by kernel_rfl
def ty20 : TyE := ⟨Ty.other, 1, false, Value.nilIface⟩
theorem ty20_ok : Xe Tryz.prog 20 = some ty20 := by kernel_rfl
def ty21 : TyE := ⟨Ty.int IntKind.i32, 1, false, .int .i32 0⟩
theorem ty21_ok : Xe Tryz.prog 21 = some ty21 := by kernel_rfl
def ty22 : TyE := ⟨Ty.slice 5 1, 1, false, Value.slice Option.none 0 0⟩
theorem ty22_ok : Xe Tryz.prog 22 = some ty22 := by kernel_rfl
def ty23 : TyE := ⟨Ty.slice 49 8, 1, false, Value.slice Option.none 0 0⟩
theorem ty23_ok : Xe Tryz.prog 23 = some ty23 := by kernel_rfl
def ty25 : TyE := ⟨Ty.strct [(0, 1, 0), (1, 1, 0), (2, 1, 0), (3, 1, 0), (4, 1, 0), (5, 1, 0)], 6, true, Value.agg #[.int .i64 0, .int .i64 0, .int .i64 0, .int .i64 0, .int .i64 0, .int .i64 0]⟩
theorem ty25_ok : Xe Tryz.prog 25 = some ty25 := by kernel_rfl
def ty27 : TyE := ⟨Ty.arr 6 1, 6, true, Value.agg #[.int .i64 0, .int .i64 0, .int .i64 0, .int .i64 0, .int .i64 0, .int .i64 0]⟩
theorem ty27_ok : Xe Tryz.prog 27 = some ty27 := by kernel_rfl
def ty29 : TyE := ⟨Ty.strct [(0, 1, 0), (1, 1, 0), (2, 1, 0)], 3, true, Value.agg #[.int .i64 0, .int .i64 0, .int .i64 0]⟩
theorem ty29_ok : Xe Tryz.prog 29 = some ty29 := by kernel_rfl
def ty30 : TyE := ⟨Ty.int IntKind.u64, 1, false, .int .u64 0⟩
theorem ty30_ok : Xe Tryz.prog 30 = some ty30 := by kernel_rfl
def ty32 : TyE := ⟨Ty.strct [(0, 6, 1), (6, 6, 1), (12, 3, 1), (15, 1, 0), (16, 1, 0), (17, 1, 0), (18, 1, 0), (19, 1, 0), (20, 1, 0), (21, 1, 0)], 22, true, Value.agg #[.int .i64 0, .int .i64 0, .int .i64 0, .int .i64 0, .int .i64 0, .int .i64 0, .int .i64 0, .int .i64 0, .int .i64 0, .int .i64 0, .int .i64 0, .int .i64 0, .int .i64 0, .int .i64 0, .int .i64 0, .int .i64 0, .int .i64 0, .int .i64 0, .int .i64 0, .string ⟨#[]⟩, .string ⟨#[]⟩, .int .u64 0]⟩
theorem ty32_ok : Xe Tryz.prog 32 = some ty32 := by kernel_rfl
def ty36 : TyE := ⟨Ty.slice 9 1, 1, false, Value.slice Option.none 0 0⟩
theorem ty36_ok : Xe Tryz.prog 36 = some ty36 := by kernel_rfl
def ty38 : TyE := ⟨Ty.other, 1, false, Value.pointer Option.none⟩
theorem ty38_ok : Xe Tryz.prog 38 = some ty38 := by kernel_rfl
def ty39 : TyE := ⟨Ty.int IntKind.i64, 1, false, .int .i64 0⟩
theorem ty39_ok : Xe Tryz.prog 39 = some ty39 := by kernel_rfl
def ty42 : TyE := ⟨Ty.map 49 4, 1, false, Value.map Option.none⟩
theorem ty42_ok : Xe Tryz.prog 42 = some ty42 := by kernel_rfl
def ty43 : TyE := ⟨Ty.slice 226 3, 1, false, Value.slice Option.none 0 0⟩
theorem ty43_ok : Xe Tryz.prog 43 = some ty43 := by kernel_rfl
def ty45 : TyE := ⟨Ty.strct [(0, 1, 0), (1, 1, 0), (2, 1, 0), (3, 1, 0), (4, 1, 0)], 5, true, Value.agg #[.string ⟨#[]⟩, Value.slice Option.none 0 0, .int .i64 0, Value.slice Option.none 0 0, .int .i64 0]⟩
theorem ty45_ok : Xe Tryz.prog 45 = some ty45 := by kernel_rfl
def ty47 : TyE := ⟨Ty.int IntKind.i64, 1, false, .int .i64 0⟩
theorem ty47_ok : Xe Tryz.prog 47 = some ty47 := by kernel_rfl
def ty49 : TyE := ⟨Ty.strct [(0, 1, 0), (1, 1, 0), (2, 1, 0), (3, 1, 0), (4, 1, 0), (5, 1, 0), (6, 1, 0), (7, 1, 0)], 8, true, Value.agg #[.string ⟨#[]⟩, .int .i64 0, .int .i64 0, .int .i64 0, .string ⟨#[]⟩, .string ⟨#[]⟩, .int .i64 0, .string ⟨#[]⟩]⟩
theorem ty49_ok : Xe Tryz.prog 49 = some ty49 := by kernel_rfl
def ty51 : TyE := ⟨Ty.int IntKind.i64, 1, false, .int .i64 0⟩
theorem ty51_ok : Xe Tryz.prog 51 = some ty51 := by kernel_rfl
def ty59 : TyE := ⟨Ty.slice 63 4, 1, false, Value.slice Option.none 0 0⟩
theorem ty59_ok : Xe Tryz.prog 59 = some ty59 := by kernel_rfl
def ty63 : TyE := ⟨Ty.strct [(0, 1, 0), (1, 1, 0), (2, 1, 0), (3, 1, 0)], 4, true, Value.agg #[.string ⟨#[]⟩, .int .i64 0, .int .i64 0, Value.slice Option.none 0 0]⟩
theorem ty63_ok : Xe Tryz.prog 63 = some ty63 := by kernel_rfl
def ty64 : TyE := ⟨Ty.other, 1, false, Value.pointer Option.none⟩
theorem ty64_ok : Xe Tryz.prog 64 = some ty64 := by kernel_rfl
def ty69 : TyE := ⟨Ty.other, 1, false, Value.pointer Option.none⟩
theorem ty69_ok : Xe Tryz.prog 69 = some ty69 := by kernel_rfl
def ty72 : TyE := ⟨Ty.other, 1, false, Value.pointer Option.none⟩
theorem ty72_ok : Xe Tryz.prog 72 = some ty72 := by kernel_rfl
def ty74 : TyE := ⟨Ty.other, 1, false, Value.pointer Option.none⟩
theorem ty74_ok : Xe Tryz.prog 74 = some ty74 := by kernel_rfl
def ty77 : TyE := ⟨Ty.other, 1, false, Value.pointer Option.none⟩
theorem ty77_ok : Xe Tryz.prog 77 = some ty77 := by kernel_rfl
def ty80 : TyE := ⟨Ty.other, 1, false, Value.pointer Option.none⟩
theorem ty80_ok : Xe Tryz.prog 80 = some ty80 := by kernel_rfl
def ty82 : TyE := ⟨Ty.other, 1, false, Value.pointer Option.none⟩
theorem ty82_ok : Xe Tryz.prog 82 = some ty82 := by kernel_rfl
def ty85 : TyE := ⟨Ty.slice 3 1, 1, false, Value.slice Option.none 0 0⟩
theorem ty85_ok : Xe Tryz.prog 85 = some ty85 := by kernel_rfl
def ty86 : TyE := ⟨Ty.other, 1, false, Value.pointer Option.none⟩
theorem ty86_ok : Xe Tryz.prog 86 = some ty86 := by kernel_rfl
def ty93 : TyE := ⟨Ty.slice 193 2, 1, false, Value.slice Option.none 0 0⟩
theorem ty93_ok : Xe Tryz.prog 93 = some ty93 := by kernel_rfl
def ty98 : TyE := ⟨Ty.slice 104 13, 1, false, Value.slice Option.none 0 0⟩
theorem ty98_ok : Xe Tryz.prog 98 = some ty98 := by kernel_rfl
def ty100 : TyE := ⟨Ty.strct [(0, 22, 1), (22, 1, 0), (23, 1, 0)], 24, true, Value.agg #[.int .i64 0, .int .i64 0, .int .i64 0, .int .i64 0, .int .i64 0, .int .i64 0, .int .i64 0, .int .i64 0, .int .i64 0, .int .i64 0, .int .i64 0, .int .i64 0, .int .i64 0, .int .i64 0, .int .i64 0, .int .i64 0, .int .i64 0, .int .i64 0, .int .i64 0, .string ⟨#[]⟩, .string ⟨#[]⟩, .int .u64 0, Value.slice Option.none 0 0, .int .i64 0]⟩
theorem ty100_ok : Xe Tryz.prog 100 = some ty100 := by kernel_rfl
def ty102 : TyE := ⟨Ty.int IntKind.i64, 1, false, .int .i64 0⟩
theorem ty102_ok : Xe Tryz.prog 102 = some ty102 := by kernel_rfl
def ty104 : TyE := ⟨Ty.strct [(0, 1, 0), (1, 8, 1), (9, 1, 0), (10, 1, 0), (11, 1, 0), (12, 1, 0)], 13, true, Value.agg #[.int .i64 0, .string ⟨#[]⟩, .int .i64 0, .int .i64 0, .int .i64 0, .string ⟨#[]⟩, .string ⟨#[]⟩, .int .i64 0, .string ⟨#[]⟩, .string ⟨#[]⟩, .int .i64 0, .int .i64 0, .int .i64 0]⟩
theorem ty104_ok : Xe Tryz.prog 104 = some ty104 := by kernel_rfl
def ty106 : TyE := ⟨Ty.other, 1, false, Value.nilFunc⟩
theorem ty106_ok : Xe Tryz.prog 106 = some ty106 := by kernel_rfl
def ty108 : TyE := ⟨Ty.map 211 4, 1, false, Value.map Option.none⟩
theorem ty108_ok : Xe Tryz.prog 108 = some ty108 := by kernel_rfl
def ty109 : TyE := ⟨Ty.map 9 4, 1, false, Value.map Option.none⟩
theorem ty109_ok : Xe Tryz.prog 109 = some ty109 := by kernel_rfl
def ty111 : TyE := ⟨Ty.strct [(0, 6, 1), (6, 1, 0), (7, 1, 0), (8, 8, 1), (16, 1, 0), (17, 1, 0), (18, 1, 0), (19, 1, 0), (20, 1, 0), (21, 1, 0), (22, 1, 0), (23, 1, 0)], 24, true, Value.agg #[.int .i64 0, .int .i64 0, .int .i64 0, .int .i64 0, .int .i64 0, .int .i64 0, Value.slice Option.none 0 0, Value.bool false, .string ⟨#[]⟩, .int .i64 0, .int .i64 0, .int .i64 0, .string ⟨#[]⟩, .string ⟨#[]⟩, .int .i64 0, .string ⟨#[]⟩, Value.map Option.none, Value.map Option.none, Value.pointer Option.none, Value.pointer Option.none, Value.pointer Option.none, Value.pointer Option.none, Value.pointer Option.none, Value.pointer Option.none]⟩
theorem ty111_ok : Xe Tryz.prog 111 = some ty111 := by kernel_rfl
def ty117 : TyE := ⟨Ty.other, 1, false, Value.nilFunc⟩
theorem ty117_ok : Xe Tryz.prog 117 = some ty117 := by kernel_rfl
def ty118 : TyE := ⟨Ty.arr 6 1, 6, true, Value.agg #[Value.nilFunc, Value.nilFunc, Value.nilFunc, Value.nilFunc, Value.nilFunc, Value.nilFunc]⟩
theorem ty118_ok : Xe Tryz.prog 118 = some ty118 := by kernel_rfl
def ty124 : TyE := ⟨Ty.other, 1, false, Value.pointer Option.none⟩
theorem ty124_ok : Xe Tryz.prog 124 = some ty124 := by kernel_rfl
def ty128 : TyE := ⟨Ty.strct [(0, 1, 0), (1, 1, 0), (2, 1, 0)], 3, true, Value.agg #[.string ⟨#[]⟩, .int .i64 0, .string ⟨#[]⟩]⟩
theorem ty128_ok : Xe Tryz.prog 128 = some ty128 := by kernel_rfl
def ty129 : TyE := ⟨Ty.slice 131 4, 1, false, Value.slice Option.none 0 0⟩
theorem ty129_ok : Xe Tryz.prog 129 = some ty129 := by kernel_rfl
def ty131 : TyE := ⟨Ty.strct [(0, 1, 0), (1, 1, 0), (2, 1, 0), (3, 1, 0)], 4, true, Value.agg #[.string ⟨#[]⟩, .int .i64 0, .int .i64 0, Value.slice Option.none 0 0]⟩
theorem ty131_ok : Xe Tryz.prog 131 = some ty131 := by kernel_rfl
def ty132 : TyE := ⟨Ty.map 9 138, 1, false, Value.map Option.none⟩
theorem ty132_ok : Xe Tryz.prog 132 = some ty132 := by kernel_rfl
def ty133 : TyE := ⟨Ty.map 252 4, 1, false, Value.map Option.none⟩
theorem ty133_ok : Xe Tryz.prog 133 = some ty133 := by kernel_rfl
def ty134 : TyE := ⟨Ty.map 252 3, 1, false, Value.map Option.none⟩
theorem ty134_ok : Xe Tryz.prog 134 = some ty134 := by kernel_rfl
def ty135 : TyE := ⟨Ty.map 9 3, 1, false, Value.map Option.none⟩
theorem ty135_ok : Xe Tryz.prog 135 = some ty135 := by kernel_rfl
def ty137 : TyE := ⟨Ty.strct [(0, 1, 0), (1, 1, 0), (2, 8, 1), (10, 1, 0), (11, 1, 0), (12, 1, 0), (13, 1, 0), (14, 1, 0), (15, 1, 0), (16, 1, 0), (17, 1, 0)], 18, true, Value.agg #[.int .i64 0, .int .i64 0, .string ⟨#[]⟩, .int .i64 0, .int .i64 0, .int .i64 0, .string ⟨#[]⟩, .string ⟨#[]⟩, .int .i64 0, .string ⟨#[]⟩, Value.map Option.none, Value.map Option.none, Value.map Option.none, Value.map Option.none, Value.map Option.none, Value.map Option.none, Value.map Option.none, Value.map Option.none]⟩
theorem ty137_ok : Xe Tryz.prog 137 = some ty137 := by kernel_rfl
def ty138 : TyE := ⟨Ty.slice 140 9, 1, false, Value.slice Option.none 0 0⟩
theorem ty138_ok : Xe Tryz.prog 138 = some ty138 := by kernel_rfl
def ty140 : TyE := ⟨Ty.strct [(0, 8, 1), (8, 1, 0)], 9, true, Value.agg #[.string ⟨#[]⟩, .int .i64 0, .int .i64 0, .int .i64 0, .string ⟨#[]⟩, .string ⟨#[]⟩, .int .i64 0, .string ⟨#[]⟩, Value.slice Option.none 0 0]⟩
theorem ty140_ok : Xe Tryz.prog 140 = some ty140 := by kernel_rfl
def ty141 : TyE := ⟨Ty.map 3 2, 1, false, Value.map Option.none⟩
theorem ty141_ok : Xe Tryz.prog 141 = some ty141 := by kernel_rfl
def ty142 : TyE := ⟨Ty.map 9 141, 1, false, Value.map Option.none⟩
theorem ty142_ok : Xe Tryz.prog 142 = some ty142 := by kernel_rfl
def ty144 : TyE := ⟨Ty.strct [(0, 1, 0), (1, 1, 0), (2, 1, 0)], 3, true, Value.agg #[.int .i64 0, .int .i64 0, Value.map Option.none]⟩
theorem ty144_ok : Xe Tryz.prog 144 = some ty144 := by kernel_rfl
def ty146 : TyE := ⟨Ty.slice 151 3, 1, false, Value.slice Option.none 0 0⟩
theorem ty146_ok : Xe Tryz.prog 146 = some ty146 := by kernel_rfl
def ty148 : TyE := ⟨Ty.strct [(0, 1, 0), (1, 1, 0), (2, 1, 0)], 3, true, Value.agg #[.int .i64 0, Value.slice Option.none 0 0, .int .i64 0]⟩
theorem ty148_ok : Xe Tryz.prog 148 = some ty148 := by kernel_rfl
def ty151 : TyE := ⟨Ty.strct [(0, 1, 0), (1, 1, 0), (2, 1, 0)], 3, true, Value.agg #[.string ⟨#[]⟩, .int .i64 0, .int .i64 0]⟩
theorem ty151_ok : Xe Tryz.prog 151 = some ty151 := by kernel_rfl
def ty153 : TyE := ⟨Ty.map 158 2, 1, false, Value.map Option.none⟩
theorem ty153_ok : Xe Tryz.prog 153 = some ty153 := by kernel_rfl
def ty154 : TyE := ⟨Ty.map 9 85, 1, false, Value.map Option.none⟩
theorem ty154_ok : Xe Tryz.prog 154 = some ty154 := by kernel_rfl
def ty156 : TyE := ⟨Ty.strct [(0, 1, 0), (1, 1, 0), (2, 1, 0), (3, 1, 0)], 4, true, Value.agg #[.int .i64 0, .int .i64 0, Value.map Option.none, Value.map Option.none]⟩
theorem ty156_ok : Xe Tryz.prog 156 = some ty156 := by kernel_rfl
def ty158 : TyE := ⟨Ty.strct [(0, 1, 0), (1, 1, 0)], 2, true, Value.agg #[.string ⟨#[]⟩, .int .i64 0]⟩
theorem ty158_ok : Xe Tryz.prog 158 = some ty158 := by kernel_rfl
def ty161 : TyE := ⟨Ty.slice 165 3, 1, false, Value.slice Option.none 0 0⟩
theorem ty161_ok : Xe Tryz.prog 161 = some ty161 := by kernel_rfl
def ty163 : TyE := ⟨Ty.strct [(0, 1, 0), (1, 1, 0), (2, 1, 0)], 3, true, Value.agg #[.int .i64 0, Value.slice Option.none 0 0, .int .i64 0]⟩
theorem ty163_ok : Xe Tryz.prog 163 = some ty163 := by kernel_rfl
def ty165 : TyE := ⟨Ty.strct [(0, 1, 0), (1, 1, 0), (2, 1, 0)], 3, true, Value.agg #[.string ⟨#[]⟩, .int .i64 0, .int .i64 0]⟩
theorem ty165_ok : Xe Tryz.prog 165 = some ty165 := by kernel_rfl
def ty168 : TyE := ⟨Ty.map 9 135, 1, false, Value.map Option.none⟩
theorem ty168_ok : Xe Tryz.prog 168 = some ty168 := by kernel_rfl
def ty170 : TyE := ⟨Ty.strct [(0, 1, 0), (1, 1, 0)], 2, true, Value.agg #[Value.map Option.none, Value.map Option.none]⟩
theorem ty170_ok : Xe Tryz.prog 170 = some ty170 := by kernel_rfl
def ty171 : TyE := ⟨Ty.other, 1, false, Value.pointer Option.none⟩
theorem ty171_ok : Xe Tryz.prog 171 = some ty171 := by kernel_rfl
def ty173 : TyE := ⟨Ty.strct [(0, 1, 0), (1, 1, 0)], 2, true, Value.agg #[Value.pointer Option.none, Value.bool false]⟩
theorem ty173_ok : Xe Tryz.prog 173 = some ty173 := by kernel_rfl
def ty176 : TyE := ⟨Ty.other, 1, false, Value.nilFunc⟩
theorem ty176_ok : Xe Tryz.prog 176 = some ty176 := by kernel_rfl
def ty178 : TyE := ⟨Ty.map 9 179, 1, false, Value.map Option.none⟩
theorem ty178_ok : Xe Tryz.prog 178 = some ty178 := by kernel_rfl
def ty179 : TyE := ⟨Ty.map 3 109, 1, false, Value.map Option.none⟩
theorem ty179_ok : Xe Tryz.prog 179 = some ty179 := by kernel_rfl
def ty181 : TyE := ⟨Ty.strct [(0, 1, 0), (1, 1, 0)], 2, true, Value.agg #[.int .i64 0, Value.map Option.none]⟩
theorem ty181_ok : Xe Tryz.prog 181 = some ty181 := by kernel_rfl
def ty182 : TyE := ⟨Ty.slice 189 9, 1, false, Value.slice Option.none 0 0⟩
theorem ty182_ok : Xe Tryz.prog 182 = some ty182 := by kernel_rfl
def ty183 : TyE := ⟨Ty.map 9 182, 1, false, Value.map Option.none⟩
theorem ty183_ok : Xe Tryz.prog 183 = some ty183 := by kernel_rfl
def ty185 : TyE := ⟨Ty.strct [(0, 1, 0), (1, 8, 1), (9, 1, 0)], 10, true, Value.agg #[Value.bool false, .string ⟨#[]⟩, .int .i64 0, .int .i64 0, .int .i64 0, .string ⟨#[]⟩, .string ⟨#[]⟩, .int .i64 0, .string ⟨#[]⟩, Value.map Option.none]⟩
theorem ty185_ok : Xe Tryz.prog 185 = some ty185 := by kernel_rfl
def ty187 : TyE := ⟨Ty.strct [(0, 1, 0), (1, 1, 0), (2, 1, 0), (3, 1, 0), (4, 1, 0), (5, 1, 0), (6, 1, 0)], 7, true, Value.agg #[.string ⟨#[]⟩, .string ⟨#[]⟩, .string ⟨#[]⟩, .int .i64 0, .int .i64 0, .int .i64 0, Value.bool false]⟩
theorem ty187_ok : Xe Tryz.prog 187 = some ty187 := by kernel_rfl
def ty189 : TyE := ⟨Ty.strct [(0, 1, 0), (1, 1, 0), (2, 7, 1)], 9, true, Value.agg #[.int .i64 0, Value.bool false, .string ⟨#[]⟩, .string ⟨#[]⟩, .string ⟨#[]⟩, .int .i64 0, .int .i64 0, .int .i64 0, Value.bool false]⟩
theorem ty189_ok : Xe Tryz.prog 189 = some ty189 := by kernel_rfl
def ty193 : TyE := ⟨Ty.strct [(0, 1, 0), (1, 1, 0)], 2, true, Value.agg #[.string ⟨#[]⟩, .int .i64 0]⟩
theorem ty193_ok : Xe Tryz.prog 193 = some ty193 := by kernel_rfl
def ty194 : TyE := ⟨Ty.map 9 2, 1, false, Value.map Option.none⟩
theorem ty194_ok : Xe Tryz.prog 194 = some ty194 := by kernel_rfl
def ty199 : TyE := ⟨Ty.other, 1, false, Value.nilFunc⟩
theorem ty199_ok : Xe Tryz.prog 199 = some ty199 := by kernel_rfl
def ty202 : TyE := ⟨Ty.other, 1, false, Value.nilFunc⟩
theorem ty202_ok : Xe Tryz.prog 202 = some ty202 := by kernel_rfl
def ty203 : TyE := ⟨Ty.arr 8 1, 8, true, Value.agg #[.int .i64 0, .int .i64 0, .int .i64 0, .int .i64 0, .int .i64 0, .int .i64 0, .int .i64 0, .int .i64 0]⟩
theorem ty203_ok : Xe Tryz.prog 203 = some ty203 := by kernel_rfl
def ty205 : TyE := ⟨Ty.arr 5 1, 5, true, Value.agg #[.int .i64 0, .int .i64 0, .int .i64 0, .int .i64 0, .int .i64 0]⟩
theorem ty205_ok : Xe Tryz.prog 205 = some ty205 := by kernel_rfl
def ty208 : TyE := ⟨Ty.other, 1, false, Value.nilFunc⟩
theorem ty208_ok : Xe Tryz.prog 208 = some ty208 := by kernel_rfl
def ty209 : TyE := ⟨Ty.map 211 49, 1, false, Value.map Option.none⟩
theorem ty209_ok : Xe Tryz.prog 209 = some ty209 := by kernel_rfl
def ty211 : TyE := ⟨Ty.strct [(0, 1, 0), (1, 1, 0)], 2, true, Value.agg #[.string ⟨#[]⟩, .int .i64 0]⟩
theorem ty211_ok : Xe Tryz.prog 211 = some ty211 := by kernel_rfl
def ty213 : TyE := ⟨Ty.other, 1, false, Value.nilFunc⟩
theorem ty213_ok : Xe Tryz.prog 213 = some ty213 := by kernel_rfl
def ty218 : TyE := ⟨Ty.other, 1, false, Value.nilFunc⟩
theorem ty218_ok : Xe Tryz.prog 218 = some ty218 := by kernel_rfl
def ty221 : TyE := ⟨Ty.strct [(0, 1, 0), (1, 1, 0)], 2, true, Value.agg #[.int .i64 0, .int .i64 0]⟩
theorem ty221_ok : Xe Tryz.prog 221 = some ty221 := by kernel_rfl
def ty224 : TyE := ⟨Ty.arr 11 1, 11, true, Value.agg #[Value.nilFunc, Value.nilFunc, Value.nilFunc, Value.nilFunc, Value.nilFunc, Value.nilFunc, Value.nilFunc, Value.nilFunc, Value.nilFunc, Value.nilFunc, Value.nilFunc]⟩
theorem ty224_ok : Xe Tryz.prog 224 = some ty224 := by kernel_rfl
def ty226 : TyE := ⟨Ty.strct [(0, 1, 0), (1, 1, 0), (2, 1, 0)], 3, true, Value.agg #[.int .i64 0, .int .i64 0, .int .i64 0]⟩
theorem ty226_ok : Xe Tryz.prog 226 = some ty226 := by kernel_rfl
def ty232 : TyE := ⟨Ty.slice 128 3, 1, false, Value.slice Option.none 0 0⟩
theorem ty232_ok : Xe Tryz.prog 232 = some ty232 := by kernel_rfl
def ty234 : TyE := ⟨Ty.strct [(0, 1, 0), (1, 1, 0)], 2, true, Value.agg #[.int .i64 0, Value.slice Option.none 0 0]⟩
theorem ty234_ok : Xe Tryz.prog 234 = some ty234 := by kernel_rfl
def ty244 : TyE := ⟨Ty.other, 1, false, Value.nilFunc⟩
theorem ty244_ok : Xe Tryz.prog 244 = some ty244 := by kernel_rfl
def ty249 : TyE := ⟨Ty.int IntKind.u64, 1, false, .int .u64 0⟩
theorem ty249_ok : Xe Tryz.prog 249 = some ty249 := by kernel_rfl
def ty252 : TyE := ⟨Ty.strct [(0, 1, 0), (1, 1, 0)], 2, true, Value.agg #[.string ⟨#[]⟩, .string ⟨#[]⟩]⟩
theorem ty252_ok : Xe Tryz.prog 252 = some ty252 := by kernel_rfl
def ty254 : TyE := ⟨Ty.arr 13 1, 13, true, Value.agg #[.int .i64 0, .int .i64 0, .int .i64 0, .int .i64 0, .int .i64 0, .int .i64 0, .int .i64 0, .int .i64 0, .int .i64 0, .int .i64 0, .int .i64 0, .int .i64 0, .int .i64 0]⟩
theorem ty254_ok : Xe Tryz.prog 254 = some ty254 := by kernel_rfl
def ty262 : TyE := ⟨Ty.arr 15 1, 15, true, Value.agg #[.string ⟨#[]⟩, .string ⟨#[]⟩, .string ⟨#[]⟩, .string ⟨#[]⟩, .string ⟨#[]⟩, .string ⟨#[]⟩, .string ⟨#[]⟩, .string ⟨#[]⟩, .string ⟨#[]⟩, .string ⟨#[]⟩, .string ⟨#[]⟩, .string ⟨#[]⟩, .string ⟨#[]⟩, .string ⟨#[]⟩, .string ⟨#[]⟩]⟩
theorem ty262_ok : Xe Tryz.prog 262 = some ty262 := by kernel_rfl
def ty268 : TyE := ⟨Ty.other, 1, false, Value.nilFunc⟩
theorem ty268_ok : Xe Tryz.prog 268 = some ty268 := by kernel_rfl
def ty277 : TyE := ⟨Ty.slice 280 3, 1, false, Value.slice Option.none 0 0⟩
theorem ty277_ok : Xe Tryz.prog 277 = some ty277 := by kernel_rfl
def ty280 : TyE := ⟨Ty.strct [(0, 1, 0), (1, 1, 0), (2, 1, 0)], 3, true, Value.agg #[.string ⟨#[]⟩, .int .i64 0, .int .i64 0]⟩
theorem ty280_ok : Xe Tryz.prog 280 = some ty280 := by kernel_rfl
def ty292 : TyE := ⟨Ty.int IntKind.i64, 1, false, .int .i64 0⟩
theorem ty292_ok : Xe Tryz.prog 292 = some ty292 := by kernel_rfl
def ty300 : TyE := ⟨Ty.int IntKind.u32, 1, false, .int .u32 0⟩
theorem ty300_ok : Xe Tryz.prog 300 = some ty300 := by kernel_rfl
def ty302 : TyE := ⟨Ty.arr 3 1, 3, true, Value.agg #[Value.bool false, Value.bool false, Value.bool false]⟩
theorem ty302_ok : Xe Tryz.prog 302 = some ty302 := by kernel_rfl
def ty303 : TyE := ⟨Ty.other, 1, false, Value.pointer Option.none⟩
theorem ty303_ok : Xe Tryz.prog 303 = some ty303 := by kernel_rfl
def ty305 : TyE := ⟨Ty.strct [(0, 1, 0), (1, 1, 0)], 2, true, Value.agg #[Value.pointer Option.none, Value.slice Option.none 0 0]⟩
theorem ty305_ok : Xe Tryz.prog 305 = some ty305 := by kernel_rfl
def ty308 : TyE := ⟨Ty.other, 1, false, Value.nilIface⟩
theorem ty308_ok : Xe Tryz.prog 308 = some ty308 := by kernel_rfl
def ty323 : TyE := ⟨Ty.other, 1, false, Value.nilFunc⟩
theorem ty323_ok : Xe Tryz.prog 323 = some ty323 := by kernel_rfl
def ty337 : TyE := ⟨Ty.int IntKind.u64, 1, false, .int .u64 0⟩
theorem ty337_ok : Xe Tryz.prog 337 = some ty337 := by kernel_rfl
def ty341 : TyE := ⟨Ty.other, 1, false, Value.pointer Option.none⟩
theorem ty341_ok : Xe Tryz.prog 341 = some ty341 := by kernel_rfl
def ty344 : TyE := ⟨Ty.other, 1, false, Value.pointer Option.none⟩
theorem ty344_ok : Xe Tryz.prog 344 = some ty344 := by kernel_rfl
def ty348 : TyE := ⟨Ty.arr 2 1, 2, true, Value.agg #[.int .u64 0, .int .u64 0]⟩
theorem ty348_ok : Xe Tryz.prog 348 = some ty348 := by kernel_rfl
def ty362 : TyE := ⟨Ty.arr 24 1, 24, true, Value.agg (List.replicate 24 (.int .u8 0)).toArray⟩
theorem ty362_ok : Xe Tryz.prog 362 = some ty362 := by kernel_rfl
def ty367 : TyE := ⟨Ty.other, 1, false, Value.pointer Option.none⟩
theorem ty367_ok : Xe Tryz.prog 367 = some ty367 := by kernel_rfl
def ty382 : TyE := ⟨Ty.arr 20 1, 20, true, Value.agg #[.int .u64 0, .int .u64 0, .int .u64 0, .int .u64 0, .int .u64 0, .int .u64 0, .int .u64 0, .int .u64 0, .int .u64 0, .int .u64 0, .int .u64 0, .int .u64 0, .int .u64 0, .int .u64 0, .int .u64 0, .int .u64 0, .int .u64 0, .int .u64 0, .int .u64 0, .int .u64 0]⟩
theorem ty382_ok : Xe Tryz.prog 382 = some ty382 := by kernel_rfl
def ty383 : TyE := ⟨Ty.arr 65 1, 65, true, Value.agg ((List.replicate 32 (.int .u8 0)).append (List.replicate 33 (.int .u8 0))).toArray⟩
theorem ty383_ok : Xe Tryz.prog 383 = some ty383 := by kernel_rfl
def ty389 : TyE := ⟨Ty.arr 256 1, 256, true, Value.agg (((List.replicate 64 (.int .u8 0)).append (List.replicate 64 (.int .u8 0))).append ((List.replicate 64 (.int .u8 0)).append (List.replicate 64 (.int .u8 0)))).toArray⟩
theorem ty389_ok : Xe Tryz.prog 389 = some ty389 := by kernel_rfl
def ty391 : TyE := ⟨Ty.strct [(0, 1, 0), (1, 1, 0)], 2, true, Value.agg #[.int .u8 0, .int .u8 0]⟩
theorem ty391_ok : Xe Tryz.prog 391 = some ty391 := by kernel_rfl
def ty392 : TyE := ⟨Ty.arr 16 2, 32, true, Value.agg (List.replicate 32 (.int .u8 0)).toArray⟩
theorem ty392_ok : Xe Tryz.prog 392 = some ty392 := by kernel_rfl
def ty394 : TyE := ⟨Ty.arr 32 1, 32, true, Value.agg (List.replicate 32 (.int .u8 0)).toArray⟩
theorem ty394_ok : Xe Tryz.prog 394 = some ty394 := by kernel_rfl
def ty395 : TyE := ⟨Ty.arr 64 1, 64, true, Value.agg (List.replicate 64 (.int .u8 0)).toArray⟩
theorem ty395_ok : Xe Tryz.prog 395 = some ty395 := by kernel_rfl
theorem by49 : (Tryz.prog.info? 49).map (·.bytes) = some 96 := by kernel_rfl
theorem by9 : (Tryz.prog.info? 9).map (·.bytes) = some 16 := by kernel_rfl
theorem by63 : (Tryz.prog.info? 63).map (·.bytes) = some 56 := by kernel_rfl
theorem by3 : (Tryz.prog.info? 3).map (·.bytes) = some 8 := by kernel_rfl
theorem by193 : (Tryz.prog.info? 193).map (·.bytes) = some 24 := by kernel_rfl
theorem by131 : (Tryz.prog.info? 131).map (·.bytes) = some 56 := by kernel_rfl
theorem by140 : (Tryz.prog.info? 140).map (·.bytes) = some 120 := by kernel_rfl
theorem by151 : (Tryz.prog.info? 151).map (·.bytes) = some 32 := by kernel_rfl
theorem by165 : (Tryz.prog.info? 165).map (·.bytes) = some 32 := by kernel_rfl
theorem by189 : (Tryz.prog.info? 189).map (·.bytes) = some 96 := by kernel_rfl
theorem by128 : (Tryz.prog.info? 128).map (·.bytes) = some 40 := by kernel_rfl
theorem st25 : Q0a Tryz.prog 25 [("Half", 3, 0), ("Width", 3, 1), ("Gap", 3, 2), ("Span", 3, 3), ("Floor", 3, 4), ("Crowd", 3, 5)] := ⟨by kernel_rfl, by kernel_rfl, by kernel_rfl, by kernel_rfl⟩
theorem st49 : Q0a Tryz.prog 49 [("Source", 9, 0), ("Number", 3, 1), ("At", 3, 2), ("Kind", 47, 3), ("Person", 9, 4), ("Item", 9, 5), ("Value", 3, 6), ("Text", 9, 7)] := ⟨by kernel_rfl, by kernel_rfl, by kernel_rfl, by kernel_rfl⟩
theorem st128 : Q0a Tryz.prog 128 [("Person", 9, 0), ("At", 3, 1), ("Item", 9, 2)] := ⟨by kernel_rfl, by kernel_rfl, by kernel_rfl, by kernel_rfl⟩
theorem st158 : Q0a Tryz.prog 158 [("key", 9, 0), ("pane", 3, 1)] := ⟨by kernel_rfl, by kernel_rfl, by kernel_rfl, by kernel_rfl⟩
theorem st193 : Q0a Tryz.prog 193 [("Key", 9, 0), ("N", 2, 1)] := ⟨by kernel_rfl, by kernel_rfl, by kernel_rfl, by kernel_rfl⟩
theorem st211 : Q0a Tryz.prog 211 [("source", 9, 0), ("number", 3, 1)] := ⟨by kernel_rfl, by kernel_rfl, by kernel_rfl, by kernel_rfl⟩
theorem st252 : Q0a Tryz.prog 252 [("person", 9, 0), ("what", 9, 1)] := ⟨by kernel_rfl, by kernel_rfl, by kernel_rfl, by kernel_rfl⟩
def Tt : Tab := [(2, ty2), (3, ty3), (4, ty4), (5, ty5), (9, ty9), (20, ty20), (21, ty21), (22, ty22), (23, ty23), (25, ty25), (27, ty27), (29, ty29), (30, ty30), (32, ty32), (36, ty36), (38, ty38), (39, ty39), (42, ty42), (43, ty43), (45, ty45), (47, ty47), (49, ty49), (51, ty51), (59, ty59), (63, ty63), (64, ty64), (69, ty69), (72, ty72), (74, ty74), (77, ty77), (80, ty80), (82, ty82), (85, ty85), (86, ty86), (93, ty93), (98, ty98), (100, ty100), (102, ty102), (104, ty104), (106, ty106), (108, ty108), (109, ty109), (111, ty111), (117, ty117), (118, ty118), (124, ty124), (128, ty128), (129, ty129), (131, ty131), (132, ty132), (133, ty133), (134, ty134), (135, ty135), (137, ty137), (138, ty138), (140, ty140), (141, ty141), (142, ty142), (144, ty144), (146, ty146), (148, ty148), (151, ty151), (153, ty153), (154, ty154), (156, ty156), (158, ty158), (161, ty161), (163, ty163), (165, ty165), (168, ty168), (170, ty170), (171, ty171), (173, ty173), (176, ty176), (178, ty178), (179, ty179), (181, ty181), (182, ty182), (183, ty183), (185, ty185), (187, ty187), (189, ty189), (193, ty193), (194, ty194), (199, ty199), (202, ty202), (203, ty203), (205, ty205), (208, ty208), (209, ty209), (211, ty211), (213, ty213), (218, ty218), (221, ty221), (224, ty224), (226, ty226), (232, ty232), (234, ty234), (244, ty244), (249, ty249), (252, ty252), (254, ty254), (262, ty262), (268, ty268), (277, ty277), (280, ty280), (292, ty292), (300, ty300), (302, ty302), (303, ty303), (305, ty305), (308, ty308), (323, ty323), (337, ty337), (341, ty341), (344, ty344), (348, ty348), (362, ty362), (367, ty367), (382, ty382), (383, ty383), (389, ty389), (391, ty391), (392, ty392), (394, ty394), (395, ty395)]
theorem Qa : Qau Tryz.prog Tt := ⟨ty2_ok, ty3_ok, ty4_ok, ty5_ok, ty9_ok, ty20_ok, ty21_ok, ty22_ok, ty23_ok, ty25_ok, ty27_ok, ty29_ok, ty30_ok, ty32_ok, ty36_ok, ty38_ok, ty39_ok, ty42_ok, ty43_ok, ty45_ok, ty47_ok, ty49_ok, ty51_ok, ty59_ok, ty63_ok, ty64_ok, ty69_ok, ty72_ok, ty74_ok, ty77_ok, ty80_ok, ty82_ok, ty85_ok, ty86_ok, ty93_ok, ty98_ok, ty100_ok, ty102_ok, ty104_ok, ty106_ok, ty108_ok, ty109_ok, ty111_ok, ty117_ok, ty118_ok, ty124_ok, ty128_ok, ty129_ok, ty131_ok, ty132_ok, ty133_ok, ty134_ok, ty135_ok, ty137_ok, ty138_ok, ty140_ok, ty141_ok, ty142_ok, ty144_ok, ty146_ok, ty148_ok, ty151_ok, ty153_ok, ty154_ok, ty156_ok, ty158_ok, ty161_ok, ty163_ok, ty165_ok, ty168_ok, ty170_ok, ty171_ok, ty173_ok, ty176_ok, ty178_ok, ty179_ok, ty181_ok, ty182_ok, ty183_ok, ty185_ok, ty187_ok, ty189_ok, ty193_ok, ty194_ok, ty199_ok, ty202_ok, ty203_ok, ty205_ok, ty208_ok, ty209_ok, ty211_ok, ty213_ok, ty218_ok, ty221_ok, ty224_ok, ty226_ok, ty232_ok, ty234_ok, ty244_ok, ty249_ok, ty252_ok, ty254_ok, ty262_ok, ty268_ok, ty277_ok, ty280_ok, ty292_ok, ty300_ok, ty302_ok, ty303_ok, ty305_ok, ty308_ok, ty323_ok, ty337_ok, ty341_ok, ty344_ok, ty348_ok, ty362_ok, ty367_ok, ty382_ok, ty383_ok, ty389_ok, ty391_ok, ty392_ok, ty394_ok, ty395_ok, trivial⟩
theorem mixed : Tryz.prog.follows .mixedOrders = true := by kernel_rfl
theorem Dr {N : Nat} (cl : Cl) (A B : List Nat) {id : Nat} {ops : Array Oper} {Γ : Env} {w : World} {kn : KN} {ex : KE} {rt : KN} (h : Qcx Tryz.prog Tt N cl ops.toList (Qet ops.toList A) Γ [] [] w.drew fun Γ' Δ' G' w' => Qcx Tryz.prog Tt N .same ops.toList (Qet ops.toList B) Γ' Δ' G' w' fun Γ'' _ _ w'' => kn Γ'' w'') (hc : Qxt Tt ops A B = true := by kernel_rfl) (hs : cl = .same → A.all (fun i => match ops[i]? with | some o => still Tt o.op | none => true) = true := by first | (intro h; cases h; done) | (intro _; rfl)) : SemC Tryz.prog N (.region id ops true) Γ w kn ex rt := Qg cl A B Qa mixed hc hs h
theorem Sg {N : Nat} {x y : Code} {Γ : Env} {w : World} {kn : KN} {ex : KE} {rt : KN} (h : vc Tryz.prog Tt N x Γ w (fun Γ' w' => vc Tryz.prog Tt N y Γ' w' kn ex rt) ex rt) : SemC Tryz.prog N (.seq x y) Γ w kn ex rt := Qb Qa h
theorem Fi {N : Nat} {f : FuncId} {fn : Func} {body : Code} {args : List Value} {w : World} {R : Value → World → Prop} (hf : Tryz.prog.funcs[f]? = some fn) (hb : fn.body = some body) (rs : List ResultVar) (hrs : fn.results.toList = rs) (hN : fn.ntmps = N) (h : vc Tryz.prog Tt N body (Qmz args) w (Q5i Tt rs R) [] (Q5i Tt rs R)) (hn : (fn.name == "runtime.NumGoroutine") = false := by rfl) (hargs : Nat.ble args.length N = true := by rfl) : Cal Tryz.prog f args w R := Qc Qa hf hn hb rs hrs hN hargs h
end Go.Proofs.YtopncieoolkhjaaGreatDoor
