/- The table of the types that the seat's operations name, and that the program has them so. Written by a program (seat.py). -/
import Derived.Test.YtoancknoinilaaaGreatDoorRows
import Derived.Test.YtoancknoinilaaaGreatDoorGA
set_option linter.unusedVariables false
set_option linter.unusedSimpArgs false
namespace Go.Proofs.YtoancknoinilaaaGreatDoor
open Go.Se Go.RowKit
def ty2 : TyE := ⟨Ty.int IntKind.i64, 1, false, .int .i64 0⟩
theorem ty2_ok : Xg Tryz.prog 2 = some ty2 := by kernel_rfl
def ty3 : TyE := ⟨Ty.int IntKind.i64, 1, false, .int .i64 0⟩
theorem ty3_ok : Xg Tryz.prog 3 = some ty3 := by kernel_rfl
def ty4 : TyE := ⟨Ty.bool, 1, false, Value.bool false⟩
theorem ty4_ok : Xg Tryz.prog 4 = some ty4 := by kernel_rfl
def ty5 : TyE := ⟨Ty.int IntKind.u8, 1, false, .int .u8 0⟩
theorem ty5_ok : Xg Tryz.prog 5 = some ty5 := by kernel_rfl
def ty9 : TyE := ⟨Ty.str, 1, false, .string ⟨#[]⟩⟩
theorem ty9_ok : Xg Tryz.prog 9 = some ty9 := by kernel_rfl
def ty20 : TyE := ⟨Ty.other, 1, false, Value.nilIface⟩
theorem ty20_ok : Xg Tryz.prog 20 = some ty20 := by kernel_rfl
def ty21 : TyE := ⟨Ty.int IntKind.i32, 1, false, .int .i32 0⟩
theorem ty21_ok : Xg Tryz.prog 21 = some ty21 := by kernel_rfl
def ty23 : TyE := ⟨Ty.strct [(0, 1, 0), (1, 1, 0), (2, 1, 0), (3, 1, 0), (4, 1, 0), (5, 1, 0)], 6, true, Value.agg #[.int .i64 0, .int .i64 0, .int .i64 0, .int .i64 0, .int .i64 0, .int .i64 0]⟩
theorem ty23_ok : Xg Tryz.prog 23 = some ty23 := by kernel_rfl
def ty24 : TyE := ⟨Ty.slice 53 8, 1, false, Value.slice Option.none 0 0⟩
theorem ty24_ok : Xg Tryz.prog 24 = some ty24 := by kernel_rfl
def ty27 : TyE := ⟨Ty.other, 1, false, Value.pointer Option.none⟩
theorem ty27_ok : Xg Tryz.prog 27 = some ty27 := by kernel_rfl
def ty28 : TyE := ⟨Ty.int IntKind.i64, 1, false, .int .i64 0⟩
theorem ty28_ok : Xg Tryz.prog 28 = some ty28 := by kernel_rfl
def ty32 : TyE := ⟨Ty.int IntKind.i64, 1, false, .int .i64 0⟩
theorem ty32_ok : Xg Tryz.prog 32 = some ty32 := by kernel_rfl
def ty37 : TyE := ⟨Ty.arr 6 1, 6, true, Value.agg #[.int .i64 0, .int .i64 0, .int .i64 0, .int .i64 0, .int .i64 0, .int .i64 0]⟩
theorem ty37_ok : Xg Tryz.prog 37 = some ty37 := by kernel_rfl
def ty38 : TyE := ⟨Ty.slice 42 3, 1, false, Value.slice Option.none 0 0⟩
theorem ty38_ok : Xg Tryz.prog 38 = some ty38 := by kernel_rfl
def ty42 : TyE := ⟨Ty.strct [(0, 1, 0), (1, 1, 0), (2, 1, 0)], 3, true, Value.agg #[.int .i64 0, .int .i64 0, .int .i64 0]⟩
theorem ty42_ok : Xg Tryz.prog 42 = some ty42 := by kernel_rfl
def ty48 : TyE := ⟨Ty.slice 9 1, 1, false, Value.slice Option.none 0 0⟩
theorem ty48_ok : Xg Tryz.prog 48 = some ty48 := by kernel_rfl
def ty51 : TyE := ⟨Ty.int IntKind.i64, 1, false, .int .i64 0⟩
theorem ty51_ok : Xg Tryz.prog 51 = some ty51 := by kernel_rfl
def ty53 : TyE := ⟨Ty.strct [(0, 1, 0), (1, 1, 0), (2, 1, 0), (3, 1, 0), (4, 1, 0), (5, 1, 0), (6, 1, 0), (7, 1, 0)], 8, true, Value.agg #[.string ⟨#[]⟩, .int .i64 0, .int .i64 0, .int .i64 0, .string ⟨#[]⟩, .string ⟨#[]⟩, .int .i64 0, .string ⟨#[]⟩]⟩
theorem ty53_ok : Xg Tryz.prog 53 = some ty53 := by kernel_rfl
def ty57 : TyE := ⟨Ty.strct [(0, 6, 1), (6, 1, 0), (7, 6, 1), (13, 1, 0), (14, 1, 0), (15, 1, 0)], 16, true, Value.agg #[.int .i64 0, .int .i64 0, .int .i64 0, .int .i64 0, .int .i64 0, .int .i64 0, Value.slice Option.none 0 0, .int .i64 0, .int .i64 0, .int .i64 0, .int .i64 0, .int .i64 0, .int .i64 0, .string ⟨#[]⟩, .string ⟨#[]⟩, .int .i64 0]⟩
theorem ty57_ok : Xg Tryz.prog 57 = some ty57 := by kernel_rfl
def ty61 : TyE := ⟨Ty.strct [(0, 1, 0), (1, 1, 0), (2, 1, 0), (3, 1, 0), (4, 1, 0)], 5, true, Value.agg #[.string ⟨#[]⟩, Value.slice Option.none 0 0, .int .i64 0, Value.slice Option.none 0 0, .int .i64 0]⟩
theorem ty61_ok : Xg Tryz.prog 61 = some ty61 := by kernel_rfl
def ty66 : TyE := ⟨Ty.other, 1, false, Value.pointer Option.none⟩
theorem ty66_ok : Xg Tryz.prog 66 = some ty66 := by kernel_rfl
def ty70 : TyE := ⟨Ty.map 53 4, 1, false, Value.map Option.none⟩
theorem ty70_ok : Xg Tryz.prog 70 = some ty70 := by kernel_rfl
def ty72 : TyE := ⟨Ty.slice 32 1, 1, false, Value.slice Option.none 0 0⟩
theorem ty72_ok : Xg Tryz.prog 72 = some ty72 := by kernel_rfl
def ty82 : TyE := ⟨Ty.other, 1, false, Value.nilFunc⟩
theorem ty82_ok : Xg Tryz.prog 82 = some ty82 := by kernel_rfl
def ty84 : TyE := ⟨Ty.map 152 4, 1, false, Value.map Option.none⟩
theorem ty84_ok : Xg Tryz.prog 84 = some ty84 := by kernel_rfl
def ty85 : TyE := ⟨Ty.map 9 4, 1, false, Value.map Option.none⟩
theorem ty85_ok : Xg Tryz.prog 85 = some ty85 := by kernel_rfl
def ty86 : TyE := ⟨Ty.other, 1, false, Value.pointer Option.none⟩
theorem ty86_ok : Xg Tryz.prog 86 = some ty86 := by kernel_rfl
def ty87 : TyE := ⟨Ty.other, 1, false, Value.pointer Option.none⟩
theorem ty87_ok : Xg Tryz.prog 87 = some ty87 := by kernel_rfl
def ty88 : TyE := ⟨Ty.other, 1, false, Value.pointer Option.none⟩
theorem ty88_ok : Xg Tryz.prog 88 = some ty88 := by kernel_rfl
def ty89 : TyE := ⟨Ty.other, 1, false, Value.pointer Option.none⟩
theorem ty89_ok : Xg Tryz.prog 89 = some ty89 := by kernel_rfl
def ty90 : TyE := ⟨Ty.other, 1, false, Value.pointer Option.none⟩
theorem ty90_ok : Xg Tryz.prog 90 = some ty90 := by kernel_rfl
def ty92 : TyE := ⟨Ty.strct [(0, 6, 1), (6, 1, 0), (7, 1, 0), (8, 8, 1), (16, 1, 0), (17, 1, 0), (18, 1, 0), (19, 1, 0), (20, 1, 0), (21, 1, 0), (22, 1, 0), (23, 1, 0)], 24, true, Value.agg #[.int .i64 0, .int .i64 0, .int .i64 0, .int .i64 0, .int .i64 0, .int .i64 0, Value.slice Option.none 0 0, Value.bool false, .string ⟨#[]⟩, .int .i64 0, .int .i64 0, .int .i64 0, .string ⟨#[]⟩, .string ⟨#[]⟩, .int .i64 0, .string ⟨#[]⟩, Value.map Option.none, Value.map Option.none, Value.pointer Option.none, Value.pointer Option.none, Value.pointer Option.none, Value.pointer Option.none, Value.pointer Option.none, Value.pointer Option.none]⟩
theorem ty92_ok : Xg Tryz.prog 92 = some ty92 := by kernel_rfl
def ty94 : TyE := ⟨Ty.other, 1, false, Value.nilFunc⟩
theorem ty94_ok : Xg Tryz.prog 94 = some ty94 := by kernel_rfl
def ty95 : TyE := ⟨Ty.arr 6 1, 6, true, Value.agg #[Value.nilFunc, Value.nilFunc, Value.nilFunc, Value.nilFunc, Value.nilFunc, Value.nilFunc]⟩
theorem ty95_ok : Xg Tryz.prog 95 = some ty95 := by kernel_rfl
def ty98 : TyE := ⟨Ty.strct [(0, 1, 0), (1, 1, 0), (2, 1, 0), (3, 1, 0), (4, 1, 0), (5, 1, 0), (6, 1, 0)], 7, true, Value.agg #[.string ⟨#[]⟩, .string ⟨#[]⟩, .string ⟨#[]⟩, .int .i64 0, .int .i64 0, .int .i64 0, Value.bool false]⟩
theorem ty98_ok : Xg Tryz.prog 98 = some ty98 := by kernel_rfl
def ty102 : TyE := ⟨Ty.other, 1, false, Value.pointer Option.none⟩
theorem ty102_ok : Xg Tryz.prog 102 = some ty102 := by kernel_rfl
def ty115 : TyE := ⟨Ty.slice 120 9, 1, false, Value.slice Option.none 0 0⟩
theorem ty115_ok : Xg Tryz.prog 115 = some ty115 := by kernel_rfl
def ty117 : TyE := ⟨Ty.slice 196 4, 1, false, Value.slice Option.none 0 0⟩
theorem ty117_ok : Xg Tryz.prog 117 = some ty117 := by kernel_rfl
def ty120 : TyE := ⟨Ty.strct [(0, 8, 1), (8, 1, 0)], 9, true, Value.agg #[.string ⟨#[]⟩, .int .i64 0, .int .i64 0, .int .i64 0, .string ⟨#[]⟩, .string ⟨#[]⟩, .int .i64 0, .string ⟨#[]⟩, Value.slice Option.none 0 0]⟩
theorem ty120_ok : Xg Tryz.prog 120 = some ty120 := by kernel_rfl
def ty123 : TyE := ⟨Ty.map 9 129, 1, false, Value.map Option.none⟩
theorem ty123_ok : Xg Tryz.prog 123 = some ty123 := by kernel_rfl
def ty124 : TyE := ⟨Ty.map 323 4, 1, false, Value.map Option.none⟩
theorem ty124_ok : Xg Tryz.prog 124 = some ty124 := by kernel_rfl
def ty125 : TyE := ⟨Ty.map 323 3, 1, false, Value.map Option.none⟩
theorem ty125_ok : Xg Tryz.prog 125 = some ty125 := by kernel_rfl
def ty126 : TyE := ⟨Ty.map 9 3, 1, false, Value.map Option.none⟩
theorem ty126_ok : Xg Tryz.prog 126 = some ty126 := by kernel_rfl
def ty128 : TyE := ⟨Ty.strct [(0, 1, 0), (1, 1, 0), (2, 8, 1), (10, 1, 0), (11, 1, 0), (12, 1, 0), (13, 1, 0), (14, 1, 0), (15, 1, 0), (16, 1, 0), (17, 1, 0)], 18, true, Value.agg #[.int .i64 0, .int .i64 0, .string ⟨#[]⟩, .int .i64 0, .int .i64 0, .int .i64 0, .string ⟨#[]⟩, .string ⟨#[]⟩, .int .i64 0, .string ⟨#[]⟩, Value.map Option.none, Value.map Option.none, Value.map Option.none, Value.map Option.none, Value.map Option.none, Value.map Option.none, Value.map Option.none, Value.map Option.none]⟩
theorem ty128_ok : Xg Tryz.prog 128 = some ty128 := by kernel_rfl
def ty129 : TyE := ⟨Ty.slice 131 9, 1, false, Value.slice Option.none 0 0⟩
theorem ty129_ok : Xg Tryz.prog 129 = some ty129 := by kernel_rfl
def ty131 : TyE := ⟨Ty.strct [(0, 8, 1), (8, 1, 0)], 9, true, Value.agg #[.string ⟨#[]⟩, .int .i64 0, .int .i64 0, .int .i64 0, .string ⟨#[]⟩, .string ⟨#[]⟩, .int .i64 0, .string ⟨#[]⟩, Value.slice Option.none 0 0]⟩
theorem ty131_ok : Xg Tryz.prog 131 = some ty131 := by kernel_rfl
def ty133 : TyE := ⟨Ty.other, 1, false, Value.pointer Option.none⟩
theorem ty133_ok : Xg Tryz.prog 133 = some ty133 := by kernel_rfl
def ty134 : TyE := ⟨Ty.slice 5 1, 1, false, Value.slice Option.none 0 0⟩
theorem ty134_ok : Xg Tryz.prog 134 = some ty134 := by kernel_rfl
def ty136 : TyE := ⟨Ty.strct [(0, 1, 0), (1, 1, 0)], 2, true, Value.agg #[Value.pointer Option.none, Value.slice Option.none 0 0]⟩
theorem ty136_ok : Xg Tryz.prog 136 = some ty136 := by kernel_rfl
def ty138 : TyE := ⟨Ty.other, 1, false, Value.nilIface⟩
theorem ty138_ok : Xg Tryz.prog 138 = some ty138 := by kernel_rfl
def ty143 : TyE := ⟨Ty.arr 6 1, 6, true, Value.agg #[.string ⟨#[]⟩, .string ⟨#[]⟩, .string ⟨#[]⟩, .string ⟨#[]⟩, .string ⟨#[]⟩, .string ⟨#[]⟩]⟩
theorem ty143_ok : Xg Tryz.prog 143 = some ty143 := by kernel_rfl
def ty149 : TyE := ⟨Ty.other, 1, false, Value.nilFunc⟩
theorem ty149_ok : Xg Tryz.prog 149 = some ty149 := by kernel_rfl
def ty150 : TyE := ⟨Ty.map 152 53, 1, false, Value.map Option.none⟩
theorem ty150_ok : Xg Tryz.prog 150 = some ty150 := by kernel_rfl
def ty152 : TyE := ⟨Ty.strct [(0, 1, 0), (1, 1, 0)], 2, true, Value.agg #[.string ⟨#[]⟩, .int .i64 0]⟩
theorem ty152_ok : Xg Tryz.prog 152 = some ty152 := by kernel_rfl
def ty154 : TyE := ⟨Ty.other, 1, false, Value.nilFunc⟩
theorem ty154_ok : Xg Tryz.prog 154 = some ty154 := by kernel_rfl
def ty157 : TyE := ⟨Ty.slice 162 3, 1, false, Value.slice Option.none 0 0⟩
theorem ty157_ok : Xg Tryz.prog 157 = some ty157 := by kernel_rfl
def ty159 : TyE := ⟨Ty.strct [(0, 1, 0), (1, 1, 0), (2, 1, 0)], 3, true, Value.agg #[.int .i64 0, Value.slice Option.none 0 0, .int .i64 0]⟩
theorem ty159_ok : Xg Tryz.prog 159 = some ty159 := by kernel_rfl
def ty162 : TyE := ⟨Ty.strct [(0, 1, 0), (1, 1, 0), (2, 1, 0)], 3, true, Value.agg #[.string ⟨#[]⟩, .int .i64 0, .int .i64 0]⟩
theorem ty162_ok : Xg Tryz.prog 162 = some ty162 := by kernel_rfl
def ty163 : TyE := ⟨Ty.slice 166 2, 1, false, Value.slice Option.none 0 0⟩
theorem ty163_ok : Xg Tryz.prog 163 = some ty163 := by kernel_rfl
def ty166 : TyE := ⟨Ty.strct [(0, 1, 0), (1, 1, 0)], 2, true, Value.agg #[.string ⟨#[]⟩, .int .i64 0]⟩
theorem ty166_ok : Xg Tryz.prog 166 = some ty166 := by kernel_rfl
def ty169 : TyE := ⟨Ty.other, 1, false, Value.pointer Option.none⟩
theorem ty169_ok : Xg Tryz.prog 169 = some ty169 := by kernel_rfl
def ty174 : TyE := ⟨Ty.strct [(0, 1, 0), (1, 1, 0), (2, 1, 0), (3, 1, 0), (4, 1, 0), (5, 1, 0), (6, 1, 0)], 7, true, Value.agg #[.string ⟨#[]⟩, .string ⟨#[]⟩, .string ⟨#[]⟩, .int .i64 0, .int .i64 0, .int .i64 0, Value.bool false]⟩
theorem ty174_ok : Xg Tryz.prog 174 = some ty174 := by kernel_rfl
def ty179 : TyE := ⟨Ty.other, 1, false, Value.nilFunc⟩
theorem ty179_ok : Xg Tryz.prog 179 = some ty179 := by kernel_rfl
def ty182 : TyE := ⟨Ty.strct [(0, 1, 0), (1, 1, 0)], 2, true, Value.agg #[.int .i64 0, .int .i64 0]⟩
theorem ty182_ok : Xg Tryz.prog 182 = some ty182 := by kernel_rfl
def ty185 : TyE := ⟨Ty.arr 11 1, 11, true, Value.agg #[Value.nilFunc, Value.nilFunc, Value.nilFunc, Value.nilFunc, Value.nilFunc, Value.nilFunc, Value.nilFunc, Value.nilFunc, Value.nilFunc, Value.nilFunc, Value.nilFunc]⟩
theorem ty185_ok : Xg Tryz.prog 185 = some ty185 := by kernel_rfl
def ty187 : TyE := ⟨Ty.other, 1, false, Value.pointer Option.none⟩
theorem ty187_ok : Xg Tryz.prog 187 = some ty187 := by kernel_rfl
def ty191 : TyE := ⟨Ty.strct [(0, 1, 0), (1, 1, 0), (2, 1, 0)], 3, true, Value.agg #[.string ⟨#[]⟩, .int .i64 0, .string ⟨#[]⟩]⟩
theorem ty191_ok : Xg Tryz.prog 191 = some ty191 := by kernel_rfl
def ty192 : TyE := ⟨Ty.slice 195 4, 1, false, Value.slice Option.none 0 0⟩
theorem ty192_ok : Xg Tryz.prog 192 = some ty192 := by kernel_rfl
def ty195 : TyE := ⟨Ty.strct [(0, 1, 0), (1, 1, 0), (2, 1, 0), (3, 1, 0)], 4, true, Value.agg #[.string ⟨#[]⟩, .int .i64 0, .int .i64 0, Value.slice Option.none 0 0]⟩
theorem ty195_ok : Xg Tryz.prog 195 = some ty195 := by kernel_rfl
def ty196 : TyE := ⟨Ty.strct [(0, 1, 0), (1, 1, 0), (2, 1, 0), (3, 1, 0)], 4, true, Value.agg #[.string ⟨#[]⟩, .int .i64 0, .int .i64 0, Value.slice Option.none 0 0]⟩
theorem ty196_ok : Xg Tryz.prog 196 = some ty196 := by kernel_rfl
def ty197 : TyE := ⟨Ty.arr 15 1, 15, true, Value.agg #[.string ⟨#[]⟩, .string ⟨#[]⟩, .string ⟨#[]⟩, .string ⟨#[]⟩, .string ⟨#[]⟩, .string ⟨#[]⟩, .string ⟨#[]⟩, .string ⟨#[]⟩, .string ⟨#[]⟩, .string ⟨#[]⟩, .string ⟨#[]⟩, .string ⟨#[]⟩, .string ⟨#[]⟩, .string ⟨#[]⟩, .string ⟨#[]⟩]⟩
theorem ty197_ok : Xg Tryz.prog 197 = some ty197 := by kernel_rfl
def ty199 : TyE := ⟨Ty.other, 1, false, Value.pointer Option.none⟩
theorem ty199_ok : Xg Tryz.prog 199 = some ty199 := by kernel_rfl
def ty219 : TyE := ⟨Ty.slice 223 3, 1, false, Value.slice Option.none 0 0⟩
theorem ty219_ok : Xg Tryz.prog 219 = some ty219 := by kernel_rfl
def ty223 : TyE := ⟨Ty.strct [(0, 1, 0), (1, 1, 0), (2, 1, 0)], 3, true, Value.agg #[.string ⟨#[]⟩, .int .i64 0, .int .i64 0]⟩
theorem ty223_ok : Xg Tryz.prog 223 = some ty223 := by kernel_rfl
def ty228 : TyE := ⟨Ty.slice 232 3, 1, false, Value.slice Option.none 0 0⟩
theorem ty228_ok : Xg Tryz.prog 228 = some ty228 := by kernel_rfl
def ty230 : TyE := ⟨Ty.strct [(0, 1, 0), (1, 1, 0), (2, 1, 0)], 3, true, Value.agg #[.int .i64 0, Value.slice Option.none 0 0, .int .i64 0]⟩
theorem ty230_ok : Xg Tryz.prog 230 = some ty230 := by kernel_rfl
def ty232 : TyE := ⟨Ty.strct [(0, 1, 0), (1, 1, 0), (2, 1, 0)], 3, true, Value.agg #[.string ⟨#[]⟩, .int .i64 0, .int .i64 0]⟩
theorem ty232_ok : Xg Tryz.prog 232 = some ty232 := by kernel_rfl
def ty234 : TyE := ⟨Ty.slice 240 9, 1, false, Value.slice Option.none 0 0⟩
theorem ty234_ok : Xg Tryz.prog 234 = some ty234 := by kernel_rfl
def ty235 : TyE := ⟨Ty.map 9 234, 1, false, Value.map Option.none⟩
theorem ty235_ok : Xg Tryz.prog 235 = some ty235 := by kernel_rfl
def ty237 : TyE := ⟨Ty.strct [(0, 1, 0), (1, 8, 1), (9, 1, 0)], 10, true, Value.agg #[Value.bool false, .string ⟨#[]⟩, .int .i64 0, .int .i64 0, .int .i64 0, .string ⟨#[]⟩, .string ⟨#[]⟩, .int .i64 0, .string ⟨#[]⟩, Value.map Option.none]⟩
theorem ty237_ok : Xg Tryz.prog 237 = some ty237 := by kernel_rfl
def ty240 : TyE := ⟨Ty.strct [(0, 1, 0), (1, 1, 0), (2, 7, 1)], 9, true, Value.agg #[.int .i64 0, Value.bool false, .string ⟨#[]⟩, .string ⟨#[]⟩, .string ⟨#[]⟩, .int .i64 0, .int .i64 0, .int .i64 0, Value.bool false]⟩
theorem ty240_ok : Xg Tryz.prog 240 = some ty240 := by kernel_rfl
def ty241 : TyE := ⟨Ty.other, 1, false, Value.nilFunc⟩
theorem ty241_ok : Xg Tryz.prog 241 = some ty241 := by kernel_rfl
def ty247 : TyE := ⟨Ty.slice 3 1, 1, false, Value.slice Option.none 0 0⟩
theorem ty247_ok : Xg Tryz.prog 247 = some ty247 := by kernel_rfl
def ty251 : TyE := ⟨Ty.slice 191 3, 1, false, Value.slice Option.none 0 0⟩
theorem ty251_ok : Xg Tryz.prog 251 = some ty251 := by kernel_rfl
def ty253 : TyE := ⟨Ty.strct [(0, 1, 0), (1, 1, 0)], 2, true, Value.agg #[.int .i64 0, Value.slice Option.none 0 0]⟩
theorem ty253_ok : Xg Tryz.prog 253 = some ty253 := by kernel_rfl
def ty256 : TyE := ⟨Ty.other, 1, false, Value.pointer Option.none⟩
theorem ty256_ok : Xg Tryz.prog 256 = some ty256 := by kernel_rfl
def ty258 : TyE := ⟨Ty.arr 24 1, 24, true, Value.agg (List.replicate 24 (.int .u8 0)).toArray⟩
theorem ty258_ok : Xg Tryz.prog 258 = some ty258 := by kernel_rfl
def ty259 : TyE := ⟨Ty.int IntKind.u64, 1, false, .int .u64 0⟩
theorem ty259_ok : Xg Tryz.prog 259 = some ty259 := by kernel_rfl
def ty265 : TyE := ⟨Ty.map 9 281, 1, false, Value.map Option.none⟩
theorem ty265_ok : Xg Tryz.prog 265 = some ty265 := by kernel_rfl
def ty267 : TyE := ⟨Ty.strct [(0, 1, 0), (1, 1, 0), (2, 1, 0)], 3, true, Value.agg #[.int .i64 0, .int .i64 0, Value.map Option.none]⟩
theorem ty267_ok : Xg Tryz.prog 267 = some ty267 := by kernel_rfl
def ty268 : TyE := ⟨Ty.map 279 2, 1, false, Value.map Option.none⟩
theorem ty268_ok : Xg Tryz.prog 268 = some ty268 := by kernel_rfl
def ty269 : TyE := ⟨Ty.map 9 247, 1, false, Value.map Option.none⟩
theorem ty269_ok : Xg Tryz.prog 269 = some ty269 := by kernel_rfl
def ty271 : TyE := ⟨Ty.strct [(0, 1, 0), (1, 1, 0), (2, 1, 0), (3, 1, 0)], 4, true, Value.agg #[.int .i64 0, .int .i64 0, Value.map Option.none, Value.map Option.none]⟩
theorem ty271_ok : Xg Tryz.prog 271 = some ty271 := by kernel_rfl
def ty272 : TyE := ⟨Ty.map 9 280, 1, false, Value.map Option.none⟩
theorem ty272_ok : Xg Tryz.prog 272 = some ty272 := by kernel_rfl
def ty274 : TyE := ⟨Ty.strct [(0, 1, 0), (1, 1, 0)], 2, true, Value.agg #[.int .i64 0, Value.map Option.none]⟩
theorem ty274_ok : Xg Tryz.prog 274 = some ty274 := by kernel_rfl
def ty279 : TyE := ⟨Ty.strct [(0, 1, 0), (1, 1, 0)], 2, true, Value.agg #[.string ⟨#[]⟩, .int .i64 0]⟩
theorem ty279_ok : Xg Tryz.prog 279 = some ty279 := by kernel_rfl
def ty280 : TyE := ⟨Ty.map 3 85, 1, false, Value.map Option.none⟩
theorem ty280_ok : Xg Tryz.prog 280 = some ty280 := by kernel_rfl
def ty281 : TyE := ⟨Ty.map 3 2, 1, false, Value.map Option.none⟩
theorem ty281_ok : Xg Tryz.prog 281 = some ty281 := by kernel_rfl
def ty282 : TyE := ⟨Ty.map 9 2, 1, false, Value.map Option.none⟩
theorem ty282_ok : Xg Tryz.prog 282 = some ty282 := by kernel_rfl
def ty285 : TyE := ⟨Ty.other, 1, false, Value.nilFunc⟩
theorem ty285_ok : Xg Tryz.prog 285 = some ty285 := by kernel_rfl
def ty293 : TyE := ⟨Ty.other, 1, false, Value.nilFunc⟩
theorem ty293_ok : Xg Tryz.prog 293 = some ty293 := by kernel_rfl
def ty296 : TyE := ⟨Ty.int IntKind.u64, 1, false, .int .u64 0⟩
theorem ty296_ok : Xg Tryz.prog 296 = some ty296 := by kernel_rfl
def ty301 : TyE := ⟨Ty.other, 1, false, Value.nilFunc⟩
theorem ty301_ok : Xg Tryz.prog 301 = some ty301 := by kernel_rfl
def ty304 : TyE := ⟨Ty.other, 1, false, Value.pointer Option.none⟩
theorem ty304_ok : Xg Tryz.prog 304 = some ty304 := by kernel_rfl
def ty307 : TyE := ⟨Ty.strct [(0, 1, 0), (1, 1, 0)], 2, true, Value.agg #[Value.pointer Option.none, Value.bool false]⟩
theorem ty307_ok : Xg Tryz.prog 307 = some ty307 := by kernel_rfl
def ty308 : TyE := ⟨Ty.map 9 126, 1, false, Value.map Option.none⟩
theorem ty308_ok : Xg Tryz.prog 308 = some ty308 := by kernel_rfl
def ty310 : TyE := ⟨Ty.strct [(0, 1, 0), (1, 1, 0)], 2, true, Value.agg #[Value.map Option.none, Value.map Option.none]⟩
theorem ty310_ok : Xg Tryz.prog 310 = some ty310 := by kernel_rfl
def ty316 : TyE := ⟨Ty.arr 20 1, 20, true, Value.agg #[.int .u64 0, .int .u64 0, .int .u64 0, .int .u64 0, .int .u64 0, .int .u64 0, .int .u64 0, .int .u64 0, .int .u64 0, .int .u64 0, .int .u64 0, .int .u64 0, .int .u64 0, .int .u64 0, .int .u64 0, .int .u64 0, .int .u64 0, .int .u64 0, .int .u64 0, .int .u64 0]⟩
theorem ty316_ok : Xg Tryz.prog 316 = some ty316 := by kernel_rfl
def ty317 : TyE := ⟨Ty.int IntKind.u32, 1, false, .int .u32 0⟩
theorem ty317_ok : Xg Tryz.prog 317 = some ty317 := by kernel_rfl
def ty318 : TyE := ⟨Ty.arr 65 1, 65, true, Value.agg ((List.replicate 32 (.int .u8 0)).append (List.replicate 33 (.int .u8 0))).toArray⟩
theorem ty318_ok : Xg Tryz.prog 318 = some ty318 := by kernel_rfl
def ty323 : TyE := ⟨Ty.strct [(0, 1, 0), (1, 1, 0)], 2, true, Value.agg #[.string ⟨#[]⟩, .string ⟨#[]⟩]⟩
theorem ty323_ok : Xg Tryz.prog 323 = some ty323 := by kernel_rfl
def ty326 : TyE := ⟨Ty.arr 2 1, 2, true, Value.agg #[.int .u64 0, .int .u64 0]⟩
theorem ty326_ok : Xg Tryz.prog 326 = some ty326 := by kernel_rfl
def ty340 : TyE := ⟨Ty.int IntKind.i64, 1, false, .int .i64 0⟩
theorem ty340_ok : Xg Tryz.prog 340 = some ty340 := by kernel_rfl
def ty361 : TyE := ⟨Ty.other, 1, false, Value.nilFunc⟩
theorem ty361_ok : Xg Tryz.prog 361 = some ty361 := by kernel_rfl
def ty365 : TyE := ⟨Ty.arr 32 1, 32, true, Value.agg (List.replicate 32 (.int .u8 0)).toArray⟩
theorem ty365_ok : Xg Tryz.prog 365 = some ty365 := by kernel_rfl
def ty366 : TyE := ⟨Ty.arr 64 1, 64, true, Value.agg (List.replicate 64 (.int .u8 0)).toArray⟩
theorem ty366_ok : Xg Tryz.prog 366 = some ty366 := by kernel_rfl
def ty369 : TyE := ⟨Ty.int IntKind.u64, 1, false, .int .u64 0⟩
theorem ty369_ok : Xg Tryz.prog 369 = some ty369 := by kernel_rfl
def ty373 : TyE := ⟨Ty.other, 1, false, Value.pointer Option.none⟩
theorem ty373_ok : Xg Tryz.prog 373 = some ty373 := by kernel_rfl
def ty390 : TyE := ⟨Ty.arr 256 1, 256, true, Value.agg (((List.replicate 64 (.int .u8 0)).append (List.replicate 64 (.int .u8 0))).append ((List.replicate 64 (.int .u8 0)).append (List.replicate 64 (.int .u8 0)))).toArray⟩
theorem ty390_ok : Xg Tryz.prog 390 = some ty390 := by kernel_rfl
def ty392 : TyE := ⟨Ty.strct [(0, 1, 0), (1, 1, 0)], 2, true, Value.agg #[.int .u8 0, .int .u8 0]⟩
theorem ty392_ok : Xg Tryz.prog 392 = some ty392 := by kernel_rfl
def ty393 : TyE := ⟨Ty.arr 16 2, 32, true, Value.agg (List.replicate 32 (.int .u8 0)).toArray⟩
theorem ty393_ok : Xg Tryz.prog 393 = some ty393 := by kernel_rfl
theorem by53 : (Tryz.prog.info? 53).map (·.bytes) = some 96 := by kernel_rfl
theorem by42 : (Tryz.prog.info? 42).map (·.bytes) = some 24 := by kernel_rfl
theorem by9 : (Tryz.prog.info? 9).map (·.bytes) = some 16 := by kernel_rfl
theorem by120 : (Tryz.prog.info? 120).map (·.bytes) = some 120 := by kernel_rfl
theorem by196 : (Tryz.prog.info? 196).map (·.bytes) = some 56 := by kernel_rfl
theorem by131 : (Tryz.prog.info? 131).map (·.bytes) = some 120 := by kernel_rfl
theorem by162 : (Tryz.prog.info? 162).map (·.bytes) = some 32 := by kernel_rfl
theorem by166 : (Tryz.prog.info? 166).map (·.bytes) = some 24 := by kernel_rfl
theorem by195 : (Tryz.prog.info? 195).map (·.bytes) = some 56 := by kernel_rfl
theorem by223 : (Tryz.prog.info? 223).map (·.bytes) = some 32 := by kernel_rfl
theorem by232 : (Tryz.prog.info? 232).map (·.bytes) = some 32 := by kernel_rfl
theorem by240 : (Tryz.prog.info? 240).map (·.bytes) = some 96 := by kernel_rfl
theorem by3 : (Tryz.prog.info? 3).map (·.bytes) = some 8 := by kernel_rfl
theorem by191 : (Tryz.prog.info? 191).map (·.bytes) = some 40 := by kernel_rfl
theorem st23 : Q2i Tryz.prog 23 [("Half", 3, 0), ("Width", 3, 1), ("Gap", 3, 2), ("Span", 3, 3), ("Floor", 3, 4), ("Crowd", 3, 5)] := ⟨by kernel_rfl, by kernel_rfl, by kernel_rfl, by kernel_rfl⟩
theorem st42 : Q2i Tryz.prog 42 [("What", 32, 0), ("Raw", 2, 1), ("Points", 2, 2)] := ⟨by kernel_rfl, by kernel_rfl, by kernel_rfl, by kernel_rfl⟩
theorem st53 : Q2i Tryz.prog 53 [("Source", 9, 0), ("Number", 3, 1), ("At", 3, 2), ("Kind", 51, 3), ("Person", 9, 4), ("Item", 9, 5), ("Value", 3, 6), ("Text", 9, 7)] := ⟨by kernel_rfl, by kernel_rfl, by kernel_rfl, by kernel_rfl⟩
theorem st152 : Q2i Tryz.prog 152 [("source", 9, 0), ("number", 3, 1)] := ⟨by kernel_rfl, by kernel_rfl, by kernel_rfl, by kernel_rfl⟩
theorem st191 : Q2i Tryz.prog 191 [("Person", 9, 0), ("At", 3, 1), ("Item", 9, 2)] := ⟨by kernel_rfl, by kernel_rfl, by kernel_rfl, by kernel_rfl⟩
theorem st279 : Q2i Tryz.prog 279 [("key", 9, 0), ("pane", 3, 1)] := ⟨by kernel_rfl, by kernel_rfl, by kernel_rfl, by kernel_rfl⟩
theorem st323 : Q2i Tryz.prog 323 [("person", 9, 0), ("what", 9, 1)] := ⟨by kernel_rfl, by kernel_rfl, by kernel_rfl, by kernel_rfl⟩
def Tt : Tab := [(2, ty2), (3, ty3), (4, ty4), (5, ty5), (9, ty9), (20, ty20), (21, ty21), (23, ty23), (24, ty24), (27, ty27), (28, ty28), (32, ty32), (37, ty37), (38, ty38), (42, ty42), (48, ty48), (51, ty51), (53, ty53), (57, ty57), (61, ty61), (66, ty66), (70, ty70), (72, ty72), (82, ty82), (84, ty84), (85, ty85), (86, ty86), (87, ty87), (88, ty88), (89, ty89), (90, ty90), (92, ty92), (94, ty94), (95, ty95), (98, ty98), (102, ty102), (115, ty115), (117, ty117), (120, ty120), (123, ty123), (124, ty124), (125, ty125), (126, ty126), (128, ty128), (129, ty129), (131, ty131), (133, ty133), (134, ty134), (136, ty136), (138, ty138), (143, ty143), (149, ty149), (150, ty150), (152, ty152), (154, ty154), (157, ty157), (159, ty159), (162, ty162), (163, ty163), (166, ty166), (169, ty169), (174, ty174), (179, ty179), (182, ty182), (185, ty185), (187, ty187), (191, ty191), (192, ty192), (195, ty195), (196, ty196), (197, ty197), (199, ty199), (219, ty219), (223, ty223), (228, ty228), (230, ty230), (232, ty232), (234, ty234), (235, ty235), (237, ty237), (240, ty240), (241, ty241), (247, ty247), (251, ty251), (253, ty253), (256, ty256), (258, ty258), (259, ty259), (265, ty265), (267, ty267), (268, ty268), (269, ty269), (271, ty271), (272, ty272), (274, ty274), (279, ty279), (280, ty280), (281, ty281), (282, ty282), (285, ty285), (293, ty293), (296, ty296), (301, ty301), (304, ty304), (307, ty307), (308, ty308), (310, ty310), (316, ty316), (317, ty317), (318, ty318), (323, ty323), (326, ty326), (340, ty340), (361, ty361), (365, ty365), (366, ty366), (369, ty369), (373, ty373), (390, ty390), (392, ty392), (393, ty393)]
theorem Qa : Qau Tryz.prog Tt := ⟨ty2_ok, ty3_ok, ty4_ok, ty5_ok, ty9_ok, ty20_ok, ty21_ok, ty23_ok, ty24_ok, ty27_ok, ty28_ok, ty32_ok, ty37_ok, ty38_ok, ty42_ok, ty48_ok, ty51_ok, ty53_ok, ty57_ok, ty61_ok, ty66_ok, ty70_ok, ty72_ok, ty82_ok, ty84_ok, ty85_ok, ty86_ok, ty87_ok, ty88_ok, ty89_ok, ty90_ok, ty92_ok, ty94_ok, ty95_ok, ty98_ok, ty102_ok, ty115_ok, ty117_ok, ty120_ok, ty123_ok, ty124_ok, ty125_ok, ty126_ok, ty128_ok, ty129_ok, ty131_ok, ty133_ok, ty134_ok, ty136_ok, ty138_ok, ty143_ok, ty149_ok, ty150_ok, ty152_ok, ty154_ok, ty157_ok, ty159_ok, ty162_ok, ty163_ok, ty166_ok, ty169_ok, ty174_ok, ty179_ok, ty182_ok, ty185_ok, ty187_ok, ty191_ok, ty192_ok, ty195_ok, ty196_ok, ty197_ok, ty199_ok, ty219_ok, ty223_ok, ty228_ok, ty230_ok, ty232_ok, ty234_ok, ty235_ok, ty237_ok, ty240_ok, ty241_ok, ty247_ok, ty251_ok, ty253_ok, ty256_ok, ty258_ok, ty259_ok, ty265_ok, ty267_ok, ty268_ok, ty269_ok, ty271_ok, ty272_ok, ty274_ok, ty279_ok, ty280_ok, ty281_ok, ty282_ok, ty285_ok, ty293_ok, ty296_ok, ty301_ok, ty304_ok, ty307_ok, ty308_ok, ty310_ok, ty316_ok, ty317_ok, ty318_ok, ty323_ok, ty326_ok, ty340_ok, ty361_ok, ty365_ok, ty366_ok, ty369_ok, ty373_ok, ty390_ok, ty392_ok, ty393_ok, trivial⟩
theorem mixed : Tryz.prog.follows .mixedOrders = true := by kernel_rfl
theorem Dr {N : Nat} (cl : Cl) (A B : List Nat) {id : Nat} {ops : Array Oper} {Γ : Env} {w : World} {kn : KN} {ex : KE} {rt : KN} (h : Qc9 Tryz.prog Tt N cl ops.toList (Qey ops.toList A) Γ [] [] w.drew fun Γ' Δ' G' w' => Qc9 Tryz.prog Tt N .same ops.toList (Qey ops.toList B) Γ' Δ' G' w' fun Γ'' _ _ w'' => kn Γ'' w'') (hc : Q2a Tt ops A B = true := by kernel_rfl) (hs : cl = .same → A.all (fun i => match ops[i]? with | some o => still Tt o.op | none => true) = true := by first | (intro h; cases h; done) | (intro _; rfl)) : SemC Tryz.prog N (.region id ops true) Γ w kn ex rt := Qh cl A B Qa mixed hc hs h
theorem Sg {N : Nat} {x y : Code} {Γ : Env} {w : World} {kn : KN} {ex : KE} {rt : KN} (h : vc Tryz.prog Tt N x Γ w (fun Γ' w' => vc Tryz.prog Tt N y Γ' w' kn ex rt) ex rt) : SemC Tryz.prog N (.seq x y) Γ w kn ex rt := Qb Qa h
theorem Fi {N : Nat} {f : FuncId} {fn : Func} {body : Code} {args : List Value} {w : World} {R : Value → World → Prop} (hf : Tryz.prog.funcs[f]? = some fn) (hb : fn.body = some body) (rs : List ResultVar) (hrs : fn.results.toList = rs) (hN : fn.ntmps = N) (h : vc Tryz.prog Tt N body (Qop args) w (Q74 Tt rs R) [] (Q74 Tt rs R)) (hn : (fn.name == "runtime.NumGoroutine") = false := by rfl) (hargs : Nat.ble args.length N = true := by rfl) : Cal Tryz.prog f args w R := Qc Qa hf hn hb rs hrs hN hargs h
end Go.Proofs.YtoancknoinilaaaGreatDoor
