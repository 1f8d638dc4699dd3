/- The table of the types that the seat's operations name, and that the program has them so. Written by a program (seat.py). -/
import Derived.Test.YtnnnbjjenknpeaaGreatDoorRows
import Derived.Test.YtnnnbjjenknpeaaGreatDoorGA
set_option linter.unusedVariables false
set_option linter.unusedSimpArgs false
namespace Go.Proofs.YtnnnbjjenknpeaaGreatDoor
open Go.Se Go.RowKit
def ty2 : TyE := ⟨Ty.int IntKind.i64, 1, false, .int .i64 0⟩
theorem ty2_ok : Xh Tryz.prog 2 = some ty2 := by kernel_rfl
def ty3 : TyE := ⟨Ty.int IntKind.i64, 1, false, .int .i64 0⟩
theorem ty3_ok : Xh Tryz.prog 3 = some ty3 := by kernel_rfl
def ty4 : TyE := ⟨Ty.bool, 1, false, Value.bool false⟩
theorem ty4_ok : Xh Tryz.prog 4 = some ty4 := by kernel_rfl
def ty5 : TyE := ⟨Ty.int IntKind.u8, 1, false, .int .u8 0⟩
theorem ty5_ok : Xh Tryz.prog 5 = some ty5 := by kernel_rfl
def ty9 : TyE := ⟨Ty.str, 1, false, .string ⟨#[]⟩⟩
theorem ty9_ok : Xh Tryz.prog 9 = some ty9 := by kernel_rfl
def ty20 : TyE := ⟨Ty.other, 1, false, Value.nilIface⟩
theorem ty20_ok : Xh Tryz.prog 20 = some ty20 := by kernel_rfl
def ty21 : TyE := ⟨Ty.int IntKind.i32, 1, false, .int .i32 0⟩
theorem ty21_ok : Xh Tryz.prog 21 = some ty21 := by kernel_rfl
def ty23 : TyE := ⟨Ty.strct [(0, 1, 0), (1, 1, 0), (2, 1, 0), (3, 1, 0), (4, 1, 0), (5, 1, 0)], 6, true, Value.agg #[.int .i64 0, .int .i64 0, .int .i64 0, .int .i64 0, .int .i64 0, .int .i64 0]⟩
theorem ty23_ok : Xh Tryz.prog 23 = some ty23 := by kernel_rfl
def ty24 : TyE := ⟨Ty.slice 53 8, 1, false, Value.slice Option.none 0 0⟩
theorem ty24_ok : Xh Tryz.prog 24 = some ty24 := by kernel_rfl
def ty26 : TyE := ⟨Ty.arr 6 1, 6, true, Value.agg #[.int .i64 0, .int .i64 0, .int .i64 0, .int .i64 0, .int .i64 0, .int .i64 0]⟩
theorem ty26_ok : Xh Tryz.prog 26 = some ty26 := by kernel_rfl
def ty28 : TyE := ⟨Ty.strct [(0, 6, 1), (6, 1, 0), (7, 6, 1), (13, 1, 0), (14, 1, 0), (15, 1, 0)], 16, true, Value.agg #[.int .i64 0, .int .i64 0, .int .i64 0, .int .i64 0, .int .i64 0, .int .i64 0, Value.slice Option.none 0 0, .int .i64 0, .int .i64 0, .int .i64 0, .int .i64 0, .int .i64 0, .int .i64 0, .string ⟨#[]⟩, .string ⟨#[]⟩, .int .i64 0]⟩
theorem ty28_ok : Xh Tryz.prog 28 = some ty28 := by kernel_rfl
def ty31 : TyE := ⟨Ty.other, 1, false, Value.pointer Option.none⟩
theorem ty31_ok : Xh Tryz.prog 31 = some ty31 := by kernel_rfl
def ty34 : TyE := ⟨Ty.slice 43 3, 1, false, Value.slice Option.none 0 0⟩
theorem ty34_ok : Xh Tryz.prog 34 = some ty34 := by kernel_rfl
def ty36 : TyE := ⟨Ty.strct [(0, 1, 0), (1, 1, 0), (2, 1, 0), (3, 1, 0), (4, 1, 0)], 5, true, Value.agg #[.string ⟨#[]⟩, Value.slice Option.none 0 0, .int .i64 0, Value.slice Option.none 0 0, .int .i64 0]⟩
theorem ty36_ok : Xh Tryz.prog 36 = some ty36 := by kernel_rfl
def ty41 : TyE := ⟨Ty.int IntKind.i64, 1, false, .int .i64 0⟩
theorem ty41_ok : Xh Tryz.prog 41 = some ty41 := by kernel_rfl
def ty43 : TyE := ⟨Ty.strct [(0, 1, 0), (1, 1, 0), (2, 1, 0)], 3, true, Value.agg #[.int .i64 0, .int .i64 0, .int .i64 0]⟩
theorem ty43_ok : Xh Tryz.prog 43 = some ty43 := by kernel_rfl
def ty47 : TyE := ⟨Ty.other, 1, false, Value.pointer Option.none⟩
theorem ty47_ok : Xh Tryz.prog 47 = some ty47 := by kernel_rfl
def ty51 : TyE := ⟨Ty.int IntKind.i64, 1, false, .int .i64 0⟩
theorem ty51_ok : Xh Tryz.prog 51 = some ty51 := by kernel_rfl
def ty53 : TyE := ⟨Ty.strct [(0, 1, 0), (1, 1, 0), (2, 1, 0), (3, 1, 0), (4, 1, 0), (5, 1, 0), (6, 1, 0), (7, 1, 0)], 8, true, Value.agg #[.string ⟨#[]⟩, .int .i64 0, .int .i64 0, .int .i64 0, .string ⟨#[]⟩, .string ⟨#[]⟩, .int .i64 0, .string ⟨#[]⟩]⟩
theorem ty53_ok : Xh Tryz.prog 53 = some ty53 := by kernel_rfl
def ty54 : TyE := ⟨Ty.map 53 4, 1, false, Value.map Option.none⟩
theorem ty54_ok : Xh Tryz.prog 54 = some ty54 := by kernel_rfl
def ty56 : TyE := ⟨Ty.int IntKind.i64, 1, false, .int .i64 0⟩
theorem ty56_ok : Xh Tryz.prog 56 = some ty56 := by kernel_rfl
def ty59 : TyE := ⟨Ty.slice 41 1, 1, false, Value.slice Option.none 0 0⟩
theorem ty59_ok : Xh Tryz.prog 59 = some ty59 := by kernel_rfl
def ty64 : TyE := ⟨Ty.int IntKind.u16, 1, false, .int .u16 0⟩
theorem ty64_ok : Xh Tryz.prog 64 = some ty64 := by kernel_rfl
def ty74 : TyE := ⟨Ty.slice 85 9, 1, false, Value.slice Option.none 0 0⟩
theorem ty74_ok : Xh Tryz.prog 74 = some ty74 := by kernel_rfl
def ty77 : TyE := ⟨Ty.strct [(0, 1, 0), (1, 1, 0), (2, 1, 0), (3, 1, 0), (4, 1, 0), (5, 1, 0), (6, 1, 0)], 7, true, Value.agg #[.string ⟨#[]⟩, .string ⟨#[]⟩, .string ⟨#[]⟩, .int .i64 0, .int .i64 0, .int .i64 0, Value.bool false]⟩
theorem ty77_ok : Xh Tryz.prog 77 = some ty77 := by kernel_rfl
def ty80 : TyE := ⟨Ty.slice 9 1, 1, false, Value.slice Option.none 0 0⟩
theorem ty80_ok : Xh Tryz.prog 80 = some ty80 := by kernel_rfl
def ty82 : TyE := ⟨Ty.slice 161 4, 1, false, Value.slice Option.none 0 0⟩
theorem ty82_ok : Xh Tryz.prog 82 = some ty82 := by kernel_rfl
def ty85 : TyE := ⟨Ty.strct [(0, 8, 1), (8, 1, 0)], 9, true, Value.agg #[.string ⟨#[]⟩, .int .i64 0, .int .i64 0, .int .i64 0, .string ⟨#[]⟩, .string ⟨#[]⟩, .int .i64 0, .string ⟨#[]⟩, Value.slice Option.none 0 0]⟩
theorem ty85_ok : Xh Tryz.prog 85 = some ty85 := by kernel_rfl
def ty90 : TyE := ⟨Ty.map 165 4, 1, false, Value.map Option.none⟩
theorem ty90_ok : Xh Tryz.prog 90 = some ty90 := by kernel_rfl
def ty91 : TyE := ⟨Ty.map 9 4, 1, false, Value.map Option.none⟩
theorem ty91_ok : Xh Tryz.prog 91 = some ty91 := by kernel_rfl
def ty92 : TyE := ⟨Ty.other, 1, false, Value.pointer Option.none⟩
theorem ty92_ok : Xh Tryz.prog 92 = some ty92 := by kernel_rfl
def ty93 : TyE := ⟨Ty.other, 1, false, Value.pointer Option.none⟩
theorem ty93_ok : Xh Tryz.prog 93 = some ty93 := by kernel_rfl
def ty94 : TyE := ⟨Ty.other, 1, false, Value.pointer Option.none⟩
theorem ty94_ok : Xh Tryz.prog 94 = some ty94 := by kernel_rfl
def ty95 : TyE := ⟨Ty.other, 1, false, Value.pointer Option.none⟩
theorem ty95_ok : Xh Tryz.prog 95 = some ty95 := by kernel_rfl
def ty96 : TyE := ⟨Ty.other, 1, false, Value.pointer Option.none⟩
theorem ty96_ok : Xh Tryz.prog 96 = some ty96 := by kernel_rfl
def ty98 : TyE := ⟨Ty.strct [(0, 6, 1), (6, 1, 0), (7, 1, 0), (8, 8, 1), (16, 1, 0), (17, 1, 0), (18, 1, 0), (19, 1, 0), (20, 1, 0), (21, 1, 0), (22, 1, 0), (23, 1, 0)], 24, true, Value.agg #[.int .i64 0, .int .i64 0, .int .i64 0, .int .i64 0, .int .i64 0, .int .i64 0, Value.slice Option.none 0 0, Value.bool false, .string ⟨#[]⟩, .int .i64 0, .int .i64 0, .int .i64 0, .string ⟨#[]⟩, .string ⟨#[]⟩, .int .i64 0, .string ⟨#[]⟩, Value.map Option.none, Value.map Option.none, Value.pointer Option.none, Value.pointer Option.none, Value.pointer Option.none, Value.pointer Option.none, Value.pointer Option.none, Value.pointer Option.none]⟩
theorem ty98_ok : Xh Tryz.prog 98 = some ty98 := by kernel_rfl
def ty99 : TyE := ⟨Ty.map 9 105, 1, false, Value.map Option.none⟩
theorem ty99_ok : Xh Tryz.prog 99 = some ty99 := by kernel_rfl
def ty100 : TyE := ⟨Ty.map 299 4, 1, false, Value.map Option.none⟩
theorem ty100_ok : Xh Tryz.prog 100 = some ty100 := by kernel_rfl
def ty101 : TyE := ⟨Ty.map 299 3, 1, false, Value.map Option.none⟩
theorem ty101_ok : Xh Tryz.prog 101 = some ty101 := by kernel_rfl
def ty102 : TyE := ⟨Ty.map 9 3, 1, false, Value.map Option.none⟩
theorem ty102_ok : Xh Tryz.prog 102 = some ty102 := by kernel_rfl
def ty104 : TyE := ⟨Ty.strct [(0, 1, 0), (1, 1, 0), (2, 8, 1), (10, 1, 0), (11, 1, 0), (12, 1, 0), (13, 1, 0), (14, 1, 0), (15, 1, 0), (16, 1, 0), (17, 1, 0)], 18, true, Value.agg #[.int .i64 0, .int .i64 0, .string ⟨#[]⟩, .int .i64 0, .int .i64 0, .int .i64 0, .string ⟨#[]⟩, .string ⟨#[]⟩, .int .i64 0, .string ⟨#[]⟩, Value.map Option.none, Value.map Option.none, Value.map Option.none, Value.map Option.none, Value.map Option.none, Value.map Option.none, Value.map Option.none, Value.map Option.none]⟩
theorem ty104_ok : Xh Tryz.prog 104 = some ty104 := by kernel_rfl
def ty105 : TyE := ⟨Ty.slice 107 9, 1, false, Value.slice Option.none 0 0⟩
theorem ty105_ok : Xh Tryz.prog 105 = some ty105 := by kernel_rfl
def ty107 : TyE := ⟨Ty.strct [(0, 8, 1), (8, 1, 0)], 9, true, Value.agg #[.string ⟨#[]⟩, .int .i64 0, .int .i64 0, .int .i64 0, .string ⟨#[]⟩, .string ⟨#[]⟩, .int .i64 0, .string ⟨#[]⟩, Value.slice Option.none 0 0]⟩
theorem ty107_ok : Xh Tryz.prog 107 = some ty107 := by kernel_rfl
def ty109 : TyE := ⟨Ty.other, 1, false, Value.nilFunc⟩
theorem ty109_ok : Xh Tryz.prog 109 = some ty109 := by kernel_rfl
def ty112 : TyE := ⟨Ty.other, 1, false, Value.nilFunc⟩
theorem ty112_ok : Xh Tryz.prog 112 = some ty112 := by kernel_rfl
def ty113 : TyE := ⟨Ty.arr 6 1, 6, true, Value.agg #[Value.nilFunc, Value.nilFunc, Value.nilFunc, Value.nilFunc, Value.nilFunc, Value.nilFunc]⟩
theorem ty113_ok : Xh Tryz.prog 113 = some ty113 := by kernel_rfl
def ty116 : TyE := ⟨Ty.other, 1, false, Value.pointer Option.none⟩
theorem ty116_ok : Xh Tryz.prog 116 = some ty116 := by kernel_rfl
def ty117 : TyE := ⟨Ty.slice 5 1, 1, false, Value.slice Option.none 0 0⟩
theorem ty117_ok : Xh Tryz.prog 117 = some ty117 := by kernel_rfl
def ty119 : TyE := ⟨Ty.strct [(0, 1, 0), (1, 1, 0)], 2, true, Value.agg #[Value.pointer Option.none, Value.slice Option.none 0 0]⟩
theorem ty119_ok : Xh Tryz.prog 119 = some ty119 := by kernel_rfl
def ty121 : TyE := ⟨Ty.other, 1, false, Value.nilIface⟩
theorem ty121_ok : Xh Tryz.prog 121 = some ty121 := by kernel_rfl
def ty126 : TyE := ⟨Ty.arr 6 1, 6, true, Value.agg #[.string ⟨#[]⟩, .string ⟨#[]⟩, .string ⟨#[]⟩, .string ⟨#[]⟩, .string ⟨#[]⟩, .string ⟨#[]⟩]⟩
theorem ty126_ok : Xh Tryz.prog 126 = some ty126 := by kernel_rfl
def ty135 : TyE := ⟨Ty.strct [(0, 1, 0), (1, 1, 0), (2, 1, 0), (3, 1, 0), (4, 1, 0), (5, 1, 0), (6, 1, 0)], 7, true, Value.agg #[.string ⟨#[]⟩, .string ⟨#[]⟩, .string ⟨#[]⟩, .int .i64 0, .int .i64 0, .int .i64 0, Value.bool false]⟩
theorem ty135_ok : Xh Tryz.prog 135 = some ty135 := by kernel_rfl
def ty140 : TyE := ⟨Ty.other, 1, false, Value.nilFunc⟩
theorem ty140_ok : Xh Tryz.prog 140 = some ty140 := by kernel_rfl
def ty143 : TyE := ⟨Ty.strct [(0, 1, 0), (1, 1, 0)], 2, true, Value.agg #[.int .i64 0, .int .i64 0]⟩
theorem ty143_ok : Xh Tryz.prog 143 = some ty143 := by kernel_rfl
def ty146 : TyE := ⟨Ty.other, 1, false, Value.nilFunc⟩
theorem ty146_ok : Xh Tryz.prog 146 = some ty146 := by kernel_rfl
def ty147 : TyE := ⟨Ty.arr 11 1, 11, true, Value.agg #[Value.nilFunc, Value.nilFunc, Value.nilFunc, Value.nilFunc, Value.nilFunc, Value.nilFunc, Value.nilFunc, Value.nilFunc, Value.nilFunc, Value.nilFunc, Value.nilFunc]⟩
theorem ty147_ok : Xh Tryz.prog 147 = some ty147 := by kernel_rfl
def ty152 : TyE := ⟨Ty.other, 1, false, Value.pointer Option.none⟩
theorem ty152_ok : Xh Tryz.prog 152 = some ty152 := by kernel_rfl
def ty156 : TyE := ⟨Ty.strct [(0, 1, 0), (1, 1, 0), (2, 1, 0)], 3, true, Value.agg #[.string ⟨#[]⟩, .int .i64 0, .string ⟨#[]⟩]⟩
theorem ty156_ok : Xh Tryz.prog 156 = some ty156 := by kernel_rfl
def ty157 : TyE := ⟨Ty.slice 160 4, 1, false, Value.slice Option.none 0 0⟩
theorem ty157_ok : Xh Tryz.prog 157 = some ty157 := by kernel_rfl
def ty160 : TyE := ⟨Ty.strct [(0, 1, 0), (1, 1, 0), (2, 1, 0), (3, 1, 0)], 4, true, Value.agg #[.string ⟨#[]⟩, .int .i64 0, .int .i64 0, Value.slice Option.none 0 0]⟩
theorem ty160_ok : Xh Tryz.prog 160 = some ty160 := by kernel_rfl
def ty161 : TyE := ⟨Ty.strct [(0, 1, 0), (1, 1, 0), (2, 1, 0), (3, 1, 0)], 4, true, Value.agg #[.string ⟨#[]⟩, .int .i64 0, .int .i64 0, Value.slice Option.none 0 0]⟩
theorem ty161_ok : Xh Tryz.prog 161 = some ty161 := by kernel_rfl
def ty163 : TyE := ⟨Ty.map 165 53, 1, false, Value.map Option.none⟩
theorem ty163_ok : Xh Tryz.prog 163 = some ty163 := by kernel_rfl
def ty165 : TyE := ⟨Ty.strct [(0, 1, 0), (1, 1, 0)], 2, true, Value.agg #[.string ⟨#[]⟩, .int .i64 0]⟩
theorem ty165_ok : Xh Tryz.prog 165 = some ty165 := by kernel_rfl
def ty167 : TyE := ⟨Ty.other, 1, false, Value.nilFunc⟩
theorem ty167_ok : Xh Tryz.prog 167 = some ty167 := by kernel_rfl
def ty169 : TyE := ⟨Ty.arr 15 1, 15, true, Value.agg #[.string ⟨#[]⟩, .string ⟨#[]⟩, .string ⟨#[]⟩, .string ⟨#[]⟩, .string ⟨#[]⟩, .string ⟨#[]⟩, .string ⟨#[]⟩, .string ⟨#[]⟩, .string ⟨#[]⟩, .string ⟨#[]⟩, .string ⟨#[]⟩, .string ⟨#[]⟩, .string ⟨#[]⟩, .string ⟨#[]⟩, .string ⟨#[]⟩]⟩
theorem ty169_ok : Xh Tryz.prog 169 = some ty169 := by kernel_rfl
def ty171 : TyE := ⟨Ty.other, 1, false, Value.pointer Option.none⟩
theorem ty171_ok : Xh Tryz.prog 171 = some ty171 := by kernel_rfl
def ty173 : TyE := ⟨Ty.slice 179 9, 1, false, Value.slice Option.none 0 0⟩
theorem ty173_ok : Xh Tryz.prog 173 = some ty173 := by kernel_rfl
def ty174 : TyE := ⟨Ty.map 9 173, 1, false, Value.map Option.none⟩
theorem ty174_ok : Xh Tryz.prog 174 = some ty174 := by kernel_rfl
def ty176 : TyE := ⟨Ty.strct [(0, 1, 0), (1, 8, 1), (9, 1, 0)], 10, true, Value.agg #[Value.bool false, .string ⟨#[]⟩, .int .i64 0, .int .i64 0, .int .i64 0, .string ⟨#[]⟩, .string ⟨#[]⟩, .int .i64 0, .string ⟨#[]⟩, Value.map Option.none]⟩
theorem ty176_ok : Xh Tryz.prog 176 = some ty176 := by kernel_rfl
def ty179 : TyE := ⟨Ty.strct [(0, 1, 0), (1, 1, 0), (2, 7, 1)], 9, true, Value.agg #[.int .i64 0, Value.bool false, .string ⟨#[]⟩, .string ⟨#[]⟩, .string ⟨#[]⟩, .int .i64 0, .int .i64 0, .int .i64 0, Value.bool false]⟩
theorem ty179_ok : Xh Tryz.prog 179 = some ty179 := by kernel_rfl
def ty180 : TyE := ⟨Ty.other, 1, false, Value.nilFunc⟩
theorem ty180_ok : Xh Tryz.prog 180 = some ty180 := by kernel_rfl
def ty188 : TyE := ⟨Ty.slice 3 1, 1, false, Value.slice Option.none 0 0⟩
theorem ty188_ok : Xh Tryz.prog 188 = some ty188 := by kernel_rfl
def ty193 : TyE := ⟨Ty.slice 156 3, 1, false, Value.slice Option.none 0 0⟩
theorem ty193_ok : Xh Tryz.prog 193 = some ty193 := by kernel_rfl
def ty195 : TyE := ⟨Ty.strct [(0, 1, 0), (1, 1, 0)], 2, true, Value.agg #[.int .i64 0, Value.slice Option.none 0 0]⟩
theorem ty195_ok : Xh Tryz.prog 195 = some ty195 := by kernel_rfl
def ty211 : TyE := ⟨Ty.slice 214 2, 1, false, Value.slice Option.none 0 0⟩
theorem ty211_ok : Xh Tryz.prog 211 = some ty211 := by kernel_rfl
def ty214 : TyE := ⟨Ty.strct [(0, 1, 0), (1, 1, 0)], 2, true, Value.agg #[.string ⟨#[]⟩, .int .i64 0]⟩
theorem ty214_ok : Xh Tryz.prog 214 = some ty214 := by kernel_rfl
def ty218 : TyE := ⟨Ty.slice 222 3, 1, false, Value.slice Option.none 0 0⟩
theorem ty218_ok : Xh Tryz.prog 218 = some ty218 := by kernel_rfl
def ty222 : TyE := ⟨Ty.strct [(0, 1, 0), (1, 1, 0), (2, 1, 0)], 3, true, Value.agg #[.string ⟨#[]⟩, .int .i64 0, .int .i64 0]⟩
theorem ty222_ok : Xh Tryz.prog 222 = some ty222 := by kernel_rfl
def ty225 : TyE := ⟨Ty.other, 1, false, Value.pointer Option.none⟩
theorem ty225_ok : Xh Tryz.prog 225 = some ty225 := by kernel_rfl
def ty227 : TyE := ⟨Ty.arr 24 1, 24, true, Value.agg (List.replicate 24 (.int .u8 0)).toArray⟩
theorem ty227_ok : Xh Tryz.prog 227 = some ty227 := by kernel_rfl
def ty228 : TyE := ⟨Ty.int IntKind.u64, 1, false, .int .u64 0⟩
theorem ty228_ok : Xh Tryz.prog 228 = some ty228 := by kernel_rfl
def ty234 : TyE := ⟨Ty.int IntKind.u64, 1, false, .int .u64 0⟩
theorem ty234_ok : Xh Tryz.prog 234 = some ty234 := by kernel_rfl
def ty239 : TyE := ⟨Ty.other, 1, false, Value.nilFunc⟩
theorem ty239_ok : Xh Tryz.prog 239 = some ty239 := by kernel_rfl
def ty241 : TyE := ⟨Ty.map 9 242, 1, false, Value.map Option.none⟩
theorem ty241_ok : Xh Tryz.prog 241 = some ty241 := by kernel_rfl
def ty242 : TyE := ⟨Ty.map 3 91, 1, false, Value.map Option.none⟩
theorem ty242_ok : Xh Tryz.prog 242 = some ty242 := by kernel_rfl
def ty244 : TyE := ⟨Ty.strct [(0, 1, 0), (1, 1, 0)], 2, true, Value.agg #[.int .i64 0, Value.map Option.none]⟩
theorem ty244_ok : Xh Tryz.prog 244 = some ty244 := by kernel_rfl
def ty246 : TyE := ⟨Ty.other, 1, false, Value.pointer Option.none⟩
theorem ty246_ok : Xh Tryz.prog 246 = some ty246 := by kernel_rfl
def ty249 : TyE := ⟨Ty.strct [(0, 1, 0), (1, 1, 0)], 2, true, Value.agg #[Value.pointer Option.none, Value.bool false]⟩
theorem ty249_ok : Xh Tryz.prog 249 = some ty249 := by kernel_rfl
def ty250 : TyE := ⟨Ty.map 9 102, 1, false, Value.map Option.none⟩
theorem ty250_ok : Xh Tryz.prog 250 = some ty250 := by kernel_rfl
def ty252 : TyE := ⟨Ty.strct [(0, 1, 0), (1, 1, 0)], 2, true, Value.agg #[Value.map Option.none, Value.map Option.none]⟩
theorem ty252_ok : Xh Tryz.prog 252 = some ty252 := by kernel_rfl
def ty257 : TyE := ⟨Ty.map 9 270, 1, false, Value.map Option.none⟩
theorem ty257_ok : Xh Tryz.prog 257 = some ty257 := by kernel_rfl
def ty259 : TyE := ⟨Ty.strct [(0, 1, 0), (1, 1, 0), (2, 1, 0)], 3, true, Value.agg #[.int .i64 0, .int .i64 0, Value.map Option.none]⟩
theorem ty259_ok : Xh Tryz.prog 259 = some ty259 := by kernel_rfl
def ty260 : TyE := ⟨Ty.map 269 2, 1, false, Value.map Option.none⟩
theorem ty260_ok : Xh Tryz.prog 260 = some ty260 := by kernel_rfl
def ty261 : TyE := ⟨Ty.map 9 188, 1, false, Value.map Option.none⟩
theorem ty261_ok : Xh Tryz.prog 261 = some ty261 := by kernel_rfl
def ty263 : TyE := ⟨Ty.strct [(0, 1, 0), (1, 1, 0), (2, 1, 0), (3, 1, 0)], 4, true, Value.agg #[.int .i64 0, .int .i64 0, Value.map Option.none, Value.map Option.none]⟩
theorem ty263_ok : Xh Tryz.prog 263 = some ty263 := by kernel_rfl
def ty269 : TyE := ⟨Ty.strct [(0, 1, 0), (1, 1, 0)], 2, true, Value.agg #[.string ⟨#[]⟩, .int .i64 0]⟩
theorem ty269_ok : Xh Tryz.prog 269 = some ty269 := by kernel_rfl
def ty270 : TyE := ⟨Ty.map 3 2, 1, false, Value.map Option.none⟩
theorem ty270_ok : Xh Tryz.prog 270 = some ty270 := by kernel_rfl
def ty271 : TyE := ⟨Ty.map 9 2, 1, false, Value.map Option.none⟩
theorem ty271_ok : Xh Tryz.prog 271 = some ty271 := by kernel_rfl
def ty274 : TyE := ⟨Ty.other, 1, false, Value.nilFunc⟩
theorem ty274_ok : Xh Tryz.prog 274 = some ty274 := by kernel_rfl
def ty283 : TyE := ⟨Ty.other, 1, false, Value.nilFunc⟩
theorem ty283_ok : Xh Tryz.prog 283 = some ty283 := by kernel_rfl
def ty286 : TyE := ⟨Ty.arr 20 1, 20, true, Value.agg #[.int .u64 0, .int .u64 0, .int .u64 0, .int .u64 0, .int .u64 0, .int .u64 0, .int .u64 0, .int .u64 0, .int .u64 0, .int .u64 0, .int .u64 0, .int .u64 0, .int .u64 0, .int .u64 0, .int .u64 0, .int .u64 0, .int .u64 0, .int .u64 0, .int .u64 0, .int .u64 0]⟩
theorem ty286_ok : Xh Tryz.prog 286 = some ty286 := by kernel_rfl
def ty287 : TyE := ⟨Ty.int IntKind.u32, 1, false, .int .u32 0⟩
theorem ty287_ok : Xh Tryz.prog 287 = some ty287 := by kernel_rfl
def ty288 : TyE := ⟨Ty.arr 65 1, 65, true, Value.agg ((List.replicate 32 (.int .u8 0)).append (List.replicate 33 (.int .u8 0))).toArray⟩
theorem ty288_ok : Xh Tryz.prog 288 = some ty288 := by kernel_rfl
def ty299 : TyE := ⟨Ty.strct [(0, 1, 0), (1, 1, 0)], 2, true, Value.agg #[.string ⟨#[]⟩, .string ⟨#[]⟩]⟩
theorem ty299_ok : Xh Tryz.prog 299 = some ty299 := by kernel_rfl
def ty302 : TyE := ⟨Ty.arr 2 1, 2, true, Value.agg #[.int .u64 0, .int .u64 0]⟩
theorem ty302_ok : Xh Tryz.prog 302 = some ty302 := by kernel_rfl
def ty317 : TyE := ⟨Ty.other, 1, false, Value.nilFunc⟩
theorem ty317_ok : Xh Tryz.prog 317 = some ty317 := by kernel_rfl
def ty322 : TyE := ⟨Ty.int IntKind.i64, 1, false, .int .i64 0⟩
theorem ty322_ok : Xh Tryz.prog 322 = some ty322 := by kernel_rfl
def ty335 : TyE := ⟨Ty.arr 32 1, 32, true, Value.agg (List.replicate 32 (.int .u8 0)).toArray⟩
theorem ty335_ok : Xh Tryz.prog 335 = some ty335 := by kernel_rfl
def ty336 : TyE := ⟨Ty.arr 64 1, 64, true, Value.agg (List.replicate 64 (.int .u8 0)).toArray⟩
theorem ty336_ok : Xh Tryz.prog 336 = some ty336 := by kernel_rfl
def ty346 : TyE := ⟨Ty.int IntKind.u64, 1, false, .int .u64 0⟩
theorem ty346_ok : Xh Tryz.prog 346 = some ty346 := by kernel_rfl
def ty350 : TyE := ⟨Ty.other, 1, false, Value.pointer Option.none⟩
theorem ty350_ok : Xh Tryz.prog 350 = some ty350 := by kernel_rfl
def ty354 : TyE := ⟨Ty.arr 256 1, 256, true, Value.agg (((List.replicate 64 (.int .u8 0)).append (List.replicate 64 (.int .u8 0))).append ((List.replicate 64 (.int .u8 0)).append (List.replicate 64 (.int .u8 0)))).toArray⟩
theorem ty354_ok : Xh Tryz.prog 354 = some ty354 := by kernel_rfl
def ty356 : TyE := ⟨Ty.strct [(0, 1, 0), (1, 1, 0)], 2, true, Value.agg #[.int .u8 0, .int .u8 0]⟩
theorem ty356_ok : Xh Tryz.prog 356 = some ty356 := by kernel_rfl
def ty357 : TyE := ⟨Ty.arr 16 2, 32, true, Value.agg (List.replicate 32 (.int .u8 0)).toArray⟩
theorem ty357_ok : Xh Tryz.prog 357 = some ty357 := by kernel_rfl
theorem by53 : (Tryz.prog.info? 53).map (·.bytes) = some 96 := by kernel_rfl
theorem by43 : (Tryz.prog.info? 43).map (·.bytes) = some 24 := by kernel_rfl
theorem by9 : (Tryz.prog.info? 9).map (·.bytes) = some 16 := by kernel_rfl
theorem by161 : (Tryz.prog.info? 161).map (·.bytes) = some 56 := by kernel_rfl
theorem by107 : (Tryz.prog.info? 107).map (·.bytes) = some 120 := by kernel_rfl
theorem by179 : (Tryz.prog.info? 179).map (·.bytes) = some 96 := by kernel_rfl
theorem by3 : (Tryz.prog.info? 3).map (·.bytes) = some 8 := by kernel_rfl
theorem by214 : (Tryz.prog.info? 214).map (·.bytes) = some 24 := by kernel_rfl
theorem by222 : (Tryz.prog.info? 222).map (·.bytes) = some 32 := by kernel_rfl
theorem st53 : Q4r Tryz.prog 53 [("Source", 9, 0), ("Number", 3, 1), ("At", 3, 2), ("Kind", 51, 3), ("Person", 9, 4), ("Item", 9, 5), ("Value", 3, 6), ("Text", 9, 7)] := ⟨by kernel_rfl, by kernel_rfl, by kernel_rfl, by kernel_rfl⟩
theorem st165 : Q4r Tryz.prog 165 [("source", 9, 0), ("number", 3, 1)] := ⟨by kernel_rfl, by kernel_rfl, by kernel_rfl, by kernel_rfl⟩
theorem st269 : Q4r Tryz.prog 269 [("key", 9, 0), ("pane", 3, 1)] := ⟨by kernel_rfl, by kernel_rfl, by kernel_rfl, by kernel_rfl⟩
theorem st299 : Q4r Tryz.prog 299 [("person", 9, 0), ("what", 9, 1)] := ⟨by kernel_rfl, by kernel_rfl, by kernel_rfl, by kernel_rfl⟩
def Tt : Tab := [(2, ty2), (3, ty3), (4, ty4), (5, ty5), (9, ty9), (20, ty20), (21, ty21), (23, ty23), (24, ty24), (26, ty26), (28, ty28), (31, ty31), (34, ty34), (36, ty36), (41, ty41), (43, ty43), (47, ty47), (51, ty51), (53, ty53), (54, ty54), (56, ty56), (59, ty59), (64, ty64), (74, ty74), (77, ty77), (80, ty80), (82, ty82), (85, ty85), (90, ty90), (91, ty91), (92, ty92), (93, ty93), (94, ty94), (95, ty95), (96, ty96), (98, ty98), (99, ty99), (100, ty100), (101, ty101), (102, ty102), (104, ty104), (105, ty105), (107, ty107), (109, ty109), (112, ty112), (113, ty113), (116, ty116), (117, ty117), (119, ty119), (121, ty121), (126, ty126), (135, ty135), (140, ty140), (143, ty143), (146, ty146), (147, ty147), (152, ty152), (156, ty156), (157, ty157), (160, ty160), (161, ty161), (163, ty163), (165, ty165), (167, ty167), (169, ty169), (171, ty171), (173, ty173), (174, ty174), (176, ty176), (179, ty179), (180, ty180), (188, ty188), (193, ty193), (195, ty195), (211, ty211), (214, ty214), (218, ty218), (222, ty222), (225, ty225), (227, ty227), (228, ty228), (234, ty234), (239, ty239), (241, ty241), (242, ty242), (244, ty244), (246, ty246), (249, ty249), (250, ty250), (252, ty252), (257, ty257), (259, ty259), (260, ty260), (261, ty261), (263, ty263), (269, ty269), (270, ty270), (271, ty271), (274, ty274), (283, ty283), (286, ty286), (287, ty287), (288, ty288), (299, ty299), (302, ty302), (317, ty317), (322, ty322), (335, ty335), (336, ty336), (346, ty346), (350, ty350), (354, ty354), (356, ty356), (357, ty357)]
theorem Qa : Qar Tryz.prog Tt := ⟨ty2_ok, ty3_ok, ty4_ok, ty5_ok, ty9_ok, ty20_ok, ty21_ok, ty23_ok, ty24_ok, ty26_ok, ty28_ok, ty31_ok, ty34_ok, ty36_ok, ty41_ok, ty43_ok, ty47_ok, ty51_ok, ty53_ok, ty54_ok, ty56_ok, ty59_ok, ty64_ok, ty74_ok, ty77_ok, ty80_ok, ty82_ok, ty85_ok, ty90_ok, ty91_ok, ty92_ok, ty93_ok, ty94_ok, ty95_ok, ty96_ok, ty98_ok, ty99_ok, ty100_ok, ty101_ok, ty102_ok, ty104_ok, ty105_ok, ty107_ok, ty109_ok, ty112_ok, ty113_ok, ty116_ok, ty117_ok, ty119_ok, ty121_ok, ty126_ok, ty135_ok, ty140_ok, ty143_ok, ty146_ok, ty147_ok, ty152_ok, ty156_ok, ty157_ok, ty160_ok, ty161_ok, ty163_ok, ty165_ok, ty167_ok, ty169_ok, ty171_ok, ty173_ok, ty174_ok, ty176_ok, ty179_ok, ty180_ok, ty188_ok, ty193_ok, ty195_ok, ty211_ok, ty214_ok, ty218_ok, ty222_ok, ty225_ok, ty227_ok, ty228_ok, ty234_ok, ty239_ok, ty241_ok, ty242_ok, ty244_ok, ty246_ok, ty249_ok, ty250_ok, ty252_ok, ty257_ok, ty259_ok, ty260_ok, ty261_ok, ty263_ok, ty269_ok, ty270_ok, ty271_ok, ty274_ok, ty283_ok, ty286_ok, ty287_ok, ty288_ok, ty299_ok, ty302_ok, ty317_ok, ty322_ok, ty335_ok, ty336_ok, ty346_ok, ty350_ok, ty354_ok, ty356_ok, ty357_ok, trivial⟩
theorem mixed : Tryz.prog.follows .mixedOrders = true := by kernel_rfl
theorem Dr {N : Nat} (cl : Cl) (A B : List Nat) {id : Nat} {ops : Array Oper} {Γ : Env} {w : World} {kn : KN} {ex : KE} {rt : KN} (h : Qdp Tryz.prog Tt N cl ops.toList (Qfm ops.toList A) Γ [] [] w.drew fun Γ' Δ' G' w' => Qdp Tryz.prog Tt N .same ops.toList (Qfm ops.toList B) Γ' Δ' G' w' fun Γ'' _ _ w'' => kn Γ'' w'') (hc : Qyo Tt ops A B = true := by kernel_rfl) (hs : cl = .same → A.all (fun i => match ops[i]? with | some o => still Tt o.op | none => true) = true := by first | (intro h; cases h; done) | (intro _; rfl)) : SemC Tryz.prog N (.region id ops true) Γ w kn ex rt := Ql cl A B Qa mixed hc hs h
theorem Sg {N : Nat} {x y : Code} {Γ : Env} {w : World} {kn : KN} {ex : KE} {rt : KN} (h : vc Tryz.prog Tt N x Γ w (fun Γ' w' => vc Tryz.prog Tt N y Γ' w' kn ex rt) ex rt) : SemC Tryz.prog N (.seq x y) Γ w kn ex rt := Qb Qa h
theorem Fi {N : Nat} {f : FuncId} {fn : Func} {body : Code} {args : List Value} {w : World} {R : Value → World → Prop} (hf : Tryz.prog.funcs[f]? = some fn) (hb : fn.body = some body) (rs : List ResultVar) (hrs : fn.results.toList = rs) (hN : fn.ntmps = N) (h : vc Tryz.prog Tt N body (Qnf args) w (Q75 Tt rs R) [] (Q75 Tt rs R)) (hn : (fn.name == "runtime.NumGoroutine") = false := by rfl) (hargs : Nat.ble args.length N = true := by rfl) : Cal Tryz.prog f args w R := Qd Qa hf hn hb rs hrs hN hargs h
end Go.Proofs.YtnnnbjjenknpeaaGreatDoor
