/- The table of the types that the seat's operations name, and that the program has them so. Written by a program (seat.py). -/
import Derived.Test.YtagijlhciclafaaGreatDoorRows
import Derived.Test.YtagijlhciclafaaGreatDoorGA
set_option linter.unusedVariables false
set_option linter.unusedSimpArgs false
namespace Go.Proofs.YtagijlhciclafaaGreatDoor
open Go.Se Go.RowKit
def ty2 : TyE := ⟨Ty.int IntKind.i64, 1, false, .int .i64 0⟩
theorem ty2_ok : tyOf Tryz.prog 2 = some ty2 := by kernel_rfl
def ty3 : TyE := ⟨Ty.int IntKind.i64, 1, false, .int .i64 0⟩
theorem ty3_ok : tyOf Tryz.prog 3 = some ty3 := by kernel_rfl
def ty4 : TyE := ⟨Ty.bool, 1, false, Value.bool false⟩
theorem ty4_ok : tyOf Tryz.prog 4 = some ty4 := by kernel_rfl
def ty5 : TyE := ⟨Ty.int IntKind.u8, 1, false, .int .u8 0⟩
theorem ty5_ok : tyOf Tryz.prog 5 = some ty5 := by kernel_rfl
def ty9 : TyE := ⟨Ty.str, 1, false, .string ⟨#[]⟩⟩
theorem ty9_ok : tyOf Tryz.prog 9 = some ty9 := by kernel_rfl
def ty20 : TyE := ⟨Ty.other, 1, false, Value.nilIface⟩
theorem ty20_ok : tyOf Tryz.prog 20 = some ty20 := by kernel_rfl
def ty21 : TyE := ⟨Ty.int IntKind.i32, 1, false, .int .i32 0⟩
theorem ty21_ok : tyOf Tryz.prog 21 = some ty21 := by kernel_rfl
def ty23 : TyE := ⟨Ty.strct [(0, 1, 0), (1, 1, 0), (2, 1, 0), (3, 1, 0), (4, 1, 0), (5, 1, 0)], 6, true, Value.agg #[.int .i64 0, .int .i64 0, .int .i64 0, .int .i64 0, .int .i64 0, .int .i64 0]⟩
theorem ty23_ok : tyOf Tryz.prog 23 = some ty23 := by kernel_rfl
def ty24 : TyE := ⟨Ty.slice 51 8, 1, false, Value.slice Option.none 0 0⟩
theorem ty24_ok : tyOf Tryz.prog 24 = some ty24 := by kernel_rfl
def ty26 : TyE := ⟨Ty.other, 1, false, Value.pointer Option.none⟩
theorem ty26_ok : tyOf Tryz.prog 26 = some ty26 := by kernel_rfl
def ty29 : TyE := ⟨Ty.slice 9 1, 1, false, Value.slice Option.none 0 0⟩
theorem ty29_ok : tyOf Tryz.prog 29 = some ty29 := by kernel_rfl
def ty31 : TyE := ⟨Ty.int IntKind.i64, 1, false, .int .i64 0⟩
theorem ty31_ok : tyOf Tryz.prog 31 = some ty31 := by kernel_rfl
def ty36 : TyE := ⟨Ty.slice 40 2, 1, false, Value.slice Option.none 0 0⟩
theorem ty36_ok : tyOf Tryz.prog 36 = some ty36 := by kernel_rfl
def ty38 : TyE := ⟨Ty.slice 31 1, 1, false, Value.slice Option.none 0 0⟩
theorem ty38_ok : tyOf Tryz.prog 38 = some ty38 := by kernel_rfl
def ty40 : TyE := ⟨Ty.strct [(0, 1, 0), (1, 1, 0)], 2, true, Value.agg #[.string ⟨#[]⟩, Value.slice Option.none 0 0]⟩
theorem ty40_ok : tyOf Tryz.prog 40 = some ty40 := by kernel_rfl
def ty43 : TyE := ⟨Ty.other, 1, false, Value.pointer Option.none⟩
theorem ty43_ok : tyOf Tryz.prog 43 = some ty43 := by kernel_rfl
def ty47 : TyE := ⟨Ty.map 9 4, 1, false, Value.map Option.none⟩
theorem ty47_ok : tyOf Tryz.prog 47 = some ty47 := by kernel_rfl
def ty49 : TyE := ⟨Ty.int IntKind.i64, 1, false, .int .i64 0⟩
theorem ty49_ok : tyOf Tryz.prog 49 = some ty49 := by kernel_rfl
def ty51 : TyE := ⟨Ty.strct [(0, 1, 0), (1, 1, 0), (2, 1, 0), (3, 1, 0), (4, 1, 0), (5, 1, 0), (6, 1, 0), (7, 1, 0)], 8, true, Value.agg #[.string ⟨#[]⟩, .int .i64 0, .int .i64 0, .int .i64 0, .string ⟨#[]⟩, .string ⟨#[]⟩, .int .i64 0, .string ⟨#[]⟩]⟩
theorem ty51_ok : tyOf Tryz.prog 51 = some ty51 := by kernel_rfl
def ty53 : TyE := ⟨Ty.strct [(0, 1, 0), (1, 1, 0), (2, 1, 0), (3, 1, 0), (4, 1, 0), (5, 1, 0), (6, 1, 0)], 7, true, Value.agg #[.string ⟨#[]⟩, .string ⟨#[]⟩, .string ⟨#[]⟩, .int .i64 0, .int .i64 0, .int .i64 0, Value.bool false]⟩
theorem ty53_ok : tyOf Tryz.prog 53 = some ty53 := by kernel_rfl
def ty55 : TyE := ⟨Ty.other, 1, false, Value.pointer Option.none⟩
theorem ty55_ok : tyOf Tryz.prog 55 = some ty55 := by kernel_rfl
def ty59 : TyE := ⟨Ty.int IntKind.i64, 1, false, .int .i64 0⟩
theorem ty59_ok : tyOf Tryz.prog 59 = some ty59 := by kernel_rfl
def ty67 : TyE := ⟨Ty.slice 71 2, 1, false, Value.slice Option.none 0 0⟩
theorem ty67_ok : tyOf Tryz.prog 67 = some ty67 := by kernel_rfl
def ty69 : TyE := ⟨Ty.other, 1, false, Value.nilFunc⟩
theorem ty69_ok : tyOf Tryz.prog 69 = some ty69 := by kernel_rfl
def ty71 : TyE := ⟨Ty.strct [(0, 1, 0), (1, 1, 0)], 2, true, Value.agg #[.string ⟨#[]⟩, Value.nilFunc]⟩
theorem ty71_ok : tyOf Tryz.prog 71 = some ty71 := by kernel_rfl
def ty73 : TyE := ⟨Ty.slice 78 2, 1, false, Value.slice Option.none 0 0⟩
theorem ty73_ok : tyOf Tryz.prog 73 = some ty73 := by kernel_rfl
def ty74 : TyE := ⟨Ty.other, 1, false, Value.pointer Option.none⟩
theorem ty74_ok : tyOf Tryz.prog 74 = some ty74 := by kernel_rfl
def ty78 : TyE := ⟨Ty.strct [(0, 1, 0), (1, 1, 0)], 2, true, Value.agg #[.string ⟨#[]⟩, .int .i64 0]⟩
theorem ty78_ok : tyOf Tryz.prog 78 = some ty78 := by kernel_rfl
def ty79 : TyE := ⟨Ty.slice 84 3, 1, false, Value.slice Option.none 0 0⟩
theorem ty79_ok : tyOf Tryz.prog 79 = some ty79 := by kernel_rfl
def ty81 : TyE := ⟨Ty.other, 1, false, Value.pointer Option.none⟩
theorem ty81_ok : tyOf Tryz.prog 81 = some ty81 := by kernel_rfl
def ty84 : TyE := ⟨Ty.strct [(0, 1, 0), (1, 1, 0), (2, 1, 0)], 3, true, Value.agg #[.string ⟨#[]⟩, .int .i64 0, .int .i64 0]⟩
theorem ty84_ok : tyOf Tryz.prog 84 = some ty84 := by kernel_rfl
def ty85 : TyE := ⟨Ty.slice 101 2, 1, false, Value.slice Option.none 0 0⟩
theorem ty85_ok : tyOf Tryz.prog 85 = some ty85 := by kernel_rfl
def ty87 : TyE := ⟨Ty.slice 95 3, 1, false, Value.slice Option.none 0 0⟩
theorem ty87_ok : tyOf Tryz.prog 87 = some ty87 := by kernel_rfl
def ty89 : TyE := ⟨Ty.other, 1, false, Value.pointer Option.none⟩
theorem ty89_ok : tyOf Tryz.prog 89 = some ty89 := by kernel_rfl
def ty93 : TyE := ⟨Ty.strct [(0, 1, 0), (1, 1, 0)], 2, true, Value.agg #[.int .i64 0, .int .i64 0]⟩
theorem ty93_ok : tyOf Tryz.prog 93 = some ty93 := by kernel_rfl
def ty95 : TyE := ⟨Ty.strct [(0, 1, 0), (1, 2, 1)], 3, true, Value.agg #[.string ⟨#[]⟩, .int .i64 0, .int .i64 0]⟩
theorem ty95_ok : tyOf Tryz.prog 95 = some ty95 := by kernel_rfl
def ty101 : TyE := ⟨Ty.strct [(0, 1, 0), (1, 1, 0)], 2, true, Value.agg #[.string ⟨#[]⟩, .int .i64 0]⟩
theorem ty101_ok : tyOf Tryz.prog 101 = some ty101 := by kernel_rfl
def ty102 : TyE := ⟨Ty.map 9 38, 1, false, Value.map Option.none⟩
theorem ty102_ok : tyOf Tryz.prog 102 = some ty102 := by kernel_rfl
def ty105 : TyE := ⟨Ty.other, 1, false, Value.nilFunc⟩
theorem ty105_ok : tyOf Tryz.prog 105 = some ty105 := by kernel_rfl
def ty107 : TyE := ⟨Ty.map 133 4, 1, false, Value.map Option.none⟩
theorem ty107_ok : tyOf Tryz.prog 107 = some ty107 := by kernel_rfl
def ty108 : TyE := ⟨Ty.other, 1, false, Value.pointer Option.none⟩
theorem ty108_ok : tyOf Tryz.prog 108 = some ty108 := by kernel_rfl
def ty110 : TyE := ⟨Ty.strct [(0, 6, 1), (6, 1, 0), (7, 1, 0), (8, 8, 1), (16, 1, 0), (17, 1, 0), (18, 1, 0), (19, 1, 0), (20, 1, 0), (21, 1, 0), (22, 1, 0), (23, 1, 0)], 24, true, Value.agg #[.int .i64 0, .int .i64 0, .int .i64 0, .int .i64 0, .int .i64 0, .int .i64 0, Value.slice Option.none 0 0, Value.bool false, .string ⟨#[]⟩, .int .i64 0, .int .i64 0, .int .i64 0, .string ⟨#[]⟩, .string ⟨#[]⟩, .int .i64 0, .string ⟨#[]⟩, Value.map Option.none, Value.map Option.none, Value.pointer Option.none, Value.pointer Option.none, Value.pointer Option.none, Value.pointer Option.none, Value.pointer Option.none, Value.pointer Option.none]⟩
theorem ty110_ok : tyOf Tryz.prog 110 = some ty110 := by kernel_rfl
def ty111 : TyE := ⟨Ty.slice 119 9, 1, false, Value.slice Option.none 0 0⟩
theorem ty111_ok : tyOf Tryz.prog 111 = some ty111 := by kernel_rfl
def ty112 : TyE := ⟨Ty.map 9 111, 1, false, Value.map Option.none⟩
theorem ty112_ok : tyOf Tryz.prog 112 = some ty112 := by kernel_rfl
def ty113 : TyE := ⟨Ty.map 129 4, 1, false, Value.map Option.none⟩
theorem ty113_ok : tyOf Tryz.prog 113 = some ty113 := by kernel_rfl
def ty114 : TyE := ⟨Ty.map 129 3, 1, false, Value.map Option.none⟩
theorem ty114_ok : tyOf Tryz.prog 114 = some ty114 := by kernel_rfl
def ty115 : TyE := ⟨Ty.map 9 3, 1, false, Value.map Option.none⟩
theorem ty115_ok : tyOf Tryz.prog 115 = some ty115 := by kernel_rfl
def ty117 : TyE := ⟨Ty.strct [(0, 1, 0), (1, 1, 0), (2, 8, 1), (10, 1, 0), (11, 1, 0), (12, 1, 0), (13, 1, 0), (14, 1, 0), (15, 1, 0), (16, 1, 0), (17, 1, 0)], 18, true, Value.agg #[.int .i64 0, .int .i64 0, .string ⟨#[]⟩, .int .i64 0, .int .i64 0, .int .i64 0, .string ⟨#[]⟩, .string ⟨#[]⟩, .int .i64 0, .string ⟨#[]⟩, Value.map Option.none, Value.map Option.none, Value.map Option.none, Value.map Option.none, Value.map Option.none, Value.map Option.none, Value.map Option.none, Value.map Option.none]⟩
theorem ty117_ok : tyOf Tryz.prog 117 = some ty117 := by kernel_rfl
def ty119 : TyE := ⟨Ty.strct [(0, 8, 1), (8, 1, 0)], 9, true, Value.agg #[.string ⟨#[]⟩, .int .i64 0, .int .i64 0, .int .i64 0, .string ⟨#[]⟩, .string ⟨#[]⟩, .int .i64 0, .string ⟨#[]⟩, Value.slice Option.none 0 0]⟩
theorem ty119_ok : tyOf Tryz.prog 119 = some ty119 := by kernel_rfl
def ty120 : TyE := ⟨Ty.slice 126 9, 1, false, Value.slice Option.none 0 0⟩
theorem ty120_ok : tyOf Tryz.prog 120 = some ty120 := by kernel_rfl
def ty121 : TyE := ⟨Ty.map 9 120, 1, false, Value.map Option.none⟩
theorem ty121_ok : tyOf Tryz.prog 121 = some ty121 := by kernel_rfl
def ty123 : TyE := ⟨Ty.strct [(0, 1, 0), (1, 8, 1), (9, 1, 0)], 10, true, Value.agg #[Value.bool false, .string ⟨#[]⟩, .int .i64 0, .int .i64 0, .int .i64 0, .string ⟨#[]⟩, .string ⟨#[]⟩, .int .i64 0, .string ⟨#[]⟩, Value.map Option.none]⟩
theorem ty123_ok : tyOf Tryz.prog 123 = some ty123 := by kernel_rfl
def ty126 : TyE := ⟨Ty.strct [(0, 1, 0), (1, 1, 0), (2, 7, 1)], 9, true, Value.agg #[.int .i64 0, Value.bool false, .string ⟨#[]⟩, .string ⟨#[]⟩, .string ⟨#[]⟩, .int .i64 0, .int .i64 0, .int .i64 0, Value.bool false]⟩
theorem ty126_ok : tyOf Tryz.prog 126 = some ty126 := by kernel_rfl
def ty127 : TyE := ⟨Ty.other, 1, false, Value.nilFunc⟩
theorem ty127_ok : tyOf Tryz.prog 127 = some ty127 := by kernel_rfl
def ty129 : TyE := ⟨Ty.strct [(0, 1, 0), (1, 1, 0)], 2, true, Value.agg #[.string ⟨#[]⟩, .string ⟨#[]⟩]⟩
theorem ty129_ok : tyOf Tryz.prog 129 = some ty129 := by kernel_rfl
def ty130 : TyE := ⟨Ty.other, 1, false, Value.nilFunc⟩
theorem ty130_ok : tyOf Tryz.prog 130 = some ty130 := by kernel_rfl
def ty131 : TyE := ⟨Ty.other, 1, false, Value.nilFunc⟩
theorem ty131_ok : tyOf Tryz.prog 131 = some ty131 := by kernel_rfl
def ty133 : TyE := ⟨Ty.strct [(0, 1, 0), (1, 1, 0)], 2, true, Value.agg #[.string ⟨#[]⟩, .int .i64 0]⟩
theorem ty133_ok : tyOf Tryz.prog 133 = some ty133 := by kernel_rfl
def ty144 : TyE := ⟨Ty.other, 1, false, Value.nilFunc⟩
theorem ty144_ok : tyOf Tryz.prog 144 = some ty144 := by kernel_rfl
def ty145 : TyE := ⟨Ty.other, 1, false, Value.nilFunc⟩
theorem ty145_ok : tyOf Tryz.prog 145 = some ty145 := by kernel_rfl
def ty152 : TyE := ⟨Ty.map 9 93, 1, false, Value.map Option.none⟩
theorem ty152_ok : tyOf Tryz.prog 152 = some ty152 := by kernel_rfl
def ty160 : TyE := ⟨Ty.slice 213 4, 1, false, Value.slice Option.none 0 0⟩
theorem ty160_ok : tyOf Tryz.prog 160 = some ty160 := by kernel_rfl
def ty164 : TyE := ⟨Ty.other, 1, false, Value.nilFunc⟩
theorem ty164_ok : tyOf Tryz.prog 164 = some ty164 := by kernel_rfl
def ty168 : TyE := ⟨Ty.int IntKind.u64, 1, false, .int .u64 0⟩
theorem ty168_ok : tyOf Tryz.prog 168 = some ty168 := by kernel_rfl
def ty176 : TyE := ⟨Ty.map 133 51, 1, false, Value.map Option.none⟩
theorem ty176_ok : tyOf Tryz.prog 176 = some ty176 := by kernel_rfl
def ty183 : TyE := ⟨Ty.map 9 2, 1, false, Value.map Option.none⟩
theorem ty183_ok : tyOf Tryz.prog 183 = some ty183 := by kernel_rfl
def ty185 : TyE := ⟨Ty.other, 1, false, Value.nilFunc⟩
theorem ty185_ok : tyOf Tryz.prog 185 = some ty185 := by kernel_rfl
def ty189 : TyE := ⟨Ty.map 9 190, 1, false, Value.map Option.none⟩
theorem ty189_ok : tyOf Tryz.prog 189 = some ty189 := by kernel_rfl
def ty190 : TyE := ⟨Ty.map 3 2, 1, false, Value.map Option.none⟩
theorem ty190_ok : tyOf Tryz.prog 190 = some ty190 := by kernel_rfl
def ty192 : TyE := ⟨Ty.strct [(0, 1, 0), (1, 1, 0), (2, 1, 0)], 3, true, Value.agg #[.int .i64 0, .int .i64 0, Value.map Option.none]⟩
theorem ty192_ok : tyOf Tryz.prog 192 = some ty192 := by kernel_rfl
def ty196 : TyE := ⟨Ty.slice 3 1, 1, false, Value.slice Option.none 0 0⟩
theorem ty196_ok : tyOf Tryz.prog 196 = some ty196 := by kernel_rfl
def ty203 : TyE := ⟨Ty.other, 1, false, Value.nilFunc⟩
theorem ty203_ok : tyOf Tryz.prog 203 = some ty203 := by kernel_rfl
def ty206 : TyE := ⟨Ty.int IntKind.u64, 1, false, .int .u64 0⟩
theorem ty206_ok : tyOf Tryz.prog 206 = some ty206 := by kernel_rfl
def ty210 : TyE := ⟨Ty.other, 1, false, Value.nilFunc⟩
theorem ty210_ok : tyOf Tryz.prog 210 = some ty210 := by kernel_rfl
def ty213 : TyE := ⟨Ty.strct [(0, 1, 0), (1, 1, 0), (2, 1, 0), (3, 1, 0)], 4, true, Value.agg #[.string ⟨#[]⟩, .int .i64 0, .int .i64 0, Value.slice Option.none 0 0]⟩
theorem ty213_ok : tyOf Tryz.prog 213 = some ty213 := by kernel_rfl
def ty216 : TyE := ⟨Ty.map 9 217, 1, false, Value.map Option.none⟩
theorem ty216_ok : tyOf Tryz.prog 216 = some ty216 := by kernel_rfl
def ty217 : TyE := ⟨Ty.map 3 47, 1, false, Value.map Option.none⟩
theorem ty217_ok : tyOf Tryz.prog 217 = some ty217 := by kernel_rfl
def ty219 : TyE := ⟨Ty.strct [(0, 1, 0), (1, 1, 0)], 2, true, Value.agg #[.int .i64 0, Value.map Option.none]⟩
theorem ty219_ok : tyOf Tryz.prog 219 = some ty219 := by kernel_rfl
def ty221 : TyE := ⟨Ty.other, 1, false, Value.pointer Option.none⟩
theorem ty221_ok : tyOf Tryz.prog 221 = some ty221 := by kernel_rfl
def ty224 : TyE := ⟨Ty.strct [(0, 1, 0), (1, 1, 0)], 2, true, Value.agg #[Value.pointer Option.none, Value.bool false]⟩
theorem ty224_ok : tyOf Tryz.prog 224 = some ty224 := by kernel_rfl
def ty225 : TyE := ⟨Ty.map 9 115, 1, false, Value.map Option.none⟩
theorem ty225_ok : tyOf Tryz.prog 225 = some ty225 := by kernel_rfl
def ty227 : TyE := ⟨Ty.strct [(0, 1, 0), (1, 1, 0)], 2, true, Value.agg #[Value.map Option.none, Value.map Option.none]⟩
theorem ty227_ok : tyOf Tryz.prog 227 = some ty227 := by kernel_rfl
def ty233 : TyE := ⟨Ty.map 266 2, 1, false, Value.map Option.none⟩
theorem ty233_ok : tyOf Tryz.prog 233 = some ty233 := by kernel_rfl
def ty234 : TyE := ⟨Ty.map 9 196, 1, false, Value.map Option.none⟩
theorem ty234_ok : tyOf Tryz.prog 234 = some ty234 := by kernel_rfl
def ty236 : TyE := ⟨Ty.strct [(0, 1, 0), (1, 1, 0), (2, 1, 0), (3, 1, 0)], 4, true, Value.agg #[.int .i64 0, .int .i64 0, Value.map Option.none, Value.map Option.none]⟩
theorem ty236_ok : tyOf Tryz.prog 236 = some ty236 := by kernel_rfl
def ty245 : TyE := ⟨Ty.arr 15 1, 15, true, Value.agg #[.string ⟨#[]⟩, .string ⟨#[]⟩, .string ⟨#[]⟩, .string ⟨#[]⟩, .string ⟨#[]⟩, .string ⟨#[]⟩, .string ⟨#[]⟩, .string ⟨#[]⟩, .string ⟨#[]⟩, .string ⟨#[]⟩, .string ⟨#[]⟩, .string ⟨#[]⟩, .string ⟨#[]⟩, .string ⟨#[]⟩, .string ⟨#[]⟩]⟩
theorem ty245_ok : tyOf Tryz.prog 245 = some ty245 := by kernel_rfl
def ty248 : TyE := ⟨Ty.slice 53 7, 1, false, Value.slice Option.none 0 0⟩
theorem ty248_ok : tyOf Tryz.prog 248 = some ty248 := by kernel_rfl
def ty250 : TyE := ⟨Ty.other, 1, false, Value.nilFunc⟩
theorem ty250_ok : tyOf Tryz.prog 250 = some ty250 := by kernel_rfl
def ty254 : TyE := ⟨Ty.int IntKind.i64, 1, false, .int .i64 0⟩
theorem ty254_ok : tyOf Tryz.prog 254 = some ty254 := by kernel_rfl
def ty261 : TyE := ⟨Ty.int IntKind.u32, 1, false, .int .u32 0⟩
theorem ty261_ok : tyOf Tryz.prog 261 = some ty261 := by kernel_rfl
def ty266 : TyE := ⟨Ty.strct [(0, 1, 0), (1, 1, 0)], 2, true, Value.agg #[.string ⟨#[]⟩, .int .i64 0]⟩
theorem ty266_ok : tyOf Tryz.prog 266 = some ty266 := by kernel_rfl
def ty269 : TyE := ⟨Ty.arr 2 1, 2, true, Value.agg #[.int .u64 0, .int .u64 0]⟩
theorem ty269_ok : tyOf Tryz.prog 269 = some ty269 := by kernel_rfl
def ty284 : TyE := ⟨Ty.other, 1, false, Value.pointer Option.none⟩
theorem ty284_ok : tyOf Tryz.prog 284 = some ty284 := by kernel_rfl
def ty285 : TyE := ⟨Ty.slice 5 1, 1, false, Value.slice Option.none 0 0⟩
theorem ty285_ok : tyOf Tryz.prog 285 = some ty285 := by kernel_rfl
def ty287 : TyE := ⟨Ty.strct [(0, 1, 0), (1, 1, 0)], 2, true, Value.agg #[Value.pointer Option.none, Value.slice Option.none 0 0]⟩
theorem ty287_ok : tyOf Tryz.prog 287 = some ty287 := by kernel_rfl
def ty301 : TyE := ⟨Ty.int IntKind.u64, 1, false, .int .u64 0⟩
theorem ty301_ok : tyOf Tryz.prog 301 = some ty301 := by kernel_rfl
def ty305 : TyE := ⟨Ty.other, 1, false, Value.pointer Option.none⟩
theorem ty305_ok : tyOf Tryz.prog 305 = some ty305 := by kernel_rfl
def ty320 : TyE := ⟨Ty.other, 1, false, Value.nilFunc⟩
theorem ty320_ok : tyOf Tryz.prog 320 = some ty320 := by kernel_rfl
def ty328 : TyE := ⟨Ty.other, 1, false, Value.pointer Option.none⟩
theorem ty328_ok : tyOf Tryz.prog 328 = some ty328 := by kernel_rfl
def ty349 : TyE := ⟨Ty.arr 24 1, 24, true, Value.agg (List.replicate 24 (.int .u8 0)).toArray⟩
theorem ty349_ok : tyOf Tryz.prog 349 = some ty349 := by kernel_rfl
def ty353 : TyE := ⟨Ty.other, 1, false, Value.pointer Option.none⟩
theorem ty353_ok : tyOf Tryz.prog 353 = some ty353 := by kernel_rfl
def ty368 : TyE := ⟨Ty.arr 20 1, 20, true, Value.agg #[.int .u64 0, .int .u64 0, .int .u64 0, .int .u64 0, .int .u64 0, .int .u64 0, .int .u64 0, .int .u64 0, .int .u64 0, .int .u64 0, .int .u64 0, .int .u64 0, .int .u64 0, .int .u64 0, .int .u64 0, .int .u64 0, .int .u64 0, .int .u64 0, .int .u64 0, .int .u64 0]⟩
theorem ty368_ok : tyOf Tryz.prog 368 = some ty368 := by kernel_rfl
def ty369 : TyE := ⟨Ty.arr 65 1, 65, true, Value.agg ((List.replicate 32 (.int .u8 0)).append (List.replicate 33 (.int .u8 0))).toArray⟩
theorem ty369_ok : tyOf Tryz.prog 369 = some ty369 := by kernel_rfl
def ty379 : TyE := ⟨Ty.arr 256 1, 256, true, Value.agg (((List.replicate 64 (.int .u8 0)).append (List.replicate 64 (.int .u8 0))).append ((List.replicate 64 (.int .u8 0)).append (List.replicate 64 (.int .u8 0)))).toArray⟩
theorem ty379_ok : tyOf Tryz.prog 379 = some ty379 := by kernel_rfl
def ty381 : TyE := ⟨Ty.strct [(0, 1, 0), (1, 1, 0)], 2, true, Value.agg #[.int .u8 0, .int .u8 0]⟩
theorem ty381_ok : tyOf Tryz.prog 381 = some ty381 := by kernel_rfl
def ty382 : TyE := ⟨Ty.arr 16 2, 32, true, Value.agg (List.replicate 32 (.int .u8 0)).toArray⟩
theorem ty382_ok : tyOf Tryz.prog 382 = some ty382 := by kernel_rfl
def ty383 : TyE := ⟨Ty.arr 32 1, 32, true, Value.agg (List.replicate 32 (.int .u8 0)).toArray⟩
theorem ty383_ok : tyOf Tryz.prog 383 = some ty383 := by kernel_rfl
def ty384 : TyE := ⟨Ty.arr 64 1, 64, true, Value.agg (List.replicate 64 (.int .u8 0)).toArray⟩
theorem ty384_ok : tyOf Tryz.prog 384 = some ty384 := by kernel_rfl
theorem by51 : (Tryz.prog.info? 51).map (·.bytes) = some 96 := by kernel_rfl
theorem by9 : (Tryz.prog.info? 9).map (·.bytes) = some 16 := by kernel_rfl
theorem by40 : (Tryz.prog.info? 40).map (·.bytes) = some 40 := by kernel_rfl
theorem by31 : (Tryz.prog.info? 31).map (·.bytes) = some 8 := by kernel_rfl
theorem by78 : (Tryz.prog.info? 78).map (·.bytes) = some 24 := by kernel_rfl
theorem by84 : (Tryz.prog.info? 84).map (·.bytes) = some 32 := by kernel_rfl
theorem by101 : (Tryz.prog.info? 101).map (·.bytes) = some 24 := by kernel_rfl
theorem by95 : (Tryz.prog.info? 95).map (·.bytes) = some 32 := by kernel_rfl
theorem by119 : (Tryz.prog.info? 119).map (·.bytes) = some 120 := by kernel_rfl
theorem by126 : (Tryz.prog.info? 126).map (·.bytes) = some 96 := by kernel_rfl
theorem by213 : (Tryz.prog.info? 213).map (·.bytes) = some 56 := by kernel_rfl
theorem by3 : (Tryz.prog.info? 3).map (·.bytes) = some 8 := by kernel_rfl
theorem by53 : (Tryz.prog.info? 53).map (·.bytes) = some 80 := by kernel_rfl
theorem st23 : StOk Tryz.prog 23 [("Half", 3, 0), ("Width", 3, 1), ("Gap", 3, 2), ("Span", 3, 3), ("Floor", 3, 4), ("Crowd", 3, 5)] := ⟨by kernel_rfl, by kernel_rfl, by kernel_rfl, by kernel_rfl⟩
theorem st51 : StOk Tryz.prog 51 [("Source", 9, 0), ("Number", 3, 1), ("At", 3, 2), ("Kind", 49, 3), ("Person", 9, 4), ("Item", 9, 5), ("Value", 3, 6), ("Text", 9, 7)] := ⟨by kernel_rfl, by kernel_rfl, by kernel_rfl, by kernel_rfl⟩
theorem st129 : StOk Tryz.prog 129 [("person", 9, 0), ("what", 9, 1)] := ⟨by kernel_rfl, by kernel_rfl, by kernel_rfl, by kernel_rfl⟩
theorem st133 : StOk Tryz.prog 133 [("source", 9, 0), ("number", 3, 1)] := ⟨by kernel_rfl, by kernel_rfl, by kernel_rfl, by kernel_rfl⟩
theorem st266 : StOk Tryz.prog 266 [("key", 9, 0), ("pane", 3, 1)] := ⟨by kernel_rfl, by kernel_rfl, by kernel_rfl, by kernel_rfl⟩
def Tt : Tab := [(2, ty2), (3, ty3), (4, ty4), (5, ty5), (9, ty9), (20, ty20), (21, ty21), (23, ty23), (24, ty24), (26, ty26), (29, ty29), (31, ty31), (36, ty36), (38, ty38), (40, ty40), (43, ty43), (47, ty47), (49, ty49), (51, ty51), (53, ty53), (55, ty55), (59, ty59), (67, ty67), (69, ty69), (71, ty71), (73, ty73), (74, ty74), (78, ty78), (79, ty79), (81, ty81), (84, ty84), (85, ty85), (87, ty87), (89, ty89), (93, ty93), (95, ty95), (101, ty101), (102, ty102), (105, ty105), (107, ty107), (108, ty108), (110, ty110), (111, ty111), (112, ty112), (113, ty113), (114, ty114), (115, ty115), (117, ty117), (119, ty119), (120, ty120), (121, ty121), (123, ty123), (126, ty126), (127, ty127), (129, ty129), (130, ty130), (131, ty131), (133, ty133), (144, ty144), (145, ty145), (152, ty152), (160, ty160), (164, ty164), (168, ty168), (176, ty176), (183, ty183), (185, ty185), (189, ty189), (190, ty190), (192, ty192), (196, ty196), (203, ty203), (206, ty206), (210, ty210), (213, ty213), (216, ty216), (217, ty217), (219, ty219), (221, ty221), (224, ty224), (225, ty225), (227, ty227), (233, ty233), (234, ty234), (236, ty236), (245, ty245), (248, ty248), (250, ty250), (254, ty254), (261, ty261), (266, ty266), (269, ty269), (284, ty284), (285, ty285), (287, ty287), (301, ty301), (305, ty305), (320, ty320), (328, ty328), (349, ty349), (353, ty353), (368, ty368), (369, ty369), (379, ty379), (381, ty381), (382, ty382), (383, ty383), (384, ty384)]
theorem Tt_ok : TabOk Tryz.prog Tt := ⟨ty2_ok, ty3_ok, ty4_ok, ty5_ok, ty9_ok, ty20_ok, ty21_ok, ty23_ok, ty24_ok, ty26_ok, ty29_ok, ty31_ok, ty36_ok, ty38_ok, ty40_ok, ty43_ok, ty47_ok, ty49_ok, ty51_ok, ty53_ok, ty55_ok, ty59_ok, ty67_ok, ty69_ok, ty71_ok, ty73_ok, ty74_ok, ty78_ok, ty79_ok, ty81_ok, ty84_ok, ty85_ok, ty87_ok, ty89_ok, ty93_ok, ty95_ok, ty101_ok, ty102_ok, ty105_ok, ty107_ok, ty108_ok, ty110_ok, ty111_ok, ty112_ok, ty113_ok, ty114_ok, ty115_ok, ty117_ok, ty119_ok, ty120_ok, ty121_ok, ty123_ok, ty126_ok, ty127_ok, ty129_ok, ty130_ok, ty131_ok, ty133_ok, ty144_ok, ty145_ok, ty152_ok, ty160_ok, ty164_ok, ty168_ok, ty176_ok, ty183_ok, ty185_ok, ty189_ok, ty190_ok, ty192_ok, ty196_ok, ty203_ok, ty206_ok, ty210_ok, ty213_ok, ty216_ok, ty217_ok, ty219_ok, ty221_ok, ty224_ok, ty225_ok, ty227_ok, ty233_ok, ty234_ok, ty236_ok, ty245_ok, ty248_ok, ty250_ok, ty254_ok, ty261_ok, ty266_ok, ty269_ok, ty284_ok, ty285_ok, ty287_ok, ty301_ok, ty305_ok, ty320_ok, ty328_ok, ty349_ok, ty353_ok, ty368_ok, ty369_ok, ty379_ok, ty381_ok, ty382_ok, ty383_ok, ty384_ok, trivial⟩
theorem mixed : Tryz.prog.follows .mixedOrders = true := by kernel_rfl
theorem Dr {N : Nat} (cl : Cl) (A B : List Nat) {id : Nat} {ops : Array Oper} {Γ : Env} {w : World} {kn : KN} {ex : KE} {rt : KN} (h : opsVC Tryz.prog Tt N cl ops.toList (pickL ops.toList A) Γ [] [] w.drew fun Γ' Δ' G' w' => opsVC Tryz.prog Tt N .same ops.toList (pickL ops.toList B) Γ' Δ' G' w' fun Γ'' _ _ w'' => kn Γ'' w'') (hc : canonOk Tt ops A B = true := by kernel_rfl) (hs : cl = .same → A.all (fun i => match ops[i]? with | some o => still Tt o.op | none => true) = true := by first | (intro h; cases h; done) | (intro _; rfl)) : SemC Tryz.prog N (.region id ops true) Γ w kn ex rt := draw_rule cl A B Tt_ok mixed hc hs h
theorem Sg {N : Nat} {x y : Code} {Γ : Env} {w : World} {kn : KN} {ex : KE} {rt : KN} (h : vc Tryz.prog Tt N x Γ w (fun Γ' w' => vc Tryz.prog Tt N y Γ' w' kn ex rt) ex rt) : SemC Tryz.prog N (.seq x y) Γ w kn ex rt := seq_go Tt_ok h
theorem Fi {N : Nat} {f : FuncId} {fn : Func} {body : Code} {args : List Value} {w : World} {R : Value → World → Prop} (hf : Tryz.prog.funcs[f]? = some fn) (hb : fn.body = some body) (rs : List ResultVar) (hrs : fn.results.toList = rs) (hN : fn.ntmps = N) (h : vc Tryz.prog Tt N body (argsEnv args) w (retK Tt rs R) [] (retK Tt rs R)) (hn : (fn.name == "runtime.NumGoroutine") = false := by rfl) (hargs : Nat.ble args.length N = true := by rfl) : Cal Tryz.prog f args w R := fn_intro Tt_ok hf hn hb rs hrs hN hargs h
theorem Gg {p q : Prop} (h : q) (e : q → p := by intro h;(conv=>whnf);(repeat(refine Sg ?_;(conv=>whnf)));exact h) : p := e h
theorem Hh {p q : Prop} (h : q) (e : q → p := by intro h;(conv=>whnf);exact h) : p := e h
theorem Rr {p : Prop} (h : p := by (repeat (refine And.intro rfl ?_));exact trivial) : p := h
theorem Ix {a b c : Prop} (x : a := by rfl) (y : b := by omega) (z : c := by omega) : a ∧ b ∧ c := ⟨x, y, z⟩
end Go.Proofs.YtagijlhciclafaaGreatDoor
