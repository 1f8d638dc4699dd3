/- The table of the types that the seat's operations name, and that the program has them so. Written by a program (seat.py). -/
import Derived.Test.YtdahooejkjcjiaaGreatDoorRows
import Derived.Test.YtdahooejkjcjiaaGreatDoorGA
set_option linter.unusedVariables false
set_option linter.unusedSimpArgs false
namespace Go.Proofs.YtdahooejkjcjiaaGreatDoor
open Go.Se Go.RowKit
def ty2 : TyE := ⟨Ty.int IntKind.i64, 1, false, .int .i64 0⟩
theorem ty2_ok : Qaa Tryz.prog 2 = some ty2 := by kernel_rfl
def ty3 : TyE := ⟨Ty.int IntKind.i64, 1, false, .int .i64 0⟩
theorem ty3_ok : Qaa Tryz.prog 3 = some ty3 := by kernel_rfl
def ty4 : TyE := ⟨Ty.bool, 1, false, Value.bool false⟩
theorem ty4_ok : Qaa Tryz.prog 4 = some ty4 := by kernel_rfl
def ty5 : TyE := ⟨Ty.int IntKind.u8, 1, false, .int .u8 0⟩
theorem ty5_ok : Qaa Tryz.prog 5 = some ty5 := by kernel_rfl
def ty9 : TyE := ⟨Ty.str, 1, false, .string ⟨#[]⟩⟩
theorem ty9_ok : Qaa Tryz.prog 9 = some ty9 := by kernel_rfl
def ty20 : TyE := ⟨Ty.other, 1, false, Value.nilIface⟩
theorem ty20_ok : Qaa Tryz.prog 20 = some ty20 := by kernel_rfl
def ty21 : TyE := ⟨Ty.int IntKind.i32, 1, false, .int .i32 0⟩
theorem ty21_ok : Qaa Tryz.prog 21 = some ty21 := by kernel_rfl
def ty23 : TyE := ⟨Ty.strct [(0, 1, 0), (1, 1, 0), (2, 1, 0), (3, 1, 0), (4, 1, 0), (5, 1, 0)], 6, true, Value.agg #[.int .i64 0, .int .i64 0, .int .i64 0, .int .i64 0, .int .i64 0, .int .i64 0]⟩
theorem ty23_ok : Qaa Tryz.prog 23 = some ty23 := by kernel_rfl
def ty24 : TyE := ⟨Ty.slice 34 8, 1, false, Value.slice Option.none 0 0⟩
theorem ty24_ok : Qaa Tryz.prog 24 = some ty24 := by kernel_rfl
def ty27 : TyE := ⟨Ty.other, 1, false, Value.pointer Option.none⟩
theorem ty27_ok : Qaa Tryz.prog 27 = some ty27 := by kernel_rfl
def ty28 : TyE := ⟨Ty.int IntKind.i64, 1, false, .int .i64 0⟩
theorem ty28_ok : Qaa Tryz.prog 28 = some ty28 := by kernel_rfl
def ty32 : TyE := ⟨Ty.int IntKind.i64, 1, false, .int .i64 0⟩
theorem ty32_ok : Qaa Tryz.prog 32 = some ty32 := by kernel_rfl
def ty34 : TyE := ⟨Ty.strct [(0, 1, 0), (1, 1, 0), (2, 1, 0), (3, 1, 0), (4, 1, 0), (5, 1, 0), (6, 1, 0), (7, 1, 0)], 8, true, Value.agg #[.string ⟨#[]⟩, .int .i64 0, .int .i64 0, .int .i64 0, .string ⟨#[]⟩, .string ⟨#[]⟩, .int .i64 0, .string ⟨#[]⟩]⟩
theorem ty34_ok : Qaa Tryz.prog 34 = some ty34 := by kernel_rfl
def ty35 : TyE := ⟨Ty.other, 1, false, Value.nilFunc⟩
theorem ty35_ok : Qaa Tryz.prog 35 = some ty35 := by kernel_rfl
def ty39 : TyE := ⟨Ty.slice 9 1, 1, false, Value.slice Option.none 0 0⟩
theorem ty39_ok : Qaa Tryz.prog 39 = some ty39 := by kernel_rfl
def ty51 : TyE := ⟨Ty.other, 1, false, Value.pointer Option.none⟩
theorem ty51_ok : Qaa Tryz.prog 51 = some ty51 := by kernel_rfl
def ty54 : TyE := ⟨Ty.slice 95 4, 1, false, Value.slice Option.none 0 0⟩
theorem ty54_ok : Qaa Tryz.prog 54 = some ty54 := by kernel_rfl
def ty55 : TyE := ⟨Ty.other, 1, false, Value.pointer Option.none⟩
theorem ty55_ok : Qaa Tryz.prog 55 = some ty55 := by kernel_rfl
def ty59 : TyE := ⟨Ty.other, 1, false, Value.pointer Option.none⟩
theorem ty59_ok : Qaa Tryz.prog 59 = some ty59 := by kernel_rfl
def ty63 : TyE := ⟨Ty.map 76 4, 1, false, Value.map Option.none⟩
theorem ty63_ok : Qaa Tryz.prog 63 = some ty63 := by kernel_rfl
def ty64 : TyE := ⟨Ty.map 9 4, 1, false, Value.map Option.none⟩
theorem ty64_ok : Qaa Tryz.prog 64 = some ty64 := by kernel_rfl
def ty65 : TyE := ⟨Ty.other, 1, false, Value.pointer Option.none⟩
theorem ty65_ok : Qaa Tryz.prog 65 = some ty65 := by kernel_rfl
def ty66 : TyE := ⟨Ty.other, 1, false, Value.pointer Option.none⟩
theorem ty66_ok : Qaa Tryz.prog 66 = some ty66 := by kernel_rfl
def ty67 : TyE := ⟨Ty.other, 1, false, Value.pointer Option.none⟩
theorem ty67_ok : Qaa Tryz.prog 67 = some ty67 := by kernel_rfl
def ty69 : TyE := ⟨Ty.strct [(0, 6, 1), (6, 1, 0), (7, 1, 0), (8, 8, 1), (16, 1, 0), (17, 1, 0), (18, 1, 0), (19, 1, 0), (20, 1, 0), (21, 1, 0), (22, 1, 0), (23, 1, 0)], 24, true, Value.agg #[.int .i64 0, .int .i64 0, .int .i64 0, .int .i64 0, .int .i64 0, .int .i64 0, Value.slice Option.none 0 0, Value.bool false, .string ⟨#[]⟩, .int .i64 0, .int .i64 0, .int .i64 0, .string ⟨#[]⟩, .string ⟨#[]⟩, .int .i64 0, .string ⟨#[]⟩, Value.map Option.none, Value.map Option.none, Value.pointer Option.none, Value.pointer Option.none, Value.pointer Option.none, Value.pointer Option.none, Value.pointer Option.none, Value.pointer Option.none]⟩
theorem ty69_ok : Qaa Tryz.prog 69 = some ty69 := by kernel_rfl
def ty74 : TyE := ⟨Ty.other, 1, false, Value.nilFunc⟩
theorem ty74_ok : Qaa Tryz.prog 74 = some ty74 := by kernel_rfl
def ty76 : TyE := ⟨Ty.strct [(0, 1, 0), (1, 1, 0)], 2, true, Value.agg #[.string ⟨#[]⟩, .int .i64 0]⟩
theorem ty76_ok : Qaa Tryz.prog 76 = some ty76 := by kernel_rfl
def ty81 : TyE := ⟨Ty.other, 1, false, Value.pointer Option.none⟩
theorem ty81_ok : Qaa Tryz.prog 81 = some ty81 := by kernel_rfl
def ty82 : TyE := ⟨Ty.slice 5 1, 1, false, Value.slice Option.none 0 0⟩
theorem ty82_ok : Qaa Tryz.prog 82 = some ty82 := by kernel_rfl
def ty84 : TyE := ⟨Ty.strct [(0, 1, 0), (1, 1, 0)], 2, true, Value.agg #[Value.pointer Option.none, Value.slice Option.none 0 0]⟩
theorem ty84_ok : Qaa Tryz.prog 84 = some ty84 := by kernel_rfl
def ty90 : TyE := ⟨Ty.other, 1, false, Value.nilFunc⟩
theorem ty90_ok : Qaa Tryz.prog 90 = some ty90 := by kernel_rfl
def ty95 : TyE := ⟨Ty.strct [(0, 1, 0), (1, 1, 0), (2, 1, 0), (3, 1, 0)], 4, true, Value.agg #[.string ⟨#[]⟩, .int .i64 0, .int .i64 0, Value.slice Option.none 0 0]⟩
theorem ty95_ok : Qaa Tryz.prog 95 = some ty95 := by kernel_rfl
def ty99 : TyE := ⟨Ty.slice 102 2, 1, false, Value.slice Option.none 0 0⟩
theorem ty99_ok : Qaa Tryz.prog 99 = some ty99 := by kernel_rfl
def ty102 : TyE := ⟨Ty.strct [(0, 1, 0), (1, 1, 0)], 2, true, Value.agg #[.string ⟨#[]⟩, .int .i64 0]⟩
theorem ty102_ok : Qaa Tryz.prog 102 = some ty102 := by kernel_rfl
def ty105 : TyE := ⟨Ty.slice 113 9, 1, false, Value.slice Option.none 0 0⟩
theorem ty105_ok : Qaa Tryz.prog 105 = some ty105 := by kernel_rfl
def ty106 : TyE := ⟨Ty.map 9 105, 1, false, Value.map Option.none⟩
theorem ty106_ok : Qaa Tryz.prog 106 = some ty106 := by kernel_rfl
def ty107 : TyE := ⟨Ty.map 299 4, 1, false, Value.map Option.none⟩
theorem ty107_ok : Qaa Tryz.prog 107 = some ty107 := by kernel_rfl
def ty108 : TyE := ⟨Ty.map 299 3, 1, false, Value.map Option.none⟩
theorem ty108_ok : Qaa Tryz.prog 108 = some ty108 := by kernel_rfl
def ty109 : TyE := ⟨Ty.map 9 3, 1, false, Value.map Option.none⟩
theorem ty109_ok : Qaa Tryz.prog 109 = some ty109 := by kernel_rfl
def ty111 : TyE := ⟨Ty.strct [(0, 1, 0), (1, 1, 0), (2, 8, 1), (10, 1, 0), (11, 1, 0), (12, 1, 0), (13, 1, 0), (14, 1, 0), (15, 1, 0), (16, 1, 0), (17, 1, 0)], 18, true, Value.agg #[.int .i64 0, .int .i64 0, .string ⟨#[]⟩, .int .i64 0, .int .i64 0, .int .i64 0, .string ⟨#[]⟩, .string ⟨#[]⟩, .int .i64 0, .string ⟨#[]⟩, Value.map Option.none, Value.map Option.none, Value.map Option.none, Value.map Option.none, Value.map Option.none, Value.map Option.none, Value.map Option.none, Value.map Option.none]⟩
theorem ty111_ok : Qaa Tryz.prog 111 = some ty111 := by kernel_rfl
def ty113 : TyE := ⟨Ty.strct [(0, 8, 1), (8, 1, 0)], 9, true, Value.agg #[.string ⟨#[]⟩, .int .i64 0, .int .i64 0, .int .i64 0, .string ⟨#[]⟩, .string ⟨#[]⟩, .int .i64 0, .string ⟨#[]⟩, Value.slice Option.none 0 0]⟩
theorem ty113_ok : Qaa Tryz.prog 113 = some ty113 := by kernel_rfl
def ty115 : TyE := ⟨Ty.map 3 2, 1, false, Value.map Option.none⟩
theorem ty115_ok : Qaa Tryz.prog 115 = some ty115 := by kernel_rfl
def ty116 : TyE := ⟨Ty.map 9 115, 1, false, Value.map Option.none⟩
theorem ty116_ok : Qaa Tryz.prog 116 = some ty116 := by kernel_rfl
def ty118 : TyE := ⟨Ty.strct [(0, 1, 0), (1, 1, 0), (2, 1, 0)], 3, true, Value.agg #[.int .i64 0, .int .i64 0, Value.map Option.none]⟩
theorem ty118_ok : Qaa Tryz.prog 118 = some ty118 := by kernel_rfl
def ty135 : TyE := ⟨Ty.strct [(0, 1, 0), (1, 1, 0), (2, 1, 0), (3, 1, 0), (4, 1, 0), (5, 1, 0), (6, 1, 0)], 7, true, Value.agg #[.string ⟨#[]⟩, .string ⟨#[]⟩, .string ⟨#[]⟩, .int .i64 0, .int .i64 0, .int .i64 0, Value.bool false]⟩
theorem ty135_ok : Qaa Tryz.prog 135 = some ty135 := by kernel_rfl
def ty139 : TyE := ⟨Ty.other, 1, false, Value.pointer Option.none⟩
theorem ty139_ok : Qaa Tryz.prog 139 = some ty139 := by kernel_rfl
def ty142 : TyE := ⟨Ty.other, 1, false, Value.pointer Option.none⟩
theorem ty142_ok : Qaa Tryz.prog 142 = some ty142 := by kernel_rfl
def ty149 : TyE := ⟨Ty.slice 222 9, 1, false, Value.slice Option.none 0 0⟩
theorem ty149_ok : Qaa Tryz.prog 149 = some ty149 := by kernel_rfl
def ty153 : TyE := ⟨Ty.map 76 34, 1, false, Value.map Option.none⟩
theorem ty153_ok : Qaa Tryz.prog 153 = some ty153 := by kernel_rfl
def ty156 : TyE := ⟨Ty.arr 15 1, 15, true, Value.agg #[.string ⟨#[]⟩, .string ⟨#[]⟩, .string ⟨#[]⟩, .string ⟨#[]⟩, .string ⟨#[]⟩, .string ⟨#[]⟩, .string ⟨#[]⟩, .string ⟨#[]⟩, .string ⟨#[]⟩, .string ⟨#[]⟩, .string ⟨#[]⟩, .string ⟨#[]⟩, .string ⟨#[]⟩, .string ⟨#[]⟩, .string ⟨#[]⟩]⟩
theorem ty156_ok : Qaa Tryz.prog 156 = some ty156 := by kernel_rfl
def ty158 : TyE := ⟨Ty.strct [(0, 1, 0), (1, 1, 0), (2, 1, 0), (3, 1, 0), (4, 1, 0), (5, 1, 0), (6, 1, 0)], 7, true, Value.agg #[.string ⟨#[]⟩, .string ⟨#[]⟩, .string ⟨#[]⟩, .int .i64 0, .int .i64 0, .int .i64 0, Value.bool false]⟩
theorem ty158_ok : Qaa Tryz.prog 158 = some ty158 := by kernel_rfl
def ty163 : TyE := ⟨Ty.other, 1, false, Value.nilFunc⟩
theorem ty163_ok : Qaa Tryz.prog 163 = some ty163 := by kernel_rfl
def ty165 : TyE := ⟨Ty.map 9 166, 1, false, Value.map Option.none⟩
theorem ty165_ok : Qaa Tryz.prog 165 = some ty165 := by kernel_rfl
def ty166 : TyE := ⟨Ty.map 3 64, 1, false, Value.map Option.none⟩
theorem ty166_ok : Qaa Tryz.prog 166 = some ty166 := by kernel_rfl
def ty168 : TyE := ⟨Ty.strct [(0, 1, 0), (1, 1, 0)], 2, true, Value.agg #[.int .i64 0, Value.map Option.none]⟩
theorem ty168_ok : Qaa Tryz.prog 168 = some ty168 := by kernel_rfl
def ty172 : TyE := ⟨Ty.map 9 2, 1, false, Value.map Option.none⟩
theorem ty172_ok : Qaa Tryz.prog 172 = some ty172 := by kernel_rfl
def ty176 : TyE := ⟨Ty.other, 1, false, Value.nilFunc⟩
theorem ty176_ok : Qaa Tryz.prog 176 = some ty176 := by kernel_rfl
def ty177 : TyE := ⟨Ty.other, 1, false, Value.pointer Option.none⟩
theorem ty177_ok : Qaa Tryz.prog 177 = some ty177 := by kernel_rfl
def ty179 : TyE := ⟨Ty.slice 3 1, 1, false, Value.slice Option.none 0 0⟩
theorem ty179_ok : Qaa Tryz.prog 179 = some ty179 := by kernel_rfl
def ty182 : TyE := ⟨Ty.other, 1, false, Value.nilFunc⟩
theorem ty182_ok : Qaa Tryz.prog 182 = some ty182 := by kernel_rfl
def ty185 : TyE := ⟨Ty.map 9 231, 1, false, Value.map Option.none⟩
theorem ty185_ok : Qaa Tryz.prog 185 = some ty185 := by kernel_rfl
def ty187 : TyE := ⟨Ty.strct [(0, 1, 0), (1, 8, 1), (9, 1, 0)], 10, true, Value.agg #[Value.bool false, .string ⟨#[]⟩, .int .i64 0, .int .i64 0, .int .i64 0, .string ⟨#[]⟩, .string ⟨#[]⟩, .int .i64 0, .string ⟨#[]⟩, Value.map Option.none]⟩
theorem ty187_ok : Qaa Tryz.prog 187 = some ty187 := by kernel_rfl
def ty188 : TyE := ⟨Ty.map 241 2, 1, false, Value.map Option.none⟩
theorem ty188_ok : Qaa Tryz.prog 188 = some ty188 := by kernel_rfl
def ty189 : TyE := ⟨Ty.map 9 179, 1, false, Value.map Option.none⟩
theorem ty189_ok : Qaa Tryz.prog 189 = some ty189 := by kernel_rfl
def ty191 : TyE := ⟨Ty.strct [(0, 1, 0), (1, 1, 0), (2, 1, 0), (3, 1, 0)], 4, true, Value.agg #[.int .i64 0, .int .i64 0, Value.map Option.none, Value.map Option.none]⟩
theorem ty191_ok : Qaa Tryz.prog 191 = some ty191 := by kernel_rfl
def ty195 : TyE := ⟨Ty.other, 1, false, Value.nilFunc⟩
theorem ty195_ok : Qaa Tryz.prog 195 = some ty195 := by kernel_rfl
def ty200 : TyE := ⟨Ty.slice 205 3, 1, false, Value.slice Option.none 0 0⟩
theorem ty200_ok : Qaa Tryz.prog 200 = some ty200 := by kernel_rfl
def ty202 : TyE := ⟨Ty.strct [(0, 1, 0), (1, 1, 0), (2, 1, 0)], 3, true, Value.agg #[.int .i64 0, Value.slice Option.none 0 0, .int .i64 0]⟩
theorem ty202_ok : Qaa Tryz.prog 202 = some ty202 := by kernel_rfl
def ty205 : TyE := ⟨Ty.strct [(0, 1, 0), (1, 1, 0), (2, 1, 0)], 3, true, Value.agg #[.string ⟨#[]⟩, .int .i64 0, .int .i64 0]⟩
theorem ty205_ok : Qaa Tryz.prog 205 = some ty205 := by kernel_rfl
def ty207 : TyE := ⟨Ty.slice 211 3, 1, false, Value.slice Option.none 0 0⟩
theorem ty207_ok : Qaa Tryz.prog 207 = some ty207 := by kernel_rfl
def ty209 : TyE := ⟨Ty.strct [(0, 1, 0), (1, 1, 0), (2, 1, 0)], 3, true, Value.agg #[.int .i64 0, Value.slice Option.none 0 0, .int .i64 0]⟩
theorem ty209_ok : Qaa Tryz.prog 209 = some ty209 := by kernel_rfl
def ty211 : TyE := ⟨Ty.strct [(0, 1, 0), (1, 1, 0), (2, 1, 0)], 3, true, Value.agg #[.string ⟨#[]⟩, .int .i64 0, .int .i64 0]⟩
theorem ty211_ok : Qaa Tryz.prog 211 = some ty211 := by kernel_rfl
def ty213 : TyE := ⟨Ty.other, 1, false, Value.pointer Option.none⟩
theorem ty213_ok : Qaa Tryz.prog 213 = some ty213 := by kernel_rfl
def ty217 : TyE := ⟨Ty.strct [(0, 1, 0), (1, 1, 0), (2, 1, 0)], 3, true, Value.agg #[.string ⟨#[]⟩, .int .i64 0, .string ⟨#[]⟩]⟩
theorem ty217_ok : Qaa Tryz.prog 217 = some ty217 := by kernel_rfl
def ty218 : TyE := ⟨Ty.slice 220 4, 1, false, Value.slice Option.none 0 0⟩
theorem ty218_ok : Qaa Tryz.prog 218 = some ty218 := by kernel_rfl
def ty220 : TyE := ⟨Ty.strct [(0, 1, 0), (1, 1, 0), (2, 1, 0), (3, 1, 0)], 4, true, Value.agg #[.string ⟨#[]⟩, .int .i64 0, .int .i64 0, Value.slice Option.none 0 0]⟩
theorem ty220_ok : Qaa Tryz.prog 220 = some ty220 := by kernel_rfl
def ty222 : TyE := ⟨Ty.strct [(0, 8, 1), (8, 1, 0)], 9, true, Value.agg #[.string ⟨#[]⟩, .int .i64 0, .int .i64 0, .int .i64 0, .string ⟨#[]⟩, .string ⟨#[]⟩, .int .i64 0, .string ⟨#[]⟩, Value.slice Option.none 0 0]⟩
theorem ty222_ok : Qaa Tryz.prog 222 = some ty222 := by kernel_rfl
def ty227 : TyE := ⟨Ty.other, 1, false, Value.pointer Option.none⟩
theorem ty227_ok : Qaa Tryz.prog 227 = some ty227 := by kernel_rfl
def ty230 : TyE := ⟨Ty.other, 1, false, Value.nilFunc⟩
theorem ty230_ok : Qaa Tryz.prog 230 = some ty230 := by kernel_rfl
def ty231 : TyE := ⟨Ty.slice 234 9, 1, false, Value.slice Option.none 0 0⟩
theorem ty231_ok : Qaa Tryz.prog 231 = some ty231 := by kernel_rfl
def ty234 : TyE := ⟨Ty.strct [(0, 1, 0), (1, 1, 0), (2, 7, 1)], 9, true, Value.agg #[.int .i64 0, Value.bool false, .string ⟨#[]⟩, .string ⟨#[]⟩, .string ⟨#[]⟩, .int .i64 0, .int .i64 0, .int .i64 0, Value.bool false]⟩
theorem ty234_ok : Qaa Tryz.prog 234 = some ty234 := by kernel_rfl
def ty241 : TyE := ⟨Ty.strct [(0, 1, 0), (1, 1, 0)], 2, true, Value.agg #[.string ⟨#[]⟩, .int .i64 0]⟩
theorem ty241_ok : Qaa Tryz.prog 241 = some ty241 := by kernel_rfl
def ty245 : TyE := ⟨Ty.map 9 109, 1, false, Value.map Option.none⟩
theorem ty245_ok : Qaa Tryz.prog 245 = some ty245 := by kernel_rfl
def ty247 : TyE := ⟨Ty.strct [(0, 1, 0), (1, 1, 0)], 2, true, Value.agg #[Value.map Option.none, Value.map Option.none]⟩
theorem ty247_ok : Qaa Tryz.prog 247 = some ty247 := by kernel_rfl
def ty248 : TyE := ⟨Ty.other, 1, false, Value.pointer Option.none⟩
theorem ty248_ok : Qaa Tryz.prog 248 = some ty248 := by kernel_rfl
def ty250 : TyE := ⟨Ty.strct [(0, 1, 0), (1, 1, 0)], 2, true, Value.agg #[Value.pointer Option.none, Value.bool false]⟩
theorem ty250_ok : Qaa Tryz.prog 250 = some ty250 := by kernel_rfl
def ty253 : TyE := ⟨Ty.int IntKind.u64, 1, false, .int .u64 0⟩
theorem ty253_ok : Qaa Tryz.prog 253 = some ty253 := by kernel_rfl
def ty255 : TyE := ⟨Ty.arr 24 1, 24, true, Value.agg (List.replicate 24 (.int .u8 0)).toArray⟩
theorem ty255_ok : Qaa Tryz.prog 255 = some ty255 := by kernel_rfl
def ty256 : TyE := ⟨Ty.int IntKind.u64, 1, false, .int .u64 0⟩
theorem ty256_ok : Qaa Tryz.prog 256 = some ty256 := by kernel_rfl
def ty265 : TyE := ⟨Ty.slice 217 3, 1, false, Value.slice Option.none 0 0⟩
theorem ty265_ok : Qaa Tryz.prog 265 = some ty265 := by kernel_rfl
def ty267 : TyE := ⟨Ty.strct [(0, 1, 0), (1, 1, 0)], 2, true, Value.agg #[.int .i64 0, Value.slice Option.none 0 0]⟩
theorem ty267_ok : Qaa Tryz.prog 267 = some ty267 := by kernel_rfl
def ty271 : TyE := ⟨Ty.other, 1, false, Value.nilFunc⟩
theorem ty271_ok : Qaa Tryz.prog 271 = some ty271 := by kernel_rfl
def ty282 : TyE := ⟨Ty.int IntKind.i64, 1, false, .int .i64 0⟩
theorem ty282_ok : Qaa Tryz.prog 282 = some ty282 := by kernel_rfl
def ty290 : TyE := ⟨Ty.int IntKind.u32, 1, false, .int .u32 0⟩
theorem ty290_ok : Qaa Tryz.prog 290 = some ty290 := by kernel_rfl
def ty292 : TyE := ⟨Ty.arr 20 1, 20, true, Value.agg #[.int .u64 0, .int .u64 0, .int .u64 0, .int .u64 0, .int .u64 0, .int .u64 0, .int .u64 0, .int .u64 0, .int .u64 0, .int .u64 0, .int .u64 0, .int .u64 0, .int .u64 0, .int .u64 0, .int .u64 0, .int .u64 0, .int .u64 0, .int .u64 0, .int .u64 0, .int .u64 0]⟩
theorem ty292_ok : Qaa Tryz.prog 292 = some ty292 := by kernel_rfl
def ty293 : TyE := ⟨Ty.arr 65 1, 65, true, Value.agg ((List.replicate 32 (.int .u8 0)).append (List.replicate 33 (.int .u8 0))).toArray⟩
theorem ty293_ok : Qaa Tryz.prog 293 = some ty293 := by kernel_rfl
def ty299 : TyE := ⟨Ty.strct [(0, 1, 0), (1, 1, 0)], 2, true, Value.agg #[.string ⟨#[]⟩, .string ⟨#[]⟩]⟩
theorem ty299_ok : Qaa Tryz.prog 299 = some ty299 := by kernel_rfl
def ty311 : TyE := ⟨Ty.int IntKind.u64, 1, false, .int .u64 0⟩
theorem ty311_ok : Qaa Tryz.prog 311 = some ty311 := by kernel_rfl
def ty315 : TyE := ⟨Ty.other, 1, false, Value.pointer Option.none⟩
theorem ty315_ok : Qaa Tryz.prog 315 = some ty315 := by kernel_rfl
def ty333 : TyE := ⟨Ty.arr 32 1, 32, true, Value.agg (List.replicate 32 (.int .u8 0)).toArray⟩
theorem ty333_ok : Qaa Tryz.prog 333 = some ty333 := by kernel_rfl
def ty334 : TyE := ⟨Ty.arr 64 1, 64, true, Value.agg (List.replicate 64 (.int .u8 0)).toArray⟩
theorem ty334_ok : Qaa Tryz.prog 334 = some ty334 := by kernel_rfl
def ty343 : TyE := ⟨Ty.arr 256 1, 256, true, Value.agg (((List.replicate 64 (.int .u8 0)).append (List.replicate 64 (.int .u8 0))).append ((List.replicate 64 (.int .u8 0)).append (List.replicate 64 (.int .u8 0)))).toArray⟩
theorem ty343_ok : Qaa Tryz.prog 343 = some ty343 := by kernel_rfl
def ty345 : TyE := ⟨Ty.strct [(0, 1, 0), (1, 1, 0)], 2, true, Value.agg #[.int .u8 0, .int .u8 0]⟩
theorem ty345_ok : Qaa Tryz.prog 345 = some ty345 := by kernel_rfl
def ty346 : TyE := ⟨Ty.arr 16 2, 32, true, Value.agg (List.replicate 32 (.int .u8 0)).toArray⟩
theorem ty346_ok : Qaa Tryz.prog 346 = some ty346 := by kernel_rfl
theorem by34 : (Tryz.prog.info? 34).map (·.bytes) = some 96 := by kernel_rfl
theorem by9 : (Tryz.prog.info? 9).map (·.bytes) = some 16 := by kernel_rfl
theorem by95 : (Tryz.prog.info? 95).map (·.bytes) = some 56 := by kernel_rfl
theorem by102 : (Tryz.prog.info? 102).map (·.bytes) = some 24 := by kernel_rfl
theorem by113 : (Tryz.prog.info? 113).map (·.bytes) = some 120 := by kernel_rfl
theorem by222 : (Tryz.prog.info? 222).map (·.bytes) = some 120 := by kernel_rfl
theorem by3 : (Tryz.prog.info? 3).map (·.bytes) = some 8 := by kernel_rfl
theorem by205 : (Tryz.prog.info? 205).map (·.bytes) = some 32 := by kernel_rfl
theorem by211 : (Tryz.prog.info? 211).map (·.bytes) = some 32 := by kernel_rfl
theorem by220 : (Tryz.prog.info? 220).map (·.bytes) = some 56 := by kernel_rfl
theorem by234 : (Tryz.prog.info? 234).map (·.bytes) = some 96 := by kernel_rfl
theorem by217 : (Tryz.prog.info? 217).map (·.bytes) = some 40 := by kernel_rfl
theorem st23 : Q6m Tryz.prog 23 [("Half", 3, 0), ("Width", 3, 1), ("Gap", 3, 2), ("Span", 3, 3), ("Floor", 3, 4), ("Crowd", 3, 5)] := ⟨by kernel_rfl, by kernel_rfl, by kernel_rfl, by kernel_rfl⟩
theorem st34 : Q6m Tryz.prog 34 [("Source", 9, 0), ("Number", 3, 1), ("At", 3, 2), ("Kind", 32, 3), ("Person", 9, 4), ("Item", 9, 5), ("Value", 3, 6), ("Text", 9, 7)] := ⟨by kernel_rfl, by kernel_rfl, by kernel_rfl, by kernel_rfl⟩
theorem st76 : Q6m Tryz.prog 76 [("source", 9, 0), ("number", 3, 1)] := ⟨by kernel_rfl, by kernel_rfl, by kernel_rfl, by kernel_rfl⟩
theorem st217 : Q6m Tryz.prog 217 [("Person", 9, 0), ("At", 3, 1), ("Item", 9, 2)] := ⟨by kernel_rfl, by kernel_rfl, by kernel_rfl, by kernel_rfl⟩
theorem st241 : Q6m Tryz.prog 241 [("key", 9, 0), ("pane", 3, 1)] := ⟨by kernel_rfl, by kernel_rfl, by kernel_rfl, by kernel_rfl⟩
theorem st299 : Q6m Tryz.prog 299 [("person", 9, 0), ("what", 9, 1)] := ⟨by kernel_rfl, by kernel_rfl, by kernel_rfl, by kernel_rfl⟩
def Tt : Tab := [(2, ty2), (3, ty3), (4, ty4), (5, ty5), (9, ty9), (20, ty20), (21, ty21), (23, ty23), (24, ty24), (27, ty27), (28, ty28), (32, ty32), (34, ty34), (35, ty35), (39, ty39), (51, ty51), (54, ty54), (55, ty55), (59, ty59), (63, ty63), (64, ty64), (65, ty65), (66, ty66), (67, ty67), (69, ty69), (74, ty74), (76, ty76), (81, ty81), (82, ty82), (84, ty84), (90, ty90), (95, ty95), (99, ty99), (102, ty102), (105, ty105), (106, ty106), (107, ty107), (108, ty108), (109, ty109), (111, ty111), (113, ty113), (115, ty115), (116, ty116), (118, ty118), (135, ty135), (139, ty139), (142, ty142), (149, ty149), (153, ty153), (156, ty156), (158, ty158), (163, ty163), (165, ty165), (166, ty166), (168, ty168), (172, ty172), (176, ty176), (177, ty177), (179, ty179), (182, ty182), (185, ty185), (187, ty187), (188, ty188), (189, ty189), (191, ty191), (195, ty195), (200, ty200), (202, ty202), (205, ty205), (207, ty207), (209, ty209), (211, ty211), (213, ty213), (217, ty217), (218, ty218), (220, ty220), (222, ty222), (227, ty227), (230, ty230), (231, ty231), (234, ty234), (241, ty241), (245, ty245), (247, ty247), (248, ty248), (250, ty250), (253, ty253), (255, ty255), (256, ty256), (265, ty265), (267, ty267), (271, ty271), (282, ty282), (290, ty290), (292, ty292), (293, ty293), (299, ty299), (311, ty311), (315, ty315), (333, ty333), (334, ty334), (343, ty343), (345, ty345), (346, ty346)]
theorem Qa : Qbq Tryz.prog Tt := ⟨ty2_ok, ty3_ok, ty4_ok, ty5_ok, ty9_ok, ty20_ok, ty21_ok, ty23_ok, ty24_ok, ty27_ok, ty28_ok, ty32_ok, ty34_ok, ty35_ok, ty39_ok, ty51_ok, ty54_ok, ty55_ok, ty59_ok, ty63_ok, ty64_ok, ty65_ok, ty66_ok, ty67_ok, ty69_ok, ty74_ok, ty76_ok, ty81_ok, ty82_ok, ty84_ok, ty90_ok, ty95_ok, ty99_ok, ty102_ok, ty105_ok, ty106_ok, ty107_ok, ty108_ok, ty109_ok, ty111_ok, ty113_ok, ty115_ok, ty116_ok, ty118_ok, ty135_ok, ty139_ok, ty142_ok, ty149_ok, ty153_ok, ty156_ok, ty158_ok, ty163_ok, ty165_ok, ty166_ok, ty168_ok, ty172_ok, ty176_ok, ty177_ok, ty179_ok, ty182_ok, ty185_ok, ty187_ok, ty188_ok, ty189_ok, ty191_ok, ty195_ok, ty200_ok, ty202_ok, ty205_ok, ty207_ok, ty209_ok, ty211_ok, ty213_ok, ty217_ok, ty218_ok, ty220_ok, ty222_ok, ty227_ok, ty230_ok, ty231_ok, ty234_ok, ty241_ok, ty245_ok, ty247_ok, ty248_ok, ty250_ok, ty253_ok, ty255_ok, ty256_ok, ty265_ok, ty267_ok, ty271_ok, ty282_ok, ty290_ok, ty292_ok, ty293_ok, ty299_ok, ty311_ok, ty315_ok, ty333_ok, ty334_ok, ty343_ok, ty345_ok, ty346_ok, trivial⟩
theorem mixed : Tryz.prog.follows .mixedOrders = true := by kernel_rfl
theorem Dr {N : Nat} (cl : Cl) (A B : List Nat) {id : Nat} {ops : Array Oper} {Γ : Env} {w : World} {kn : KN} {ex : KE} {rt : KN} (h : Qeg Tryz.prog Tt N cl ops.toList (Qgm ops.toList A) Γ [] [] w.drew fun Γ' Δ' G' w' => Qeg Tryz.prog Tt N .same ops.toList (Qgm ops.toList B) Γ' Δ' G' w' fun Γ'' _ _ w'' => kn Γ'' w'') (hc : Q28 Tt ops A B = true := by kernel_rfl) (hs : cl = .same → A.all (fun i => match ops[i]? with | some o => still Tt o.op | none => true) = true := by first | (intro h; cases h; done) | (intro _; rfl)) : SemC Tryz.prog N (.region id ops true) Γ w kn ex rt := Qj cl A B Qa mixed hc hs h
theorem Sg {N : Nat} {x y : Code} {Γ : Env} {w : World} {kn : KN} {ex : KE} {rt : KN} (h : vc Tryz.prog Tt N x Γ w (fun Γ' w' => vc Tryz.prog Tt N y Γ' w' kn ex rt) ex rt) : SemC Tryz.prog N (.seq x y) Γ w kn ex rt := Qb Qa h
theorem Fi {N : Nat} {f : FuncId} {fn : Func} {body : Code} {args : List Value} {w : World} {R : Value → World → Prop} (hf : Tryz.prog.funcs[f]? = some fn) (hb : fn.body = some body) (rs : List ResultVar) (hrs : fn.results.toList = rs) (hN : fn.ntmps = N) (h : vc Tryz.prog Tt N body (Qqe args) w (Xcp Tt rs R) [] (Xcp Tt rs R)) (hn : (fn.name == "runtime.NumGoroutine") = false := by rfl) (hargs : Nat.ble args.length N = true := by rfl) : Cal Tryz.prog f args w R := Qc Qa hf hn hb rs hrs hN hargs h
theorem Gg {p q : Prop} (h : q) (e : q → p := by intro h;(conv=>whnf);(repeat(refine Sg ?_;(conv=>whnf)));exact h) : p := e h
theorem Hh {p q : Prop} (h : q) (e : q → p := by intro h;(conv=>whnf);exact h) : p := e h
theorem Rr {p : Prop} (h : p := by (repeat (refine And.intro rfl ?_));exact trivial) : p := h
theorem Ix {a b c : Prop} (x : a := by rfl) (y : b := by omega) (z : c := by omega) : a ∧ b ∧ c := ⟨x, y, z⟩
end Go.Proofs.YtdahooejkjcjiaaGreatDoor
