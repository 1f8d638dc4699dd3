/- The table of the types that the seat's operations name, and that the program has them so. Written by a program (seat.py). -/
import Derived.Test.YteabekcdcphjpaaGreatDoorRows
import Derived.Test.YteabekcdcphjpaaGreatDoorGA
set_option linter.unusedVariables false
set_option linter.unusedSimpArgs false
namespace Go.Proofs.YteabekcdcphjpaaGreatDoor
open Go.Se Go.RowKit
def ty2 : TyE := ⟨Ty.int IntKind.i64, 1, false, .int .i64 0⟩
theorem ty2_ok : Xp Tryz.prog 2 = some ty2 := by kernel_rfl
def ty3 : TyE := ⟨Ty.int IntKind.i64, 1, false, .int .i64 0⟩
theorem ty3_ok : Xp Tryz.prog 3 = some ty3 := by kernel_rfl
def ty4 : TyE := ⟨Ty.bool, 1, false, Value.bool false⟩
theorem ty4_ok : Xp Tryz.prog 4 = some ty4 := by kernel_rfl
def ty5 : TyE := ⟨Ty.int IntKind.u8, 1, false, .int .u8 0⟩
theorem ty5_ok : Xp Tryz.prog 5 = some ty5 := by kernel_rfl
def ty9 : TyE := ⟨Ty.str, 1, false, .string ⟨#[]⟩⟩
theorem ty9_ok : Xp Tryz.prog 9 = some ty9 := by kernel_rfl
def ty20 : TyE := ⟨Ty.other, 1, false, Value.nilIface⟩
theorem ty20_ok : Xp Tryz.prog 20 = some ty20 := by kernel_rfl
def ty21 : TyE := ⟨Ty.int IntKind.i32, 1, false, .int .i32 0⟩
theorem ty21_ok : Xp Tryz.prog 21 = some ty21 := by kernel_rfl
def ty23 : TyE := ⟨Ty.strct [(0, 1, 0), (1, 1, 0), (2, 1, 0), (3, 1, 0), (4, 1, 0), (5, 1, 0)], 6, true, Value.agg #[.int .i64 0, .int .i64 0, .int .i64 0, .int .i64 0, .int .i64 0, .int .i64 0]⟩
theorem ty23_ok : Xp Tryz.prog 23 = some ty23 := by kernel_rfl
def ty24 : TyE := ⟨Ty.slice 66 8, 1, false, Value.slice Option.none 0 0⟩
theorem ty24_ok : Xp Tryz.prog 24 = some ty24 := by kernel_rfl
def ty27 : TyE := ⟨Ty.slice 33 1, 1, false, Value.slice Option.none 0 0⟩
theorem ty27_ok : Xp Tryz.prog 27 = some ty27 := by kernel_rfl
def ty28 : TyE := ⟨Ty.int IntKind.i64, 1, false, .int .i64 0⟩
theorem ty28_ok : Xp Tryz.prog 28 = some ty28 := by kernel_rfl
def ty33 : TyE := ⟨Ty.other, 1, false, Value.pointer Option.none⟩
theorem ty33_ok : Xp Tryz.prog 33 = some ty33 := by kernel_rfl
def ty39 : TyE := ⟨Ty.other, 1, false, Value.pointer Option.none⟩
theorem ty39_ok : Xp Tryz.prog 39 = some ty39 := by kernel_rfl
def ty43 : TyE := ⟨Ty.other, 1, false, Value.pointer Option.none⟩
theorem ty43_ok : Xp Tryz.prog 43 = some ty43 := by kernel_rfl
def ty48 : TyE := ⟨Ty.slice 24 1, 1, false, Value.slice Option.none 0 0⟩
theorem ty48_ok : Xp Tryz.prog 48 = some ty48 := by kernel_rfl
def ty50 : TyE := ⟨Ty.other, 1, false, Value.pointer Option.none⟩
theorem ty50_ok : Xp Tryz.prog 50 = some ty50 := by kernel_rfl
def ty53 : TyE := ⟨Ty.slice 98 2, 1, false, Value.slice Option.none 0 0⟩
theorem ty53_ok : Xp Tryz.prog 53 = some ty53 := by kernel_rfl
def ty56 : TyE := ⟨Ty.slice 9 1, 1, false, Value.slice Option.none 0 0⟩
theorem ty56_ok : Xp Tryz.prog 56 = some ty56 := by kernel_rfl
def ty64 : TyE := ⟨Ty.int IntKind.i64, 1, false, .int .i64 0⟩
theorem ty64_ok : Xp Tryz.prog 64 = some ty64 := by kernel_rfl
def ty66 : TyE := ⟨Ty.strct [(0, 1, 0), (1, 1, 0), (2, 1, 0), (3, 1, 0), (4, 1, 0), (5, 1, 0), (6, 1, 0), (7, 1, 0)], 8, true, Value.agg #[.string ⟨#[]⟩, .int .i64 0, .int .i64 0, .int .i64 0, .string ⟨#[]⟩, .string ⟨#[]⟩, .int .i64 0, .string ⟨#[]⟩]⟩
theorem ty66_ok : Xp Tryz.prog 66 = some ty66 := by kernel_rfl
def ty71 : TyE := ⟨Ty.other, 1, false, Value.pointer Option.none⟩
theorem ty71_ok : Xp Tryz.prog 71 = some ty71 := by kernel_rfl
def ty72 : TyE := ⟨Ty.slice 5 1, 1, false, Value.slice Option.none 0 0⟩
theorem ty72_ok : Xp Tryz.prog 72 = some ty72 := by kernel_rfl
def ty74 : TyE := ⟨Ty.strct [(0, 1, 0), (1, 1, 0)], 2, true, Value.agg #[Value.pointer Option.none, Value.slice Option.none 0 0]⟩
theorem ty74_ok : Xp Tryz.prog 74 = some ty74 := by kernel_rfl
def ty80 : TyE := ⟨Ty.other, 1, false, Value.nilFunc⟩
theorem ty80_ok : Xp Tryz.prog 80 = some ty80 := by kernel_rfl
def ty81 : TyE := ⟨Ty.map 220 4, 1, false, Value.map Option.none⟩
theorem ty81_ok : Xp Tryz.prog 81 = some ty81 := by kernel_rfl
def ty82 : TyE := ⟨Ty.map 9 4, 1, false, Value.map Option.none⟩
theorem ty82_ok : Xp Tryz.prog 82 = some ty82 := by kernel_rfl
def ty83 : TyE := ⟨Ty.other, 1, false, Value.pointer Option.none⟩
theorem ty83_ok : Xp Tryz.prog 83 = some ty83 := by kernel_rfl
def ty84 : TyE := ⟨Ty.other, 1, false, Value.pointer Option.none⟩
theorem ty84_ok : Xp Tryz.prog 84 = some ty84 := by kernel_rfl
def ty85 : TyE := ⟨Ty.other, 1, false, Value.pointer Option.none⟩
theorem ty85_ok : Xp Tryz.prog 85 = some ty85 := by kernel_rfl
def ty87 : TyE := ⟨Ty.strct [(0, 6, 1), (6, 1, 0), (7, 1, 0), (8, 8, 1), (16, 1, 0), (17, 1, 0), (18, 1, 0), (19, 1, 0), (20, 1, 0), (21, 1, 0), (22, 1, 0), (23, 1, 0)], 24, true, Value.agg #[.int .i64 0, .int .i64 0, .int .i64 0, .int .i64 0, .int .i64 0, .int .i64 0, Value.slice Option.none 0 0, Value.bool false, .string ⟨#[]⟩, .int .i64 0, .int .i64 0, .int .i64 0, .string ⟨#[]⟩, .string ⟨#[]⟩, .int .i64 0, .string ⟨#[]⟩, Value.map Option.none, Value.map Option.none, Value.pointer Option.none, Value.pointer Option.none, Value.pointer Option.none, Value.pointer Option.none, Value.pointer Option.none, Value.pointer Option.none]⟩
theorem ty87_ok : Xp Tryz.prog 87 = some ty87 := by kernel_rfl
def ty90 : TyE := ⟨Ty.slice 93 4, 1, false, Value.slice Option.none 0 0⟩
theorem ty90_ok : Xp Tryz.prog 90 = some ty90 := by kernel_rfl
def ty93 : TyE := ⟨Ty.strct [(0, 1, 0), (1, 1, 0), (2, 1, 0), (3, 1, 0)], 4, true, Value.agg #[.string ⟨#[]⟩, .int .i64 0, .int .i64 0, Value.slice Option.none 0 0]⟩
theorem ty93_ok : Xp Tryz.prog 93 = some ty93 := by kernel_rfl
def ty98 : TyE := ⟨Ty.strct [(0, 1, 0), (1, 1, 0)], 2, true, Value.agg #[.string ⟨#[]⟩, .int .i64 0]⟩
theorem ty98_ok : Xp Tryz.prog 98 = some ty98 := by kernel_rfl
def ty103 : TyE := ⟨Ty.strct [(0, 1, 0), (1, 1, 0), (2, 1, 0), (3, 1, 0), (4, 1, 0), (5, 1, 0), (6, 1, 0)], 7, true, Value.agg #[.string ⟨#[]⟩, .string ⟨#[]⟩, .string ⟨#[]⟩, .int .i64 0, .int .i64 0, .int .i64 0, Value.bool false]⟩
theorem ty103_ok : Xp Tryz.prog 103 = some ty103 := by kernel_rfl
def ty108 : TyE := ⟨Ty.other, 1, false, Value.pointer Option.none⟩
theorem ty108_ok : Xp Tryz.prog 108 = some ty108 := by kernel_rfl
def ty110 : TyE := ⟨Ty.other, 1, false, Value.pointer Option.none⟩
theorem ty110_ok : Xp Tryz.prog 110 = some ty110 := by kernel_rfl
def ty115 : TyE := ⟨Ty.slice 211 9, 1, false, Value.slice Option.none 0 0⟩
theorem ty115_ok : Xp Tryz.prog 115 = some ty115 := by kernel_rfl
def ty122 : TyE := ⟨Ty.map 3 2, 1, false, Value.map Option.none⟩
theorem ty122_ok : Xp Tryz.prog 122 = some ty122 := by kernel_rfl
def ty123 : TyE := ⟨Ty.map 9 122, 1, false, Value.map Option.none⟩
theorem ty123_ok : Xp Tryz.prog 123 = some ty123 := by kernel_rfl
def ty125 : TyE := ⟨Ty.strct [(0, 1, 0), (1, 1, 0), (2, 1, 0)], 3, true, Value.agg #[.int .i64 0, .int .i64 0, Value.map Option.none]⟩
theorem ty125_ok : Xp Tryz.prog 125 = some ty125 := by kernel_rfl
def ty129 : TyE := ⟨Ty.slice 3 1, 1, false, Value.slice Option.none 0 0⟩
theorem ty129_ok : Xp Tryz.prog 129 = some ty129 := by kernel_rfl
def ty130 : TyE := ⟨Ty.map 135 2, 1, false, Value.map Option.none⟩
theorem ty130_ok : Xp Tryz.prog 130 = some ty130 := by kernel_rfl
def ty131 : TyE := ⟨Ty.map 9 129, 1, false, Value.map Option.none⟩
theorem ty131_ok : Xp Tryz.prog 131 = some ty131 := by kernel_rfl
def ty133 : TyE := ⟨Ty.strct [(0, 1, 0), (1, 1, 0), (2, 1, 0), (3, 1, 0)], 4, true, Value.agg #[.int .i64 0, .int .i64 0, Value.map Option.none, Value.map Option.none]⟩
theorem ty133_ok : Xp Tryz.prog 133 = some ty133 := by kernel_rfl
def ty135 : TyE := ⟨Ty.strct [(0, 1, 0), (1, 1, 0)], 2, true, Value.agg #[.string ⟨#[]⟩, .int .i64 0]⟩
theorem ty135_ok : Xp Tryz.prog 135 = some ty135 := by kernel_rfl
def ty142 : TyE := ⟨Ty.other, 1, false, Value.nilFunc⟩
theorem ty142_ok : Xp Tryz.prog 142 = some ty142 := by kernel_rfl
def ty145 : TyE := ⟨Ty.other, 1, false, Value.nilFunc⟩
theorem ty145_ok : Xp Tryz.prog 145 = some ty145 := by kernel_rfl
def ty147 : TyE := ⟨Ty.map 9 3, 1, false, Value.map Option.none⟩
theorem ty147_ok : Xp Tryz.prog 147 = some ty147 := by kernel_rfl
def ty148 : TyE := ⟨Ty.map 9 147, 1, false, Value.map Option.none⟩
theorem ty148_ok : Xp Tryz.prog 148 = some ty148 := by kernel_rfl
def ty150 : TyE := ⟨Ty.strct [(0, 1, 0), (1, 1, 0)], 2, true, Value.agg #[Value.map Option.none, Value.map Option.none]⟩
theorem ty150_ok : Xp Tryz.prog 150 = some ty150 := by kernel_rfl
def ty151 : TyE := ⟨Ty.other, 1, false, Value.pointer Option.none⟩
theorem ty151_ok : Xp Tryz.prog 151 = some ty151 := by kernel_rfl
def ty153 : TyE := ⟨Ty.strct [(0, 1, 0), (1, 1, 0)], 2, true, Value.agg #[Value.pointer Option.none, Value.bool false]⟩
theorem ty153_ok : Xp Tryz.prog 153 = some ty153 := by kernel_rfl
def ty157 : TyE := ⟨Ty.other, 1, false, Value.nilFunc⟩
theorem ty157_ok : Xp Tryz.prog 157 = some ty157 := by kernel_rfl
def ty160 : TyE := ⟨Ty.int IntKind.u64, 1, false, .int .u64 0⟩
theorem ty160_ok : Xp Tryz.prog 160 = some ty160 := by kernel_rfl
def ty163 : TyE := ⟨Ty.arr 15 1, 15, true, Value.agg #[.string ⟨#[]⟩, .string ⟨#[]⟩, .string ⟨#[]⟩, .string ⟨#[]⟩, .string ⟨#[]⟩, .string ⟨#[]⟩, .string ⟨#[]⟩, .string ⟨#[]⟩, .string ⟨#[]⟩, .string ⟨#[]⟩, .string ⟨#[]⟩, .string ⟨#[]⟩, .string ⟨#[]⟩, .string ⟨#[]⟩, .string ⟨#[]⟩]⟩
theorem ty163_ok : Xp Tryz.prog 163 = some ty163 := by kernel_rfl
def ty165 : TyE := ⟨Ty.strct [(0, 1, 0), (1, 1, 0), (2, 1, 0), (3, 1, 0), (4, 1, 0), (5, 1, 0), (6, 1, 0)], 7, true, Value.agg #[.string ⟨#[]⟩, .string ⟨#[]⟩, .string ⟨#[]⟩, .int .i64 0, .int .i64 0, .int .i64 0, Value.bool false]⟩
theorem ty165_ok : Xp Tryz.prog 165 = some ty165 := by kernel_rfl
def ty169 : TyE := ⟨Ty.map 9 170, 1, false, Value.map Option.none⟩
theorem ty169_ok : Xp Tryz.prog 169 = some ty169 := by kernel_rfl
def ty170 : TyE := ⟨Ty.map 3 82, 1, false, Value.map Option.none⟩
theorem ty170_ok : Xp Tryz.prog 170 = some ty170 := by kernel_rfl
def ty172 : TyE := ⟨Ty.strct [(0, 1, 0), (1, 1, 0)], 2, true, Value.agg #[.int .i64 0, Value.map Option.none]⟩
theorem ty172_ok : Xp Tryz.prog 172 = some ty172 := by kernel_rfl
def ty176 : TyE := ⟨Ty.map 9 177, 1, false, Value.map Option.none⟩
theorem ty176_ok : Xp Tryz.prog 176 = some ty176 := by kernel_rfl
def ty177 : TyE := ⟨Ty.slice 184 9, 1, false, Value.slice Option.none 0 0⟩
theorem ty177_ok : Xp Tryz.prog 177 = some ty177 := by kernel_rfl
def ty178 : TyE := ⟨Ty.map 327 4, 1, false, Value.map Option.none⟩
theorem ty178_ok : Xp Tryz.prog 178 = some ty178 := by kernel_rfl
def ty179 : TyE := ⟨Ty.map 327 3, 1, false, Value.map Option.none⟩
theorem ty179_ok : Xp Tryz.prog 179 = some ty179 := by kernel_rfl
def ty181 : TyE := ⟨Ty.strct [(0, 1, 0), (1, 1, 0), (2, 8, 1), (10, 1, 0), (11, 1, 0), (12, 1, 0), (13, 1, 0), (14, 1, 0), (15, 1, 0), (16, 1, 0), (17, 1, 0)], 18, true, Value.agg #[.int .i64 0, .int .i64 0, .string ⟨#[]⟩, .int .i64 0, .int .i64 0, .int .i64 0, .string ⟨#[]⟩, .string ⟨#[]⟩, .int .i64 0, .string ⟨#[]⟩, Value.map Option.none, Value.map Option.none, Value.map Option.none, Value.map Option.none, Value.map Option.none, Value.map Option.none, Value.map Option.none, Value.map Option.none]⟩
theorem ty181_ok : Xp Tryz.prog 181 = some ty181 := by kernel_rfl
def ty182 : TyE := ⟨Ty.map 9 2, 1, false, Value.map Option.none⟩
theorem ty182_ok : Xp Tryz.prog 182 = some ty182 := by kernel_rfl
def ty184 : TyE := ⟨Ty.strct [(0, 8, 1), (8, 1, 0)], 9, true, Value.agg #[.string ⟨#[]⟩, .int .i64 0, .int .i64 0, .int .i64 0, .string ⟨#[]⟩, .string ⟨#[]⟩, .int .i64 0, .string ⟨#[]⟩, Value.slice Option.none 0 0]⟩
theorem ty184_ok : Xp Tryz.prog 184 = some ty184 := by kernel_rfl
def ty186 : TyE := ⟨Ty.other, 1, false, Value.pointer Option.none⟩
theorem ty186_ok : Xp Tryz.prog 186 = some ty186 := by kernel_rfl
def ty188 : TyE := ⟨Ty.slice 193 3, 1, false, Value.slice Option.none 0 0⟩
theorem ty188_ok : Xp Tryz.prog 188 = some ty188 := by kernel_rfl
def ty190 : TyE := ⟨Ty.strct [(0, 1, 0), (1, 1, 0), (2, 1, 0)], 3, true, Value.agg #[.int .i64 0, Value.slice Option.none 0 0, .int .i64 0]⟩
theorem ty190_ok : Xp Tryz.prog 190 = some ty190 := by kernel_rfl
def ty193 : TyE := ⟨Ty.strct [(0, 1, 0), (1, 1, 0), (2, 1, 0)], 3, true, Value.agg #[.string ⟨#[]⟩, .int .i64 0, .int .i64 0]⟩
theorem ty193_ok : Xp Tryz.prog 193 = some ty193 := by kernel_rfl
def ty196 : TyE := ⟨Ty.slice 200 3, 1, false, Value.slice Option.none 0 0⟩
theorem ty196_ok : Xp Tryz.prog 196 = some ty196 := by kernel_rfl
def ty198 : TyE := ⟨Ty.strct [(0, 1, 0), (1, 1, 0), (2, 1, 0)], 3, true, Value.agg #[.int .i64 0, Value.slice Option.none 0 0, .int .i64 0]⟩
theorem ty198_ok : Xp Tryz.prog 198 = some ty198 := by kernel_rfl
def ty200 : TyE := ⟨Ty.strct [(0, 1, 0), (1, 1, 0), (2, 1, 0)], 3, true, Value.agg #[.string ⟨#[]⟩, .int .i64 0, .int .i64 0]⟩
theorem ty200_ok : Xp Tryz.prog 200 = some ty200 := by kernel_rfl
def ty201 : TyE := ⟨Ty.other, 1, false, Value.pointer Option.none⟩
theorem ty201_ok : Xp Tryz.prog 201 = some ty201 := by kernel_rfl
def ty205 : TyE := ⟨Ty.strct [(0, 1, 0), (1, 1, 0), (2, 1, 0)], 3, true, Value.agg #[.string ⟨#[]⟩, .int .i64 0, .string ⟨#[]⟩]⟩
theorem ty205_ok : Xp Tryz.prog 205 = some ty205 := by kernel_rfl
def ty206 : TyE := ⟨Ty.slice 208 4, 1, false, Value.slice Option.none 0 0⟩
theorem ty206_ok : Xp Tryz.prog 206 = some ty206 := by kernel_rfl
def ty208 : TyE := ⟨Ty.strct [(0, 1, 0), (1, 1, 0), (2, 1, 0), (3, 1, 0)], 4, true, Value.agg #[.string ⟨#[]⟩, .int .i64 0, .int .i64 0, Value.slice Option.none 0 0]⟩
theorem ty208_ok : Xp Tryz.prog 208 = some ty208 := by kernel_rfl
def ty211 : TyE := ⟨Ty.strct [(0, 8, 1), (8, 1, 0)], 9, true, Value.agg #[.string ⟨#[]⟩, .int .i64 0, .int .i64 0, .int .i64 0, .string ⟨#[]⟩, .string ⟨#[]⟩, .int .i64 0, .string ⟨#[]⟩, Value.slice Option.none 0 0]⟩
theorem ty211_ok : Xp Tryz.prog 211 = some ty211 := by kernel_rfl
def ty218 : TyE := ⟨Ty.map 220 66, 1, false, Value.map Option.none⟩
theorem ty218_ok : Xp Tryz.prog 218 = some ty218 := by kernel_rfl
def ty220 : TyE := ⟨Ty.strct [(0, 1, 0), (1, 1, 0)], 2, true, Value.agg #[.string ⟨#[]⟩, .int .i64 0]⟩
theorem ty220_ok : Xp Tryz.prog 220 = some ty220 := by kernel_rfl
def ty222 : TyE := ⟨Ty.other, 1, false, Value.nilFunc⟩
theorem ty222_ok : Xp Tryz.prog 222 = some ty222 := by kernel_rfl
def ty233 : TyE := ⟨Ty.other, 1, false, Value.nilFunc⟩
theorem ty233_ok : Xp Tryz.prog 233 = some ty233 := by kernel_rfl
def ty237 : TyE := ⟨Ty.int IntKind.u64, 1, false, .int .u64 0⟩
theorem ty237_ok : Xp Tryz.prog 237 = some ty237 := by kernel_rfl
def ty244 : TyE := ⟨Ty.other, 1, false, Value.pointer Option.none⟩
theorem ty244_ok : Xp Tryz.prog 244 = some ty244 := by kernel_rfl
def ty247 : TyE := ⟨Ty.other, 1, false, Value.nilFunc⟩
theorem ty247_ok : Xp Tryz.prog 247 = some ty247 := by kernel_rfl
def ty248 : TyE := ⟨Ty.slice 254 9, 1, false, Value.slice Option.none 0 0⟩
theorem ty248_ok : Xp Tryz.prog 248 = some ty248 := by kernel_rfl
def ty249 : TyE := ⟨Ty.map 9 248, 1, false, Value.map Option.none⟩
theorem ty249_ok : Xp Tryz.prog 249 = some ty249 := by kernel_rfl
def ty251 : TyE := ⟨Ty.strct [(0, 1, 0), (1, 8, 1), (9, 1, 0)], 10, true, Value.agg #[Value.bool false, .string ⟨#[]⟩, .int .i64 0, .int .i64 0, .int .i64 0, .string ⟨#[]⟩, .string ⟨#[]⟩, .int .i64 0, .string ⟨#[]⟩, Value.map Option.none]⟩
theorem ty251_ok : Xp Tryz.prog 251 = some ty251 := by kernel_rfl
def ty254 : TyE := ⟨Ty.strct [(0, 1, 0), (1, 1, 0), (2, 7, 1)], 9, true, Value.agg #[.int .i64 0, Value.bool false, .string ⟨#[]⟩, .string ⟨#[]⟩, .string ⟨#[]⟩, .int .i64 0, .int .i64 0, .int .i64 0, Value.bool false]⟩
theorem ty254_ok : Xp Tryz.prog 254 = some ty254 := by kernel_rfl
def ty256 : TyE := ⟨Ty.arr 24 1, 24, true, Value.agg (List.replicate 24 (.int .u8 0)).toArray⟩
theorem ty256_ok : Xp Tryz.prog 256 = some ty256 := by kernel_rfl
def ty261 : TyE := ⟨Ty.slice 205 3, 1, false, Value.slice Option.none 0 0⟩
theorem ty261_ok : Xp Tryz.prog 261 = some ty261 := by kernel_rfl
def ty263 : TyE := ⟨Ty.strct [(0, 1, 0), (1, 1, 0)], 2, true, Value.agg #[.int .i64 0, Value.slice Option.none 0 0]⟩
theorem ty263_ok : Xp Tryz.prog 263 = some ty263 := by kernel_rfl
def ty281 : TyE := ⟨Ty.int IntKind.i64, 1, false, .int .i64 0⟩
theorem ty281_ok : Xp Tryz.prog 281 = some ty281 := by kernel_rfl
def ty289 : TyE := ⟨Ty.int IntKind.u32, 1, false, .int .u32 0⟩
theorem ty289_ok : Xp Tryz.prog 289 = some ty289 := by kernel_rfl
def ty302 : TyE := ⟨Ty.other, 1, false, Value.nilFunc⟩
theorem ty302_ok : Xp Tryz.prog 302 = some ty302 := by kernel_rfl
def ty307 : TyE := ⟨Ty.arr 20 1, 20, true, Value.agg #[.int .u64 0, .int .u64 0, .int .u64 0, .int .u64 0, .int .u64 0, .int .u64 0, .int .u64 0, .int .u64 0, .int .u64 0, .int .u64 0, .int .u64 0, .int .u64 0, .int .u64 0, .int .u64 0, .int .u64 0, .int .u64 0, .int .u64 0, .int .u64 0, .int .u64 0, .int .u64 0]⟩
theorem ty307_ok : Xp Tryz.prog 307 = some ty307 := by kernel_rfl
def ty308 : TyE := ⟨Ty.arr 65 1, 65, true, Value.agg ((List.replicate 32 (.int .u8 0)).append (List.replicate 33 (.int .u8 0))).toArray⟩
theorem ty308_ok : Xp Tryz.prog 308 = some ty308 := by kernel_rfl
def ty311 : TyE := ⟨Ty.int IntKind.u64, 1, false, .int .u64 0⟩
theorem ty311_ok : Xp Tryz.prog 311 = some ty311 := by kernel_rfl
def ty315 : TyE := ⟨Ty.other, 1, false, Value.pointer Option.none⟩
theorem ty315_ok : Xp Tryz.prog 315 = some ty315 := by kernel_rfl
def ty327 : TyE := ⟨Ty.strct [(0, 1, 0), (1, 1, 0)], 2, true, Value.agg #[.string ⟨#[]⟩, .string ⟨#[]⟩]⟩
theorem ty327_ok : Xp Tryz.prog 327 = some ty327 := by kernel_rfl
def ty334 : TyE := ⟨Ty.arr 32 1, 32, true, Value.agg (List.replicate 32 (.int .u8 0)).toArray⟩
theorem ty334_ok : Xp Tryz.prog 334 = some ty334 := by kernel_rfl
def ty335 : TyE := ⟨Ty.arr 64 1, 64, true, Value.agg (List.replicate 64 (.int .u8 0)).toArray⟩
theorem ty335_ok : Xp Tryz.prog 335 = some ty335 := by kernel_rfl
def ty351 : TyE := ⟨Ty.arr 256 1, 256, true, Value.agg (((List.replicate 64 (.int .u8 0)).append (List.replicate 64 (.int .u8 0))).append ((List.replicate 64 (.int .u8 0)).append (List.replicate 64 (.int .u8 0)))).toArray⟩
theorem ty351_ok : Xp Tryz.prog 351 = some ty351 := by kernel_rfl
def ty353 : TyE := ⟨Ty.strct [(0, 1, 0), (1, 1, 0)], 2, true, Value.agg #[.int .u8 0, .int .u8 0]⟩
theorem ty353_ok : Xp Tryz.prog 353 = some ty353 := by kernel_rfl
def ty354 : TyE := ⟨Ty.arr 16 2, 32, true, Value.agg (List.replicate 32 (.int .u8 0)).toArray⟩
theorem ty354_ok : Xp Tryz.prog 354 = some ty354 := by kernel_rfl
theorem by66 : (Tryz.prog.info? 66).map (·.bytes) = some 96 := by kernel_rfl
theorem by33 : (Tryz.prog.info? 33).map (·.bytes) = some 8 := by kernel_rfl
theorem by24 : (Tryz.prog.info? 24).map (·.bytes) = some 24 := by kernel_rfl
theorem by98 : (Tryz.prog.info? 98).map (·.bytes) = some 24 := by kernel_rfl
theorem by9 : (Tryz.prog.info? 9).map (·.bytes) = some 16 := by kernel_rfl
theorem by93 : (Tryz.prog.info? 93).map (·.bytes) = some 56 := by kernel_rfl
theorem by3 : (Tryz.prog.info? 3).map (·.bytes) = some 8 := by kernel_rfl
theorem by184 : (Tryz.prog.info? 184).map (·.bytes) = some 120 := by kernel_rfl
theorem by254 : (Tryz.prog.info? 254).map (·.bytes) = some 96 := by kernel_rfl
theorem st23 : Q4v Tryz.prog 23 [("Half", 3, 0), ("Width", 3, 1), ("Gap", 3, 2), ("Span", 3, 3), ("Floor", 3, 4), ("Crowd", 3, 5)] := ⟨by kernel_rfl, by kernel_rfl, by kernel_rfl, by kernel_rfl⟩
theorem st66 : Q4v Tryz.prog 66 [("Source", 9, 0), ("Number", 3, 1), ("At", 3, 2), ("Kind", 64, 3), ("Person", 9, 4), ("Item", 9, 5), ("Value", 3, 6), ("Text", 9, 7)] := ⟨by kernel_rfl, by kernel_rfl, by kernel_rfl, by kernel_rfl⟩
theorem st98 : Q4v Tryz.prog 98 [("Key", 9, 0), ("N", 2, 1)] := ⟨by kernel_rfl, by kernel_rfl, by kernel_rfl, by kernel_rfl⟩
theorem st135 : Q4v Tryz.prog 135 [("key", 9, 0), ("pane", 3, 1)] := ⟨by kernel_rfl, by kernel_rfl, by kernel_rfl, by kernel_rfl⟩
theorem st220 : Q4v Tryz.prog 220 [("source", 9, 0), ("number", 3, 1)] := ⟨by kernel_rfl, by kernel_rfl, by kernel_rfl, by kernel_rfl⟩
theorem st327 : Q4v Tryz.prog 327 [("person", 9, 0), ("what", 9, 1)] := ⟨by kernel_rfl, by kernel_rfl, by kernel_rfl, by kernel_rfl⟩
def Tt : Tab := [(2, ty2), (3, ty3), (4, ty4), (5, ty5), (9, ty9), (20, ty20), (21, ty21), (23, ty23), (24, ty24), (27, ty27), (28, ty28), (33, ty33), (39, ty39), (43, ty43), (48, ty48), (50, ty50), (53, ty53), (56, ty56), (64, ty64), (66, ty66), (71, ty71), (72, ty72), (74, ty74), (80, ty80), (81, ty81), (82, ty82), (83, ty83), (84, ty84), (85, ty85), (87, ty87), (90, ty90), (93, ty93), (98, ty98), (103, ty103), (108, ty108), (110, ty110), (115, ty115), (122, ty122), (123, ty123), (125, ty125), (129, ty129), (130, ty130), (131, ty131), (133, ty133), (135, ty135), (142, ty142), (145, ty145), (147, ty147), (148, ty148), (150, ty150), (151, ty151), (153, ty153), (157, ty157), (160, ty160), (163, ty163), (165, ty165), (169, ty169), (170, ty170), (172, ty172), (176, ty176), (177, ty177), (178, ty178), (179, ty179), (181, ty181), (182, ty182), (184, ty184), (186, ty186), (188, ty188), (190, ty190), (193, ty193), (196, ty196), (198, ty198), (200, ty200), (201, ty201), (205, ty205), (206, ty206), (208, ty208), (211, ty211), (218, ty218), (220, ty220), (222, ty222), (233, ty233), (237, ty237), (244, ty244), (247, ty247), (248, ty248), (249, ty249), (251, ty251), (254, ty254), (256, ty256), (261, ty261), (263, ty263), (281, ty281), (289, ty289), (302, ty302), (307, ty307), (308, ty308), (311, ty311), (315, ty315), (327, ty327), (334, ty334), (335, ty335), (351, ty351), (353, ty353), (354, ty354)]
theorem Qa : Qba Tryz.prog Tt := ⟨ty2_ok, ty3_ok, ty4_ok, ty5_ok, ty9_ok, ty20_ok, ty21_ok, ty23_ok, ty24_ok, ty27_ok, ty28_ok, ty33_ok, ty39_ok, ty43_ok, ty48_ok, ty50_ok, ty53_ok, ty56_ok, ty64_ok, ty66_ok, ty71_ok, ty72_ok, ty74_ok, ty80_ok, ty81_ok, ty82_ok, ty83_ok, ty84_ok, ty85_ok, ty87_ok, ty90_ok, ty93_ok, ty98_ok, ty103_ok, ty108_ok, ty110_ok, ty115_ok, ty122_ok, ty123_ok, ty125_ok, ty129_ok, ty130_ok, ty131_ok, ty133_ok, ty135_ok, ty142_ok, ty145_ok, ty147_ok, ty148_ok, ty150_ok, ty151_ok, ty153_ok, ty157_ok, ty160_ok, ty163_ok, ty165_ok, ty169_ok, ty170_ok, ty172_ok, ty176_ok, ty177_ok, ty178_ok, ty179_ok, ty181_ok, ty182_ok, ty184_ok, ty186_ok, ty188_ok, ty190_ok, ty193_ok, ty196_ok, ty198_ok, ty200_ok, ty201_ok, ty205_ok, ty206_ok, ty208_ok, ty211_ok, ty218_ok, ty220_ok, ty222_ok, ty233_ok, ty237_ok, ty244_ok, ty247_ok, ty248_ok, ty249_ok, ty251_ok, ty254_ok, ty256_ok, ty261_ok, ty263_ok, ty281_ok, ty289_ok, ty302_ok, ty307_ok, ty308_ok, ty311_ok, ty315_ok, ty327_ok, ty334_ok, ty335_ok, ty351_ok, ty353_ok, ty354_ok, trivial⟩
theorem mixed : Tryz.prog.follows .mixedOrders = true := by kernel_rfl
theorem Dr {N : Nat} (cl : Cl) (A B : List Nat) {id : Nat} {ops : Array Oper} {Γ : Env} {w : World} {kn : KN} {ex : KE} {rt : KN} (h : Qd2 Tryz.prog Tt N cl ops.toList (Qf2 ops.toList A) Γ [] [] w.drew fun Γ' Δ' G' w' => Qd2 Tryz.prog Tt N .same ops.toList (Qf2 ops.toList B) Γ' Δ' G' w' fun Γ'' _ _ w'' => kn Γ'' w'') (hc : Q1l Tt ops A B = true := by kernel_rfl) (hs : cl = .same → A.all (fun i => match ops[i]? with | some o => still Tt o.op | none => true) = true := by first | (intro h; cases h; done) | (intro _; rfl)) : SemC Tryz.prog N (.region id ops true) Γ w kn ex rt := Qh cl A B Qa mixed hc hs h
theorem Sg {N : Nat} {x y : Code} {Γ : Env} {w : World} {kn : KN} {ex : KE} {rt : KN} (h : vc Tryz.prog Tt N x Γ w (fun Γ' w' => vc Tryz.prog Tt N y Γ' w' kn ex rt) ex rt) : SemC Tryz.prog N (.seq x y) Γ w kn ex rt := Qb Qa h
theorem Fi {N : Nat} {f : FuncId} {fn : Func} {body : Code} {args : List Value} {w : World} {R : Value → World → Prop} (hf : Tryz.prog.funcs[f]? = some fn) (hb : fn.body = some body) (rs : List ResultVar) (hrs : fn.results.toList = rs) (hN : fn.ntmps = N) (h : vc Tryz.prog Tt N body (Qo6 args) w (Xa7 Tt rs R) [] (Xa7 Tt rs R)) (hn : (fn.name == "runtime.NumGoroutine") = false := by rfl) (hargs : Nat.ble args.length N = true := by rfl) : Cal Tryz.prog f args w R := Qd Qa hf hn hb rs hrs hN hargs h
theorem Gg {p q : Prop} (h : q) (e : q → p := by intro h;(conv=>whnf);(repeat(refine Sg ?_;(conv=>whnf)));exact h) : p := e h
theorem Hh {p q : Prop} (h : q) (e : q → p := by intro h;(conv=>whnf);exact h) : p := e h
theorem Rr {p : Prop} (h : p := by (repeat (refine And.intro rfl ?_));exact trivial) : p := h
theorem Ix {a b c : Prop} (x : a := by rfl) (y : b := by omega) (z : c := by omega) : a ∧ b ∧ c := ⟨x, y, z⟩
end Go.Proofs.YteabekcdcphjpaaGreatDoor
