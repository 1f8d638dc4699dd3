/- The table of the types that the seat's operations name, and that the program has them so. Written by a program (seat.py). -/
import Derived.Test.YtbfjlpoeglcmfaaGreatDoorRows
import Derived.Test.YtbfjlpoeglcmfaaGreatDoorGA
set_option linter.unusedVariables false
set_option linter.unusedSimpArgs false
namespace Go.Proofs.YtbfjlpoeglcmfaaGreatDoor
open Go.Se
def ty2 : TyE := ⟨Ty.int IntKind.i64, 1, Bool.false, Value.int IntKind.i64 0⟩
theorem ty2_ok : tyOf Tryz.prog 2 = some ty2 := by kernel_rfl
def ty3 : TyE := ⟨Ty.int IntKind.i64, 1, Bool.false, Value.int IntKind.i64 0⟩
theorem ty3_ok : tyOf Tryz.prog 3 = some ty3 := by kernel_rfl
def ty4 : TyE := ⟨Ty.bool, 1, Bool.false, Value.bool Bool.false⟩
theorem ty4_ok : tyOf Tryz.prog 4 = some ty4 := by kernel_rfl
def ty5 : TyE := ⟨Ty.int IntKind.u8, 1, Bool.false, Value.int IntKind.u8 0⟩
theorem ty5_ok : tyOf Tryz.prog 5 = some ty5 := by kernel_rfl
def ty9 : TyE := ⟨Ty.str, 1, Bool.false, Value.string { data := #[] }⟩
theorem ty9_ok : tyOf Tryz.prog 9 = some ty9 := by kernel_rfl
def ty21 : TyE := ⟨Ty.int IntKind.i32, 1, Bool.false, Value.int IntKind.i32 0⟩
theorem ty21_ok : tyOf Tryz.prog 21 = some ty21 := by kernel_rfl
def ty23 : TyE := ⟨Ty.strct [(0, 1, 0), (1, 1, 0), (2, 1, 0), (3, 1, 0), (4, 1, 0), (5, 1, 0)], 6, Bool.true, Value.agg #[Value.int IntKind.i64 0, Value.int IntKind.i64 0, Value.int IntKind.i64 0, Value.int IntKind.i64 0, Value.int IntKind.i64 0, Value.int IntKind.i64 0]⟩
theorem ty23_ok : tyOf Tryz.prog 23 = some ty23 := by kernel_rfl
def ty24 : TyE := ⟨Ty.slice 47 8, 1, Bool.false, Value.slice Option.none 0 0⟩
theorem ty24_ok : tyOf Tryz.prog 24 = some ty24 := by kernel_rfl
def ty25 : TyE := ⟨Ty.slice 9 1, 1, Bool.false, Value.slice Option.none 0 0⟩
theorem ty25_ok : tyOf Tryz.prog 25 = some ty25 := by kernel_rfl
def ty27 : TyE := ⟨Ty.strct [(0, 1, 0), (1, 1, 0), (2, 1, 0)], 3, Bool.true, Value.agg #[Value.int IntKind.i64 0, Value.int IntKind.i64 0, Value.int IntKind.i64 0]⟩
theorem ty27_ok : tyOf Tryz.prog 27 = some ty27 := by kernel_rfl
def ty29 : TyE := ⟨Ty.other, 1, Bool.false, Value.pointer Option.none⟩
theorem ty29_ok : tyOf Tryz.prog 29 = some ty29 := by kernel_rfl
def ty31 : TyE := ⟨Ty.slice 33 2, 1, Bool.false, Value.slice Option.none 0 0⟩
theorem ty31_ok : tyOf Tryz.prog 31 = some ty31 := by kernel_rfl
def ty33 : TyE := ⟨Ty.strct [(0, 1, 0), (1, 1, 0)], 2, Bool.true, Value.agg #[Value.string { data := #[] }, Value.string { data := #[] }]⟩
theorem ty33_ok : tyOf Tryz.prog 33 = some ty33 := by kernel_rfl
def ty45 : TyE := ⟨Ty.int IntKind.i64, 1, Bool.false, Value.int IntKind.i64 0⟩
theorem ty45_ok : tyOf Tryz.prog 45 = some ty45 := by kernel_rfl
def ty47 : TyE := ⟨Ty.strct [(0, 1, 0), (1, 1, 0), (2, 1, 0), (3, 1, 0), (4, 1, 0), (5, 1, 0), (6, 1, 0), (7, 1, 0)], 8, Bool.true, Value.agg #[Value.string { data := #[] }, Value.int IntKind.i64 0, Value.int IntKind.i64 0, Value.int IntKind.i64 0, Value.string { data := #[] }, Value.string { data := #[] }, Value.int IntKind.i64 0, Value.string { data := #[] }]⟩
theorem ty47_ok : tyOf Tryz.prog 47 = some ty47 := by kernel_rfl
def ty48 : TyE := ⟨Ty.int IntKind.i64, 1, Bool.false, Value.int IntKind.i64 0⟩
theorem ty48_ok : tyOf Tryz.prog 48 = some ty48 := by kernel_rfl
def ty51 : TyE := ⟨Ty.map 9 3, 1, Bool.false, Value.map Option.none⟩
theorem ty51_ok : tyOf Tryz.prog 51 = some ty51 := by kernel_rfl
def ty59 : TyE := ⟨Ty.slice 64 4, 1, Bool.false, Value.slice Option.none 0 0⟩
theorem ty59_ok : tyOf Tryz.prog 59 = some ty59 := by kernel_rfl
def ty64 : TyE := ⟨Ty.strct [(0, 1, 0), (1, 1, 0), (2, 1, 0), (3, 1, 0)], 4, Bool.true, Value.agg #[Value.string { data := #[] }, Value.int IntKind.i64 0, Value.int IntKind.i64 0, Value.int IntKind.i64 0]⟩
theorem ty64_ok : tyOf Tryz.prog 64 = some ty64 := by kernel_rfl
def ty66 : TyE := ⟨Ty.strct [(0, 1, 0), (1, 1, 0), (2, 1, 0), (3, 1, 0), (4, 1, 0), (5, 1, 0), (6, 1, 0)], 7, Bool.true, Value.agg #[Value.string { data := #[] }, Value.string { data := #[] }, Value.string { data := #[] }, Value.int IntKind.i64 0, Value.int IntKind.i64 0, Value.int IntKind.i64 0, Value.bool Bool.false]⟩
theorem ty66_ok : tyOf Tryz.prog 66 = some ty66 := by kernel_rfl
def ty68 : TyE := ⟨Ty.other, 1, Bool.false, Value.pointer Option.none⟩
theorem ty68_ok : tyOf Tryz.prog 68 = some ty68 := by kernel_rfl
def ty81 : TyE := ⟨Ty.other, 1, Bool.false, Value.nilFunc⟩
theorem ty81_ok : tyOf Tryz.prog 81 = some ty81 := by kernel_rfl
def ty82 : TyE := ⟨Ty.other, 1, Bool.false, Value.pointer Option.none⟩
theorem ty82_ok : tyOf Tryz.prog 82 = some ty82 := by kernel_rfl
def ty86 : TyE := ⟨Ty.other, 1, Bool.false, Value.pointer Option.none⟩
theorem ty86_ok : tyOf Tryz.prog 86 = some ty86 := by kernel_rfl
def ty90 : TyE := ⟨Ty.strct [(0, 1, 0), (1, 1, 0), (2, 1, 0), (3, 1, 0), (4, 1, 0)], 5, Bool.true, Value.agg #[Value.pointer Option.none, Value.int IntKind.i64 0, Value.map Option.none, Value.map Option.none, Value.int IntKind.i64 0]⟩
theorem ty90_ok : tyOf Tryz.prog 90 = some ty90 := by kernel_rfl
def ty95 : TyE := ⟨Ty.map 134 4, 1, Bool.false, Value.map Option.none⟩
theorem ty95_ok : tyOf Tryz.prog 95 = some ty95 := by kernel_rfl
def ty96 : TyE := ⟨Ty.map 9 4, 1, Bool.false, Value.map Option.none⟩
theorem ty96_ok : tyOf Tryz.prog 96 = some ty96 := by kernel_rfl
def ty97 : TyE := ⟨Ty.other, 1, Bool.false, Value.pointer Option.none⟩
theorem ty97_ok : tyOf Tryz.prog 97 = some ty97 := by kernel_rfl
def ty98 : TyE := ⟨Ty.other, 1, Bool.false, Value.pointer Option.none⟩
theorem ty98_ok : tyOf Tryz.prog 98 = some ty98 := by kernel_rfl
def ty99 : TyE := ⟨Ty.other, 1, Bool.false, Value.pointer Option.none⟩
theorem ty99_ok : tyOf Tryz.prog 99 = some ty99 := by kernel_rfl
def ty100 : TyE := ⟨Ty.other, 1, Bool.false, Value.pointer Option.none⟩
theorem ty100_ok : tyOf Tryz.prog 100 = some ty100 := by kernel_rfl
def ty102 : TyE := ⟨Ty.strct [(0, 6, 1), (6, 1, 0), (7, 1, 0), (8, 8, 1), (16, 1, 0), (17, 1, 0), (18, 1, 0), (19, 1, 0), (20, 1, 0), (21, 1, 0), (22, 1, 0), (23, 1, 0)], 24, Bool.true, Value.agg #[Value.int IntKind.i64 0, Value.int IntKind.i64 0, Value.int IntKind.i64 0, Value.int IntKind.i64 0, Value.int IntKind.i64 0, Value.int IntKind.i64 0, Value.slice Option.none 0 0, Value.bool Bool.false, Value.string { data := #[] }, Value.int IntKind.i64 0, Value.int IntKind.i64 0, Value.int IntKind.i64 0, Value.string { data := #[] }, Value.string { data := #[] }, Value.int IntKind.i64 0, Value.string { data := #[] }, Value.map Option.none, Value.map Option.none, Value.pointer Option.none, Value.pointer Option.none, Value.pointer Option.none, Value.pointer Option.none, Value.pointer Option.none, Value.pointer Option.none]⟩
theorem ty102_ok : tyOf Tryz.prog 102 = some ty102 := by kernel_rfl
def ty110 : TyE := ⟨Ty.other, 1, Bool.false, Value.nilFunc⟩
theorem ty110_ok : tyOf Tryz.prog 110 = some ty110 := by kernel_rfl
def ty112 : TyE := ⟨Ty.slice 118 9, 1, Bool.false, Value.slice Option.none 0 0⟩
theorem ty112_ok : tyOf Tryz.prog 112 = some ty112 := by kernel_rfl
def ty113 : TyE := ⟨Ty.map 9 112, 1, Bool.false, Value.map Option.none⟩
theorem ty113_ok : tyOf Tryz.prog 113 = some ty113 := by kernel_rfl
def ty115 : TyE := ⟨Ty.strct [(0, 1, 0), (1, 8, 1), (9, 1, 0)], 10, Bool.true, Value.agg #[Value.bool Bool.false, Value.string { data := #[] }, Value.int IntKind.i64 0, Value.int IntKind.i64 0, Value.int IntKind.i64 0, Value.string { data := #[] }, Value.string { data := #[] }, Value.int IntKind.i64 0, Value.string { data := #[] }, Value.map Option.none]⟩
theorem ty115_ok : tyOf Tryz.prog 115 = some ty115 := by kernel_rfl
def ty118 : TyE := ⟨Ty.strct [(0, 1, 0), (1, 1, 0), (2, 7, 1)], 9, Bool.true, Value.agg #[Value.int IntKind.i64 0, Value.bool Bool.false, Value.string { data := #[] }, Value.string { data := #[] }, Value.string { data := #[] }, Value.int IntKind.i64 0, Value.int IntKind.i64 0, Value.int IntKind.i64 0, Value.bool Bool.false]⟩
theorem ty118_ok : tyOf Tryz.prog 118 = some ty118 := by kernel_rfl
def ty119 : TyE := ⟨Ty.slice 3 1, 1, Bool.false, Value.slice Option.none 0 0⟩
theorem ty119_ok : tyOf Tryz.prog 119 = some ty119 := by kernel_rfl
def ty124 : TyE := ⟨Ty.slice 131 9, 1, Bool.false, Value.slice Option.none 0 0⟩
theorem ty124_ok : tyOf Tryz.prog 124 = some ty124 := by kernel_rfl
def ty125 : TyE := ⟨Ty.map 9 124, 1, Bool.false, Value.map Option.none⟩
theorem ty125_ok : tyOf Tryz.prog 125 = some ty125 := by kernel_rfl
def ty126 : TyE := ⟨Ty.map 218 4, 1, Bool.false, Value.map Option.none⟩
theorem ty126_ok : tyOf Tryz.prog 126 = some ty126 := by kernel_rfl
def ty127 : TyE := ⟨Ty.map 218 3, 1, Bool.false, Value.map Option.none⟩
theorem ty127_ok : tyOf Tryz.prog 127 = some ty127 := by kernel_rfl
def ty129 : TyE := ⟨Ty.strct [(0, 1, 0), (1, 1, 0), (2, 8, 1), (10, 1, 0), (11, 1, 0), (12, 1, 0), (13, 1, 0), (14, 1, 0), (15, 1, 0), (16, 1, 0), (17, 1, 0)], 18, Bool.true, Value.agg #[Value.int IntKind.i64 0, Value.int IntKind.i64 0, Value.string { data := #[] }, Value.int IntKind.i64 0, Value.int IntKind.i64 0, Value.int IntKind.i64 0, Value.string { data := #[] }, Value.string { data := #[] }, Value.int IntKind.i64 0, Value.string { data := #[] }, Value.map Option.none, Value.map Option.none, Value.map Option.none, Value.map Option.none, Value.map Option.none, Value.map Option.none, Value.map Option.none, Value.map Option.none]⟩
theorem ty129_ok : tyOf Tryz.prog 129 = some ty129 := by kernel_rfl
def ty131 : TyE := ⟨Ty.strct [(0, 8, 1), (8, 1, 0)], 9, Bool.true, Value.agg #[Value.string { data := #[] }, Value.int IntKind.i64 0, Value.int IntKind.i64 0, Value.int IntKind.i64 0, Value.string { data := #[] }, Value.string { data := #[] }, Value.int IntKind.i64 0, Value.string { data := #[] }, Value.slice Option.none 0 0]⟩
theorem ty131_ok : tyOf Tryz.prog 131 = some ty131 := by kernel_rfl
def ty132 : TyE := ⟨Ty.map 134 47, 1, Bool.false, Value.map Option.none⟩
theorem ty132_ok : tyOf Tryz.prog 132 = some ty132 := by kernel_rfl
def ty134 : TyE := ⟨Ty.strct [(0, 1, 0), (1, 1, 0)], 2, Bool.true, Value.agg #[Value.string { data := #[] }, Value.int IntKind.i64 0]⟩
theorem ty134_ok : tyOf Tryz.prog 134 = some ty134 := by kernel_rfl
def ty136 : TyE := ⟨Ty.other, 1, Bool.false, Value.nilFunc⟩
theorem ty136_ok : tyOf Tryz.prog 136 = some ty136 := by kernel_rfl
def ty139 : TyE := ⟨Ty.strct [(0, 1, 0), (1, 1, 0), (2, 1, 0), (3, 1, 0), (4, 1, 0), (5, 1, 0), (6, 1, 0)], 7, Bool.true, Value.agg #[Value.string { data := #[] }, Value.string { data := #[] }, Value.string { data := #[] }, Value.int IntKind.i64 0, Value.int IntKind.i64 0, Value.int IntKind.i64 0, Value.bool Bool.false]⟩
theorem ty139_ok : tyOf Tryz.prog 139 = some ty139 := by kernel_rfl
def ty144 : TyE := ⟨Ty.int IntKind.u64, 1, Bool.false, Value.int IntKind.u64 0⟩
theorem ty144_ok : tyOf Tryz.prog 144 = some ty144 := by kernel_rfl
def ty155 : TyE := ⟨Ty.arr 15 1, 15, Bool.true, Value.agg #[Value.string { data := #[] }, Value.string { data := #[] }, Value.string { data := #[] }, Value.string { data := #[] }, Value.string { data := #[] }, Value.string { data := #[] }, Value.string { data := #[] }, Value.string { data := #[] }, Value.string { data := #[] }, Value.string { data := #[] }, Value.string { data := #[] }, Value.string { data := #[] }, Value.string { data := #[] }, Value.string { data := #[] }, Value.string { data := #[] }]⟩
theorem ty155_ok : tyOf Tryz.prog 155 = some ty155 := by kernel_rfl
def ty165 : TyE := ⟨Ty.int IntKind.i64, 1, Bool.false, Value.int IntKind.i64 0⟩
theorem ty165_ok : tyOf Tryz.prog 165 = some ty165 := by kernel_rfl
def ty172 : TyE := ⟨Ty.int IntKind.u32, 1, Bool.false, Value.int IntKind.u32 0⟩
theorem ty172_ok : tyOf Tryz.prog 172 = some ty172 := by kernel_rfl
def ty174 : TyE := ⟨Ty.int IntKind.u64, 1, Bool.false, Value.int IntKind.u64 0⟩
theorem ty174_ok : tyOf Tryz.prog 174 = some ty174 := by kernel_rfl
def ty175 : TyE := ⟨Ty.map 9 219, 1, Bool.false, Value.map Option.none⟩
theorem ty175_ok : tyOf Tryz.prog 175 = some ty175 := by kernel_rfl
def ty177 : TyE := ⟨Ty.strct [(0, 1, 0), (1, 1, 0), (2, 1, 0)], 3, Bool.true, Value.agg #[Value.int IntKind.i64 0, Value.int IntKind.i64 0, Value.map Option.none]⟩
theorem ty177_ok : tyOf Tryz.prog 177 = some ty177 := by kernel_rfl
def ty178 : TyE := ⟨Ty.map 202 2, 1, Bool.false, Value.map Option.none⟩
theorem ty178_ok : tyOf Tryz.prog 178 = some ty178 := by kernel_rfl
def ty179 : TyE := ⟨Ty.map 9 119, 1, Bool.false, Value.map Option.none⟩
theorem ty179_ok : tyOf Tryz.prog 179 = some ty179 := by kernel_rfl
def ty181 : TyE := ⟨Ty.strct [(0, 1, 0), (1, 1, 0), (2, 1, 0), (3, 1, 0)], 4, Bool.true, Value.agg #[Value.int IntKind.i64 0, Value.int IntKind.i64 0, Value.map Option.none, Value.map Option.none]⟩
theorem ty181_ok : tyOf Tryz.prog 181 = some ty181 := by kernel_rfl
def ty182 : TyE := ⟨Ty.map 9 203, 1, Bool.false, Value.map Option.none⟩
theorem ty182_ok : tyOf Tryz.prog 182 = some ty182 := by kernel_rfl
def ty184 : TyE := ⟨Ty.strct [(0, 1, 0), (1, 1, 0)], 2, Bool.true, Value.agg #[Value.int IntKind.i64 0, Value.map Option.none]⟩
theorem ty184_ok : tyOf Tryz.prog 184 = some ty184 := by kernel_rfl
def ty187 : TyE := ⟨Ty.other, 1, Bool.false, Value.pointer Option.none⟩
theorem ty187_ok : tyOf Tryz.prog 187 = some ty187 := by kernel_rfl
def ty188 : TyE := ⟨Ty.slice 5 1, 1, Bool.false, Value.slice Option.none 0 0⟩
theorem ty188_ok : tyOf Tryz.prog 188 = some ty188 := by kernel_rfl
def ty190 : TyE := ⟨Ty.strct [(0, 1, 0), (1, 1, 0)], 2, Bool.true, Value.agg #[Value.pointer Option.none, Value.slice Option.none 0 0]⟩
theorem ty190_ok : tyOf Tryz.prog 190 = some ty190 := by kernel_rfl
def ty202 : TyE := ⟨Ty.strct [(0, 1, 0), (1, 1, 0)], 2, Bool.true, Value.agg #[Value.string { data := #[] }, Value.int IntKind.i64 0]⟩
theorem ty202_ok : tyOf Tryz.prog 202 = some ty202 := by kernel_rfl
def ty203 : TyE := ⟨Ty.map 3 96, 1, Bool.false, Value.map Option.none⟩
theorem ty203_ok : tyOf Tryz.prog 203 = some ty203 := by kernel_rfl
def ty204 : TyE := ⟨Ty.int IntKind.u64, 1, Bool.false, Value.int IntKind.u64 0⟩
theorem ty204_ok : tyOf Tryz.prog 204 = some ty204 := by kernel_rfl
def ty208 : TyE := ⟨Ty.other, 1, Bool.false, Value.pointer Option.none⟩
theorem ty208_ok : tyOf Tryz.prog 208 = some ty208 := by kernel_rfl
def ty213 : TyE := ⟨Ty.other, 1, Bool.false, Value.pointer Option.none⟩
theorem ty213_ok : tyOf Tryz.prog 213 = some ty213 := by kernel_rfl
def ty218 : TyE := ⟨Ty.strct [(0, 1, 0), (1, 1, 0)], 2, Bool.true, Value.agg #[Value.string { data := #[] }, Value.string { data := #[] }]⟩
theorem ty218_ok : tyOf Tryz.prog 218 = some ty218 := by kernel_rfl
def ty219 : TyE := ⟨Ty.map 3 2, 1, Bool.false, Value.map Option.none⟩
theorem ty219_ok : tyOf Tryz.prog 219 = some ty219 := by kernel_rfl
def ty226 : TyE := ⟨Ty.arr 24 1, 24, Bool.true, Value.agg #[Value.int IntKind.u8 0, Value.int IntKind.u8 0, Value.int IntKind.u8 0, Value.int IntKind.u8 0, Value.int IntKind.u8 0, Value.int IntKind.u8 0, Value.int IntKind.u8 0, Value.int IntKind.u8 0, Value.int IntKind.u8 0, Value.int IntKind.u8 0, Value.int IntKind.u8 0, Value.int IntKind.u8 0, Value.int IntKind.u8 0, Value.int IntKind.u8 0, Value.int IntKind.u8 0, Value.int IntKind.u8 0, Value.int IntKind.u8 0, Value.int IntKind.u8 0, Value.int IntKind.u8 0, Value.int IntKind.u8 0, Value.int IntKind.u8 0, Value.int IntKind.u8 0, Value.int IntKind.u8 0, Value.int IntKind.u8 0]⟩
theorem ty226_ok : tyOf Tryz.prog 226 = some ty226 := by kernel_rfl
def ty230 : TyE := ⟨Ty.other, 1, Bool.false, Value.pointer Option.none⟩
theorem ty230_ok : tyOf Tryz.prog 230 = some ty230 := by kernel_rfl
def ty238 : TyE := ⟨Ty.arr 20 1, 20, Bool.true, Value.agg #[Value.int IntKind.u64 0, Value.int IntKind.u64 0, Value.int IntKind.u64 0, Value.int IntKind.u64 0, Value.int IntKind.u64 0, Value.int IntKind.u64 0, Value.int IntKind.u64 0, Value.int IntKind.u64 0, Value.int IntKind.u64 0, Value.int IntKind.u64 0, Value.int IntKind.u64 0, Value.int IntKind.u64 0, Value.int IntKind.u64 0, Value.int IntKind.u64 0, Value.int IntKind.u64 0, Value.int IntKind.u64 0, Value.int IntKind.u64 0, Value.int IntKind.u64 0, Value.int IntKind.u64 0, Value.int IntKind.u64 0]⟩
theorem ty238_ok : tyOf Tryz.prog 238 = some ty238 := by kernel_rfl
def ty239 : TyE := ⟨Ty.arr 65 1, 65, Bool.true, Value.agg ([Value.int IntKind.u8 0, Value.int IntKind.u8 0, Value.int IntKind.u8 0, Value.int IntKind.u8 0, Value.int IntKind.u8 0, Value.int IntKind.u8 0, Value.int IntKind.u8 0, Value.int IntKind.u8 0, Value.int IntKind.u8 0, Value.int IntKind.u8 0, Value.int IntKind.u8 0, Value.int IntKind.u8 0, Value.int IntKind.u8 0, Value.int IntKind.u8 0, Value.int IntKind.u8 0, Value.int IntKind.u8 0, Value.int IntKind.u8 0, Value.int IntKind.u8 0, Value.int IntKind.u8 0, Value.int IntKind.u8 0, Value.int IntKind.u8 0, Value.int IntKind.u8 0, Value.int IntKind.u8 0, Value.int IntKind.u8 0, Value.int IntKind.u8 0, Value.int IntKind.u8 0, Value.int IntKind.u8 0, Value.int IntKind.u8 0, Value.int IntKind.u8 0, Value.int IntKind.u8 0, Value.int IntKind.u8 0, Value.int IntKind.u8 0].append [Value.int IntKind.u8 0, Value.int IntKind.u8 0, Value.int IntKind.u8 0, Value.int IntKind.u8 0, Value.int IntKind.u8 0, Value.int IntKind.u8 0, Value.int IntKind.u8 0, Value.int IntKind.u8 0, Value.int IntKind.u8 0, Value.int IntKind.u8 0, Value.int IntKind.u8 0, Value.int IntKind.u8 0, Value.int IntKind.u8 0, Value.int IntKind.u8 0, Value.int IntKind.u8 0, Value.int IntKind.u8 0, Value.int IntKind.u8 0, Value.int IntKind.u8 0, Value.int IntKind.u8 0, Value.int IntKind.u8 0, Value.int IntKind.u8 0, Value.int IntKind.u8 0, Value.int IntKind.u8 0, Value.int IntKind.u8 0, Value.int IntKind.u8 0, Value.int IntKind.u8 0, Value.int IntKind.u8 0, Value.int IntKind.u8 0, Value.int IntKind.u8 0, Value.int IntKind.u8 0, Value.int IntKind.u8 0, Value.int IntKind.u8 0, Value.int IntKind.u8 0]).toArray⟩
theorem ty239_ok : tyOf Tryz.prog 239 = some ty239 := by kernel_rfl
def ty240 : TyE := ⟨Ty.arr 256 1, 256, Bool.true, Value.agg (([Value.int IntKind.u8 0, Value.int IntKind.u8 0, Value.int IntKind.u8 0, Value.int IntKind.u8 0, Value.int IntKind.u8 0, Value.int IntKind.u8 0, Value.int IntKind.u8 0, Value.int IntKind.u8 0, Value.int IntKind.u8 0, Value.int IntKind.u8 0, Value.int IntKind.u8 0, Value.int IntKind.u8 0, Value.int IntKind.u8 0, Value.int IntKind.u8 0, Value.int IntKind.u8 0, Value.int IntKind.u8 0, Value.int IntKind.u8 0, Value.int IntKind.u8 0, Value.int IntKind.u8 0, Value.int IntKind.u8 0, Value.int IntKind.u8 0, Value.int IntKind.u8 0, Value.int IntKind.u8 0, Value.int IntKind.u8 0, Value.int IntKind.u8 0, Value.int IntKind.u8 0, Value.int IntKind.u8 0, Value.int IntKind.u8 0, Value.int IntKind.u8 0, Value.int IntKind.u8 0, Value.int IntKind.u8 0, Value.int IntKind.u8 0, Value.int IntKind.u8 0, Value.int IntKind.u8 0, Value.int IntKind.u8 0, Value.int IntKind.u8 0, Value.int IntKind.u8 0, Value.int IntKind.u8 0, Value.int IntKind.u8 0, Value.int IntKind.u8 0, Value.int IntKind.u8 0, Value.int IntKind.u8 0, Value.int IntKind.u8 0, Value.int IntKind.u8 0, Value.int IntKind.u8 0, Value.int IntKind.u8 0, Value.int IntKind.u8 0, Value.int IntKind.u8 0, Value.int IntKind.u8 0, Value.int IntKind.u8 0, Value.int IntKind.u8 0, Value.int IntKind.u8 0, Value.int IntKind.u8 0, Value.int IntKind.u8 0, Value.int IntKind.u8 0, Value.int IntKind.u8 0, Value.int IntKind.u8 0, Value.int IntKind.u8 0, Value.int IntKind.u8 0, Value.int IntKind.u8 0, Value.int IntKind.u8 0, Value.int IntKind.u8 0, Value.int IntKind.u8 0, Value.int IntKind.u8 0].append [Value.int IntKind.u8 0, Value.int IntKind.u8 0, Value.int IntKind.u8 0, Value.int IntKind.u8 0, Value.int IntKind.u8 0, Value.int IntKind.u8 0, Value.int IntKind.u8 0, Value.int IntKind.u8 0, Value.int IntKind.u8 0, Value.int IntKind.u8 0, Value.int IntKind.u8 0, Value.int IntKind.u8 0, Value.int IntKind.u8 0, Value.int IntKind.u8 0, Value.int IntKind.u8 0, Value.int IntKind.u8 0, Value.int IntKind.u8 0, Value.int IntKind.u8 0, Value.int IntKind.u8 0, Value.int IntKind.u8 0, Value.int IntKind.u8 0, Value.int IntKind.u8 0, Value.int IntKind.u8 0, Value.int IntKind.u8 0, Value.int IntKind.u8 0, Value.int IntKind.u8 0, Value.int IntKind.u8 0, Value.int IntKind.u8 0, Value.int IntKind.u8 0, Value.int IntKind.u8 0, Value.int IntKind.u8 0, Value.int IntKind.u8 0, Value.int IntKind.u8 0, Value.int IntKind.u8 0, Value.int IntKind.u8 0, Value.int IntKind.u8 0, Value.int IntKind.u8 0, Value.int IntKind.u8 0, Value.int IntKind.u8 0, Value.int IntKind.u8 0, Value.int IntKind.u8 0, Value.int IntKind.u8 0, Value.int IntKind.u8 0, Value.int IntKind.u8 0, Value.int IntKind.u8 0, Value.int IntKind.u8 0, Value.int IntKind.u8 0, Value.int IntKind.u8 0, Value.int IntKind.u8 0, Value.int IntKind.u8 0, Value.int IntKind.u8 0, Value.int IntKind.u8 0, Value.int IntKind.u8 0, Value.int IntKind.u8 0, Value.int IntKind.u8 0, Value.int IntKind.u8 0, Value.int IntKind.u8 0, Value.int IntKind.u8 0, Value.int IntKind.u8 0, Value.int IntKind.u8 0, Value.int IntKind.u8 0, Value.int IntKind.u8 0, Value.int IntKind.u8 0, Value.int IntKind.u8 0]).append ([Value.int IntKind.u8 0, Value.int IntKind.u8 0, Value.int IntKind.u8 0, Value.int IntKind.u8 0, Value.int IntKind.u8 0, Value.int IntKind.u8 0, Value.int IntKind.u8 0, Value.int IntKind.u8 0, Value.int IntKind.u8 0, Value.int IntKind.u8 0, Value.int IntKind.u8 0, Value.int IntKind.u8 0, Value.int IntKind.u8 0, Value.int IntKind.u8 0, Value.int IntKind.u8 0, Value.int IntKind.u8 0, Value.int IntKind.u8 0, Value.int IntKind.u8 0, Value.int IntKind.u8 0, Value.int IntKind.u8 0, Value.int IntKind.u8 0, Value.int IntKind.u8 0, Value.int IntKind.u8 0, Value.int IntKind.u8 0, Value.int IntKind.u8 0, Value.int IntKind.u8 0, Value.int IntKind.u8 0, Value.int IntKind.u8 0, Value.int IntKind.u8 0, Value.int IntKind.u8 0, Value.int IntKind.u8 0, Value.int IntKind.u8 0, Value.int IntKind.u8 0, Value.int IntKind.u8 0, Value.int IntKind.u8 0, Value.int IntKind.u8 0, Value.int IntKind.u8 0, Value.int IntKind.u8 0, Value.int IntKind.u8 0, Value.int IntKind.u8 0, Value.int IntKind.u8 0, Value.int IntKind.u8 0, Value.int IntKind.u8 0, Value.int IntKind.u8 0, Value.int IntKind.u8 0, Value.int IntKind.u8 0, Value.int IntKind.u8 0, Value.int IntKind.u8 0, Value.int IntKind.u8 0, Value.int IntKind.u8 0, Value.int IntKind.u8 0, Value.int IntKind.u8 0, Value.int IntKind.u8 0, Value.int IntKind.u8 0, Value.int IntKind.u8 0, Value.int IntKind.u8 0, Value.int IntKind.u8 0, Value.int IntKind.u8 0, Value.int IntKind.u8 0, Value.int IntKind.u8 0, Value.int IntKind.u8 0, Value.int IntKind.u8 0, Value.int IntKind.u8 0, Value.int IntKind.u8 0].append [Value.int IntKind.u8 0, Value.int IntKind.u8 0, Value.int IntKind.u8 0, Value.int IntKind.u8 0, Value.int IntKind.u8 0, Value.int IntKind.u8 0, Value.int IntKind.u8 0, Value.int IntKind.u8 0, Value.int IntKind.u8 0, Value.int IntKind.u8 0, Value.int IntKind.u8 0, Value.int IntKind.u8 0, Value.int IntKind.u8 0, Value.int IntKind.u8 0, Value.int IntKind.u8 0, Value.int IntKind.u8 0, Value.int IntKind.u8 0, Value.int IntKind.u8 0, Value.int IntKind.u8 0, Value.int IntKind.u8 0, Value.int IntKind.u8 0, Value.int IntKind.u8 0, Value.int IntKind.u8 0, Value.int IntKind.u8 0, Value.int IntKind.u8 0, Value.int IntKind.u8 0, Value.int IntKind.u8 0, Value.int IntKind.u8 0, Value.int IntKind.u8 0, Value.int IntKind.u8 0, Value.int IntKind.u8 0, Value.int IntKind.u8 0, Value.int IntKind.u8 0, Value.int IntKind.u8 0, Value.int IntKind.u8 0, Value.int IntKind.u8 0, Value.int IntKind.u8 0, Value.int IntKind.u8 0, Value.int IntKind.u8 0, Value.int IntKind.u8 0, Value.int IntKind.u8 0, Value.int IntKind.u8 0, Value.int IntKind.u8 0, Value.int IntKind.u8 0, Value.int IntKind.u8 0, Value.int IntKind.u8 0, Value.int IntKind.u8 0, Value.int IntKind.u8 0, Value.int IntKind.u8 0, Value.int IntKind.u8 0, Value.int IntKind.u8 0, Value.int IntKind.u8 0, Value.int IntKind.u8 0, Value.int IntKind.u8 0, Value.int IntKind.u8 0, Value.int IntKind.u8 0, Value.int IntKind.u8 0, Value.int IntKind.u8 0, Value.int IntKind.u8 0, Value.int IntKind.u8 0, Value.int IntKind.u8 0, Value.int IntKind.u8 0, Value.int IntKind.u8 0, Value.int IntKind.u8 0])).toArray⟩
theorem ty240_ok : tyOf Tryz.prog 240 = some ty240 := by kernel_rfl
def ty242 : TyE := ⟨Ty.strct [(0, 1, 0), (1, 1, 0)], 2, Bool.true, Value.agg #[Value.int IntKind.u8 0, Value.int IntKind.u8 0]⟩
theorem ty242_ok : tyOf Tryz.prog 242 = some ty242 := by kernel_rfl
def ty243 : TyE := ⟨Ty.arr 16 2, 32, Bool.true, Value.agg #[Value.int IntKind.u8 0, Value.int IntKind.u8 0, Value.int IntKind.u8 0, Value.int IntKind.u8 0, Value.int IntKind.u8 0, Value.int IntKind.u8 0, Value.int IntKind.u8 0, Value.int IntKind.u8 0, Value.int IntKind.u8 0, Value.int IntKind.u8 0, Value.int IntKind.u8 0, Value.int IntKind.u8 0, Value.int IntKind.u8 0, Value.int IntKind.u8 0, Value.int IntKind.u8 0, Value.int IntKind.u8 0, Value.int IntKind.u8 0, Value.int IntKind.u8 0, Value.int IntKind.u8 0, Value.int IntKind.u8 0, Value.int IntKind.u8 0, Value.int IntKind.u8 0, Value.int IntKind.u8 0, Value.int IntKind.u8 0, Value.int IntKind.u8 0, Value.int IntKind.u8 0, Value.int IntKind.u8 0, Value.int IntKind.u8 0, Value.int IntKind.u8 0, Value.int IntKind.u8 0, Value.int IntKind.u8 0, Value.int IntKind.u8 0]⟩
theorem ty243_ok : tyOf Tryz.prog 243 = some ty243 := by kernel_rfl
def ty244 : TyE := ⟨Ty.arr 32 1, 32, Bool.true, Value.agg #[Value.int IntKind.u8 0, Value.int IntKind.u8 0, Value.int IntKind.u8 0, Value.int IntKind.u8 0, Value.int IntKind.u8 0, Value.int IntKind.u8 0, Value.int IntKind.u8 0, Value.int IntKind.u8 0, Value.int IntKind.u8 0, Value.int IntKind.u8 0, Value.int IntKind.u8 0, Value.int IntKind.u8 0, Value.int IntKind.u8 0, Value.int IntKind.u8 0, Value.int IntKind.u8 0, Value.int IntKind.u8 0, Value.int IntKind.u8 0, Value.int IntKind.u8 0, Value.int IntKind.u8 0, Value.int IntKind.u8 0, Value.int IntKind.u8 0, Value.int IntKind.u8 0, Value.int IntKind.u8 0, Value.int IntKind.u8 0, Value.int IntKind.u8 0, Value.int IntKind.u8 0, Value.int IntKind.u8 0, Value.int IntKind.u8 0, Value.int IntKind.u8 0, Value.int IntKind.u8 0, Value.int IntKind.u8 0, Value.int IntKind.u8 0]⟩
theorem ty244_ok : tyOf Tryz.prog 244 = some ty244 := by kernel_rfl
def ty245 : TyE := ⟨Ty.arr 64 1, 64, Bool.true, Value.agg #[Value.int IntKind.u8 0, Value.int IntKind.u8 0, Value.int IntKind.u8 0, Value.int IntKind.u8 0, Value.int IntKind.u8 0, Value.int IntKind.u8 0, Value.int IntKind.u8 0, Value.int IntKind.u8 0, Value.int IntKind.u8 0, Value.int IntKind.u8 0, Value.int IntKind.u8 0, Value.int IntKind.u8 0, Value.int IntKind.u8 0, Value.int IntKind.u8 0, Value.int IntKind.u8 0, Value.int IntKind.u8 0, Value.int IntKind.u8 0, Value.int IntKind.u8 0, Value.int IntKind.u8 0, Value.int IntKind.u8 0, Value.int IntKind.u8 0, Value.int IntKind.u8 0, Value.int IntKind.u8 0, Value.int IntKind.u8 0, Value.int IntKind.u8 0, Value.int IntKind.u8 0, Value.int IntKind.u8 0, Value.int IntKind.u8 0, Value.int IntKind.u8 0, Value.int IntKind.u8 0, Value.int IntKind.u8 0, Value.int IntKind.u8 0, Value.int IntKind.u8 0, Value.int IntKind.u8 0, Value.int IntKind.u8 0, Value.int IntKind.u8 0, Value.int IntKind.u8 0, Value.int IntKind.u8 0, Value.int IntKind.u8 0, Value.int IntKind.u8 0, Value.int IntKind.u8 0, Value.int IntKind.u8 0, Value.int IntKind.u8 0, Value.int IntKind.u8 0, Value.int IntKind.u8 0, Value.int IntKind.u8 0, Value.int IntKind.u8 0, Value.int IntKind.u8 0, Value.int IntKind.u8 0, Value.int IntKind.u8 0, Value.int IntKind.u8 0, Value.int IntKind.u8 0, Value.int IntKind.u8 0, Value.int IntKind.u8 0, Value.int IntKind.u8 0, Value.int IntKind.u8 0, Value.int IntKind.u8 0, Value.int IntKind.u8 0, Value.int IntKind.u8 0, Value.int IntKind.u8 0, Value.int IntKind.u8 0, Value.int IntKind.u8 0, Value.int IntKind.u8 0, Value.int IntKind.u8 0]⟩
theorem ty245_ok : tyOf Tryz.prog 245 = some ty245 := by kernel_rfl
theorem by47 : (Tryz.prog.info? 47).map (·.bytes) = some 96 := by kernel_rfl
theorem by9 : (Tryz.prog.info? 9).map (·.bytes) = some 16 := by kernel_rfl
theorem by33 : (Tryz.prog.info? 33).map (·.bytes) = some 32 := by kernel_rfl
theorem by64 : (Tryz.prog.info? 64).map (·.bytes) = some 40 := by kernel_rfl
theorem by118 : (Tryz.prog.info? 118).map (·.bytes) = some 96 := by kernel_rfl
theorem by3 : (Tryz.prog.info? 3).map (·.bytes) = some 8 := by kernel_rfl
theorem by131 : (Tryz.prog.info? 131).map (·.bytes) = some 120 := by kernel_rfl
theorem by5 : (Tryz.prog.info? 5).map (·.bytes) = some 1 := by kernel_rfl
theorem st23 : StOk Tryz.prog 23 [("Half", 3, 0), ("Width", 3, 1), ("Gap", 3, 2), ("Span", 3, 3), ("Floor", 3, 4), ("Crowd", 3, 5)] := ⟨by kernel_rfl, by kernel_rfl, by kernel_rfl, by kernel_rfl⟩
theorem st27 : StOk Tryz.prog 27 [("Item", 3, 0), ("Maker", 3, 1), ("All", 3, 2)] := ⟨by kernel_rfl, by kernel_rfl, by kernel_rfl, by kernel_rfl⟩
theorem st33 : StOk Tryz.prog 33 [("Item", 9, 0), ("Maker", 9, 1)] := ⟨by kernel_rfl, by kernel_rfl, by kernel_rfl, by kernel_rfl⟩
theorem st47 : StOk Tryz.prog 47 [("Source", 9, 0), ("Number", 3, 1), ("At", 3, 2), ("Kind", 45, 3), ("Person", 9, 4), ("Item", 9, 5), ("Value", 3, 6), ("Text", 9, 7)] := ⟨by kernel_rfl, by kernel_rfl, by kernel_rfl, by kernel_rfl⟩
theorem st64 : StOk Tryz.prog 64 [("Item", 9, 0), ("Was", 3, 1), ("Is", 3, 2), ("Looked", 3, 3)] := ⟨by kernel_rfl, by kernel_rfl, by kernel_rfl, by kernel_rfl⟩
theorem st66 : StOk Tryz.prog 66 [("Name", 9, 0), ("Maker", 9, 1), ("Tags", 9, 2), ("Stock", 3, 3), ("Price", 3, 4), ("Born", 3, 5), ("Listed", 4, 6)] := ⟨by kernel_rfl, by kernel_rfl, by kernel_rfl, by kernel_rfl⟩
theorem st90 : StOk Tryz.prog 90 [("world", 29, 0), ("now", 3, 1), ("items", 51, 2), ("makers", 51, 3), ("all", 3, 4)] := ⟨by kernel_rfl, by kernel_rfl, by kernel_rfl, by kernel_rfl⟩
theorem st134 : StOk Tryz.prog 134 [("source", 9, 0), ("number", 3, 1)] := ⟨by kernel_rfl, by kernel_rfl, by kernel_rfl, by kernel_rfl⟩
theorem st139 : StOk Tryz.prog 139 [("Name", 9, 0), ("Maker", 9, 1), ("Tags", 9, 2), ("Stock", 3, 3), ("Price", 3, 4), ("Born", 3, 5), ("Listed", 4, 6)] := ⟨by kernel_rfl, by kernel_rfl, by kernel_rfl, by kernel_rfl⟩
theorem st177 : StOk Tryz.prog 177 [("half", 3, 0), ("added", 3, 1), ("sums", 175, 2)] := ⟨by kernel_rfl, by kernel_rfl, by kernel_rfl, by kernel_rfl⟩
theorem st181 : StOk Tryz.prog 181 [("width", 3, 0), ("added", 3, 1), ("sums", 178, 2), ("rows", 179, 3)] := ⟨by kernel_rfl, by kernel_rfl, by kernel_rfl, by kernel_rfl⟩
theorem st184 : StOk Tryz.prog 184 [("gap", 3, 0), ("added", 182, 1)] := ⟨by kernel_rfl, by kernel_rfl, by kernel_rfl, by kernel_rfl⟩
theorem st190 : StOk Tryz.prog 190 [("addr", 187, 0), ("buf", 188, 1)] := ⟨by kernel_rfl, by kernel_rfl, by kernel_rfl, by kernel_rfl⟩
theorem st202 : StOk Tryz.prog 202 [("key", 9, 0), ("pane", 3, 1)] := ⟨by kernel_rfl, by kernel_rfl, by kernel_rfl, by kernel_rfl⟩
theorem st218 : StOk Tryz.prog 218 [("person", 9, 0), ("what", 9, 1)] := ⟨by kernel_rfl, by kernel_rfl, by kernel_rfl, by kernel_rfl⟩
theorem st242 : StOk Tryz.prog 242 [("lo", 5, 0), ("hi", 5, 1)] := ⟨by kernel_rfl, by kernel_rfl, by kernel_rfl, by kernel_rfl⟩
def Tt : Tab := [(2, ty2), (3, ty3), (4, ty4), (5, ty5), (9, ty9), (21, ty21), (23, ty23), (24, ty24), (25, ty25), (27, ty27), (29, ty29), (31, ty31), (33, ty33), (45, ty45), (47, ty47), (48, ty48), (51, ty51), (59, ty59), (64, ty64), (66, ty66), (68, ty68), (81, ty81), (82, ty82), (86, ty86), (90, ty90), (95, ty95), (96, ty96), (97, ty97), (98, ty98), (99, ty99), (100, ty100), (102, ty102), (110, ty110), (112, ty112), (113, ty113), (115, ty115), (118, ty118), (119, ty119), (124, ty124), (125, ty125), (126, ty126), (127, ty127), (129, ty129), (131, ty131), (132, ty132), (134, ty134), (136, ty136), (139, ty139), (144, ty144), (155, ty155), (165, ty165), (172, ty172), (174, ty174), (175, ty175), (177, ty177), (178, ty178), (179, ty179), (181, ty181), (182, ty182), (184, ty184), (187, ty187), (188, ty188), (190, ty190), (202, ty202), (203, ty203), (204, ty204), (208, ty208), (213, ty213), (218, ty218), (219, ty219), (226, ty226), (230, ty230), (238, ty238), (239, ty239), (240, ty240), (242, ty242), (243, ty243), (244, ty244), (245, ty245)]
theorem Tt_ok : TabOk Tryz.prog Tt := ⟨ty2_ok, ty3_ok, ty4_ok, ty5_ok, ty9_ok, ty21_ok, ty23_ok, ty24_ok, ty25_ok, ty27_ok, ty29_ok, ty31_ok, ty33_ok, ty45_ok, ty47_ok, ty48_ok, ty51_ok, ty59_ok, ty64_ok, ty66_ok, ty68_ok, ty81_ok, ty82_ok, ty86_ok, ty90_ok, ty95_ok, ty96_ok, ty97_ok, ty98_ok, ty99_ok, ty100_ok, ty102_ok, ty110_ok, ty112_ok, ty113_ok, ty115_ok, ty118_ok, ty119_ok, ty124_ok, ty125_ok, ty126_ok, ty127_ok, ty129_ok, ty131_ok, ty132_ok, ty134_ok, ty136_ok, ty139_ok, ty144_ok, ty155_ok, ty165_ok, ty172_ok, ty174_ok, ty175_ok, ty177_ok, ty178_ok, ty179_ok, ty181_ok, ty182_ok, ty184_ok, ty187_ok, ty188_ok, ty190_ok, ty202_ok, ty203_ok, ty204_ok, ty208_ok, ty213_ok, ty218_ok, ty219_ok, ty226_ok, ty230_ok, ty238_ok, ty239_ok, ty240_ok, ty242_ok, ty243_ok, ty244_ok, ty245_ok, trivial⟩
theorem mixed : Tryz.prog.follows .mixedOrders = true := by kernel_rfl
end Go.Proofs.YtbfjlpoeglcmfaaGreatDoor
