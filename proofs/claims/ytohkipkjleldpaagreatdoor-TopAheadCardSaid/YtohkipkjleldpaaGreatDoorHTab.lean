/- The table of the types that the seat's operations name, and that the program has them so. Written by a program (seat.py). -/
import Derived.Test.YtohkipkjleldpaaGreatDoorProg
import GoSem.Claims
import GoSem.PinnedTables
import GoSem.Claim
import GoSem.ClaimJoined
import GoSem.ClaimMapViews
import Derived.JoinedTies
import Derived.KernelRfl
import Derived.Items
import Derived.PartsItems
import Derived.CheckFast
import Derived.HeadItems
import Derived.Shelf.ItemsParts
import Derived.Test.YtohkipkjleldpaaGreatDoorGA
set_option linter.unusedVariables false
set_option linter.unusedSimpArgs false
namespace Go.Proofs.YtohkipkjleldpaaGreatDoor
open Go.Se Go.RowKit
def ty2 : TyE := ⟨Ty.int IntKind.i64, 1, false, .int .i64 0⟩
theorem ty2_ok : Q5 Tryz.prog 2 = some ty2 := by kernel_rfl
def ty3 : TyE := ⟨Ty.int IntKind.i64, 1, false, .int .i64 0⟩
theorem ty3_ok : Q5 Tryz.prog 3 = some ty3 := by kernel_rfl
def ty4 : TyE := ⟨Ty.bool, 1, false, Value.bool false⟩
theorem ty4_ok : Q5 Tryz.prog 4 = some ty4 := by kernel_rfl
def ty5 : TyE := ⟨Ty.int IntKind.u8, 1, false, .int .u8 0⟩
theorem ty5_ok : Q5 Tryz.prog 5 = some ty5 := by kernel_rfl
def ty9 : TyE := ⟨Ty.str, 1, false, .string ⟨#[]⟩⟩
theorem ty9_ok : Q5 Tryz.prog 9 = some ty9 := by kernel_rfl
def ty20 : TyE := ⟨Ty.other, 1, false, Value.nilIface⟩
theorem ty20_ok : Q5 Tryz.prog 20 = some ty20 := by kernel_rfl
def ty21 : TyE := ⟨Ty.int IntKind.i32, 1, false, .int .i32 0⟩
theorem ty21_ok : Q5 Tryz.prog 21 = some ty21 := by kernel_rfl
def ty22 : TyE := ⟨Ty.slice 5 1, 1, false, Value.slice Option.none 0 0⟩
theorem ty22_ok : Q5 Tryz.prog 22 = some ty22 := by kernel_rfl
def ty23 : TyE := ⟨Ty.slice 38 8, 1, false, Value.slice Option.none 0 0⟩
theorem ty23_ok : Q5 Tryz.prog 23 = some ty23 := by kernel_rfl
def ty25 : TyE := ⟨Ty.strct [(0, 1, 0), (1, 1, 0), (2, 1, 0), (3, 1, 0), (4, 1, 0), (5, 1, 0)], 6, true, Value.agg #[.int .i64 0, .int .i64 0, .int .i64 0, .int .i64 0, .int .i64 0, .int .i64 0]⟩
theorem ty25_ok : Q5 Tryz.prog 25 = some ty25 := by kernel_rfl
def ty27 : TyE := ⟨Ty.arr 6 1, 6, true, Value.agg #[.int .i64 0, .int .i64 0, .int .i64 0, .int .i64 0, .int .i64 0, .int .i64 0]⟩
theorem ty27_ok : Q5 Tryz.prog 27 = some ty27 := by kernel_rfl
def ty29 : TyE := ⟨Ty.strct [(0, 1, 0), (1, 1, 0), (2, 1, 0)], 3, true, Value.agg #[.int .i64 0, .int .i64 0, .int .i64 0]⟩
theorem ty29_ok : Q5 Tryz.prog 29 = some ty29 := by kernel_rfl
def ty30 : TyE := ⟨Ty.int IntKind.u64, 1, false, .int .u64 0⟩
theorem ty30_ok : Q5 Tryz.prog 30 = some ty30 := by kernel_rfl
def ty32 : TyE := ⟨Ty.strct [(0, 6, 1), (6, 6, 1), (12, 3, 1), (15, 1, 0), (16, 1, 0), (17, 1, 0), (18, 1, 0), (19, 1, 0), (20, 1, 0), (21, 1, 0)], 22, true, Value.agg #[.int .i64 0, .int .i64 0, .int .i64 0, .int .i64 0, .int .i64 0, .int .i64 0, .int .i64 0, .int .i64 0, .int .i64 0, .int .i64 0, .int .i64 0, .int .i64 0, .int .i64 0, .int .i64 0, .int .i64 0, .int .i64 0, .int .i64 0, .int .i64 0, .int .i64 0, .string ⟨#[]⟩, .string ⟨#[]⟩, .int .u64 0]⟩
theorem ty32_ok : Q5 Tryz.prog 32 = some ty32 := by kernel_rfl
def ty36 : TyE := ⟨Ty.int IntKind.i64, 1, false, .int .i64 0⟩
theorem ty36_ok : Q5 Tryz.prog 36 = some ty36 := by kernel_rfl
def ty38 : TyE := ⟨Ty.strct [(0, 1, 0), (1, 1, 0), (2, 1, 0), (3, 1, 0), (4, 1, 0), (5, 1, 0), (6, 1, 0), (7, 1, 0)], 8, true, Value.agg #[.string ⟨#[]⟩, .int .i64 0, .int .i64 0, .int .i64 0, .string ⟨#[]⟩, .string ⟨#[]⟩, .int .i64 0, .string ⟨#[]⟩]⟩
theorem ty38_ok : Q5 Tryz.prog 38 = some ty38 := by kernel_rfl
def ty40 : TyE := ⟨Ty.strct [(0, 1, 0), (1, 1, 0), (2, 1, 0)], 3, true, Value.agg #[.int .i64 0, .int .i64 0, .int .i64 0]⟩
theorem ty40_ok : Q5 Tryz.prog 40 = some ty40 := by kernel_rfl
def ty41 : TyE := ⟨Ty.int IntKind.i64, 1, false, .int .i64 0⟩
theorem ty41_ok : Q5 Tryz.prog 41 = some ty41 := by kernel_rfl
def ty46 : TyE := ⟨Ty.slice 52 13, 1, false, Value.slice Option.none 0 0⟩
theorem ty46_ok : Q5 Tryz.prog 46 = some ty46 := by kernel_rfl
def ty48 : TyE := ⟨Ty.strct [(0, 22, 1), (22, 1, 0), (23, 1, 0)], 24, true, Value.agg #[.int .i64 0, .int .i64 0, .int .i64 0, .int .i64 0, .int .i64 0, .int .i64 0, .int .i64 0, .int .i64 0, .int .i64 0, .int .i64 0, .int .i64 0, .int .i64 0, .int .i64 0, .int .i64 0, .int .i64 0, .int .i64 0, .int .i64 0, .int .i64 0, .int .i64 0, .string ⟨#[]⟩, .string ⟨#[]⟩, .int .u64 0, Value.slice Option.none 0 0, .int .i64 0]⟩
theorem ty48_ok : Q5 Tryz.prog 48 = some ty48 := by kernel_rfl
def ty50 : TyE := ⟨Ty.int IntKind.i64, 1, false, .int .i64 0⟩
theorem ty50_ok : Q5 Tryz.prog 50 = some ty50 := by kernel_rfl
def ty52 : TyE := ⟨Ty.strct [(0, 1, 0), (1, 8, 1), (9, 1, 0), (10, 1, 0), (11, 1, 0), (12, 1, 0)], 13, true, Value.agg #[.int .i64 0, .string ⟨#[]⟩, .int .i64 0, .int .i64 0, .int .i64 0, .string ⟨#[]⟩, .string ⟨#[]⟩, .int .i64 0, .string ⟨#[]⟩, .string ⟨#[]⟩, .int .i64 0, .int .i64 0, .int .i64 0]⟩
theorem ty52_ok : Q5 Tryz.prog 52 = some ty52 := by kernel_rfl
def ty53 : TyE := ⟨Ty.other, 1, false, Value.pointer Option.none⟩
theorem ty53_ok : Q5 Tryz.prog 53 = some ty53 := by kernel_rfl
def ty58 : TyE := ⟨Ty.slice 62 3, 1, false, Value.slice Option.none 0 0⟩
theorem ty58_ok : Q5 Tryz.prog 58 = some ty58 := by kernel_rfl
def ty60 : TyE := ⟨Ty.slice 9 1, 1, false, Value.slice Option.none 0 0⟩
theorem ty60_ok : Q5 Tryz.prog 60 = some ty60 := by kernel_rfl
def ty62 : TyE := ⟨Ty.strct [(0, 1, 0), (1, 1, 0), (2, 1, 0)], 3, true, Value.agg #[.string ⟨#[]⟩, .int .i64 0, Value.slice Option.none 0 0]⟩
theorem ty62_ok : Q5 Tryz.prog 62 = some ty62 := by kernel_rfl
def ty64 : TyE := ⟨Ty.slice 130 5, 1, false, Value.slice Option.none 0 0⟩
theorem ty64_ok : Q5 Tryz.prog 64 = some ty64 := by kernel_rfl
def ty65 : TyE := ⟨Ty.slice 4 1, 1, false, Value.slice Option.none 0 0⟩
theorem ty65_ok : Q5 Tryz.prog 65 = some ty65 := by kernel_rfl
def ty67 : TyE := ⟨Ty.strct [(0, 1, 0), (1, 1, 0), (2, 1, 0), (3, 1, 0)], 4, true, Value.agg #[Value.slice Option.none 0 0, Value.slice Option.none 0 0, Value.slice Option.none 0 0, .int .i64 0]⟩
theorem ty67_ok : Q5 Tryz.prog 67 = some ty67 := by kernel_rfl
def ty71 : TyE := ⟨Ty.strct [(0, 1, 0), (1, 1, 0)], 2, true, Value.agg #[.int .i64 0, .int .i64 0]⟩
theorem ty71_ok : Q5 Tryz.prog 71 = some ty71 := by kernel_rfl
def ty77 : TyE := ⟨Ty.arr 8 1, 8, true, Value.agg #[.int .i64 0, .int .i64 0, .int .i64 0, .int .i64 0, .int .i64 0, .int .i64 0, .int .i64 0, .int .i64 0]⟩
theorem ty77_ok : Q5 Tryz.prog 77 = some ty77 := by kernel_rfl
def ty79 : TyE := ⟨Ty.map 9 3, 1, false, Value.map Option.none⟩
theorem ty79_ok : Q5 Tryz.prog 79 = some ty79 := by kernel_rfl
def ty80 : TyE := ⟨Ty.arr 5 1, 5, true, Value.agg #[.int .i64 0, .int .i64 0, .int .i64 0, .int .i64 0, .int .i64 0]⟩
theorem ty80_ok : Q5 Tryz.prog 80 = some ty80 := by kernel_rfl
def ty83 : TyE := ⟨Ty.other, 1, false, Value.nilFunc⟩
theorem ty83_ok : Q5 Tryz.prog 83 = some ty83 := by kernel_rfl
def ty86 : TyE := ⟨Ty.map 116 4, 1, false, Value.map Option.none⟩
theorem ty86_ok : Q5 Tryz.prog 86 = some ty86 := by kernel_rfl
def ty87 : TyE := ⟨Ty.map 9 4, 1, false, Value.map Option.none⟩
theorem ty87_ok : Q5 Tryz.prog 87 = some ty87 := by kernel_rfl
def ty88 : TyE := ⟨Ty.other, 1, false, Value.pointer Option.none⟩
theorem ty88_ok : Q5 Tryz.prog 88 = some ty88 := by kernel_rfl
def ty89 : TyE := ⟨Ty.other, 1, false, Value.pointer Option.none⟩
theorem ty89_ok : Q5 Tryz.prog 89 = some ty89 := by kernel_rfl
def ty90 : TyE := ⟨Ty.other, 1, false, Value.pointer Option.none⟩
theorem ty90_ok : Q5 Tryz.prog 90 = some ty90 := by kernel_rfl
def ty91 : TyE := ⟨Ty.other, 1, false, Value.pointer Option.none⟩
theorem ty91_ok : Q5 Tryz.prog 91 = some ty91 := by kernel_rfl
def ty92 : TyE := ⟨Ty.other, 1, false, Value.pointer Option.none⟩
theorem ty92_ok : Q5 Tryz.prog 92 = some ty92 := by kernel_rfl
def ty93 : TyE := ⟨Ty.other, 1, false, Value.pointer Option.none⟩
theorem ty93_ok : Q5 Tryz.prog 93 = some ty93 := by kernel_rfl
def ty95 : TyE := ⟨Ty.strct [(0, 6, 1), (6, 1, 0), (7, 1, 0), (8, 8, 1), (16, 1, 0), (17, 1, 0), (18, 1, 0), (19, 1, 0), (20, 1, 0), (21, 1, 0), (22, 1, 0), (23, 1, 0)], 24, true, Value.agg #[.int .i64 0, .int .i64 0, .int .i64 0, .int .i64 0, .int .i64 0, .int .i64 0, Value.slice Option.none 0 0, Value.bool false, .string ⟨#[]⟩, .int .i64 0, .int .i64 0, .int .i64 0, .string ⟨#[]⟩, .string ⟨#[]⟩, .int .i64 0, .string ⟨#[]⟩, Value.map Option.none, Value.map Option.none, Value.pointer Option.none, Value.pointer Option.none, Value.pointer Option.none, Value.pointer Option.none, Value.pointer Option.none, Value.pointer Option.none]⟩
theorem ty95_ok : Q5 Tryz.prog 95 = some ty95 := by kernel_rfl
def ty97 : TyE := ⟨Ty.map 100 4, 1, false, Value.map Option.none⟩
theorem ty97_ok : Q5 Tryz.prog 97 = some ty97 := by kernel_rfl
def ty98 : TyE := ⟨Ty.map 102 60, 1, false, Value.map Option.none⟩
theorem ty98_ok : Q5 Tryz.prog 98 = some ty98 := by kernel_rfl
def ty100 : TyE := ⟨Ty.strct [(0, 1, 0), (1, 1, 0)], 2, true, Value.agg #[.string ⟨#[]⟩, .string ⟨#[]⟩]⟩
theorem ty100_ok : Q5 Tryz.prog 100 = some ty100 := by kernel_rfl
def ty102 : TyE := ⟨Ty.strct [(0, 1, 0), (1, 1, 0)], 2, true, Value.agg #[.string ⟨#[]⟩, .int .i64 0]⟩
theorem ty102_ok : Q5 Tryz.prog 102 = some ty102 := by kernel_rfl
def ty103 : TyE := ⟨Ty.slice 102 2, 1, false, Value.slice Option.none 0 0⟩
theorem ty103_ok : Q5 Tryz.prog 103 = some ty103 := by kernel_rfl
def ty106 : TyE := ⟨Ty.other, 1, false, Value.nilFunc⟩
theorem ty106_ok : Q5 Tryz.prog 106 = some ty106 := by kernel_rfl
def ty108 : TyE := ⟨Ty.other, 1, false, Value.nilFunc⟩
theorem ty108_ok : Q5 Tryz.prog 108 = some ty108 := by kernel_rfl
def ty109 : TyE := ⟨Ty.other, 1, false, Value.nilFunc⟩
theorem ty109_ok : Q5 Tryz.prog 109 = some ty109 := by kernel_rfl
def ty112 : TyE := ⟨Ty.other, 1, false, Value.nilFunc⟩
theorem ty112_ok : Q5 Tryz.prog 112 = some ty112 := by kernel_rfl
def ty114 : TyE := ⟨Ty.other, 1, false, Value.nilFunc⟩
theorem ty114_ok : Q5 Tryz.prog 114 = some ty114 := by kernel_rfl
def ty116 : TyE := ⟨Ty.strct [(0, 1, 0), (1, 1, 0)], 2, true, Value.agg #[.string ⟨#[]⟩, .int .i64 0]⟩
theorem ty116_ok : Q5 Tryz.prog 116 = some ty116 := by kernel_rfl
def ty119 : TyE := ⟨Ty.other, 1, false, Value.nilFunc⟩
theorem ty119_ok : Q5 Tryz.prog 119 = some ty119 := by kernel_rfl
def ty120 : TyE := ⟨Ty.slice 124 4, 1, false, Value.slice Option.none 0 0⟩
theorem ty120_ok : Q5 Tryz.prog 120 = some ty120 := by kernel_rfl
def ty124 : TyE := ⟨Ty.strct [(0, 1, 0), (1, 1, 0), (2, 1, 0), (3, 1, 0)], 4, true, Value.agg #[.string ⟨#[]⟩, .string ⟨#[]⟩, .string ⟨#[]⟩, .int .i64 0]⟩
theorem ty124_ok : Q5 Tryz.prog 124 = some ty124 := by kernel_rfl
def ty128 : TyE := ⟨Ty.slice 253 3, 1, false, Value.slice Option.none 0 0⟩
theorem ty128_ok : Q5 Tryz.prog 128 = some ty128 := by kernel_rfl
def ty130 : TyE := ⟨Ty.strct [(0, 1, 0), (1, 1, 0), (2, 1, 0), (3, 1, 0), (4, 1, 0)], 5, true, Value.agg #[.string ⟨#[]⟩, Value.slice Option.none 0 0, .int .i64 0, Value.slice Option.none 0 0, .int .i64 0]⟩
theorem ty130_ok : Q5 Tryz.prog 130 = some ty130 := by kernel_rfl
def ty133 : TyE := ⟨Ty.slice 3 1, 1, false, Value.slice Option.none 0 0⟩
theorem ty133_ok : Q5 Tryz.prog 133 = some ty133 := by kernel_rfl
def ty137 : TyE := ⟨Ty.other, 1, false, Value.nilFunc⟩
theorem ty137_ok : Q5 Tryz.prog 137 = some ty137 := by kernel_rfl
def ty138 : TyE := ⟨Ty.arr 13 1, 13, true, Value.agg #[.int .i64 0, .int .i64 0, .int .i64 0, .int .i64 0, .int .i64 0, .int .i64 0, .int .i64 0, .int .i64 0, .int .i64 0, .int .i64 0, .int .i64 0, .int .i64 0, .int .i64 0]⟩
theorem ty138_ok : Q5 Tryz.prog 138 = some ty138 := by kernel_rfl
def ty139 : TyE := ⟨Ty.map 116 38, 1, false, Value.map Option.none⟩
theorem ty139_ok : Q5 Tryz.prog 139 = some ty139 := by kernel_rfl
def ty156 : TyE := ⟨Ty.other, 1, false, Value.pointer Option.none⟩
theorem ty156_ok : Q5 Tryz.prog 156 = some ty156 := by kernel_rfl
def ty159 : TyE := ⟨Ty.slice 163 2, 1, false, Value.slice Option.none 0 0⟩
theorem ty159_ok : Q5 Tryz.prog 159 = some ty159 := by kernel_rfl
def ty161 : TyE := ⟨Ty.slice 238 1, 1, false, Value.slice Option.none 0 0⟩
theorem ty161_ok : Q5 Tryz.prog 161 = some ty161 := by kernel_rfl
def ty163 : TyE := ⟨Ty.strct [(0, 1, 0), (1, 1, 0)], 2, true, Value.agg #[.string ⟨#[]⟩, Value.slice Option.none 0 0]⟩
theorem ty163_ok : Q5 Tryz.prog 163 = some ty163 := by kernel_rfl
def ty164 : TyE := ⟨Ty.int IntKind.i64, 1, false, .int .i64 0⟩
theorem ty164_ok : Q5 Tryz.prog 164 = some ty164 := by kernel_rfl
def ty167 : TyE := ⟨Ty.strct [(0, 1, 0), (1, 1, 0), (2, 1, 0), (3, 1, 0), (4, 1, 0), (5, 1, 0), (6, 1, 0)], 7, true, Value.agg #[.string ⟨#[]⟩, .string ⟨#[]⟩, .string ⟨#[]⟩, .int .i64 0, .int .i64 0, .int .i64 0, Value.bool false]⟩
theorem ty167_ok : Q5 Tryz.prog 167 = some ty167 := by kernel_rfl
def ty172 : TyE := ⟨Ty.map 174 3, 1, false, Value.map Option.none⟩
theorem ty172_ok : Q5 Tryz.prog 172 = some ty172 := by kernel_rfl
def ty174 : TyE := ⟨Ty.strct [(0, 1, 0), (1, 1, 0)], 2, true, Value.agg #[Value.bool false, .string ⟨#[]⟩]⟩
theorem ty174_ok : Q5 Tryz.prog 174 = some ty174 := by kernel_rfl
def ty175 : TyE := ⟨Ty.other, 1, false, Value.nilFunc⟩
theorem ty175_ok : Q5 Tryz.prog 175 = some ty175 := by kernel_rfl
def ty177 : TyE := ⟨Ty.slice 174 2, 1, false, Value.slice Option.none 0 0⟩
theorem ty177_ok : Q5 Tryz.prog 177 = some ty177 := by kernel_rfl
def ty183 : TyE := ⟨Ty.int IntKind.u64, 1, false, .int .u64 0⟩
theorem ty183_ok : Q5 Tryz.prog 183 = some ty183 := by kernel_rfl
def ty188 : TyE := ⟨Ty.arr 2 1, 2, true, Value.agg #[.int .u64 0, .int .u64 0]⟩
theorem ty188_ok : Q5 Tryz.prog 188 = some ty188 := by kernel_rfl
def ty189 : TyE := ⟨Ty.arr 3 1, 3, true, Value.agg #[Value.bool false, Value.bool false, Value.bool false]⟩
theorem ty189_ok : Q5 Tryz.prog 189 = some ty189 := by kernel_rfl
def ty194 : TyE := ⟨Ty.arr 15 1, 15, true, Value.agg #[.string ⟨#[]⟩, .string ⟨#[]⟩, .string ⟨#[]⟩, .string ⟨#[]⟩, .string ⟨#[]⟩, .string ⟨#[]⟩, .string ⟨#[]⟩, .string ⟨#[]⟩, .string ⟨#[]⟩, .string ⟨#[]⟩, .string ⟨#[]⟩, .string ⟨#[]⟩, .string ⟨#[]⟩, .string ⟨#[]⟩, .string ⟨#[]⟩]⟩
theorem ty194_ok : Q5 Tryz.prog 194 = some ty194 := by kernel_rfl
def ty200 : TyE := ⟨Ty.map 9 246, 1, false, Value.map Option.none⟩
theorem ty200_ok : Q5 Tryz.prog 200 = some ty200 := by kernel_rfl
def ty202 : TyE := ⟨Ty.strct [(0, 1, 0), (1, 8, 1), (9, 1, 0)], 10, true, Value.agg #[Value.bool false, .string ⟨#[]⟩, .int .i64 0, .int .i64 0, .int .i64 0, .string ⟨#[]⟩, .string ⟨#[]⟩, .int .i64 0, .string ⟨#[]⟩, Value.map Option.none]⟩
theorem ty202_ok : Q5 Tryz.prog 202 = some ty202 := by kernel_rfl
def ty203 : TyE := ⟨Ty.map 9 283, 1, false, Value.map Option.none⟩
theorem ty203_ok : Q5 Tryz.prog 203 = some ty203 := by kernel_rfl
def ty204 : TyE := ⟨Ty.map 313 4, 1, false, Value.map Option.none⟩
theorem ty204_ok : Q5 Tryz.prog 204 = some ty204 := by kernel_rfl
def ty205 : TyE := ⟨Ty.map 313 3, 1, false, Value.map Option.none⟩
theorem ty205_ok : Q5 Tryz.prog 205 = some ty205 := by kernel_rfl
def ty207 : TyE := ⟨Ty.strct [(0, 1, 0), (1, 1, 0), (2, 8, 1), (10, 1, 0), (11, 1, 0), (12, 1, 0), (13, 1, 0), (14, 1, 0), (15, 1, 0), (16, 1, 0), (17, 1, 0)], 18, true, Value.agg #[.int .i64 0, .int .i64 0, .string ⟨#[]⟩, .int .i64 0, .int .i64 0, .int .i64 0, .string ⟨#[]⟩, .string ⟨#[]⟩, .int .i64 0, .string ⟨#[]⟩, Value.map Option.none, Value.map Option.none, Value.map Option.none, Value.map Option.none, Value.map Option.none, Value.map Option.none, Value.map Option.none, Value.map Option.none]⟩
theorem ty207_ok : Q5 Tryz.prog 207 = some ty207 := by kernel_rfl
def ty208 : TyE := ⟨Ty.map 9 338, 1, false, Value.map Option.none⟩
theorem ty208_ok : Q5 Tryz.prog 208 = some ty208 := by kernel_rfl
def ty210 : TyE := ⟨Ty.strct [(0, 1, 0), (1, 1, 0), (2, 1, 0)], 3, true, Value.agg #[.int .i64 0, .int .i64 0, Value.map Option.none]⟩
theorem ty210_ok : Q5 Tryz.prog 210 = some ty210 := by kernel_rfl
def ty211 : TyE := ⟨Ty.map 287 2, 1, false, Value.map Option.none⟩
theorem ty211_ok : Q5 Tryz.prog 211 = some ty211 := by kernel_rfl
def ty212 : TyE := ⟨Ty.map 9 133, 1, false, Value.map Option.none⟩
theorem ty212_ok : Q5 Tryz.prog 212 = some ty212 := by kernel_rfl
def ty214 : TyE := ⟨Ty.strct [(0, 1, 0), (1, 1, 0), (2, 1, 0), (3, 1, 0)], 4, true, Value.agg #[.int .i64 0, .int .i64 0, Value.map Option.none, Value.map Option.none]⟩
theorem ty214_ok : Q5 Tryz.prog 214 = some ty214 := by kernel_rfl
def ty215 : TyE := ⟨Ty.map 9 288, 1, false, Value.map Option.none⟩
theorem ty215_ok : Q5 Tryz.prog 215 = some ty215 := by kernel_rfl
def ty217 : TyE := ⟨Ty.strct [(0, 1, 0), (1, 1, 0)], 2, true, Value.agg #[.int .i64 0, Value.map Option.none]⟩
theorem ty217_ok : Q5 Tryz.prog 217 = some ty217 := by kernel_rfl
def ty224 : TyE := ⟨Ty.other, 1, false, Value.pointer Option.none⟩
theorem ty224_ok : Q5 Tryz.prog 224 = some ty224 := by kernel_rfl
def ty225 : TyE := ⟨Ty.slice 306 2, 1, false, Value.slice Option.none 0 0⟩
theorem ty225_ok : Q5 Tryz.prog 225 = some ty225 := by kernel_rfl
def ty228 : TyE := ⟨Ty.strct [(0, 1, 0), (1, 1, 0), (2, 1, 0), (3, 1, 0), (4, 1, 0)], 5, true, Value.agg #[Value.slice Option.none 0 0, .int .i64 0, .int .i64 0, Value.bool false, .int .i64 0]⟩
theorem ty228_ok : Q5 Tryz.prog 228 = some ty228 := by kernel_rfl
def ty230 : TyE := ⟨Ty.other, 1, false, Value.nilIface⟩
theorem ty230_ok : Q5 Tryz.prog 230 = some ty230 := by kernel_rfl
def ty232 : TyE := ⟨Ty.strct [(0, 1, 0)], 1, true, Value.agg #[Value.nilIface]⟩
theorem ty232_ok : Q5 Tryz.prog 232 = some ty232 := by kernel_rfl
def ty234 : TyE := ⟨Ty.map 9 161, 1, false, Value.map Option.none⟩
theorem ty234_ok : Q5 Tryz.prog 234 = some ty234 := by kernel_rfl
def ty235 : TyE := ⟨Ty.slice 311 2, 1, false, Value.slice Option.none 0 0⟩
theorem ty235_ok : Q5 Tryz.prog 235 = some ty235 := by kernel_rfl
def ty238 : TyE := ⟨Ty.int IntKind.i64, 1, false, .int .i64 0⟩
theorem ty238_ok : Q5 Tryz.prog 238 = some ty238 := by kernel_rfl
def ty241 : TyE := ⟨Ty.strct [(0, 7, 1), (7, 1, 0), (8, 1, 0), (9, 1, 0), (10, 1, 0), (11, 1, 0)], 12, true, Value.agg #[.string ⟨#[]⟩, .string ⟨#[]⟩, .string ⟨#[]⟩, .int .i64 0, .int .i64 0, .int .i64 0, Value.bool false, .int .i64 0, .int .i64 0, .int .i64 0, Value.bool false, Value.bool false]⟩
theorem ty241_ok : Q5 Tryz.prog 241 = some ty241 := by kernel_rfl
def ty245 : TyE := ⟨Ty.arr 6 1, 6, true, Value.agg #[Value.nilFunc, Value.nilFunc, Value.nilFunc, Value.nilFunc, Value.nilFunc, Value.nilFunc]⟩
theorem ty245_ok : Q5 Tryz.prog 245 = some ty245 := by kernel_rfl
def ty246 : TyE := ⟨Ty.slice 249 9, 1, false, Value.slice Option.none 0 0⟩
theorem ty246_ok : Q5 Tryz.prog 246 = some ty246 := by kernel_rfl
def ty249 : TyE := ⟨Ty.strct [(0, 1, 0), (1, 1, 0), (2, 7, 1)], 9, true, Value.agg #[.int .i64 0, Value.bool false, .string ⟨#[]⟩, .string ⟨#[]⟩, .string ⟨#[]⟩, .int .i64 0, .int .i64 0, .int .i64 0, Value.bool false]⟩
theorem ty249_ok : Q5 Tryz.prog 249 = some ty249 := by kernel_rfl
def ty251 : TyE := ⟨Ty.int IntKind.i64, 1, false, .int .i64 0⟩
theorem ty251_ok : Q5 Tryz.prog 251 = some ty251 := by kernel_rfl
def ty253 : TyE := ⟨Ty.strct [(0, 1, 0), (1, 1, 0), (2, 1, 0)], 3, true, Value.agg #[.int .i64 0, .int .i64 0, .int .i64 0]⟩
theorem ty253_ok : Q5 Tryz.prog 253 = some ty253 := by kernel_rfl
def ty256 : TyE := ⟨Ty.other, 1, false, Value.nilFunc⟩
theorem ty256_ok : Q5 Tryz.prog 256 = some ty256 := by kernel_rfl
def ty265 : TyE := ⟨Ty.other, 1, false, Value.nilFunc⟩
theorem ty265_ok : Q5 Tryz.prog 265 = some ty265 := by kernel_rfl
def ty269 : TyE := ⟨Ty.arr 11 1, 11, true, Value.agg #[Value.nilFunc, Value.nilFunc, Value.nilFunc, Value.nilFunc, Value.nilFunc, Value.nilFunc, Value.nilFunc, Value.nilFunc, Value.nilFunc, Value.nilFunc, Value.nilFunc]⟩
theorem ty269_ok : Q5 Tryz.prog 269 = some ty269 := by kernel_rfl
def ty271 : TyE := ⟨Ty.other, 1, false, Value.pointer Option.none⟩
theorem ty271_ok : Q5 Tryz.prog 271 = some ty271 := by kernel_rfl
def ty273 : TyE := ⟨Ty.strct [(0, 1, 0), (1, 1, 0)], 2, true, Value.agg #[Value.pointer Option.none, Value.slice Option.none 0 0]⟩
theorem ty273_ok : Q5 Tryz.prog 273 = some ty273 := by kernel_rfl
def ty276 : TyE := ⟨Ty.other, 1, false, Value.nilIface⟩
theorem ty276_ok : Q5 Tryz.prog 276 = some ty276 := by kernel_rfl
def ty282 : TyE := ⟨Ty.strct [(0, 8, 1), (8, 1, 0)], 9, true, Value.agg #[.string ⟨#[]⟩, .int .i64 0, .int .i64 0, .int .i64 0, .string ⟨#[]⟩, .string ⟨#[]⟩, .int .i64 0, .string ⟨#[]⟩, Value.slice Option.none 0 0]⟩
theorem ty282_ok : Q5 Tryz.prog 282 = some ty282 := by kernel_rfl
def ty283 : TyE := ⟨Ty.slice 282 9, 1, false, Value.slice Option.none 0 0⟩
theorem ty283_ok : Q5 Tryz.prog 283 = some ty283 := by kernel_rfl
def ty287 : TyE := ⟨Ty.strct [(0, 1, 0), (1, 1, 0)], 2, true, Value.agg #[.string ⟨#[]⟩, .int .i64 0]⟩
theorem ty287_ok : Q5 Tryz.prog 287 = some ty287 := by kernel_rfl
def ty288 : TyE := ⟨Ty.map 3 87, 1, false, Value.map Option.none⟩
theorem ty288_ok : Q5 Tryz.prog 288 = some ty288 := by kernel_rfl
def ty290 : TyE := ⟨Ty.int IntKind.i64, 1, false, .int .i64 0⟩
theorem ty290_ok : Q5 Tryz.prog 290 = some ty290 := by kernel_rfl
def ty298 : TyE := ⟨Ty.int IntKind.u32, 1, false, .int .u32 0⟩
theorem ty298_ok : Q5 Tryz.prog 298 = some ty298 := by kernel_rfl
def ty306 : TyE := ⟨Ty.strct [(0, 1, 0), (1, 1, 0)], 2, true, Value.agg #[.string ⟨#[]⟩, .int .i64 0]⟩
theorem ty306_ok : Q5 Tryz.prog 306 = some ty306 := by kernel_rfl
def ty307 : TyE := ⟨Ty.slice 230 1, 1, false, Value.slice Option.none 0 0⟩
theorem ty307_ok : Q5 Tryz.prog 307 = some ty307 := by kernel_rfl
def ty309 : TyE := ⟨Ty.other, 1, false, Value.nilFunc⟩
theorem ty309_ok : Q5 Tryz.prog 309 = some ty309 := by kernel_rfl
def ty311 : TyE := ⟨Ty.strct [(0, 1, 0), (1, 1, 0)], 2, true, Value.agg #[.string ⟨#[]⟩, Value.nilFunc]⟩
theorem ty311_ok : Q5 Tryz.prog 311 = some ty311 := by kernel_rfl
def ty313 : TyE := ⟨Ty.strct [(0, 1, 0), (1, 1, 0)], 2, true, Value.agg #[.string ⟨#[]⟩, .string ⟨#[]⟩]⟩
theorem ty313_ok : Q5 Tryz.prog 313 = some ty313 := by kernel_rfl
def ty316 : TyE := ⟨Ty.other, 1, false, Value.nilFunc⟩
theorem ty316_ok : Q5 Tryz.prog 316 = some ty316 := by kernel_rfl
def ty317 : TyE := ⟨Ty.arr 6 1, 6, true, Value.agg #[Value.nilFunc, Value.nilFunc, Value.nilFunc, Value.nilFunc, Value.nilFunc, Value.nilFunc]⟩
theorem ty317_ok : Q5 Tryz.prog 317 = some ty317 := by kernel_rfl
def ty325 : TyE := ⟨Ty.arr 24 1, 24, true, Value.agg (List.replicate 24 (.int .u8 0)).toArray⟩
theorem ty325_ok : Q5 Tryz.prog 325 = some ty325 := by kernel_rfl
def ty330 : TyE := ⟨Ty.slice 396 4, 1, false, Value.slice Option.none 0 0⟩
theorem ty330_ok : Q5 Tryz.prog 330 = some ty330 := by kernel_rfl
def ty335 : TyE := ⟨Ty.other, 1, false, Value.pointer Option.none⟩
theorem ty335_ok : Q5 Tryz.prog 335 = some ty335 := by kernel_rfl
def ty338 : TyE := ⟨Ty.map 3 2, 1, false, Value.map Option.none⟩
theorem ty338_ok : Q5 Tryz.prog 338 = some ty338 := by kernel_rfl
def ty339 : TyE := ⟨Ty.int IntKind.u64, 1, false, .int .u64 0⟩
theorem ty339_ok : Q5 Tryz.prog 339 = some ty339 := by kernel_rfl
def ty343 : TyE := ⟨Ty.other, 1, false, Value.pointer Option.none⟩
theorem ty343_ok : Q5 Tryz.prog 343 = some ty343 := by kernel_rfl
def ty349 : TyE := ⟨Ty.arr 256 1, 256, true, Value.agg (([Value.bool false, Value.bool false, Value.bool false, Value.bool false, Value.bool false, Value.bool false, Value.bool false, Value.bool false, Value.bool false, Value.bool false, Value.bool false, Value.bool false, Value.bool false, Value.bool false, Value.bool false, Value.bool false, Value.bool false, Value.bool false, Value.bool false, Value.bool false, Value.bool false, Value.bool false, Value.bool false, Value.bool false, Value.bool false, Value.bool false, Value.bool false, Value.bool false, Value.bool false, Value.bool false, Value.bool false, Value.bool false, Value.bool false, Value.bool false, Value.bool false, Value.bool false, Value.bool false, Value.bool false, Value.bool false, Value.bool false, Value.bool false, Value.bool false, Value.bool false, Value.bool false, Value.bool false, Value.bool false, Value.bool false, Value.bool false, Value.bool false, Value.bool false, Value.bool false, Value.bool false, Value.bool false, Value.bool false, Value.bool false, Value.bool false, Value.bool false, Value.bool false, Value.bool false, Value.bool false, Value.bool false, Value.bool false, Value.bool false, Value.bool false].append [Value.bool false, Value.bool false, Value.bool false, Value.bool false, Value.bool false, Value.bool false, Value.bool false, Value.bool false, Value.bool false, Value.bool false, Value.bool false, Value.bool false, Value.bool false, Value.bool false, Value.bool false, Value.bool false, Value.bool false, Value.bool false, Value.bool false, Value.bool false, Value.bool false, Value.bool false, Value.bool false, Value.bool false, Value.bool false, Value.bool false, Value.bool false, Value.bool false, Value.bool false, Value.bool false, Value.bool false, Value.bool false, Value.bool false, Value.bool false, Value.bool false, Value.bool false, Value.bool false, Value.bool false, Value.bool false, Value.bool false, Value.bool false, Value.bool false, Value.bool false, Value.bool false, Value.bool false, Value.bool false, Value.bool false, Value.bool false, Value.bool false, Value.bool false, Value.bool false, Value.bool false, Value.bool false, Value.bool false, Value.bool false, Value.bool false, Value.bool false, Value.bool false, Value.bool false, Value.bool false, Value.bool false, Value.bool false, Value.bool false, Value.bool false]).append ([Value.bool false, Value.bool false, Value.bool false, Value.bool false, Value.bool false, Value.bool false, Value.bool false, Value.bool false, Value.bool false, Value.bool false, Value.bool false, Value.bool false, Value.bool false, Value.bool false, Value.bool false, Value.bool false, Value.bool false, Value.bool false, Value.bool false, Value.bool false, Value.bool false, Value.bool false, Value.bool false, Value.bool false, Value.bool false, Value.bool false, Value.bool false, Value.bool false, Value.bool false, Value.bool false, Value.bool false, Value.bool false, Value.bool false, Value.bool false, Value.bool false, Value.bool false, Value.bool false, Value.bool false, Value.bool false, Value.bool false, Value.bool false, Value.bool false, Value.bool false, Value.bool false, Value.bool false, Value.bool false, Value.bool false, Value.bool false, Value.bool false, Value.bool false, Value.bool false, Value.bool false, Value.bool false, Value.bool false, Value.bool false, Value.bool false, Value.bool false, Value.bool false, Value.bool false, Value.bool false, Value.bool false, Value.bool false, Value.bool false, Value.bool false].append [Value.bool false, Value.bool false, Value.bool false, Value.bool false, Value.bool false, Value.bool false, Value.bool false, Value.bool false, Value.bool false, Value.bool false, Value.bool false, Value.bool false, Value.bool false, Value.bool false, Value.bool false, Value.bool false, Value.bool false, Value.bool false, Value.bool false, Value.bool false, Value.bool false, Value.bool false, Value.bool false, Value.bool false, Value.bool false, Value.bool false, Value.bool false, Value.bool false, Value.bool false, Value.bool false, Value.bool false, Value.bool false, Value.bool false, Value.bool false, Value.bool false, Value.bool false, Value.bool false, Value.bool false, Value.bool false, Value.bool false, Value.bool false, Value.bool false, Value.bool false, Value.bool false, Value.bool false, Value.bool false, Value.bool false, Value.bool false, Value.bool false, Value.bool false, Value.bool false, Value.bool false, Value.bool false, Value.bool false, Value.bool false, Value.bool false, Value.bool false, Value.bool false, Value.bool false, Value.bool false, Value.bool false, Value.bool false, Value.bool false, Value.bool false])).toArray⟩
theorem ty349_ok : Q5 Tryz.prog 349 = some ty349 := by kernel_rfl
def ty354 : TyE := ⟨Ty.strct [(0, 1, 0)], 1, true, Value.agg #[Value.slice Option.none 0 0]⟩
theorem ty354_ok : Q5 Tryz.prog 354 = some ty354 := by kernel_rfl
def ty356 : TyE := ⟨Ty.slice 360 2, 1, false, Value.slice Option.none 0 0⟩
theorem ty356_ok : Q5 Tryz.prog 356 = some ty356 := by kernel_rfl
def ty360 : TyE := ⟨Ty.strct [(0, 1, 0), (1, 1, 0)], 2, true, Value.agg #[.string ⟨#[]⟩, .int .i64 0]⟩
theorem ty360_ok : Q5 Tryz.prog 360 = some ty360 := by kernel_rfl
def ty361 : TyE := ⟨Ty.slice 365 3, 1, false, Value.slice Option.none 0 0⟩
theorem ty361_ok : Q5 Tryz.prog 361 = some ty361 := by kernel_rfl
def ty365 : TyE := ⟨Ty.strct [(0, 1, 0), (1, 1, 0), (2, 1, 0)], 3, true, Value.agg #[.string ⟨#[]⟩, .int .i64 0, .int .i64 0]⟩
theorem ty365_ok : Q5 Tryz.prog 365 = some ty365 := by kernel_rfl
def ty367 : TyE := ⟨Ty.slice 370 3, 1, false, Value.slice Option.none 0 0⟩
theorem ty367_ok : Q5 Tryz.prog 367 = some ty367 := by kernel_rfl
def ty370 : TyE := ⟨Ty.strct [(0, 1, 0), (1, 2, 1)], 3, true, Value.agg #[.string ⟨#[]⟩, .int .i64 0, .int .i64 0]⟩
theorem ty370_ok : Q5 Tryz.prog 370 = some ty370 := by kernel_rfl
def ty373 : TyE := ⟨Ty.other, 1, false, Value.nilFunc⟩
theorem ty373_ok : Q5 Tryz.prog 373 = some ty373 := by kernel_rfl
def ty374 : TyE := ⟨Ty.map 9 2, 1, false, Value.map Option.none⟩
theorem ty374_ok : Q5 Tryz.prog 374 = some ty374 := by kernel_rfl
def ty377 : TyE := ⟨Ty.other, 1, false, Value.nilFunc⟩
theorem ty377_ok : Q5 Tryz.prog 377 = some ty377 := by kernel_rfl
def ty393 : TyE := ⟨Ty.arr 20 1, 20, true, Value.agg #[.int .u64 0, .int .u64 0, .int .u64 0, .int .u64 0, .int .u64 0, .int .u64 0, .int .u64 0, .int .u64 0, .int .u64 0, .int .u64 0, .int .u64 0, .int .u64 0, .int .u64 0, .int .u64 0, .int .u64 0, .int .u64 0, .int .u64 0, .int .u64 0, .int .u64 0, .int .u64 0]⟩
theorem ty393_ok : Q5 Tryz.prog 393 = some ty393 := by kernel_rfl
def ty394 : TyE := ⟨Ty.arr 65 1, 65, true, Value.agg ((List.replicate 32 (.int .u8 0)).append (List.replicate 33 (.int .u8 0))).toArray⟩
theorem ty394_ok : Q5 Tryz.prog 394 = some ty394 := by kernel_rfl
def ty396 : TyE := ⟨Ty.strct [(0, 1, 0), (1, 1, 0), (2, 1, 0), (3, 1, 0)], 4, true, Value.agg #[.string ⟨#[]⟩, .int .i64 0, .int .i64 0, Value.slice Option.none 0 0]⟩
theorem ty396_ok : Q5 Tryz.prog 396 = some ty396 := by kernel_rfl
def ty400 : TyE := ⟨Ty.other, 1, false, Value.pointer Option.none⟩
theorem ty400_ok : Q5 Tryz.prog 400 = some ty400 := by kernel_rfl
def ty403 : TyE := ⟨Ty.strct [(0, 1, 0), (1, 1, 0)], 2, true, Value.agg #[Value.pointer Option.none, Value.bool false]⟩
theorem ty403_ok : Q5 Tryz.prog 403 = some ty403 := by kernel_rfl
def ty404 : TyE := ⟨Ty.map 9 79, 1, false, Value.map Option.none⟩
theorem ty404_ok : Q5 Tryz.prog 404 = some ty404 := by kernel_rfl
def ty406 : TyE := ⟨Ty.strct [(0, 1, 0), (1, 1, 0)], 2, true, Value.agg #[Value.map Option.none, Value.map Option.none]⟩
theorem ty406_ok : Q5 Tryz.prog 406 = some ty406 := by kernel_rfl
def ty411 : TyE := ⟨Ty.other, 1, false, Value.pointer Option.none⟩
theorem ty411_ok : Q5 Tryz.prog 411 = some ty411 := by kernel_rfl
def ty422 : TyE := ⟨Ty.strct [(0, 1, 0)], 1, true, Value.agg #[Value.nilIface]⟩
theorem ty422_ok : Q5 Tryz.prog 422 = some ty422 := by kernel_rfl
def ty423 : TyE := ⟨Ty.strct [(0, 1, 0)], 1, true, Value.agg #[Value.slice Option.none 0 0]⟩
theorem ty423_ok : Q5 Tryz.prog 423 = some ty423 := by kernel_rfl
def ty428 : TyE := ⟨Ty.other, 1, false, Value.nilFunc⟩
theorem ty428_ok : Q5 Tryz.prog 428 = some ty428 := by kernel_rfl
def ty432 : TyE := ⟨Ty.map 9 71, 1, false, Value.map Option.none⟩
theorem ty432_ok : Q5 Tryz.prog 432 = some ty432 := by kernel_rfl
def ty437 : TyE := ⟨Ty.slice 167 7, 1, false, Value.slice Option.none 0 0⟩
theorem ty437_ok : Q5 Tryz.prog 437 = some ty437 := by kernel_rfl
def ty440 : TyE := ⟨Ty.other, 1, false, Value.nilFunc⟩
theorem ty440_ok : Q5 Tryz.prog 440 = some ty440 := by kernel_rfl
def ty467 : TyE := ⟨Ty.other, 1, false, Value.nilFunc⟩
theorem ty467_ok : Q5 Tryz.prog 467 = some ty467 := by kernel_rfl
def ty469 : TyE := ⟨Ty.other, 1, false, Value.nilFunc⟩
theorem ty469_ok : Q5 Tryz.prog 469 = some ty469 := by kernel_rfl
def ty476 : TyE := ⟨Ty.arr 32 1, 32, true, Value.agg (List.replicate 32 (.int .u8 0)).toArray⟩
theorem ty476_ok : Q5 Tryz.prog 476 = some ty476 := by kernel_rfl
def ty477 : TyE := ⟨Ty.arr 64 1, 64, true, Value.agg (List.replicate 64 (.int .u8 0)).toArray⟩
theorem ty477_ok : Q5 Tryz.prog 477 = some ty477 := by kernel_rfl
def ty480 : TyE := ⟨Ty.other, 1, false, Value.nilFunc⟩
theorem ty480_ok : Q5 Tryz.prog 480 = some ty480 := by kernel_rfl
def ty485 : TyE := ⟨Ty.strct [(0, 1, 0)], 1, true, Value.agg #[.string ⟨#[]⟩]⟩
theorem ty485_ok : Q5 Tryz.prog 485 = some ty485 := by kernel_rfl
def ty487 : TyE := ⟨Ty.strct [(0, 1, 0), (1, 1, 0)], 2, true, Value.agg #[.string ⟨#[]⟩, .string ⟨#[]⟩]⟩
theorem ty487_ok : Q5 Tryz.prog 487 = some ty487 := by kernel_rfl
def ty489 : TyE := ⟨Ty.strct [(0, 1, 0), (1, 1, 0), (2, 1, 0)], 3, true, Value.agg #[.string ⟨#[]⟩, Value.bool false, .int .i64 0]⟩
theorem ty489_ok : Q5 Tryz.prog 489 = some ty489 := by kernel_rfl
def ty504 : TyE := ⟨Ty.arr 256 1, 256, true, Value.agg (((List.replicate 64 (.int .u8 0)).append (List.replicate 64 (.int .u8 0))).append ((List.replicate 64 (.int .u8 0)).append (List.replicate 64 (.int .u8 0)))).toArray⟩
theorem ty504_ok : Q5 Tryz.prog 504 = some ty504 := by kernel_rfl
def ty506 : TyE := ⟨Ty.strct [(0, 1, 0), (1, 1, 0)], 2, true, Value.agg #[.int .u8 0, .int .u8 0]⟩
theorem ty506_ok : Q5 Tryz.prog 506 = some ty506 := by kernel_rfl
def ty507 : TyE := ⟨Ty.arr 16 2, 32, true, Value.agg (List.replicate 32 (.int .u8 0)).toArray⟩
theorem ty507_ok : Q5 Tryz.prog 507 = some ty507 := by kernel_rfl
def ty548 : TyE := ⟨Ty.strct [(0, 1, 0), (1, 1, 0), (2, 1, 0)], 3, true, Value.agg #[.string ⟨#[]⟩, .string ⟨#[]⟩, Value.nilIface]⟩
theorem ty548_ok : Q5 Tryz.prog 548 = some ty548 := by kernel_rfl
def ty557 : TyE := ⟨Ty.strct [(0, 1, 0)], 1, true, Value.agg #[.string ⟨#[]⟩]⟩
theorem ty557_ok : Q5 Tryz.prog 557 = some ty557 := by kernel_rfl
def ty572 : TyE := ⟨Ty.other, 1, false, Value.nilFunc⟩
theorem ty572_ok : Q5 Tryz.prog 572 = some ty572 := by kernel_rfl
theorem by38 : (Tryz.prog.info? 38).map (·.bytes) = some 96 := by kernel_rfl
theorem by62 : (Tryz.prog.info? 62).map (·.bytes) = some 48 := by kernel_rfl
theorem by9 : (Tryz.prog.info? 9).map (·.bytes) = some 16 := by kernel_rfl
theorem by3 : (Tryz.prog.info? 3).map (·.bytes) = some 8 := by kernel_rfl
theorem by163 : (Tryz.prog.info? 163).map (·.bytes) = some 40 := by kernel_rfl
theorem by238 : (Tryz.prog.info? 238).map (·.bytes) = some 8 := by kernel_rfl
theorem by306 : (Tryz.prog.info? 306).map (·.bytes) = some 24 := by kernel_rfl
theorem by249 : (Tryz.prog.info? 249).map (·.bytes) = some 96 := by kernel_rfl
theorem by282 : (Tryz.prog.info? 282).map (·.bytes) = some 120 := by kernel_rfl
theorem by230 : (Tryz.prog.info? 230).map (·.bytes) = some 16 := by kernel_rfl
theorem by396 : (Tryz.prog.info? 396).map (·.bytes) = some 56 := by kernel_rfl
theorem by360 : (Tryz.prog.info? 360).map (·.bytes) = some 24 := by kernel_rfl
theorem by365 : (Tryz.prog.info? 365).map (·.bytes) = some 32 := by kernel_rfl
theorem by370 : (Tryz.prog.info? 370).map (·.bytes) = some 32 := by kernel_rfl
theorem by167 : (Tryz.prog.info? 167).map (·.bytes) = some 80 := by kernel_rfl
theorem st40 : Q6u Tryz.prog 40 [("Cases", 3, 0), ("Hits", 3, 1), ("Gain", 2, 2)] := ⟨by kernel_rfl, by kernel_rfl, by kernel_rfl, by kernel_rfl⟩
theorem st100 : Q6u Tryz.prog 100 [("person", 9, 0), ("item", 9, 1)] := ⟨by kernel_rfl, by kernel_rfl, by kernel_rfl, by kernel_rfl⟩
theorem st102 : Q6u Tryz.prog 102 [("person", 9, 0), ("number", 3, 1)] := ⟨by kernel_rfl, by kernel_rfl, by kernel_rfl, by kernel_rfl⟩
theorem st116 : Q6u Tryz.prog 116 [("source", 9, 0), ("number", 3, 1)] := ⟨by kernel_rfl, by kernel_rfl, by kernel_rfl, by kernel_rfl⟩
theorem st287 : Q6u Tryz.prog 287 [("key", 9, 0), ("pane", 3, 1)] := ⟨by kernel_rfl, by kernel_rfl, by kernel_rfl, by kernel_rfl⟩
theorem st313 : Q6u Tryz.prog 313 [("person", 9, 0), ("what", 9, 1)] := ⟨by kernel_rfl, by kernel_rfl, by kernel_rfl, by kernel_rfl⟩
def Tt : Tab := [(2, ty2), (3, ty3), (4, ty4), (5, ty5), (9, ty9), (20, ty20), (21, ty21), (22, ty22), (23, ty23), (25, ty25), (27, ty27), (29, ty29), (30, ty30), (32, ty32), (36, ty36), (38, ty38), (40, ty40), (41, ty41), (46, ty46), (48, ty48), (50, ty50), (52, ty52), (53, ty53), (58, ty58), (60, ty60), (62, ty62), (64, ty64), (65, ty65), (67, ty67), (71, ty71), (77, ty77), (79, ty79), (80, ty80), (83, ty83), (86, ty86), (87, ty87), (88, ty88), (89, ty89), (90, ty90), (91, ty91), (92, ty92), (93, ty93), (95, ty95), (97, ty97), (98, ty98), (100, ty100), (102, ty102), (103, ty103), (106, ty106), (108, ty108), (109, ty109), (112, ty112), (114, ty114), (116, ty116), (119, ty119), (120, ty120), (124, ty124), (128, ty128), (130, ty130), (133, ty133), (137, ty137), (138, ty138), (139, ty139), (156, ty156), (159, ty159), (161, ty161), (163, ty163), (164, ty164), (167, ty167), (172, ty172), (174, ty174), (175, ty175), (177, ty177), (183, ty183), (188, ty188), (189, ty189), (194, ty194), (200, ty200), (202, ty202), (203, ty203), (204, ty204), (205, ty205), (207, ty207), (208, ty208), (210, ty210), (211, ty211), (212, ty212), (214, ty214), (215, ty215), (217, ty217), (224, ty224), (225, ty225), (228, ty228), (230, ty230), (232, ty232), (234, ty234), (235, ty235), (238, ty238), (241, ty241), (245, ty245), (246, ty246), (249, ty249), (251, ty251), (253, ty253), (256, ty256), (265, ty265), (269, ty269), (271, ty271), (273, ty273), (276, ty276), (282, ty282), (283, ty283), (287, ty287), (288, ty288), (290, ty290), (298, ty298), (306, ty306), (307, ty307), (309, ty309), (311, ty311), (313, ty313), (316, ty316), (317, ty317), (325, ty325), (330, ty330), (335, ty335), (338, ty338), (339, ty339), (343, ty343), (349, ty349), (354, ty354), (356, ty356), (360, ty360), (361, ty361), (365, ty365), (367, ty367), (370, ty370), (373, ty373), (374, ty374), (377, ty377), (393, ty393), (394, ty394), (396, ty396), (400, ty400), (403, ty403), (404, ty404), (406, ty406), (411, ty411), (422, ty422), (423, ty423), (428, ty428), (432, ty432), (437, ty437), (440, ty440), (467, ty467), (469, ty469), (476, ty476), (477, ty477), (480, ty480), (485, ty485), (487, ty487), (489, ty489), (504, ty504), (506, ty506), (507, ty507), (548, ty548), (557, ty557), (572, ty572)]
theorem Qa : Qa7 Tryz.prog Tt := ⟨ty2_ok, ty3_ok, ty4_ok, ty5_ok, ty9_ok, ty20_ok, ty21_ok, ty22_ok, ty23_ok, ty25_ok, ty27_ok, ty29_ok, ty30_ok, ty32_ok, ty36_ok, ty38_ok, ty40_ok, ty41_ok, ty46_ok, ty48_ok, ty50_ok, ty52_ok, ty53_ok, ty58_ok, ty60_ok, ty62_ok, ty64_ok, ty65_ok, ty67_ok, ty71_ok, ty77_ok, ty79_ok, ty80_ok, ty83_ok, ty86_ok, ty87_ok, ty88_ok, ty89_ok, ty90_ok, ty91_ok, ty92_ok, ty93_ok, ty95_ok, ty97_ok, ty98_ok, ty100_ok, ty102_ok, ty103_ok, ty106_ok, ty108_ok, ty109_ok, ty112_ok, ty114_ok, ty116_ok, ty119_ok, ty120_ok, ty124_ok, ty128_ok, ty130_ok, ty133_ok, ty137_ok, ty138_ok, ty139_ok, ty156_ok, ty159_ok, ty161_ok, ty163_ok, ty164_ok, ty167_ok, ty172_ok, ty174_ok, ty175_ok, ty177_ok, ty183_ok, ty188_ok, ty189_ok, ty194_ok, ty200_ok, ty202_ok, ty203_ok, ty204_ok, ty205_ok, ty207_ok, ty208_ok, ty210_ok, ty211_ok, ty212_ok, ty214_ok, ty215_ok, ty217_ok, ty224_ok, ty225_ok, ty228_ok, ty230_ok, ty232_ok, ty234_ok, ty235_ok, ty238_ok, ty241_ok, ty245_ok, ty246_ok, ty249_ok, ty251_ok, ty253_ok, ty256_ok, ty265_ok, ty269_ok, ty271_ok, ty273_ok, ty276_ok, ty282_ok, ty283_ok, ty287_ok, ty288_ok, ty290_ok, ty298_ok, ty306_ok, ty307_ok, ty309_ok, ty311_ok, ty313_ok, ty316_ok, ty317_ok, ty325_ok, ty330_ok, ty335_ok, ty338_ok, ty339_ok, ty343_ok, ty349_ok, ty354_ok, ty356_ok, ty360_ok, ty361_ok, ty365_ok, ty367_ok, ty370_ok, ty373_ok, ty374_ok, ty377_ok, ty393_ok, ty394_ok, ty396_ok, ty400_ok, ty403_ok, ty404_ok, ty406_ok, ty411_ok, ty422_ok, ty423_ok, ty428_ok, ty432_ok, ty437_ok, ty440_ok, ty467_ok, ty469_ok, ty476_ok, ty477_ok, ty480_ok, ty485_ok, ty487_ok, ty489_ok, ty504_ok, ty506_ok, ty507_ok, ty548_ok, ty557_ok, ty572_ok, trivial⟩
theorem mixed : Tryz.prog.follows .mixedOrders = true := by kernel_rfl
theorem Dr {N : Nat} (cl : Cl) (A B : List Nat) {id : Nat} {ops : Array Oper} {Γ : Env} {w : World} {kn : KN} {ex : KE} {rt : KN} (h : Qd2 Tryz.prog Tt N cl ops.toList (Qf6 ops.toList A) Γ [] [] w.drew fun Γ' Δ' G' w' => Qd2 Tryz.prog Tt N .same ops.toList (Qf6 ops.toList B) Γ' Δ' G' w' fun Γ'' _ _ w'' => kn Γ'' w'') (hc : Q2q Tt ops A B = true := by kernel_rfl) (hs : cl = .same → A.all (fun i => match ops[i]? with | some o => still Tt o.op | none => true) = true := by first | (intro h; cases h; done) | (intro _; rfl)) : SemC Tryz.prog N (.region id ops true) Γ w kn ex rt := Qj cl A B Qa mixed hc hs h
theorem Sg {N : Nat} {x y : Code} {Γ : Env} {w : World} {kn : KN} {ex : KE} {rt : KN} (h : vc Tryz.prog Tt N x Γ w (fun Γ' w' => vc Tryz.prog Tt N y Γ' w' kn ex rt) ex rt) : SemC Tryz.prog N (.seq x y) Γ w kn ex rt := Qb Qa h
theorem Fi {N : Nat} {f : FuncId} {fn : Func} {body : Code} {args : List Value} {w : World} {R : Value → World → Prop} (hf : Tryz.prog.funcs[f]? = some fn) (hb : fn.body = some body) (rs : List ResultVar) (hrs : fn.results.toList = rs) (hN : fn.ntmps = N) (h : vc Tryz.prog Tt N body (Qow args) w (Xd2 Tt rs R) [] (Xd2 Tt rs R)) (hn : (fn.name == "runtime.NumGoroutine") = false := by rfl) (hargs : Nat.ble args.length N = true := by rfl) : Cal Tryz.prog f args w R := Qc Qa hf hn hb rs hrs hN hargs h
theorem Gg {p q : Prop} (h : q) (e : q → p := by intro h;(conv=>whnf);(repeat(refine Sg ?_;(conv=>whnf)));exact h) : p := e h
theorem Hh {p q : Prop} (h : q) (e : q → p := by intro h;(conv=>whnf);exact h) : p := e h
theorem Rr {p : Prop} (h : p := by (repeat (refine And.intro rfl ?_));exact trivial) : p := h
theorem Ix {a b c : Prop} (x : a := by rfl) (y : b := by omega) (z : c := by omega) : a ∧ b ∧ c := ⟨x, y, z⟩
end Go.Proofs.YtohkipkjleldpaaGreatDoor
