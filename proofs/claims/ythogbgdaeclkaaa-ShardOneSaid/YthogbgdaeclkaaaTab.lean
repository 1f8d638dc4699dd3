/- The table of the types that the seat's operations name, and that the program has them so. Written by a program (seat.py). -/
import Derived.Test.YthogbgdaeclkaaaRows
import Derived.Test.YthogbgdaeclkaaaSe5
set_option linter.unusedVariables false
set_option linter.unusedSimpArgs false
namespace Go.Proofs.Ythogbgdaeclkaaa
open Go.Se
def ty3 : TyE := ⟨Ty.int IntKind.i64, 1, Bool.false, Value.int IntKind.i64 0⟩
theorem ty3_ok : tyOf Try.prog 3 = some ty3 := by kernel_rfl
def ty5 : TyE := ⟨Ty.int IntKind.u8, 1, Bool.false, Value.int IntKind.u8 0⟩
theorem ty5_ok : tyOf Try.prog 5 = some ty5 := by kernel_rfl
def ty9 : TyE := ⟨Ty.str, 1, Bool.false, Value.string { data := #[] }⟩
theorem ty9_ok : tyOf Try.prog 9 = some ty9 := by kernel_rfl
def ty22 : TyE := ⟨Ty.slice 33 8, 1, Bool.false, Value.slice Option.none 0 0⟩
theorem ty22_ok : tyOf Try.prog 22 = some ty22 := by kernel_rfl
def ty25 : TyE := ⟨Ty.slice 22 1, 1, Bool.false, Value.slice Option.none 0 0⟩
theorem ty25_ok : tyOf Try.prog 25 = some ty25 := by kernel_rfl
def ty31 : TyE := ⟨Ty.int IntKind.i64, 1, Bool.false, Value.int IntKind.i64 0⟩
theorem ty31_ok : tyOf Try.prog 31 = some ty31 := by kernel_rfl
def ty33 : TyE := ⟨Ty.strct [(0, 1, 0), (1, 1, 0), (2, 1, 0), (3, 1, 0), (4, 1, 0), (5, 1, 0), (6, 1, 0), (7, 1, 0)], 8, Bool.true, Value.agg #[Value.string { data := #[] }, Value.int IntKind.i64 0, Value.int IntKind.i64 0, Value.int IntKind.i64 0, Value.string { data := #[] }, Value.string { data := #[] }, Value.int IntKind.i64 0, Value.string { data := #[] }]⟩
theorem ty33_ok : tyOf Try.prog 33 = some ty33 := by kernel_rfl
def ty38 : TyE := ⟨Ty.int IntKind.u64, 1, Bool.false, Value.int IntKind.u64 0⟩
theorem ty38_ok : tyOf Try.prog 38 = some ty38 := by kernel_rfl
def ty41 : TyE := ⟨Ty.slice 9 1, 1, Bool.false, Value.slice Option.none 0 0⟩
theorem ty41_ok : tyOf Try.prog 41 = some ty41 := by kernel_rfl
theorem by33 : (Try.prog.info? 33).map (·.bytes) = some 96 := by kernel_rfl
theorem by22 : (Try.prog.info? 22).map (·.bytes) = some 24 := by kernel_rfl
theorem by9 : (Try.prog.info? 9).map (·.bytes) = some 16 := by kernel_rfl
theorem st33 : StOk Try.prog 33 [("Source", 9, 0), ("Number", 3, 1), ("At", 3, 2), ("Kind", 31, 3), ("Person", 9, 4), ("Item", 9, 5), ("Value", 3, 6), ("Text", 9, 7)] := ⟨by kernel_rfl, by kernel_rfl, by kernel_rfl, by kernel_rfl⟩
def Tt : Tab := [(3, ty3), (5, ty5), (9, ty9), (22, ty22), (25, ty25), (31, ty31), (33, ty33), (38, ty38), (41, ty41)]
theorem Tt_ok : TabOk Try.prog Tt := ⟨ty3_ok, ty5_ok, ty9_ok, ty22_ok, ty25_ok, ty31_ok, ty33_ok, ty38_ok, ty41_ok, trivial⟩
theorem mixed : Try.prog.follows .mixedOrders = true := by kernel_rfl
end Go.Proofs.Ythogbgdaeclkaaa
