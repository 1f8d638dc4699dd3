import Derived.Test.YtnpacgccajekgaaGreatDoorGSE
set_option linter.all false
namespace Go.Proofs.YtnpacgccajekgaaGreatDoor
open Go.ChangeShapes Go.WideShapes Go.ChangeAt Go.RowKit Go.Se
theorem topAudit_main:Tryz.pinned.checked.prog.mainIs=some (Rows.topAuditCard.stood.harness.1,Rows.topAuditCard.stood.harness.2.toList):=by kernel_rfl
theorem topAudit_text:Rows.topAuditRow.wfByText (OpenSpec.ofChange Rows.topAuditSpec)=true:=by kernel_rfl
theorem topAudit_goes:false=Rows.topAuditRow.goesBy Tryz.pinned.checked.prog:=Q49 (Xe6 Kr) _
