import Derived.Test.YtnnnbjjenknpeaaGreatDoorGR
import Derived.Test.YtnnnbjjenknpeaaGreatDoorCards
/- The law ReasonChecks: a part of its card. -/
set_option linter.unusedVariables false
set_option linter.unusedSimpArgs false
namespace Go.Proofs.YtnnnbjjenknpeaaGreatDoor
open Go.ChangeShapes Go.WideShapes Go.ChangeAt Go.RowKit Go.Se
theorem reasonChecks_main : Tryz.pinned.checked.prog.mainIs = some (Rows.reasonChecksCard.stood.harness.1,Rows.reasonChecksCard.stood.harness.2.toList) := by kernel_rfl
theorem reasonChecks_text : Rows.reasonChecksRow.wfByText (OpenSpec.ofChange Rows.reasonChecksSpec) = true := by kernel_rfl
theorem reasonChecks_goes : false = Rows.reasonChecksRow.goesBy Tryz.pinned.checked.prog := by kernel_rfl
end Go.Proofs.YtnnnbjjenknpeaaGreatDoor
