import Derived.Test.YtnnnbjjenknpeaaGreatDoorGR
import Derived.Test.YtnnnbjjenknpeaaGreatDoorCards
/- The law ReasonOf: a part of its card. -/
set_option linter.unusedVariables false
set_option linter.unusedSimpArgs false
namespace Go.Proofs.YtnnnbjjenknpeaaGreatDoor
open Go.ChangeShapes Go.WideShapes Go.ChangeAt Go.RowKit Go.Se
theorem reasonOf_main : Tryz.pinned.checked.prog.mainIs = some (Rows.reasonOfCard.stood.harness.1,Rows.reasonOfCard.stood.harness.2.toList) := by kernel_rfl
theorem reasonOf_text : Rows.reasonOfRow.wfByText (OpenSpec.ofChange Rows.reasonOfSpec) = true := by kernel_rfl
theorem reasonOf_goes : false = Rows.reasonOfRow.goesBy Tryz.pinned.checked.prog := by kernel_rfl
end Go.Proofs.YtnnnbjjenknpeaaGreatDoor
