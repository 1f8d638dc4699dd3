import Derived.Test.YtnnnbjjenknpeaaGreatDoorGR
import Derived.Test.YtnnnbjjenknpeaaGreatDoorCards
/- The law ReasonNobody: a part of its card. -/
set_option linter.unusedVariables false
set_option linter.unusedSimpArgs false
namespace Go.Proofs.YtnnnbjjenknpeaaGreatDoor
open Go.ChangeShapes Go.WideShapes Go.ChangeAt Go.RowKit Go.Se
theorem reasonNobody_main : Tryz.pinned.checked.prog.mainIs = some (Rows.reasonNobodyCard.stood.harness.1,Rows.reasonNobodyCard.stood.harness.2.toList) := by kernel_rfl
theorem reasonNobody_text : Rows.reasonNobodyRow.wfByText (OpenSpec.ofChange Rows.reasonNobodySpec) = true := by kernel_rfl
theorem reasonNobody_goes : false = Rows.reasonNobodyRow.goesBy Tryz.pinned.checked.prog := by kernel_rfl
end Go.Proofs.YtnnnbjjenknpeaaGreatDoor
