import Derived.Test.YtnnnbjjenknpeaaGreatDoorGR
import Derived.Test.YtnnnbjjenknpeaaGreatDoorCards
/- The law ReasonWithout: a part of its card. -/
set_option linter.unusedVariables false
set_option linter.unusedSimpArgs false
namespace Go.Proofs.YtnnnbjjenknpeaaGreatDoor
open Go.ChangeShapes Go.WideShapes Go.ChangeAt Go.RowKit Go.Se
theorem reasonWithout_main : Tryz.pinned.checked.prog.mainIs = some (Rows.reasonWithoutCard.stood.harness.1,Rows.reasonWithoutCard.stood.harness.2.toList) := by kernel_rfl
theorem reasonWithout_text : Rows.reasonWithoutRow.wfByText (OpenSpec.ofChange Rows.reasonWithoutSpec) = true := by kernel_rfl
theorem reasonWithout_goes : false = Rows.reasonWithoutRow.goesBy Tryz.pinned.checked.prog := by kernel_rfl
end Go.Proofs.YtnnnbjjenknpeaaGreatDoor
