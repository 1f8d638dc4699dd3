import Derived.Test.YtnnnbjjenknpeaaGreatDoorGR
import Derived.Test.YtnnnbjjenknpeaaGreatDoorCards
/- The law ReasonAdds: a part of its card. -/
set_option linter.unusedVariables false
set_option linter.unusedSimpArgs false
namespace Go.Proofs.YtnnnbjjenknpeaaGreatDoor
open Go.ChangeShapes Go.WideShapes Go.ChangeAt Go.RowKit Go.Se
theorem reasonAdds_main : Tryz.pinned.checked.prog.mainIs = some (Rows.reasonAddsCard.stood.harness.1,Rows.reasonAddsCard.stood.harness.2.toList) := by kernel_rfl
theorem reasonAdds_text : Rows.reasonAddsRow.wfByText (OpenSpec.ofChange Rows.reasonAddsSpec) = true := by kernel_rfl
theorem reasonAdds_goes : false = Rows.reasonAddsRow.goesBy Tryz.pinned.checked.prog := by kernel_rfl
end Go.Proofs.YtnnnbjjenknpeaaGreatDoor
