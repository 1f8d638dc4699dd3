import Derived.Test.YtnnnbjjenknpeaaGreatDoorGR
import Derived.Test.YtnnnbjjenknpeaaGreatDoorCards
/- The law ReasonApart: a part of its card. -/
set_option linter.unusedVariables false
set_option linter.unusedSimpArgs false
namespace Go.Proofs.YtnnnbjjenknpeaaGreatDoor
open Go.ChangeShapes Go.WideShapes Go.ChangeAt Go.RowKit Go.Se
theorem reasonApart_main : Tryz.pinned.checked.prog.mainIs = some (Rows.reasonApartCard.stood.harness.1,Rows.reasonApartCard.stood.harness.2.toList) := by kernel_rfl
theorem reasonApart_text : Rows.reasonApartRow.wfByText (OpenSpec.ofChange Rows.reasonApartSpec) = true := by kernel_rfl
theorem reasonApart_goes : false = Rows.reasonApartRow.goesBy Tryz.pinned.checked.prog := by kernel_rfl
end Go.Proofs.YtnnnbjjenknpeaaGreatDoor
