import Derived.Test.YtnnnbjjenknpeaaGreatDoorGR
import Derived.Test.YtnnnbjjenknpeaaGreatDoorCards
/- The law ReasonTexts: a part of its card. -/
set_option linter.unusedVariables false
set_option linter.unusedSimpArgs false
namespace Go.Proofs.YtnnnbjjenknpeaaGreatDoor
open Go.ChangeShapes Go.WideShapes Go.ChangeAt Go.RowKit Go.Se
theorem reasonTexts_main : Tryz.pinned.checked.prog.mainIs = some (Rows.reasonTextsCard.stood.harness.1,Rows.reasonTextsCard.stood.harness.2.toList) := by kernel_rfl
theorem reasonTexts_text : Rows.reasonTextsRow.wfByText (OpenSpec.ofChange Rows.reasonTextsSpec) = true := by kernel_rfl
theorem reasonTexts_goes : false = Rows.reasonTextsRow.goesBy Tryz.pinned.checked.prog := by kernel_rfl
end Go.Proofs.YtnnnbjjenknpeaaGreatDoor
