import Derived.Test.YtagijlhciclafaaGreatDoorGR
import Derived.Test.YtagijlhciclafaaGreatDoorCards
/- The law RoadListed: a part of its card. -/
set_option linter.unusedVariables false
set_option linter.unusedSimpArgs false
namespace Go.Proofs.YtagijlhciclafaaGreatDoor
open Go.ChangeShapes Go.WideShapes Go.ChangeAt Go.RowKit Go.Se
theorem roadListed_main : Tryz.pinned.checked.prog.mainIs = some (Rows.roadListedCard.stood.harness.1,Rows.roadListedCard.stood.harness.2.toList) := by kernel_rfl
theorem roadListed_text : Rows.roadListedRow.wfByText (OpenSpec.ofChange Rows.roadListedSpec) = true := by kernel_rfl
theorem roadListed_goes : false = Rows.roadListedRow.goesBy Tryz.pinned.checked.prog := by kernel_rfl
end Go.Proofs.YtagijlhciclafaaGreatDoor
