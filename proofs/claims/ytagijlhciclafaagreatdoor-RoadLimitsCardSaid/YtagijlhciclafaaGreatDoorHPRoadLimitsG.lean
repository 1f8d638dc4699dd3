import Derived.Test.YtagijlhciclafaaGreatDoorGR
import Derived.Test.YtagijlhciclafaaGreatDoorCards
/- The law RoadLimits: a part of its card. -/
set_option linter.unusedVariables false
set_option linter.unusedSimpArgs false
namespace Go.Proofs.YtagijlhciclafaaGreatDoor
open Go.ChangeShapes Go.WideShapes Go.ChangeAt Go.RowKit Go.Se
theorem roadLimits_main : Tryz.pinned.checked.prog.mainIs = some (Rows.roadLimitsCard.stood.harness.1,Rows.roadLimitsCard.stood.harness.2.toList) := by kernel_rfl
theorem roadLimits_text : Rows.roadLimitsRow.wfByText (OpenSpec.ofChange Rows.roadLimitsSpec) = true := by kernel_rfl
theorem roadLimits_goes : false = Rows.roadLimitsRow.goesBy Tryz.pinned.checked.prog := by kernel_rfl
end Go.Proofs.YtagijlhciclafaaGreatDoor
