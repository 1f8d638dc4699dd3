import Derived.Test.YtagijlhciclafaaGreatDoorGR
import Derived.Test.YtagijlhciclafaaGreatDoorCards
/- The law RoadStrangers: a part of its card. -/
set_option linter.unusedVariables false
set_option linter.unusedSimpArgs false
namespace Go.Proofs.YtagijlhciclafaaGreatDoor
open Go.ChangeShapes Go.WideShapes Go.ChangeAt Go.RowKit Go.Se
theorem roadStrangers_main : Tryz.pinned.checked.prog.mainIs = some (Rows.roadStrangersCard.stood.harness.1,Rows.roadStrangersCard.stood.harness.2.toList) := by kernel_rfl
theorem roadStrangers_text : Rows.roadStrangersRow.wfByText (OpenSpec.ofChange Rows.roadStrangersSpec) = true := by kernel_rfl
theorem roadStrangers_goes : false = Rows.roadStrangersRow.goesBy Tryz.pinned.checked.prog := by kernel_rfl
end Go.Proofs.YtagijlhciclafaaGreatDoor
