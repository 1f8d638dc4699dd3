import Derived.Test.YtagijlhciclafaaGreatDoorGR
import Derived.Test.YtagijlhciclafaaGreatDoorCards
/- The law RoadNoMore: a part of its card. -/
set_option linter.unusedVariables false
set_option linter.unusedSimpArgs false
namespace Go.Proofs.YtagijlhciclafaaGreatDoor
open Go.ChangeShapes Go.WideShapes Go.ChangeAt Go.RowKit Go.Se
theorem roadNoMore_main : Tryz.pinned.checked.prog.mainIs = some (Rows.roadNoMoreCard.stood.harness.1,Rows.roadNoMoreCard.stood.harness.2.toList) := by kernel_rfl
theorem roadNoMore_text : Rows.roadNoMoreRow.wfByText (OpenSpec.ofChange Rows.roadNoMoreSpec) = true := by kernel_rfl
theorem roadNoMore_goes : false = Rows.roadNoMoreRow.goesBy Tryz.pinned.checked.prog := by kernel_rfl
end Go.Proofs.YtagijlhciclafaaGreatDoor
