import Derived.Test.YtagijlhciclafaaGreatDoorGR
import Derived.Test.YtagijlhciclafaaGreatDoorCards
/- The law RoadOne: a part of its card. -/
set_option linter.unusedVariables false
set_option linter.unusedSimpArgs false
namespace Go.Proofs.YtagijlhciclafaaGreatDoor
open Go.ChangeShapes Go.WideShapes Go.ChangeAt Go.RowKit Go.Se
theorem roadOne_main:Tryz.pinned.checked.prog.mainIs=some (Rows.roadOneCard.stood.harness.1,Rows.roadOneCard.stood.harness.2.toList):=by kernel_rfl
theorem roadOne_text:Rows.roadOneRow.wfByText (OpenSpec.ofChange Rows.roadOneSpec)=true:=by kernel_rfl
theorem roadOne_goes:false=Rows.roadOneRow.goesBy Tryz.pinned.checked.prog:=by kernel_rfl
end Go.Proofs.YtagijlhciclafaaGreatDoor
