import Derived.Test.YtagijlhciclafaaGreatDoorGR
import Derived.Test.YtagijlhciclafaaGreatDoorCards
/- The law RoadFinds: a part of its card. -/
set_option linter.unusedVariables false
set_option linter.unusedSimpArgs false
namespace Go.Proofs.YtagijlhciclafaaGreatDoor
open Go.ChangeShapes Go.WideShapes Go.ChangeAt Go.RowKit Go.Se
theorem roadFinds_main:Tryz.pinned.checked.prog.mainIs=some (Rows.roadFindsCard.stood.harness.1,Rows.roadFindsCard.stood.harness.2.toList):=by kernel_rfl
theorem roadFinds_text:Rows.roadFindsRow.wfByText (OpenSpec.ofChange Rows.roadFindsSpec)=true:=by kernel_rfl
theorem roadFinds_goes:false=Rows.roadFindsRow.goesBy Tryz.pinned.checked.prog:=by kernel_rfl
end Go.Proofs.YtagijlhciclafaaGreatDoor
