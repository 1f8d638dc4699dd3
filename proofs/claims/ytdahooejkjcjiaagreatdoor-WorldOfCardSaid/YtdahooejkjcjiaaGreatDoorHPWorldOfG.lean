import Derived.Test.YtdahooejkjcjiaaGreatDoorGR
import Derived.Test.YtdahooejkjcjiaaGreatDoorCards
/- The law WorldOf: a part of its card. -/
set_option linter.unusedVariables false
set_option linter.unusedSimpArgs false
namespace Go.Proofs.YtdahooejkjcjiaaGreatDoor
open Go.ChangeShapes Go.WideShapes Go.ChangeAt Go.RowKit Go.Se
theorem worldOf_main:Tryz.pinned.checked.prog.mainIs=some (Rows.worldOfCard.stood.harness.1,Rows.worldOfCard.stood.harness.2.toList):=by kernel_rfl
theorem worldOf_text:Rows.worldOfRow.wfByText (OpenSpec.ofChange Rows.worldOfSpec)=true:=by kernel_rfl
theorem worldOf_goes:false=Rows.worldOfRow.goesBy Tryz.pinned.checked.prog:=by kernel_rfl
end Go.Proofs.YtdahooejkjcjiaaGreatDoor
