import Derived.Test.YtdahooejkjcjiaaGreatDoorGR
import Derived.Test.YtdahooejkjcjiaaGreatDoorCards
/- The law WorldAdds: a part of its card. -/
set_option linter.unusedVariables false
set_option linter.unusedSimpArgs false
namespace Go.Proofs.YtdahooejkjcjiaaGreatDoor
open Go.ChangeShapes Go.WideShapes Go.ChangeAt Go.RowKit Go.Se
theorem worldAdds_main:Tryz.pinned.checked.prog.mainIs=some (Rows.worldAddsCard.stood.harness.1,Rows.worldAddsCard.stood.harness.2.toList):=by kernel_rfl
theorem worldAdds_text:Rows.worldAddsRow.wfByText (OpenSpec.ofChange Rows.worldAddsSpec)=true:=by kernel_rfl
theorem worldAdds_goes:false=Rows.worldAddsRow.goesBy Tryz.pinned.checked.prog:=by kernel_rfl
end Go.Proofs.YtdahooejkjcjiaaGreatDoor
