import Derived.Test.YtdahooejkjcjiaaGreatDoorGR
import Derived.Test.YtdahooejkjcjiaaGreatDoorCards
/- The law WorldRows: a part of its card. -/
set_option linter.unusedVariables false
set_option linter.unusedSimpArgs false
namespace Go.Proofs.YtdahooejkjcjiaaGreatDoor
open Go.ChangeShapes Go.WideShapes Go.ChangeAt Go.RowKit Go.Se
theorem worldRows_main : Tryz.pinned.checked.prog.mainIs = some (Rows.worldRowsCard.stood.harness.1,Rows.worldRowsCard.stood.harness.2.toList) := by kernel_rfl
theorem worldRows_text : Rows.worldRowsRow.wfByText (OpenSpec.ofChange Rows.worldRowsSpec) = true := by kernel_rfl
theorem worldRows_goes : false = Rows.worldRowsRow.goesBy Tryz.pinned.checked.prog := by kernel_rfl
end Go.Proofs.YtdahooejkjcjiaaGreatDoor
