import Derived.Test.YtdahooejkjcjiaaGreatDoorGR
import Derived.Test.YtdahooejkjcjiaaGreatDoorCards
/- The law WorldSame: a part of its card. -/
set_option linter.unusedVariables false
set_option linter.unusedSimpArgs false
namespace Go.Proofs.YtdahooejkjcjiaaGreatDoor
open Go.ChangeShapes Go.WideShapes Go.ChangeAt Go.RowKit Go.Se
theorem worldSame_main : Tryz.pinned.checked.prog.mainIs = some (Rows.worldSameCard.stood.harness.1,Rows.worldSameCard.stood.harness.2.toList) := by kernel_rfl
theorem worldSame_text : Rows.worldSameRow.wfByText (OpenSpec.ofChange Rows.worldSameSpec) = true := by kernel_rfl
theorem worldSame_goes : false = Rows.worldSameRow.goesBy Tryz.pinned.checked.prog := by kernel_rfl
end Go.Proofs.YtdahooejkjcjiaaGreatDoor
