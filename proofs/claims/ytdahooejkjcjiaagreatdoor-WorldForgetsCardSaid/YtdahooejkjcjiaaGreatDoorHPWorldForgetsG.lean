import Derived.Test.YtdahooejkjcjiaaGreatDoorGR
import Derived.Test.YtdahooejkjcjiaaGreatDoorCards
/- The law WorldForgets: a part of its card. -/
set_option linter.unusedVariables false
set_option linter.unusedSimpArgs false
namespace Go.Proofs.YtdahooejkjcjiaaGreatDoor
open Go.ChangeShapes Go.WideShapes Go.ChangeAt Go.RowKit Go.Se
theorem worldForgets_main : Tryz.pinned.checked.prog.mainIs = some (Rows.worldForgetsCard.stood.harness.1,Rows.worldForgetsCard.stood.harness.2.toList) := by kernel_rfl
theorem worldForgets_text : Rows.worldForgetsRow.wfByText (OpenSpec.ofChange Rows.worldForgetsSpec) = true := by kernel_rfl
theorem worldForgets_goes : false = Rows.worldForgetsRow.goesBy Tryz.pinned.checked.prog := by kernel_rfl
end Go.Proofs.YtdahooejkjcjiaaGreatDoor
