import Derived.Test.YtoancknoinilaaaGreatDoorGR
import Derived.Test.YtoancknoinilaaaGreatDoorCards
/- The law ScoreOf: a part of its card. -/
set_option linter.unusedVariables false
set_option linter.unusedSimpArgs false
namespace Go.Proofs.YtoancknoinilaaaGreatDoor
open Go.ChangeShapes Go.WideShapes Go.ChangeAt Go.RowKit Go.Se
theorem scoreOf_main : Tryz.pinned.checked.prog.mainIs = some (Rows.scoreOfCard.stood.harness.1,Rows.scoreOfCard.stood.harness.2.toList) := by kernel_rfl
theorem scoreOf_text : Rows.scoreOfRow.wfByText (OpenSpec.ofChange Rows.scoreOfSpec) = true := by kernel_rfl
theorem scoreOf_goes : false = Rows.scoreOfRow.goesBy Tryz.pinned.checked.prog := by kernel_rfl
end Go.Proofs.YtoancknoinilaaaGreatDoor
