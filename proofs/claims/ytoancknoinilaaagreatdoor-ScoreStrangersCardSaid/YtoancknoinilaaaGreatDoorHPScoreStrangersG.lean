import Derived.Test.YtoancknoinilaaaGreatDoorGR
import Derived.Test.YtoancknoinilaaaGreatDoorCards

/- The law ScoreStrangers: a part of its card. -/
set_option linter.unusedVariables false
set_option linter.unusedSimpArgs false
namespace Go.Proofs.YtoancknoinilaaaGreatDoor
open Go.ChangeShapes Go.WideShapes Go.ChangeAt Go.RowKit Go.Se

theorem scoreStrangers_main : Tryz.pinned.checked.prog.mainIs = some (Rows.scoreStrangersCard.stood.harness.1, Rows.scoreStrangersCard.stood.harness.2.toList) := by kernel_rfl
theorem scoreStrangers_text : Rows.scoreStrangersRow.wfByText (OpenSpec.ofChange Rows.scoreStrangersSpec) = true := by kernel_rfl
theorem scoreStrangers_goes : false = Rows.scoreStrangersRow.goesBy Tryz.pinned.checked.prog := by kernel_rfl
end Go.Proofs.YtoancknoinilaaaGreatDoor
