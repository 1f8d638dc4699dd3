import Derived.Test.YtoancknoinilaaaGreatDoorGR
import Derived.Test.YtoancknoinilaaaGreatDoorCards

/- The law ScoreWeighs: a part of its card. -/
set_option linter.unusedVariables false
set_option linter.unusedSimpArgs false
namespace Go.Proofs.YtoancknoinilaaaGreatDoor
open Go.ChangeShapes Go.WideShapes Go.ChangeAt Go.RowKit Go.Se

theorem scoreWeighs_main : Tryz.pinned.checked.prog.mainIs = some (Rows.scoreWeighsCard.stood.harness.1, Rows.scoreWeighsCard.stood.harness.2.toList) := by kernel_rfl
theorem scoreWeighs_text : Rows.scoreWeighsRow.wfByText (OpenSpec.ofChange Rows.scoreWeighsSpec) = true := by kernel_rfl
theorem scoreWeighs_goes : false = Rows.scoreWeighsRow.goesBy Tryz.pinned.checked.prog := by kernel_rfl
end Go.Proofs.YtoancknoinilaaaGreatDoor
