import Derived.Test.YtoancknoinilaaaGreatDoorGR
import Derived.Test.YtoancknoinilaaaGreatDoorCards

/- The law ScoreAhead: a part of its card. -/
set_option linter.unusedVariables false
set_option linter.unusedSimpArgs false
namespace Go.Proofs.YtoancknoinilaaaGreatDoor
open Go.ChangeShapes Go.WideShapes Go.ChangeAt Go.RowKit Go.Se

theorem scoreAhead_main : Tryz.pinned.checked.prog.mainIs = some (Rows.scoreAheadCard.stood.harness.1, Rows.scoreAheadCard.stood.harness.2.toList) := by kernel_rfl
theorem scoreAhead_text : Rows.scoreAheadRow.wfByText (OpenSpec.ofChange Rows.scoreAheadSpec) = true := by kernel_rfl
theorem scoreAhead_goes : false = Rows.scoreAheadRow.goesBy Tryz.pinned.checked.prog := by kernel_rfl
end Go.Proofs.YtoancknoinilaaaGreatDoor
