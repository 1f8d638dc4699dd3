import Derived.Test.YtoancknoinilaaaGreatDoorGR
import Derived.Test.YtoancknoinilaaaGreatDoorCards

/- The law ScoreTotals: a part of its card. -/
set_option linter.unusedVariables false
set_option linter.unusedSimpArgs false
namespace Go.Proofs.YtoancknoinilaaaGreatDoor
open Go.ChangeShapes Go.WideShapes Go.ChangeAt Go.RowKit Go.Se

theorem scoreTotals_main : Tryz.pinned.checked.prog.mainIs = some (Rows.scoreTotalsCard.stood.harness.1, Rows.scoreTotalsCard.stood.harness.2.toList) := by kernel_rfl
theorem scoreTotals_text : Rows.scoreTotalsRow.wfByText (OpenSpec.ofChange Rows.scoreTotalsSpec) = true := by kernel_rfl
theorem scoreTotals_goes : false = Rows.scoreTotalsRow.goesBy Tryz.pinned.checked.prog := by kernel_rfl
end Go.Proofs.YtoancknoinilaaaGreatDoor
