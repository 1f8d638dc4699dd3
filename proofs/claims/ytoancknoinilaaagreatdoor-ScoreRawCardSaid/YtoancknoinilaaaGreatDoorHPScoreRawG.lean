import Derived.Test.YtoancknoinilaaaGreatDoorGR
import Derived.Test.YtoancknoinilaaaGreatDoorCards
/- The law ScoreRaw: a part of its card. -/
set_option linter.unusedVariables false
set_option linter.unusedSimpArgs false
namespace Go.Proofs.YtoancknoinilaaaGreatDoor
open Go.ChangeShapes Go.WideShapes Go.ChangeAt Go.RowKit Go.Se
theorem scoreRaw_main : Tryz.pinned.checked.prog.mainIs = some (Rows.scoreRawCard.stood.harness.1,Rows.scoreRawCard.stood.harness.2.toList) := by kernel_rfl
theorem scoreRaw_text : Rows.scoreRawRow.wfByText (OpenSpec.ofChange Rows.scoreRawSpec) = true := by kernel_rfl
theorem scoreRaw_goes : false = Rows.scoreRawRow.goesBy Tryz.pinned.checked.prog := by kernel_rfl
end Go.Proofs.YtoancknoinilaaaGreatDoor
