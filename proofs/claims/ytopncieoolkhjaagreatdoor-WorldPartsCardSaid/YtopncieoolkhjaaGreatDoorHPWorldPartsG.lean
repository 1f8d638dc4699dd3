import Derived.Test.YtopncieoolkhjaaGreatDoorGR
import Derived.Test.YtopncieoolkhjaaGreatDoorCards
/- The law WorldParts: a part of its card. -/
set_option linter.unusedVariables false
set_option linter.unusedSimpArgs false
namespace Go.Proofs.YtopncieoolkhjaaGreatDoor
open Go.ChangeShapes Go.WideShapes Go.ChangeAt Go.RowKit Go.Se
theorem worldParts_main : Tryz.pinned.checked.prog.mainIs = some (Rows.worldPartsCard.stood.harness.1,Rows.worldPartsCard.stood.harness.2.toList) := by kernel_rfl
theorem worldParts_text : Rows.worldPartsRow.wfByText (OpenSpec.ofChange Rows.worldPartsSpec) = true := by kernel_rfl
theorem worldParts_goes : false = Rows.worldPartsRow.goesBy Tryz.pinned.checked.prog := by kernel_rfl
end Go.Proofs.YtopncieoolkhjaaGreatDoor
