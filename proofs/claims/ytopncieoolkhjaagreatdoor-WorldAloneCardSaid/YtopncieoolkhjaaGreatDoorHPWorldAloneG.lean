import Derived.Test.YtopncieoolkhjaaGreatDoorGR
import Derived.Test.YtopncieoolkhjaaGreatDoorCards
/- The law WorldAlone: a part of its card. -/
set_option linter.unusedVariables false
set_option linter.unusedSimpArgs false
namespace Go.Proofs.YtopncieoolkhjaaGreatDoor
open Go.ChangeShapes Go.WideShapes Go.ChangeAt Go.RowKit Go.Se
theorem worldAlone_main : Tryz.pinned.checked.prog.mainIs = some (Rows.worldAloneCard.stood.harness.1,Rows.worldAloneCard.stood.harness.2.toList) := by kernel_rfl
theorem worldAlone_text : Rows.worldAloneRow.wfByText (OpenSpec.ofChange Rows.worldAloneSpec) = true := by kernel_rfl
theorem worldAlone_goes : false = Rows.worldAloneRow.goesBy Tryz.pinned.checked.prog := by kernel_rfl
end Go.Proofs.YtopncieoolkhjaaGreatDoor
