import Derived.Test.YtopncieoolkhjaaGreatDoorGR
import Derived.Test.YtopncieoolkhjaaGreatDoorCards
/- The law TopWithout: a part of its card. -/
set_option linter.unusedVariables false
set_option linter.unusedSimpArgs false
namespace Go.Proofs.YtopncieoolkhjaaGreatDoor
open Go.ChangeShapes Go.WideShapes Go.ChangeAt Go.RowKit Go.Se
theorem topWithout_main : Tryz.pinned.checked.prog.mainIs = some (Rows.topWithoutCard.stood.harness.1,Rows.topWithoutCard.stood.harness.2.toList) := by kernel_rfl
theorem topWithout_text : Rows.topWithoutRow.wfByText (OpenSpec.ofChange Rows.topWithoutSpec) = true := by kernel_rfl
theorem topWithout_goes : false = Rows.topWithoutRow.goesBy Tryz.pinned.checked.prog := by kernel_rfl
end Go.Proofs.YtopncieoolkhjaaGreatDoor
