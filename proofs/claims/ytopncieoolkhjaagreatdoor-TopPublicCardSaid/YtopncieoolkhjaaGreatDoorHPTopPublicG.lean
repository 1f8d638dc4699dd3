import Derived.Test.YtopncieoolkhjaaGreatDoorGR
import Derived.Test.YtopncieoolkhjaaGreatDoorCards
/- The law TopPublic: a part of its card. -/
set_option linter.unusedVariables false
set_option linter.unusedSimpArgs false
namespace Go.Proofs.YtopncieoolkhjaaGreatDoor
open Go.ChangeShapes Go.WideShapes Go.ChangeAt Go.RowKit Go.Se
theorem topPublic_main : Tryz.pinned.checked.prog.mainIs = some (Rows.topPublicCard.stood.harness.1,Rows.topPublicCard.stood.harness.2.toList) := by kernel_rfl
theorem topPublic_text : Rows.topPublicRow.wfByText (OpenSpec.ofChange Rows.topPublicSpec) = true := by kernel_rfl
theorem topPublic_goes : false = Rows.topPublicRow.goesBy Tryz.pinned.checked.prog := by kernel_rfl
end Go.Proofs.YtopncieoolkhjaaGreatDoor
