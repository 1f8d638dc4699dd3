import Derived.Test.YtagijlhciclafaaGreatDoorHPRoadFindsB
import Derived.Test.YtagijlhciclafaaGreatDoorHPRoadFindsC
import Derived.Test.YtagijlhciclafaaGreatDoorHPRoadFindsG
import Derived.Test.YtagijlhciclafaaGreatDoorCards
/- The law RoadFinds: a part of its card. -/
set_option linter.unusedVariables false
set_option linter.unusedSimpArgs false
namespace Go.Proofs.YtagijlhciclafaaGreatDoor
open Go.ChangeShapes Go.WideShapes Go.ChangeAt Go.RowKit Go.Se
theorem roadFinds_holds:Rows.RoadFindsCardSaid :=
 Claim7.holds_tied_plain_at .later [] _ _ _ _ roadFinds_said (fun _ h=>by cases h) roadFinds_text (fun _ h=>by cases h) roadFinds_row_tie rfl ⟨rfl,rfl⟩ roadFinds_main rfl roadFinds_plain roadFinds_goes
#print axioms roadFinds_holds
end Go.Proofs.YtagijlhciclafaaGreatDoor
