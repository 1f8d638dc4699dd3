import Derived.Test.YtagijlhciclafaaGreatDoorHPRoadOneB
import Derived.Test.YtagijlhciclafaaGreatDoorHPRoadOneC
import Derived.Test.YtagijlhciclafaaGreatDoorHPRoadOneG
import Derived.Test.YtagijlhciclafaaGreatDoorCards
/- The law RoadOne: a part of its card. -/
set_option linter.unusedVariables false
set_option linter.unusedSimpArgs false
namespace Go.Proofs.YtagijlhciclafaaGreatDoor
open Go.ChangeShapes Go.WideShapes Go.ChangeAt Go.RowKit Go.Se
theorem roadOne_holds:Rows.RoadOneCardSaid :=
 Claim7.holds_tied_plain_at .later [] _ _ _ _ roadOne_said (fun _ h=>by cases h) roadOne_text (fun _ h=>by cases h) roadOne_row_tie rfl ⟨rfl,rfl⟩ roadOne_main rfl roadOne_plain roadOne_goes
#print axioms roadOne_holds
end Go.Proofs.YtagijlhciclafaaGreatDoor
