import Derived.Test.YtagijlhciclafaaGreatDoorHPRoadListedB
import Derived.Test.YtagijlhciclafaaGreatDoorHPRoadListedC
import Derived.Test.YtagijlhciclafaaGreatDoorHPRoadListedG
import Derived.Test.YtagijlhciclafaaGreatDoorCards
/- The law RoadListed: a part of its card. -/
set_option linter.unusedVariables false
set_option linter.unusedSimpArgs false
namespace Go.Proofs.YtagijlhciclafaaGreatDoor
open Go.ChangeShapes Go.WideShapes Go.ChangeAt Go.RowKit Go.Se
theorem roadListed_holds : Rows.RoadListedCardSaid :=
 Claim7.holds_tied_plain_at .later [] _ _ _ _ roadListed_said (fun _ h => by cases h) roadListed_text (fun _ h => by cases h) roadListed_row_tie rfl ⟨rfl,rfl⟩ roadListed_main rfl roadListed_plain roadListed_goes
#print axioms roadListed_holds
end Go.Proofs.YtagijlhciclafaaGreatDoor
