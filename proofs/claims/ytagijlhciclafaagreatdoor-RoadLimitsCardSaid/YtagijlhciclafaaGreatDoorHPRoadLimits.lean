import Derived.Test.YtagijlhciclafaaGreatDoorHPRoadLimitsB
import Derived.Test.YtagijlhciclafaaGreatDoorHPRoadLimitsC
import Derived.Test.YtagijlhciclafaaGreatDoorHPRoadLimitsG
import Derived.Test.YtagijlhciclafaaGreatDoorCards
/- The law RoadLimits: a part of its card. -/
set_option linter.unusedVariables false
set_option linter.unusedSimpArgs false
namespace Go.Proofs.YtagijlhciclafaaGreatDoor
open Go.ChangeShapes Go.WideShapes Go.ChangeAt Go.RowKit Go.Se
theorem roadLimits_holds : Rows.RoadLimitsCardSaid :=
 Claim7.holds_tied_plain_at .later [] _ _ _ _ roadLimits_said (fun _ h => by cases h) roadLimits_text (fun _ h => by cases h) roadLimits_row_tie rfl ⟨rfl,rfl⟩ roadLimits_main rfl roadLimits_plain roadLimits_goes
#print axioms roadLimits_holds
end Go.Proofs.YtagijlhciclafaaGreatDoor
