import Derived.Test.YtagijlhciclafaaGreatDoorHPRoadStrangersB
import Derived.Test.YtagijlhciclafaaGreatDoorHPRoadStrangersC
import Derived.Test.YtagijlhciclafaaGreatDoorHPRoadStrangersG
import Derived.Test.YtagijlhciclafaaGreatDoorCards
/- The law RoadStrangers: a part of its card. -/
set_option linter.unusedVariables false
set_option linter.unusedSimpArgs false
namespace Go.Proofs.YtagijlhciclafaaGreatDoor
open Go.ChangeShapes Go.WideShapes Go.ChangeAt Go.RowKit Go.Se
theorem roadStrangers_holds : Rows.RoadStrangersCardSaid :=
 Claim7.holds_tied_plain_at .later [] _ _ _ _ roadStrangers_said (fun _ h => by cases h) roadStrangers_text (fun _ h => by cases h) roadStrangers_row_tie rfl ⟨rfl,rfl⟩ roadStrangers_main rfl roadStrangers_plain roadStrangers_goes
#print axioms roadStrangers_holds
end Go.Proofs.YtagijlhciclafaaGreatDoor
