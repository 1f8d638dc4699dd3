import Derived.Test.YtagijlhciclafaaGreatDoorHPRoadNoMoreB
import Derived.Test.YtagijlhciclafaaGreatDoorHPRoadNoMoreC
import Derived.Test.YtagijlhciclafaaGreatDoorHPRoadNoMoreG
import Derived.Test.YtagijlhciclafaaGreatDoorCards
/- The law RoadNoMore: a part of its card. -/
set_option linter.unusedVariables false
set_option linter.unusedSimpArgs false
namespace Go.Proofs.YtagijlhciclafaaGreatDoor
open Go.ChangeShapes Go.WideShapes Go.ChangeAt Go.RowKit Go.Se
theorem roadNoMore_holds : Rows.RoadNoMoreCardSaid :=
 Claim7.holds_tied_plain_at .later [] _ _ _ _ roadNoMore_said (fun _ h => by cases h) roadNoMore_text (fun _ h => by cases h) roadNoMore_row_tie rfl ⟨rfl,rfl⟩ roadNoMore_main rfl roadNoMore_plain roadNoMore_goes
#print axioms roadNoMore_holds
end Go.Proofs.YtagijlhciclafaaGreatDoor
