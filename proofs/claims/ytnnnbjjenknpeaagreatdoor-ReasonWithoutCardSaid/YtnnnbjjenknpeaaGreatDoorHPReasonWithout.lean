import Derived.Test.YtnnnbjjenknpeaaGreatDoorHPReasonWithoutB
import Derived.Test.YtnnnbjjenknpeaaGreatDoorHPReasonWithoutC
import Derived.Test.YtnnnbjjenknpeaaGreatDoorHPReasonWithoutG
import Derived.Test.YtnnnbjjenknpeaaGreatDoorCards
/- The law ReasonWithout: a part of its card. -/
set_option linter.unusedVariables false
set_option linter.unusedSimpArgs false
namespace Go.Proofs.YtnnnbjjenknpeaaGreatDoor
open Go.ChangeShapes Go.WideShapes Go.ChangeAt Go.RowKit Go.Se
theorem reasonWithout_holds : Rows.ReasonWithoutCardSaid :=
 Claim7.holds_tied_plain_at .later [] _ _ _ _ reasonWithout_said (fun _ h => by cases h) reasonWithout_text (fun _ h => by cases h) reasonWithout_row_tie rfl ⟨rfl,rfl⟩ reasonWithout_main rfl reasonWithout_plain reasonWithout_goes
#print axioms reasonWithout_holds
end Go.Proofs.YtnnnbjjenknpeaaGreatDoor
