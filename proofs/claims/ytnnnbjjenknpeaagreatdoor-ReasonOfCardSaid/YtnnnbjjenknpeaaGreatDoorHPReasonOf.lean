import Derived.Test.YtnnnbjjenknpeaaGreatDoorHPReasonOfB
import Derived.Test.YtnnnbjjenknpeaaGreatDoorHPReasonOfC
import Derived.Test.YtnnnbjjenknpeaaGreatDoorHPReasonOfG
import Derived.Test.YtnnnbjjenknpeaaGreatDoorCards
/- The law ReasonOf: a part of its card. -/
set_option linter.unusedVariables false
set_option linter.unusedSimpArgs false
namespace Go.Proofs.YtnnnbjjenknpeaaGreatDoor
open Go.ChangeShapes Go.WideShapes Go.ChangeAt Go.RowKit Go.Se
theorem reasonOf_holds : Rows.ReasonOfCardSaid :=
 Claim7.holds_tied_plain_at .later [] _ _ _ _ reasonOf_said (fun _ h => by cases h) reasonOf_text (fun _ h => by cases h) reasonOf_row_tie rfl ⟨rfl,rfl⟩ reasonOf_main rfl reasonOf_plain reasonOf_goes
#print axioms reasonOf_holds
end Go.Proofs.YtnnnbjjenknpeaaGreatDoor
