import Derived.Test.YtnnnbjjenknpeaaGreatDoorHPReasonAddsB
import Derived.Test.YtnnnbjjenknpeaaGreatDoorHPReasonAddsC
import Derived.Test.YtnnnbjjenknpeaaGreatDoorHPReasonAddsG
import Derived.Test.YtnnnbjjenknpeaaGreatDoorCards
/- The law ReasonAdds: a part of its card. -/
set_option linter.unusedVariables false
set_option linter.unusedSimpArgs false
namespace Go.Proofs.YtnnnbjjenknpeaaGreatDoor
open Go.ChangeShapes Go.WideShapes Go.ChangeAt Go.RowKit Go.Se
theorem reasonAdds_holds : Rows.ReasonAddsCardSaid :=
 Claim7.holds_tied_plain_at .later [] _ _ _ _ reasonAdds_said (fun _ h => by cases h) reasonAdds_text (fun _ h => by cases h) reasonAdds_row_tie rfl ⟨rfl,rfl⟩ reasonAdds_main rfl reasonAdds_plain reasonAdds_goes
#print axioms reasonAdds_holds
end Go.Proofs.YtnnnbjjenknpeaaGreatDoor
