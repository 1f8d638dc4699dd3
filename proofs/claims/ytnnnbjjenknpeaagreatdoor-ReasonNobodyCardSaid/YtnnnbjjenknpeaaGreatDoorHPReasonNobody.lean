import Derived.Test.YtnnnbjjenknpeaaGreatDoorHPReasonNobodyB
import Derived.Test.YtnnnbjjenknpeaaGreatDoorHPReasonNobodyC
import Derived.Test.YtnnnbjjenknpeaaGreatDoorHPReasonNobodyG
import Derived.Test.YtnnnbjjenknpeaaGreatDoorCards
/- The law ReasonNobody: a part of its card. -/
set_option linter.unusedVariables false
set_option linter.unusedSimpArgs false
namespace Go.Proofs.YtnnnbjjenknpeaaGreatDoor
open Go.ChangeShapes Go.WideShapes Go.ChangeAt Go.RowKit Go.Se
theorem reasonNobody_holds : Rows.ReasonNobodyCardSaid :=
 Claim7.holds_tied_plain_at .later [] _ _ _ _ reasonNobody_said (fun _ h => by cases h) reasonNobody_text (fun _ h => by cases h) reasonNobody_row_tie rfl ⟨rfl,rfl⟩ reasonNobody_main rfl reasonNobody_plain reasonNobody_goes
#print axioms reasonNobody_holds
end Go.Proofs.YtnnnbjjenknpeaaGreatDoor
