import Derived.Test.YtnnnbjjenknpeaaGreatDoorHPReasonApartB
import Derived.Test.YtnnnbjjenknpeaaGreatDoorHPReasonApartC
import Derived.Test.YtnnnbjjenknpeaaGreatDoorHPReasonApartG
import Derived.Test.YtnnnbjjenknpeaaGreatDoorCards
/- The law ReasonApart: a part of its card. -/
set_option linter.unusedVariables false
set_option linter.unusedSimpArgs false
namespace Go.Proofs.YtnnnbjjenknpeaaGreatDoor
open Go.ChangeShapes Go.WideShapes Go.ChangeAt Go.RowKit Go.Se
theorem reasonApart_holds : Rows.ReasonApartCardSaid :=
 Claim7.holds_tied_plain_at .later [] _ _ _ _ reasonApart_said (fun _ h => by cases h) reasonApart_text (fun _ h => by cases h) reasonApart_row_tie rfl ⟨rfl,rfl⟩ reasonApart_main rfl reasonApart_plain reasonApart_goes
#print axioms reasonApart_holds
end Go.Proofs.YtnnnbjjenknpeaaGreatDoor
