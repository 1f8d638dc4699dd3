import Derived.Test.YtnnnbjjenknpeaaGreatDoorHPReasonTextsB
import Derived.Test.YtnnnbjjenknpeaaGreatDoorHPReasonTextsC
import Derived.Test.YtnnnbjjenknpeaaGreatDoorHPReasonTextsG
import Derived.Test.YtnnnbjjenknpeaaGreatDoorCards
/- The law ReasonTexts: a part of its card. -/
set_option linter.unusedVariables false
set_option linter.unusedSimpArgs false
namespace Go.Proofs.YtnnnbjjenknpeaaGreatDoor
open Go.ChangeShapes Go.WideShapes Go.ChangeAt Go.RowKit Go.Se
theorem reasonTexts_holds : Rows.ReasonTextsCardSaid :=
 Claim7.holds_tied_plain_at .later [] _ _ _ _ reasonTexts_said (fun _ h => by cases h) reasonTexts_text (fun _ h => by cases h) reasonTexts_row_tie rfl ⟨rfl,rfl⟩ reasonTexts_main rfl reasonTexts_plain reasonTexts_goes
#print axioms reasonTexts_holds
end Go.Proofs.YtnnnbjjenknpeaaGreatDoor
