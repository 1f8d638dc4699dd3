import Derived.Test.YtnnnbjjenknpeaaGreatDoorHPReasonChecksB
import Derived.Test.YtnnnbjjenknpeaaGreatDoorHPReasonChecksC
import Derived.Test.YtnnnbjjenknpeaaGreatDoorHPReasonChecksG
import Derived.Test.YtnnnbjjenknpeaaGreatDoorCards
/- The law ReasonChecks: a part of its card. -/
set_option linter.unusedVariables false
set_option linter.unusedSimpArgs false
namespace Go.Proofs.YtnnnbjjenknpeaaGreatDoor
open Go.ChangeShapes Go.WideShapes Go.ChangeAt Go.RowKit Go.Se
theorem reasonChecks_holds : Rows.ReasonChecksCardSaid :=
 Claim7.holds_tied_plain_at .later [] _ _ _ _ reasonChecks_said (fun _ h => by cases h) reasonChecks_text (fun _ h => by cases h) reasonChecks_row_tie rfl ⟨rfl,rfl⟩ reasonChecks_main rfl reasonChecks_plain reasonChecks_goes
#print axioms reasonChecks_holds
end Go.Proofs.YtnnnbjjenknpeaaGreatDoor
