/- The law TopAudit returns true for every input, and leaves its arguments as they were: its card. Condition: the listed package variables read as the text of the program lays them (the given tie). -/
import Derived.Test.YtnpacgccajekgaaGreatDoorHPTopAuditB
import Derived.Test.YtnpacgccajekgaaGreatDoorHPTopAuditC
import Derived.Test.YtnpacgccajekgaaGreatDoorHPTopAuditG
set_option linter.all false
namespace Go.Proofs.YtnpacgccajekgaaGreatDoor
open Go.ChangeShapes Go.WideShapes Go.ChangeAt Go.RowKit Go.Se
theorem topAudit_holds:Rows.TopAuditCardSaid :=
 Claim7.holds_tied_plain_at .later [] _ _ _ _ topAudit_said (fun _ h=>by cases h) topAudit_text (fun _ h=>by cases h) topAudit_row_tie rfl ⟨rfl,rfl⟩ topAudit_main rfl topAudit_plain topAudit_goes
#print axioms topAudit_holds
end Go.Proofs.YtnpacgccajekgaaGreatDoor
