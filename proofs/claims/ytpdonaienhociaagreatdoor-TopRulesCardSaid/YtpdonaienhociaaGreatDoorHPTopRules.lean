/- The law TopRules returns true for every input, and leaves its arguments as they were: its card. Condition: the listed package variables read as the text of the program lays them (the given tie). -/
import Derived.Test.YtpdonaienhociaaGreatDoorHPTopRulesB
import Derived.Test.YtpdonaienhociaaGreatDoorHPTopRulesC
import Derived.Test.YtpdonaienhociaaGreatDoorHPTopRulesG
set_option linter.all false
namespace Go.Proofs.YtpdonaienhociaaGreatDoor
open Go.ChangeShapes Go.WideShapes Go.ChangeAt Go.RowKit Go.Se
theorem topRules_holds:Rows.TopRulesCardSaid :=
 Claim7.holds_tied_plain_at .later [] _ _ _ _ topRules_said (fun _ h=>by cases h) topRules_text (fun _ h=>by cases h) topRules_row_tie rfl ⟨rfl,rfl⟩ topRules_main rfl topRules_plain topRules_goes
#print axioms topRules_holds
end Go.Proofs.YtpdonaienhociaaGreatDoor
