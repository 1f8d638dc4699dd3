/- The law TopReasons returns true for every input, and leaves its arguments as they were: its card. Condition: the listed package variables read as the text of the program lays them (the given tie). -/
import Derived.Test.YtpdonaienhociaaGreatDoorHPTopReasonsB
import Derived.Test.YtpdonaienhociaaGreatDoorHPTopReasonsC
import Derived.Test.YtpdonaienhociaaGreatDoorHPTopReasonsG
set_option linter.all false
namespace Go.Proofs.YtpdonaienhociaaGreatDoor
open Go.ChangeShapes Go.WideShapes Go.ChangeAt Go.RowKit Go.Se
theorem topReasons_holds:Rows.TopReasonsCardSaid :=
 Claim7.holds_tied_plain_at .later [] _ _ _ _ topReasons_said (fun _ h=>by cases h) topReasons_text (fun _ h=>by cases h) topReasons_row_tie rfl ⟨rfl,rfl⟩ topReasons_main rfl topReasons_plain topReasons_goes
#print axioms topReasons_holds
end Go.Proofs.YtpdonaienhociaaGreatDoor
