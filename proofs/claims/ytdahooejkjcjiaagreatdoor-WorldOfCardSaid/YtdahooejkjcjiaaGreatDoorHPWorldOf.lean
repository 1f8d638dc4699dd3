import Derived.Test.YtdahooejkjcjiaaGreatDoorHPWorldOfB
import Derived.Test.YtdahooejkjcjiaaGreatDoorHPWorldOfC
import Derived.Test.YtdahooejkjcjiaaGreatDoorHPWorldOfG
import Derived.Test.YtdahooejkjcjiaaGreatDoorCards
/- The law WorldOf: a part of its card. -/
set_option linter.unusedVariables false
set_option linter.unusedSimpArgs false
namespace Go.Proofs.YtdahooejkjcjiaaGreatDoor
open Go.ChangeShapes Go.WideShapes Go.ChangeAt Go.RowKit Go.Se
theorem worldOf_holds:Rows.WorldOfCardSaid :=
 Claim7.holds_tied_plain_at .later [] _ _ _ _ worldOf_said (fun _ h=>by cases h) worldOf_text (fun _ h=>by cases h) worldOf_row_tie rfl ⟨rfl,rfl⟩ worldOf_main rfl worldOf_plain worldOf_goes
#print axioms worldOf_holds
end Go.Proofs.YtdahooejkjcjiaaGreatDoor
