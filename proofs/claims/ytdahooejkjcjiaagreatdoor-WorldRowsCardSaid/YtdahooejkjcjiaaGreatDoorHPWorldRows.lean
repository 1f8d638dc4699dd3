import Derived.Test.YtdahooejkjcjiaaGreatDoorHPWorldRowsB
import Derived.Test.YtdahooejkjcjiaaGreatDoorHPWorldRowsC
import Derived.Test.YtdahooejkjcjiaaGreatDoorHPWorldRowsG
import Derived.Test.YtdahooejkjcjiaaGreatDoorCards
/- The law WorldRows: a part of its card. -/
set_option linter.unusedVariables false
set_option linter.unusedSimpArgs false
namespace Go.Proofs.YtdahooejkjcjiaaGreatDoor
open Go.ChangeShapes Go.WideShapes Go.ChangeAt Go.RowKit Go.Se
theorem worldRows_holds : Rows.WorldRowsCardSaid :=
 Claim7.holds_tied_plain_at .later [] _ _ _ _ worldRows_said (fun _ h => by cases h) worldRows_text (fun _ h => by cases h) worldRows_row_tie rfl ⟨rfl,rfl⟩ worldRows_main rfl worldRows_plain worldRows_goes
#print axioms worldRows_holds
end Go.Proofs.YtdahooejkjcjiaaGreatDoor
