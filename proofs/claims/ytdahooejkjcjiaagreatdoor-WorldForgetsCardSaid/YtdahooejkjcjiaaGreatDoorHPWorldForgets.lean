import Derived.Test.YtdahooejkjcjiaaGreatDoorHPWorldForgetsB
import Derived.Test.YtdahooejkjcjiaaGreatDoorHPWorldForgetsC
import Derived.Test.YtdahooejkjcjiaaGreatDoorHPWorldForgetsG
import Derived.Test.YtdahooejkjcjiaaGreatDoorCards
/- The law WorldForgets: a part of its card. -/
set_option linter.unusedVariables false
set_option linter.unusedSimpArgs false
namespace Go.Proofs.YtdahooejkjcjiaaGreatDoor
open Go.ChangeShapes Go.WideShapes Go.ChangeAt Go.RowKit Go.Se
theorem worldForgets_holds : Rows.WorldForgetsCardSaid :=
 Claim7.holds_tied_plain_at .later [] _ _ _ _ worldForgets_said (fun _ h => by cases h) worldForgets_text (fun _ h => by cases h) worldForgets_row_tie rfl ⟨rfl,rfl⟩ worldForgets_main rfl worldForgets_plain worldForgets_goes
#print axioms worldForgets_holds
end Go.Proofs.YtdahooejkjcjiaaGreatDoor
