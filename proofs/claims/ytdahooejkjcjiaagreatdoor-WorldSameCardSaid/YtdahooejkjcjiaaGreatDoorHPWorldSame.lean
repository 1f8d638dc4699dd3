import Derived.Test.YtdahooejkjcjiaaGreatDoorHPWorldSameB
import Derived.Test.YtdahooejkjcjiaaGreatDoorHPWorldSameC
import Derived.Test.YtdahooejkjcjiaaGreatDoorHPWorldSameG
import Derived.Test.YtdahooejkjcjiaaGreatDoorCards
/- The law WorldSame: a part of its card. -/
set_option linter.unusedVariables false
set_option linter.unusedSimpArgs false
namespace Go.Proofs.YtdahooejkjcjiaaGreatDoor
open Go.ChangeShapes Go.WideShapes Go.ChangeAt Go.RowKit Go.Se
theorem worldSame_holds : Rows.WorldSameCardSaid :=
 Claim7.holds_tied_plain_at .later [] _ _ _ _ worldSame_said (fun _ h => by cases h) worldSame_text (fun _ h => by cases h) worldSame_row_tie rfl ⟨rfl,rfl⟩ worldSame_main rfl worldSame_plain worldSame_goes
#print axioms worldSame_holds
end Go.Proofs.YtdahooejkjcjiaaGreatDoor
