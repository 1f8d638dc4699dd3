import Derived.Test.YtopncieoolkhjaaGreatDoorHPWorldPartsB
import Derived.Test.YtopncieoolkhjaaGreatDoorHPWorldPartsC
import Derived.Test.YtopncieoolkhjaaGreatDoorHPWorldPartsG
import Derived.Test.YtopncieoolkhjaaGreatDoorCards
/- The law WorldParts: a part of its card. -/
set_option linter.unusedVariables false
set_option linter.unusedSimpArgs false
namespace Go.Proofs.YtopncieoolkhjaaGreatDoor
open Go.ChangeShapes Go.WideShapes Go.ChangeAt Go.RowKit Go.Se
theorem worldParts_holds : Rows.WorldPartsCardSaid :=
 Claim7.holds_tied_plain_at .later [] _ _ _ _ worldParts_said (fun _ h => by cases h) worldParts_text (fun _ h => by cases h) worldParts_row_tie rfl ⟨rfl,rfl⟩ worldParts_main rfl worldParts_plain worldParts_goes
#print axioms worldParts_holds
end Go.Proofs.YtopncieoolkhjaaGreatDoor
