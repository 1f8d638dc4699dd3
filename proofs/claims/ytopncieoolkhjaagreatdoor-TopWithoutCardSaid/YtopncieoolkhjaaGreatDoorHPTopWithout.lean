import Derived.Test.YtopncieoolkhjaaGreatDoorHPTopWithoutB
import Derived.Test.YtopncieoolkhjaaGreatDoorHPTopWithoutC
import Derived.Test.YtopncieoolkhjaaGreatDoorHPTopWithoutG
import Derived.Test.YtopncieoolkhjaaGreatDoorCards
/- The law TopWithout: a part of its card. -/
set_option linter.unusedVariables false
set_option linter.unusedSimpArgs false
namespace Go.Proofs.YtopncieoolkhjaaGreatDoor
open Go.ChangeShapes Go.WideShapes Go.ChangeAt Go.RowKit Go.Se
theorem topWithout_holds : Rows.TopWithoutCardSaid :=
 Claim7.holds_tied_plain_at .later [] _ _ _ _ topWithout_said (fun _ h => by cases h) topWithout_text (fun _ h => by cases h) topWithout_row_tie rfl ⟨rfl,rfl⟩ topWithout_main rfl topWithout_plain topWithout_goes
#print axioms topWithout_holds
end Go.Proofs.YtopncieoolkhjaaGreatDoor
