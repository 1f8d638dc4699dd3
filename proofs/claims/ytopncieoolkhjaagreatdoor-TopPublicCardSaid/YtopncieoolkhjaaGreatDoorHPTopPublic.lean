import Derived.Test.YtopncieoolkhjaaGreatDoorHPTopPublicB
import Derived.Test.YtopncieoolkhjaaGreatDoorHPTopPublicC
import Derived.Test.YtopncieoolkhjaaGreatDoorHPTopPublicG
import Derived.Test.YtopncieoolkhjaaGreatDoorCards
/- The law TopPublic: a part of its card. -/
set_option linter.unusedVariables false
set_option linter.unusedSimpArgs false
namespace Go.Proofs.YtopncieoolkhjaaGreatDoor
open Go.ChangeShapes Go.WideShapes Go.ChangeAt Go.RowKit Go.Se
theorem topPublic_holds : Rows.TopPublicCardSaid :=
 Claim7.holds_tied_plain_at .later [] _ _ _ _ topPublic_said (fun _ h => by cases h) topPublic_text (fun _ h => by cases h) topPublic_row_tie rfl ⟨rfl,rfl⟩ topPublic_main rfl topPublic_plain topPublic_goes
#print axioms topPublic_holds
end Go.Proofs.YtopncieoolkhjaaGreatDoor
