import Derived.Test.YtopncieoolkhjaaGreatDoorHPWorldAloneB
import Derived.Test.YtopncieoolkhjaaGreatDoorHPWorldAloneC
import Derived.Test.YtopncieoolkhjaaGreatDoorHPWorldAloneG
import Derived.Test.YtopncieoolkhjaaGreatDoorCards
/- The law WorldAlone: a part of its card. -/
set_option linter.unusedVariables false
set_option linter.unusedSimpArgs false
namespace Go.Proofs.YtopncieoolkhjaaGreatDoor
open Go.ChangeShapes Go.WideShapes Go.ChangeAt Go.RowKit Go.Se
theorem worldAlone_holds : Rows.WorldAloneCardSaid :=
 Claim7.holds_tied_plain_at .later [] _ _ _ _ worldAlone_said (fun _ h => by cases h) worldAlone_text (fun _ h => by cases h) worldAlone_row_tie rfl ⟨rfl,rfl⟩ worldAlone_main rfl worldAlone_plain worldAlone_goes
#print axioms worldAlone_holds
end Go.Proofs.YtopncieoolkhjaaGreatDoor
