import Derived.Test.YtoancknoinilaaaGreatDoorHPScoreRawB
import Derived.Test.YtoancknoinilaaaGreatDoorHPScoreRawC
import Derived.Test.YtoancknoinilaaaGreatDoorHPScoreRawG
import Derived.Test.YtoancknoinilaaaGreatDoorCards
/- The law ScoreRaw: a part of its card. -/
set_option linter.unusedVariables false
set_option linter.unusedSimpArgs false
namespace Go.Proofs.YtoancknoinilaaaGreatDoor
open Go.ChangeShapes Go.WideShapes Go.ChangeAt Go.RowKit Go.Se
theorem scoreRaw_holds : Rows.ScoreRawCardSaid :=
 Claim7.holds_tied_plain_at .later [] _ _ _ _ scoreRaw_said (fun _ h => by cases h) scoreRaw_text (fun _ h => by cases h) scoreRaw_row_tie rfl ⟨rfl,rfl⟩ scoreRaw_main rfl scoreRaw_plain scoreRaw_goes
#print axioms scoreRaw_holds
end Go.Proofs.YtoancknoinilaaaGreatDoor
