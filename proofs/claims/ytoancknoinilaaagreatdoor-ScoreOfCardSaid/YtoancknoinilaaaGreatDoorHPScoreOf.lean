import Derived.Test.YtoancknoinilaaaGreatDoorHPScoreOfB
import Derived.Test.YtoancknoinilaaaGreatDoorHPScoreOfC
import Derived.Test.YtoancknoinilaaaGreatDoorHPScoreOfG
import Derived.Test.YtoancknoinilaaaGreatDoorCards
/- The law ScoreOf: a part of its card. -/
set_option linter.unusedVariables false
set_option linter.unusedSimpArgs false
namespace Go.Proofs.YtoancknoinilaaaGreatDoor
open Go.ChangeShapes Go.WideShapes Go.ChangeAt Go.RowKit Go.Se
theorem scoreOf_holds : Rows.ScoreOfCardSaid :=
 Claim7.holds_tied_plain_at .later [] _ _ _ _ scoreOf_said (fun _ h => by cases h) scoreOf_text (fun _ h => by cases h) scoreOf_row_tie rfl ⟨rfl,rfl⟩ scoreOf_main rfl scoreOf_plain scoreOf_goes
#print axioms scoreOf_holds
end Go.Proofs.YtoancknoinilaaaGreatDoor
