import Derived.Test.YtoancknoinilaaaGreatDoorHPScoreStrangersB
import Derived.Test.YtoancknoinilaaaGreatDoorHPScoreStrangersC
import Derived.Test.YtoancknoinilaaaGreatDoorHPScoreStrangersG
import Derived.Test.YtoancknoinilaaaGreatDoorCards

/- The law ScoreStrangers: a part of its card. -/
set_option linter.unusedVariables false
set_option linter.unusedSimpArgs false
namespace Go.Proofs.YtoancknoinilaaaGreatDoor
open Go.ChangeShapes Go.WideShapes Go.ChangeAt Go.RowKit Go.Se

theorem scoreStrangers_holds : Rows.ScoreStrangersCardSaid :=
  Claim7.holds_tied_plain_at .later [] _ _ _ _ scoreStrangers_said (fun _ h => by cases h) scoreStrangers_text (fun _ h => by cases h) scoreStrangers_row_tie rfl ⟨rfl, rfl⟩ scoreStrangers_main rfl scoreStrangers_plain scoreStrangers_goes
#print axioms scoreStrangers_holds
end Go.Proofs.YtoancknoinilaaaGreatDoor
