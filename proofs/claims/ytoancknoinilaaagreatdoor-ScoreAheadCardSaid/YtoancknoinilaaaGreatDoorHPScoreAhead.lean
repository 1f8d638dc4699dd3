import Derived.Test.YtoancknoinilaaaGreatDoorHPScoreAheadB
import Derived.Test.YtoancknoinilaaaGreatDoorHPScoreAheadC
import Derived.Test.YtoancknoinilaaaGreatDoorHPScoreAheadG
import Derived.Test.YtoancknoinilaaaGreatDoorCards

/- The law ScoreAhead: a part of its card. -/
set_option linter.unusedVariables false
set_option linter.unusedSimpArgs false
namespace Go.Proofs.YtoancknoinilaaaGreatDoor
open Go.ChangeShapes Go.WideShapes Go.ChangeAt Go.RowKit Go.Se

theorem scoreAhead_holds : Rows.ScoreAheadCardSaid :=
  Claim7.holds_tied_plain_at .later [] _ _ _ _ scoreAhead_said (fun _ h => by cases h) scoreAhead_text (fun _ h => by cases h) scoreAhead_row_tie rfl ⟨rfl, rfl⟩ scoreAhead_main rfl scoreAhead_plain scoreAhead_goes
#print axioms scoreAhead_holds
end Go.Proofs.YtoancknoinilaaaGreatDoor
