import Derived.Test.YtoancknoinilaaaGreatDoorHPScoreWeighsB
import Derived.Test.YtoancknoinilaaaGreatDoorHPScoreWeighsC
import Derived.Test.YtoancknoinilaaaGreatDoorHPScoreWeighsG
import Derived.Test.YtoancknoinilaaaGreatDoorCards

/- The law ScoreWeighs: a part of its card. -/
set_option linter.unusedVariables false
set_option linter.unusedSimpArgs false
namespace Go.Proofs.YtoancknoinilaaaGreatDoor
open Go.ChangeShapes Go.WideShapes Go.ChangeAt Go.RowKit Go.Se

theorem scoreWeighs_holds : Rows.ScoreWeighsCardSaid :=
  Claim7.holds_tied_plain_at .later [] _ _ _ _ scoreWeighs_said (fun _ h => by cases h) scoreWeighs_text (fun _ h => by cases h) scoreWeighs_row_tie rfl ⟨rfl, rfl⟩ scoreWeighs_main rfl scoreWeighs_plain scoreWeighs_goes
#print axioms scoreWeighs_holds
end Go.Proofs.YtoancknoinilaaaGreatDoor
