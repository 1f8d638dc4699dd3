import Derived.Test.YtoancknoinilaaaGreatDoorHPScoreTotalsB
import Derived.Test.YtoancknoinilaaaGreatDoorHPScoreTotalsC
import Derived.Test.YtoancknoinilaaaGreatDoorHPScoreTotalsG
import Derived.Test.YtoancknoinilaaaGreatDoorCards

/- The law ScoreTotals: a part of its card. -/
set_option linter.unusedVariables false
set_option linter.unusedSimpArgs false
namespace Go.Proofs.YtoancknoinilaaaGreatDoor
open Go.ChangeShapes Go.WideShapes Go.ChangeAt Go.RowKit Go.Se

theorem scoreTotals_holds : Rows.ScoreTotalsCardSaid :=
  Claim7.holds_tied_plain_at .later [] _ _ _ _ scoreTotals_said (fun _ h => by cases h) scoreTotals_text (fun _ h => by cases h) scoreTotals_row_tie rfl ⟨rfl, rfl⟩ scoreTotals_main rfl scoreTotals_plain scoreTotals_goes
#print axioms scoreTotals_holds
end Go.Proofs.YtoancknoinilaaaGreatDoor
