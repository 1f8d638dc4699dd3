import Derived.Test.YtoancknoinilaaaGreatDoorHRf5
import Derived.Test.YtoancknoinilaaaGreatDoorHSv
/- The law ScoreRaw. -/
set_option linter.unusedVariables false
set_option linter.unusedSimpArgs false
namespace Go.Proofs.YtoancknoinilaaaGreatDoor
open Go.Se Go.RowKit
end Go.Proofs.YtoancknoinilaaaGreatDoor
