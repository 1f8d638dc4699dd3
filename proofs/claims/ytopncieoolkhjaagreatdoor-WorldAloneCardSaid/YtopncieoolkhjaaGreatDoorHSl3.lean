import Derived.Test.YtopncieoolkhjaaGreatDoorHSl1
/- The sum of a score,in general; the law ScoreWeighs. -/
set_option linter.unusedVariables false
set_option linter.unusedSimpArgs false
namespace Go.Proofs.YtopncieoolkhjaaGreatDoor
open Go.Se Go.RowKit
end Go.Proofs.YtopncieoolkhjaaGreatDoor
