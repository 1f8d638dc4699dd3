import Derived.Test.YtopncieoolkhjaaGreatDoorHRs7
/- The reason's laws: how they begin; their example. -/
set_option linter.unusedVariables false
set_option linter.unusedSimpArgs false
namespace Go.Proofs.YtopncieoolkhjaaGreatDoor
open Go.Se Go.RowKit
end Go.Proofs.YtopncieoolkhjaaGreatDoor
