import Derived.Test.YteabekcdcphjpaaGreatDoorGH
/- What a map holds does not hang on the order in which it was filled. -/
set_option linter.unusedVariables false
set_option linter.unusedSimpArgs false
namespace Go.Proofs.YteabekcdcphjpaaGreatDoor
open Go.Se Go.RowKit
end Go.Proofs.YteabekcdcphjpaaGreatDoor
