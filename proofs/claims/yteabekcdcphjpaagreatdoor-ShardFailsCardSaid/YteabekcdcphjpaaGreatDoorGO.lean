/- Several texts in one: Rs1. -/
import Derived.Test.YteabekcdcphjpaaGreatDoorGM
import Derived.Test.YteabekcdcphjpaaGreatDoorGL
set_option linter.unusedVariables false
set_option linter.unusedSimpArgs false
namespace Go.Proofs.YteabekcdcphjpaaGreatDoor
open Go.Se Go.RowKit
end Go.Proofs.YteabekcdcphjpaaGreatDoor
