import Derived.Test.YteabekcdcphjpaaGreatDoorGW
/- The reference's sessions: New,ahead,Add,insert,All; the nearest. -/
set_option linter.unusedVariables false
set_option linter.unusedSimpArgs false
namespace Go.Proofs.YteabekcdcphjpaaGreatDoor
open Go.Se Go.RowKit
end Go.Proofs.YteabekcdcphjpaaGreatDoor
