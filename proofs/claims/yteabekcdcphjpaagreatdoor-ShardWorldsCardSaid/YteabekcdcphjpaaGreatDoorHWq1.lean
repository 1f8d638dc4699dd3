import Derived.Test.YteabekcdcphjpaaGreatDoorGO
import Derived.Test.YteabekcdcphjpaaGreatDoorGL
import Derived.Test.YteabekcdcphjpaaGreatDoorGW
/- The world's parts and the document's,in plain words (WorldParts). -/
set_option linter.unusedVariables false
set_option linter.unusedSimpArgs false
namespace Go.Proofs.YteabekcdcphjpaaGreatDoor
open Go.Se Go.RowKit
end Go.Proofs.YteabekcdcphjpaaGreatDoor
