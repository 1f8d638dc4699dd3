/- Several texts in one: Rf1, Rf2, Rf3. -/
import Derived.Test.YteabekcdcphjpaaGreatDoorGN
import Derived.Test.YteabekcdcphjpaaGreatDoorGXA
import Derived.Test.YteabekcdcphjpaaGreatDoorHPl8
import Derived.Test.YteabekcdcphjpaaGreatDoorGL
import Derived.Test.YteabekcdcphjpaaGreatDoorGK
import Derived.Test.YteabekcdcphjpaaGreatDoorGC
set_option linter.unusedVariables false
set_option linter.unusedSimpArgs false
namespace Go.Proofs.YteabekcdcphjpaaGreatDoor
open Go.Se Go.RowKit
end Go.Proofs.YteabekcdcphjpaaGreatDoor
