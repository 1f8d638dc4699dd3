/- Several texts in one: Se7, Se8, RsC, Rs2. -/
import Derived.Test.YteabekcdcphjpaaGreatDoorGA
import Derived.Test.YteabekcdcphjpaaGreatDoorGF
import Derived.Test.YteabekcdcphjpaaGreatDoorGC
import Derived.Test.YteabekcdcphjpaaGreatDoorGI
import Derived.Shelf.Slices.Cells
import Derived.Test.YteabekcdcphjpaaGreatDoorGO
import Derived.Test.YteabekcdcphjpaaGreatDoorGL
import Derived.Test.YteabekcdcphjpaaGreatDoorHPl8
set_option linter.unusedVariables false
set_option linter.unusedSimpArgs false
namespace Go.Se
open Go.RowKit
section
variable {P:Program} {T:Tab} {N:Nat} {cl:Cl} {ops:List Oper}
end
section
variable {P:Program} {T:Tab} {N:Nat} {cl:Cl} {ops:List Oper}
end
end Go.Se
namespace Go.Proofs
open Go.Shelf
end Go.Proofs
namespace Go.Proofs.YteabekcdcphjpaaGreatDoor
open Go.Se Go.RowKit
end Go.Proofs.YteabekcdcphjpaaGreatDoor
