import Derived.Test.YtopncieoolkhjaaGreatDoorGA
/- Regions in an open order,by a plan,with a tail for which all waits. -/
set_option linter.unusedVariables false
set_option linter.unusedSimpArgs false
namespace Go.Se
open Go.RowKit
section
variable {P:Program} {T:Tab} {N:Nat} {cl:Cl} {ops:List Oper}
end
end Go.Se
