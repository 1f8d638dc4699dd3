import Derived.Test.YtopncieoolkhjaaGreatDoorHSe7
/- Regions in an open order in which three operations that change memory may come up at once. -/
set_option linter.unusedVariables false
set_option linter.unusedSimpArgs false
namespace Go.Se
open Go.RowKit
section
variable {P:Program} {T:Tab} {N:Nat} {cl:Cl} {ops:List Oper}
end
end Go.Se
