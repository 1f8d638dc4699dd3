import Derived.Test.YtnnnbjjenknpeaaGreatDoorGN
import Derived.Test.YtnnnbjjenknpeaaGreatDoorHSe7
/- The reference's decaying counter: Weight,May,Put,At; Popular. -/
set_option linter.unusedVariables false
set_option linter.unusedSimpArgs false
namespace Go.Proofs.YtnnnbjjenknpeaaGreatDoor
open Go.Se Go.RowKit
end Go.Proofs.YtnnnbjjenknpeaaGreatDoor
