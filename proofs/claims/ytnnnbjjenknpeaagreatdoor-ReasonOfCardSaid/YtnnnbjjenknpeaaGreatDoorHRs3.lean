import Derived.Test.YtnnnbjjenknpeaaGreatDoorHRs1
import Derived.Test.YtnnnbjjenknpeaaGreatDoorHPl8
/- Sessions of fewer events lie within sessions of more. -/
set_option linter.unusedVariables false
set_option linter.unusedSimpArgs false
namespace Go.Proofs.YtnnnbjjenknpeaaGreatDoor
open Go.Se Go.RowKit
end Go.Proofs.YtnnnbjjenknpeaaGreatDoor
