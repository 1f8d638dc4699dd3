import Derived.Test.YtnnnbjjenknpeaaGreatDoorHRf4
import Derived.Test.YtnnnbjjenknpeaaGreatDoorGM
/- The reference's Taste and Raw: all raw points. -/
set_option linter.unusedVariables false
set_option linter.unusedSimpArgs false
namespace Go.Proofs.YtnnnbjjenknpeaaGreatDoor
open Go.Se Go.RowKit
end Go.Proofs.YtnnnbjjenknpeaaGreatDoor
