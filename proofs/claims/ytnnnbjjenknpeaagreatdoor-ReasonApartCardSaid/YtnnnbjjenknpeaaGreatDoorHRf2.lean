import Derived.Test.YtnnnbjjenknpeaaGreatDoorHRf1
import Derived.Test.YtnnnbjjenknpeaaGreatDoorHPl8
import Derived.Test.YtnnnbjjenknpeaaGreatDoorGL
/- The reference's panes: New,Pane,Add,Sum; what rises; who is followed. -/
set_option linter.unusedVariables false
set_option linter.unusedSimpArgs false
namespace Go.Proofs.YtnnnbjjenknpeaaGreatDoor
open Go.Se Go.RowKit
end Go.Proofs.YtnnnbjjenknpeaaGreatDoor
