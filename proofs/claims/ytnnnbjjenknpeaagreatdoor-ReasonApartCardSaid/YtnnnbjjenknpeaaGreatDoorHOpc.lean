import Derived.Test.YtnnnbjjenknpeaaGreatDoorGK
import Derived.Test.YtnnnbjjenknpeaaGreatDoorGR
/- Opening configs,and slices of parts. -/
set_option linter.unusedVariables false
set_option linter.unusedSimpArgs false
namespace Go.Proofs.YtnnnbjjenknpeaaGreatDoor
open Go.ChangeShapes Go.WideShapes Go.ChangeAt Go.RowKit Go.Deep Go.Se
end Go.Proofs.YtnnnbjjenknpeaaGreatDoor
