import Derived.Test.YtohkipkjleldpaaGreatDoorGK
import Derived.Test.YtohkipkjleldpaaGreatDoorGR
/- Opening configs,and slices of parts. -/
set_option linter.unusedVariables false
set_option linter.unusedSimpArgs false
namespace Go.Proofs.YtohkipkjleldpaaGreatDoor
open Go.ChangeShapes Go.WideShapes Go.ChangeAt Go.RowKit Go.Deep Go.Se
end Go.Proofs.YtohkipkjleldpaaGreatDoor
