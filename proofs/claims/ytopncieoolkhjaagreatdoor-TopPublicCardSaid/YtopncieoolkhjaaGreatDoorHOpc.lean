import Derived.Test.YtopncieoolkhjaaGreatDoorGK
import Derived.Test.YtopncieoolkhjaaGreatDoorGR
/- Opening configs,and slices of parts. -/
set_option linter.unusedVariables false
set_option linter.unusedSimpArgs false
namespace Go.Proofs.YtopncieoolkhjaaGreatDoor
open Go.ChangeShapes Go.WideShapes Go.ChangeAt Go.RowKit Go.Deep Go.Se
end Go.Proofs.YtopncieoolkhjaaGreatDoor
