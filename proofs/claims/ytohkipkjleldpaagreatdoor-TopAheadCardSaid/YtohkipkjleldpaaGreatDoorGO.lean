/- Several texts in one: Rs1. -/
import Derived.Test.YtohkipkjleldpaaGreatDoorGM
import Derived.Test.YtohkipkjleldpaaGreatDoorGL
set_option linter.unusedVariables false
set_option linter.unusedSimpArgs false
namespace Go.Proofs.YtohkipkjleldpaaGreatDoor
open Go.Se Go.RowKit
end Go.Proofs.YtohkipkjleldpaaGreatDoor
