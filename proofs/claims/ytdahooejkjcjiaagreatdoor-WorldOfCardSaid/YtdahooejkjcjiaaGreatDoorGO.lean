/- Several texts in one: Rs1, Rs3, Ra1. -/
import Derived.Test.YtdahooejkjcjiaaGreatDoorGM
import Derived.Test.YtdahooejkjcjiaaGreatDoorGL
import Derived.Test.YtdahooejkjcjiaaGreatDoorHPl8
set_option linter.unusedVariables false
set_option linter.unusedSimpArgs false
namespace Go.Proofs.YtdahooejkjcjiaaGreatDoor
open Go.Se Go.RowKit
section
variable {z1 z2:List Ev} {o:Ev}
end
section
variable {z z':List Ev} {o:Ev}
end
end Go.Proofs.YtdahooejkjcjiaaGreatDoor
