/- Several texts in one: Rs5, Rs6, Sl1, Sl3. -/
import Derived.Test.YtdahooejkjcjiaaGreatDoorGXA
import Derived.Test.YtdahooejkjcjiaaGreatDoorGM
import Derived.Test.YtdahooejkjcjiaaGreatDoorHPl8
import Derived.Test.YtdahooejkjcjiaaGreatDoorGW
import Derived.Test.YtdahooejkjcjiaaGreatDoorGN
import Derived.Test.YtdahooejkjcjiaaGreatDoorGK
import Derived.Test.YtdahooejkjcjiaaGreatDoorGL
set_option linter.unusedVariables false
set_option linter.unusedSimpArgs false
namespace Go.Proofs.YtdahooejkjcjiaaGreatDoor
open Go.Se Go.RowKit
end Go.Proofs.YtdahooejkjcjiaaGreatDoor
