/- Several texts in one: Rf1, Rf2, Rf3. -/
import Derived.Test.YtdahooejkjcjiaaGreatDoorGN
import Derived.Test.YtdahooejkjcjiaaGreatDoorGXA
import Derived.Test.YtdahooejkjcjiaaGreatDoorHPl8
import Derived.Test.YtdahooejkjcjiaaGreatDoorGL
import Derived.Test.YtdahooejkjcjiaaGreatDoorGK
import Derived.Test.YtdahooejkjcjiaaGreatDoorGC
set_option linter.unusedVariables false
set_option linter.unusedSimpArgs false
namespace Go.Proofs.YtdahooejkjcjiaaGreatDoor
open Go.Se Go.RowKit
abbrev A11 := ByteArray × Int × Int
end Go.Proofs.YtdahooejkjcjiaaGreatDoor
