import Derived.Test.YtdahooejkjcjiaaGreatDoorHWf1
import Derived.Test.YtdahooejkjcjiaaGreatDoorGXH
import Derived.Test.YtdahooejkjcjiaaGreatDoorHWn1
import Derived.Test.YtdahooejkjcjiaaGreatDoorGO
/- Who is forgotten,in plain words;what a world tells of them. -/
set_option linter.unusedVariables false
set_option linter.unusedSimpArgs false
namespace Go.Proofs.YtdahooejkjcjiaaGreatDoor
open Go.Se Go.RowKit
end Go.Proofs.YtdahooejkjcjiaaGreatDoor
