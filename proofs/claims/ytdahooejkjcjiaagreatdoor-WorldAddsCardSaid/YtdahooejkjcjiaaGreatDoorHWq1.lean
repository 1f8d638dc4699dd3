import Derived.Test.YtdahooejkjcjiaaGreatDoorGO
import Derived.Test.YtdahooejkjcjiaaGreatDoorGL
import Derived.Test.YtdahooejkjcjiaaGreatDoorGW
/- The world's parts and the document's,in plain words (WorldParts). -/
set_option linter.unusedVariables false
set_option linter.unusedSimpArgs false
namespace Go.Proofs.YtdahooejkjcjiaaGreatDoor
open Go.Se Go.RowKit
end Go.Proofs.YtdahooejkjcjiaaGreatDoor
