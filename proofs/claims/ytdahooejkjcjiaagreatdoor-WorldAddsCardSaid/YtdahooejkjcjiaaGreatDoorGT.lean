/- Several texts in one: Tx1. -/
import Derived.Test.YtdahooejkjcjiaaGreatDoorGI
set_option linter.unusedVariables false
set_option linter.unusedSimpArgs false
namespace Go.Proofs.YtdahooejkjcjiaaGreatDoor
open Go.Se Go.RowKit
end Go.Proofs.YtdahooejkjcjiaaGreatDoor
