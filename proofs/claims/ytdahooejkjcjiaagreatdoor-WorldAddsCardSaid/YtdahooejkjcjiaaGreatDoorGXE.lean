/- Several texts in one: Rs7, Wp1, Wq2, Ws1. -/
import Derived.Test.YtdahooejkjcjiaaGreatDoorGXD
import Derived.Test.YtdahooejkjcjiaaGreatDoorGT
import Derived.Test.YtdahooejkjcjiaaGreatDoorGXH
import Derived.Test.YtdahooejkjcjiaaGreatDoorHWq1
import Derived.Test.YtdahooejkjcjiaaGreatDoorHRf4
import Derived.Test.YtdahooejkjcjiaaGreatDoorGJ
import Derived.Test.YtdahooejkjcjiaaGreatDoorGXA
import Derived.Test.YtdahooejkjcjiaaGreatDoorHSam
import Derived.Test.YtdahooejkjcjiaaGreatDoorGM
import Derived.Test.YtdahooejkjcjiaaGreatDoorGK
import Derived.Test.YtdahooejkjcjiaaGreatDoorGXB
set_option linter.unusedVariables false
set_option linter.unusedSimpArgs false
namespace Go.Proofs.YtdahooejkjcjiaaGreatDoor
open Go.Se Go.RowKit
section
variable {w:World} {T:Nat→Prop} {p:Nat} {c:Cfg} {z:List Ev} {v:Value} {col:Nat→Nat} {q:WP} {A:Option Addr} {n cap:Nat} {any:Bool} {last:Ev}
end
end Go.Proofs.YtdahooejkjcjiaaGreatDoor
