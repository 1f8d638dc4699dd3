import Derived.Test.YtdahooejkjcjiaaGreatDoorGXE
/- The law WorldAlone. -/
set_option linter.unusedVariables false
set_option linter.unusedSimpArgs false
namespace Go.Proofs.YtdahooejkjcjiaaGreatDoor
open Go.Se Go.RowKit
section
variable {w:World} {T:Nat→Prop} {p:Nat} {c:Cfg} {z:List Ev} {v:Value} {col:Nat→Nat} {q:WP} {A:Option Addr} {n cap:Nat} {any:Bool} {last:Ev}
end
end Go.Proofs.YtdahooejkjcjiaaGreatDoor
