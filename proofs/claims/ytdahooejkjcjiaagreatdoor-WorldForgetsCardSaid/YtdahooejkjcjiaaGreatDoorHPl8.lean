import Derived.Test.YtdahooejkjcjiaaGreatDoorGN
import Derived.Test.YtdahooejkjcjiaaGreatDoorGJ
/- What the score's reference adds up,in plain words. -/
set_option linter.unusedVariables false
set_option linter.unusedSimpArgs false
namespace Go.Proofs.YtdahooejkjcjiaaGreatDoor
open Go.Se Go.RowKit
theorem Qft (gap:Int) (L:List Ad3) (a:Ad3) : allL gap (L ++ [a]) = Qa0 gap (allL gap L) a := by unfold allL; rw [List.foldl_append]; rfl
end Go.Proofs.YtdahooejkjcjiaaGreatDoor
