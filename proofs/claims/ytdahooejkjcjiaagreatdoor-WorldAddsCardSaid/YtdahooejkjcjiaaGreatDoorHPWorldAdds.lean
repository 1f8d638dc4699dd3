import Derived.Test.YtdahooejkjcjiaaGreatDoorHPWorldAddsB
import Derived.Test.YtdahooejkjcjiaaGreatDoorHPWorldAddsC
import Derived.Test.YtdahooejkjcjiaaGreatDoorHPWorldAddsG
import Derived.Test.YtdahooejkjcjiaaGreatDoorCards
/- The law WorldAdds: a part of its card. -/
set_option linter.unusedVariables false
set_option linter.unusedSimpArgs false
namespace Go.Proofs.YtdahooejkjcjiaaGreatDoor
open Go.ChangeShapes Go.WideShapes Go.ChangeAt Go.RowKit Go.Se
theorem worldAdds_holds:Rows.WorldAddsCardSaid :=
 Claim7.holds_tied_plain_at .later [] _ _ _ _ worldAdds_said (fun _ h=>by cases h) worldAdds_text (fun _ h=>by cases h) worldAdds_row_tie rfl ⟨rfl,rfl⟩ worldAdds_main rfl worldAdds_plain worldAdds_goes
#print axioms worldAdds_holds
end Go.Proofs.YtdahooejkjcjiaaGreatDoor
