import Derived.Test.YtohkipkjleldpaaGreatDoorHPTopAheadB
import Derived.Test.YtohkipkjleldpaaGreatDoorHPTopAheadC
import Derived.Test.YtohkipkjleldpaaGreatDoorHPTopAheadG
import Derived.Test.YtohkipkjleldpaaGreatDoorCards
/- The law TopAhead: a part of its card. -/
set_option linter.unusedVariables false
set_option linter.unusedSimpArgs false
namespace Go.Proofs.YtohkipkjleldpaaGreatDoor
open Go.ChangeShapes Go.WideShapes Go.ChangeAt Go.RowKit Go.Se
theorem topAhead_holds:Rows.TopAheadCardSaid :=
 Claim7.holds_tied_plain_at .later [] _ _ _ _ topAhead_said (fun _ h=>by cases h) topAhead_text (fun _ h=>by cases h) topAhead_row_tie rfl ⟨rfl,rfl⟩ topAhead_main rfl topAhead_plain topAhead_goes
#print axioms topAhead_holds
end Go.Proofs.YtohkipkjleldpaaGreatDoor
