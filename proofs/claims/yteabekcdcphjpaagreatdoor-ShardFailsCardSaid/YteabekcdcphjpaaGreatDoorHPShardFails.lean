import Derived.Test.YteabekcdcphjpaaGreatDoorHPShardFailsB
import Derived.Test.YteabekcdcphjpaaGreatDoorHPShardFailsC
import Derived.Test.YteabekcdcphjpaaGreatDoorHPShardFailsG
import Derived.Test.YteabekcdcphjpaaGreatDoorCards
/- The law ShardFails: a part of its card. -/
set_option linter.unusedVariables false
set_option linter.unusedSimpArgs false
namespace Go.Proofs.YteabekcdcphjpaaGreatDoor
open Go.ChangeShapes Go.WideShapes Go.ChangeAt Go.RowKit Go.Se
theorem shardFails_holds:Rows.ShardFailsCardSaid :=
 Claim7.holds_tied_plain_at .later [] _ _ _ _ shardFails_said (fun _ h=>by cases h) shardFails_text (fun _ h=>by cases h) shardFails_row_tie rfl ⟨rfl,rfl⟩ shardFails_main rfl shardFails_plain shardFails_goes
#print axioms shardFails_holds
end Go.Proofs.YteabekcdcphjpaaGreatDoor
