import Derived.Test.YteabekcdcphjpaaGreatDoorHPShardWorldsB
import Derived.Test.YteabekcdcphjpaaGreatDoorHPShardWorldsC
import Derived.Test.YteabekcdcphjpaaGreatDoorHPShardWorldsG
import Derived.Test.YteabekcdcphjpaaGreatDoorCards
/- The law ShardWorlds: a part of its card. -/
set_option linter.unusedVariables false
set_option linter.unusedSimpArgs false
namespace Go.Proofs.YteabekcdcphjpaaGreatDoor
open Go.ChangeShapes Go.WideShapes Go.ChangeAt Go.RowKit Go.Se
theorem shardWorlds_holds : Rows.ShardWorldsCardSaid :=
 Claim7.holds_tied_plain_at .later [] _ _ _ _ shardWorlds_said (fun _ h => by cases h) shardWorlds_text (fun _ h => by cases h) shardWorlds_row_tie rfl ⟨rfl,rfl⟩ shardWorlds_main rfl shardWorlds_plain shardWorlds_goes
#print axioms shardWorlds_holds
end Go.Proofs.YteabekcdcphjpaaGreatDoor
