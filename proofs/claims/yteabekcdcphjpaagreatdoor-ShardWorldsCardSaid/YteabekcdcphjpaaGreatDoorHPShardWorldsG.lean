import Derived.Test.YteabekcdcphjpaaGreatDoorGR
import Derived.Test.YteabekcdcphjpaaGreatDoorCards
/- The law ShardWorlds: a part of its card. -/
set_option linter.unusedVariables false
set_option linter.unusedSimpArgs false
namespace Go.Proofs.YteabekcdcphjpaaGreatDoor
open Go.ChangeShapes Go.WideShapes Go.ChangeAt Go.RowKit Go.Se
theorem shardWorlds_main : Tryz.pinned.checked.prog.mainIs = some (Rows.shardWorldsCard.stood.harness.1,Rows.shardWorldsCard.stood.harness.2.toList) := by kernel_rfl
theorem shardWorlds_text : Rows.shardWorldsRow.wfByText (OpenSpec.ofChange Rows.shardWorldsSpec) = true := by kernel_rfl
theorem shardWorlds_goes : false = Rows.shardWorldsRow.goesBy Tryz.pinned.checked.prog := by kernel_rfl
end Go.Proofs.YteabekcdcphjpaaGreatDoor
