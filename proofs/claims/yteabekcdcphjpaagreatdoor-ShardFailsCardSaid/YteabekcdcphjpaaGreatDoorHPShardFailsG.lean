import Derived.Test.YteabekcdcphjpaaGreatDoorGR
import Derived.Test.YteabekcdcphjpaaGreatDoorCards
/- The law ShardFails: a part of its card. -/
set_option linter.unusedVariables false
set_option linter.unusedSimpArgs false
namespace Go.Proofs.YteabekcdcphjpaaGreatDoor
open Go.ChangeShapes Go.WideShapes Go.ChangeAt Go.RowKit Go.Se
theorem shardFails_main:Tryz.pinned.checked.prog.mainIs=some (Rows.shardFailsCard.stood.harness.1,Rows.shardFailsCard.stood.harness.2.toList):=by kernel_rfl
theorem shardFails_text:Rows.shardFailsRow.wfByText (OpenSpec.ofChange Rows.shardFailsSpec)=true:=by kernel_rfl
theorem shardFails_goes:false=Rows.shardFailsRow.goesBy Tryz.pinned.checked.prog:=by kernel_rfl
end Go.Proofs.YteabekcdcphjpaaGreatDoor
