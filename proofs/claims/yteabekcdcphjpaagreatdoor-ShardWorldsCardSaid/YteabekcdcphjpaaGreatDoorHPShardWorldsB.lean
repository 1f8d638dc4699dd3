import Derived.Test.YteabekcdcphjpaaGreatDoorHPShardWorldsA
import Derived.Test.YteabekcdcphjpaaGreatDoorHPShardWorldsF
import Derived.Test.YteabekcdcphjpaaGreatDoorCards
/- The law ShardWorlds: a part of its card. -/
set_option linter.unusedVariables false
set_option linter.unusedSimpArgs false
namespace Go.Proofs.YteabekcdcphjpaaGreatDoor
open Go.ChangeShapes Go.WideShapes Go.ChangeAt Go.RowKit Go.Se
set_option maxRecDepth 100000 in
theorem shardWorlds_closed : joinedFacts Tryz.pinned.checked.prog 4 Tryz.f4 (OpenSpec.ofChange Rows.shardWorldsSpec).bare Rows.shardWorldsRow = true := by
 unfold joinedFacts
 refine Qg6 ?_ shardWorlds_j32
 refine Qg6 ?_ shardWorlds_j31
 refine Qg6 ?_ shardWorlds_j30
 refine Qg6 ?_ shardWorlds_j29
 refine Qg6 ?_ shardWorlds_j28
 refine Qg6 ?_ shardWorlds_j27
 refine Qg6 ?_ Xbs
 refine Qg6 ?_ Xbr
 refine Qg6 ?_ shardWorlds_j24
 refine Qg6 ?_ shardWorlds_j23
 refine Qg6 ?_ shardWorlds_j22
 refine Qg6 ?_ shardWorlds_j21
 refine Qg6 ?_ shardWorlds_j20
 refine Qg6 ?_ shardWorlds_j19
 refine Qg6 ?_ shardWorlds_j18
 refine Qg6 ?_ shardWorlds_j17
 refine Qg6 ?_ shardWorlds_j16
 refine Qg6 ?_ shardWorlds_j15
 refine Qg6 ?_ shardWorlds_j14
 refine Qg6 ?_ shardWorlds_j13
 refine Qg6 ?_ shardWorlds_j12
 refine Qg6 ?_ shardWorlds_j11
 refine Qg6 ?_ shardWorlds_j10
 refine Qg6 ?_ jf9
 refine Qg6 ?_ shardWorlds_j8
 refine Qg6 ?_ jf7
 refine Qg6 ?_ shardWorlds_j6
 refine Qg6 ?_ shardWorlds_j5
 refine Qg6 ?_ shardWorlds_j4
 refine Qg6 ?_ jf3
 refine Qg6 ?_ jf2
 exact shardWorlds_j1
theorem shardWorlds_said : Rows.ShardWorldsSaid :=
 OpenClaim.holds_of_cond 4 Tryz.f4 rfl rfl rfl rfl rfl rfl rfl ⟨rfl,rfl,rfl,rfl,rfl⟩ rfl rfl rfl rfl rfl (by kernel_rfl) Tryz.func4 shardWorlds_closed
  (of_decide_eq_true (by kernel_rfl)) (by unfold Func.isWrapper; first | (rw [if_pos (by decide +kernel)]; kernel_rfl) | (rw [if_neg (by decide +kernel)]; exact ⟨rfl,rfl⟩))
  (fun os started H enc _ F => by rw [OpenClaim.pre_eq_preRow]; exact shardWorlds_lifted os started H enc F)
end Go.Proofs.YteabekcdcphjpaaGreatDoor
