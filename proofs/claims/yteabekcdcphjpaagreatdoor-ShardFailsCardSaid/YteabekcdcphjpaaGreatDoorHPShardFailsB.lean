import Derived.Test.YteabekcdcphjpaaGreatDoorHPShardFailsA
import Derived.Test.YteabekcdcphjpaaGreatDoorHPShardFailsF
import Derived.Test.YteabekcdcphjpaaGreatDoorCards
/- The law ShardFails: a part of its card. -/
set_option linter.unusedVariables false
set_option linter.unusedSimpArgs false
namespace Go.Proofs.YteabekcdcphjpaaGreatDoor
open Go.ChangeShapes Go.WideShapes Go.ChangeAt Go.RowKit Go.Se
set_option maxRecDepth 100000 in
theorem shardFails_closed:joinedFacts Tryz.pinned.checked.prog 3 Tryz.f3 (OpenSpec.ofChange Rows.shardFailsSpec).bare Rows.shardFailsRow=true:=by
 unfold joinedFacts;refine Qii ?_ shardFails_j32;refine Qii ?_ shardFails_j31;refine Qii ?_ shardFails_j30;refine Qii ?_ shardFails_j29;refine Qii ?_ shardFails_j28;refine Qii ?_ shardFails_j27;refine Qii ?_ Xdu;refine Qii ?_ Xdt;refine Qii ?_ shardFails_j24;refine Qii ?_ shardFails_j23;refine Qii ?_ shardFails_j22;refine Qii ?_ shardFails_j21;refine Qii ?_ shardFails_j20;refine Qii ?_ shardFails_j19;refine Qii ?_ shardFails_j18;refine Qii ?_ shardFails_j17;refine Qii ?_ shardFails_j16;refine Qii ?_ shardFails_j15;refine Qii ?_ shardFails_j14;refine Qii ?_ shardFails_j13;refine Qii ?_ shardFails_j12;refine Qii ?_ shardFails_j11;refine Qii ?_ shardFails_j10;refine Qii ?_ jf9;refine Qii ?_ shardFails_j8;refine Qii ?_ jf7;refine Qii ?_ shardFails_j6;refine Qii ?_ shardFails_j5;refine Qii ?_ shardFails_j4;refine Qii ?_ jf3;refine Qii ?_ jf2
 exact shardFails_j1
theorem shardFails_said:Rows.ShardFailsSaid :=
 OpenClaim.holds_of_cond 3 Tryz.f3 rfl rfl rfl rfl rfl rfl rfl ⟨rfl,rfl,rfl,rfl,rfl⟩ rfl rfl rfl rfl rfl (by kernel_rfl) Tryz.func3 shardFails_closed
  (of_decide_eq_true (by kernel_rfl)) (by unfold Func.isWrapper;first | (rw[if_pos (by decide +kernel)];kernel_rfl) | (rw[if_neg (by decide +kernel)];exact⟨rfl,rfl⟩))
  (fun os started H enc _ F=>by rw[OpenClaim.pre_eq_preRow];exact shardFails_lifted os started H enc F)
end Go.Proofs.YteabekcdcphjpaaGreatDoor
