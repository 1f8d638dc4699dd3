import Derived.Test.YtagijlhciclafaaGreatDoorHPRoadFindsA
import Derived.Test.YtagijlhciclafaaGreatDoorHPRoadFindsF
import Derived.Test.YtagijlhciclafaaGreatDoorCards
/- The law RoadFinds: a part of its card. -/
set_option linter.unusedVariables false
set_option linter.unusedSimpArgs false
namespace Go.Proofs.YtagijlhciclafaaGreatDoor
open Go.ChangeShapes Go.WideShapes Go.ChangeAt Go.RowKit Go.Se
set_option maxRecDepth 100000 in
theorem roadFinds_closed:joinedFacts Tryz.pinned.checked.prog 4 Tryz.f4 (OpenSpec.ofChange Rows.roadFindsSpec).bare Rows.roadFindsRow=true:=by
 unfold joinedFacts;refine Qb ?_ roadFinds_j32;refine Qb ?_ roadFinds_j31;refine Qb ?_ roadFinds_j30;refine Qb ?_ roadFinds_j29;refine Qb ?_ roadFinds_j28;refine Qb ?_ roadFinds_j27;refine Qb ?_ Qqi;refine Qb ?_ Qqh;refine Qb ?_ roadFinds_j24;refine Qb ?_ roadFinds_j23;refine Qb ?_ roadFinds_j22;refine Qb ?_ roadFinds_j21;refine Qb ?_ roadFinds_j20;refine Qb ?_ roadFinds_j19;refine Qb ?_ roadFinds_j18;refine Qb ?_ roadFinds_j17;refine Qb ?_ roadFinds_j16;refine Qb ?_ roadFinds_j15;refine Qb ?_ roadFinds_j14;refine Qb ?_ roadFinds_j13;refine Qb ?_ roadFinds_j12;refine Qb ?_ roadFinds_j11;refine Qb ?_ roadFinds_j10;refine Qb ?_ jf9;refine Qb ?_ roadFinds_j8;refine Qb ?_ jf7;refine Qb ?_ roadFinds_j6;refine Qb ?_ roadFinds_j5;refine Qb ?_ roadFinds_j4;refine Qb ?_ jf3;refine Qb ?_ jf2
 exact roadFinds_j1
theorem roadFinds_said:Rows.RoadFindsSaid :=
 OpenClaim.holds_of_cond 4 Tryz.f4 rfl rfl rfl rfl rfl rfl rfl ⟨rfl,rfl,rfl,rfl,rfl⟩ rfl rfl rfl rfl rfl (by kernel_rfl) Tryz.func4 roadFinds_closed
  (of_decide_eq_true (by kernel_rfl)) (by unfold Func.isWrapper;first | (rw[if_pos (by decide +kernel)];kernel_rfl) | (rw[if_neg (by decide +kernel)];exact⟨rfl,rfl⟩))
  (fun os started H enc _ F=>by rw[OpenClaim.pre_eq_preRow];exact roadFinds_lifted os started H enc F)
end Go.Proofs.YtagijlhciclafaaGreatDoor
