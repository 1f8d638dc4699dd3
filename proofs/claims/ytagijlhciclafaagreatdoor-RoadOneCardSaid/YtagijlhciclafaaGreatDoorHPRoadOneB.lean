import Derived.Test.YtagijlhciclafaaGreatDoorHPRoadOneA
import Derived.Test.YtagijlhciclafaaGreatDoorHPRoadOneF
import Derived.Test.YtagijlhciclafaaGreatDoorCards
/- The law RoadOne: a part of its card. -/
set_option linter.unusedVariables false
set_option linter.unusedSimpArgs false
namespace Go.Proofs.YtagijlhciclafaaGreatDoor
open Go.ChangeShapes Go.WideShapes Go.ChangeAt Go.RowKit Go.Se
set_option maxRecDepth 100000 in
theorem roadOne_closed:joinedFacts Tryz.pinned.checked.prog 3 Tryz.f3 (OpenSpec.ofChange Rows.roadOneSpec).bare Rows.roadOneRow=true:=by
 unfold joinedFacts;refine Q8 ?_ roadOne_j32;refine Q8 ?_ roadOne_j31;refine Q8 ?_ roadOne_j30;refine Q8 ?_ roadOne_j29;refine Q8 ?_ roadOne_j28;refine Q8 ?_ roadOne_j27;refine Q8 ?_ Q9m;refine Q8 ?_ Q9l;refine Q8 ?_ roadOne_j24;refine Q8 ?_ roadOne_j23;refine Q8 ?_ roadOne_j22;refine Q8 ?_ roadOne_j21;refine Q8 ?_ roadOne_j20;refine Q8 ?_ roadOne_j19;refine Q8 ?_ roadOne_j18;refine Q8 ?_ roadOne_j17;refine Q8 ?_ roadOne_j16;refine Q8 ?_ roadOne_j15;refine Q8 ?_ roadOne_j14;refine Q8 ?_ roadOne_j13;refine Q8 ?_ roadOne_j12;refine Q8 ?_ roadOne_j11;refine Q8 ?_ roadOne_j10;refine Q8 ?_ jf9;refine Q8 ?_ roadOne_j8;refine Q8 ?_ jf7;refine Q8 ?_ roadOne_j6;refine Q8 ?_ roadOne_j5;refine Q8 ?_ roadOne_j4;refine Q8 ?_ jf3;refine Q8 ?_ jf2
 exact roadOne_j1
theorem roadOne_said:Rows.RoadOneSaid :=
 OpenClaim.holds_of_cond 3 Tryz.f3 rfl rfl rfl rfl rfl rfl rfl ⟨rfl,rfl,rfl,rfl,rfl⟩ rfl rfl rfl rfl rfl (by kernel_rfl) Tryz.func3 roadOne_closed
  (of_decide_eq_true (by kernel_rfl)) (by unfold Func.isWrapper;first | (rw[if_pos (by decide +kernel)];kernel_rfl) | (rw[if_neg (by decide +kernel)];exact⟨rfl,rfl⟩))
  (fun os started H enc _ F=>by rw[OpenClaim.pre_eq_preRow];exact roadOne_lifted os started H enc F)
end Go.Proofs.YtagijlhciclafaaGreatDoor
