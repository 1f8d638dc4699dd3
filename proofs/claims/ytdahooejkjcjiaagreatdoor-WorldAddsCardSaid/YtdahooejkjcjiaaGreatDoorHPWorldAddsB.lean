import Derived.Test.YtdahooejkjcjiaaGreatDoorHPWorldAddsA
import Derived.Test.YtdahooejkjcjiaaGreatDoorHPWorldAddsF
import Derived.Test.YtdahooejkjcjiaaGreatDoorCards
/- The law WorldAdds: a part of its card. -/
set_option linter.unusedVariables false
set_option linter.unusedSimpArgs false
namespace Go.Proofs.YtdahooejkjcjiaaGreatDoor
open Go.ChangeShapes Go.WideShapes Go.ChangeAt Go.RowKit Go.Se
set_option maxRecDepth 100000 in
theorem worldAdds_closed:joinedFacts Tryz.pinned.checked.prog 3 Tryz.f3 (OpenSpec.ofChange Rows.worldAddsSpec).bare Rows.worldAddsRow=true:=by
 unfold joinedFacts;refine Qhu ?_ worldAdds_j32;refine Qhu ?_ worldAdds_j31;refine Qhu ?_ worldAdds_j30;refine Qhu ?_ worldAdds_j29;refine Qhu ?_ worldAdds_j28;refine Qhu ?_ worldAdds_j27;refine Qhu ?_ Xac;refine Qhu ?_ Xab;refine Qhu ?_ worldAdds_j24;refine Qhu ?_ worldAdds_j23;refine Qhu ?_ worldAdds_j22;refine Qhu ?_ worldAdds_j21;refine Qhu ?_ worldAdds_j20;refine Qhu ?_ worldAdds_j19;refine Qhu ?_ worldAdds_j18;refine Qhu ?_ worldAdds_j17;refine Qhu ?_ worldAdds_j16;refine Qhu ?_ worldAdds_j15;refine Qhu ?_ worldAdds_j14;refine Qhu ?_ worldAdds_j13;refine Qhu ?_ worldAdds_j12;refine Qhu ?_ worldAdds_j11;refine Qhu ?_ worldAdds_j10;refine Qhu ?_ jf9;refine Qhu ?_ worldAdds_j8;refine Qhu ?_ jf7;refine Qhu ?_ worldAdds_j6;refine Qhu ?_ worldAdds_j5;refine Qhu ?_ worldAdds_j4;refine Qhu ?_ jf3;refine Qhu ?_ jf2
 exact worldAdds_j1
theorem worldAdds_said:Rows.WorldAddsSaid :=
 OpenClaim.holds_of_cond 3 Tryz.f3 rfl rfl rfl rfl rfl rfl rfl ⟨rfl,rfl,rfl,rfl,rfl⟩ rfl rfl rfl rfl rfl (by kernel_rfl) Tryz.func3 worldAdds_closed
  (of_decide_eq_true (by kernel_rfl)) (by unfold Func.isWrapper;first | (rw[if_pos (by decide +kernel)];kernel_rfl) | (rw[if_neg (by decide +kernel)];exact⟨rfl,rfl⟩))
  (fun os started H enc _ F=>by rw[OpenClaim.pre_eq_preRow];exact worldAdds_lifted os started H enc F)
end Go.Proofs.YtdahooejkjcjiaaGreatDoor
