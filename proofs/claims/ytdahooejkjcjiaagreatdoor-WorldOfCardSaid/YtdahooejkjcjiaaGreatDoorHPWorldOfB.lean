import Derived.Test.YtdahooejkjcjiaaGreatDoorHPWorldOfA
import Derived.Test.YtdahooejkjcjiaaGreatDoorHPWorldOfF
import Derived.Test.YtdahooejkjcjiaaGreatDoorCards
/- The law WorldOf: a part of its card. -/
set_option linter.unusedVariables false
set_option linter.unusedSimpArgs false
namespace Go.Proofs.YtdahooejkjcjiaaGreatDoor
open Go.ChangeShapes Go.WideShapes Go.ChangeAt Go.RowKit Go.Se
set_option maxRecDepth 100000 in
theorem worldOf_closed:joinedFacts Tryz.pinned.checked.prog 6 Tryz.f6 (OpenSpec.ofChange Rows.worldOfSpec).bare Rows.worldOfRow=true:=by
 unfold joinedFacts;refine Qio ?_ worldOf_j32;refine Qio ?_ worldOf_j31;refine Qio ?_ worldOf_j30;refine Qio ?_ worldOf_j29;refine Qio ?_ worldOf_j28;refine Qio ?_ worldOf_j27;refine Qio ?_ Xdc;refine Qio ?_ Xdb;refine Qio ?_ worldOf_j24;refine Qio ?_ worldOf_j23;refine Qio ?_ worldOf_j22;refine Qio ?_ worldOf_j21;refine Qio ?_ worldOf_j20;refine Qio ?_ worldOf_j19;refine Qio ?_ worldOf_j18;refine Qio ?_ worldOf_j17;refine Qio ?_ worldOf_j16;refine Qio ?_ worldOf_j15;refine Qio ?_ worldOf_j14;refine Qio ?_ worldOf_j13;refine Qio ?_ worldOf_j12;refine Qio ?_ worldOf_j11;refine Qio ?_ worldOf_j10;refine Qio ?_ jf9;refine Qio ?_ worldOf_j8;refine Qio ?_ jf7;refine Qio ?_ worldOf_j6;refine Qio ?_ worldOf_j5;refine Qio ?_ worldOf_j4;refine Qio ?_ jf3;refine Qio ?_ jf2
 exact worldOf_j1
theorem worldOf_said:Rows.WorldOfSaid :=
 OpenClaim.holds_of_cond 6 Tryz.f6 rfl rfl rfl rfl rfl rfl rfl ⟨rfl,rfl,rfl,rfl,rfl⟩ rfl rfl rfl rfl rfl (by kernel_rfl) Tryz.func6 worldOf_closed
  (of_decide_eq_true (by kernel_rfl)) (by unfold Func.isWrapper;first | (rw[if_pos (by decide +kernel)];kernel_rfl) | (rw[if_neg (by decide +kernel)];exact⟨rfl,rfl⟩))
  (fun os started H enc _ F=>by rw[OpenClaim.pre_eq_preRow];exact worldOf_lifted os started H enc F)
end Go.Proofs.YtdahooejkjcjiaaGreatDoor
