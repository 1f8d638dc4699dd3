import Derived.Test.YtpdonaienhociaaGreatDoorHPTopRulesA
import Derived.Test.YtpdonaienhociaaGreatDoorHPTopRulesF
set_option linter.all false
namespace Go.Proofs.YtpdonaienhociaaGreatDoor
open Go.ChangeShapes Go.WideShapes Go.ChangeAt Go.RowKit Go.Se
set_option maxRecDepth 100000 in
theorem topRules_closed:joinedFacts Tryz.pinned.checked.prog 3 Tryz.f3 (OpenSpec.ofChange Rows.topRulesSpec).bare Rows.topRulesRow=true:=by
 unfold joinedFacts;refine Qco ?_ topRules_j32;refine Qco ?_ topRules_j31;refine Qco ?_ topRules_j30;refine Qco ?_ topRules_j29;refine Qco ?_ topRules_j28;refine Qco ?_ topRules_j27;refine Qco ?_ Xjp;refine Qco ?_ Xjo;refine Qco ?_ topRules_j24;refine Qco ?_ topRules_j23;refine Qco ?_ topRules_j22;refine Qco ?_ topRules_j21;refine Qco ?_ topRules_j20;refine Qco ?_ topRules_j19;refine Qco ?_ topRules_j18;refine Qco ?_ topRules_j17;refine Qco ?_ topRules_j16;refine Qco ?_ topRules_j15;refine Qco ?_ topRules_j14;refine Qco ?_ topRules_j13;refine Qco ?_ topRules_j12;refine Qco ?_ topRules_j11;refine Qco ?_ topRules_j10;refine Qco ?_ jf9;refine Qco ?_ topRules_j8;refine Qco ?_ jf7;refine Qco ?_ topRules_j6;refine Qco ?_ topRules_j5;refine Qco ?_ topRules_j4;refine Qco ?_ jf3;refine Qco ?_ jf2;exact topRules_j1
theorem topRules_said:Rows.TopRulesSaid :=
 OpenClaim.holds_of_cond 3 Tryz.f3 rfl rfl rfl rfl rfl rfl rfl ⟨rfl,rfl,rfl,rfl,rfl⟩ rfl rfl rfl rfl rfl Kr Tryz.func3 topRules_closed
  (of_decide_eq_true Kr) (by unfold Func.isWrapper;first | (rw[if_pos (by decide +kernel)];kernel_rfl) | (rw[if_neg (by decide +kernel)];exact⟨rfl,rfl⟩))
  (fun os started H enc _ F=>by rw[OpenClaim.pre_eq_preRow];exact topRules_lifted os started H enc F)
