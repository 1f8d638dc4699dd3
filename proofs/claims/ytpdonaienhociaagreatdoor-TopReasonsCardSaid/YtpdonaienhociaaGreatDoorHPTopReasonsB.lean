import Derived.Test.YtpdonaienhociaaGreatDoorHPTopReasonsA
import Derived.Test.YtpdonaienhociaaGreatDoorHPTopReasonsF
set_option linter.all false
namespace Go.Proofs.YtpdonaienhociaaGreatDoor
open Go.ChangeShapes Go.WideShapes Go.ChangeAt Go.RowKit Go.Se
set_option maxRecDepth 100000 in
theorem topReasons_closed:joinedFacts Tryz.pinned.checked.prog 4 Tryz.f4 (OpenSpec.ofChange Rows.topReasonsSpec).bare Rows.topReasonsRow=true:=by
 unfold joinedFacts;refine Qco ?_ topReasons_j32;refine Qco ?_ topReasons_j31;refine Qco ?_ topReasons_j30;refine Qco ?_ topReasons_j29;refine Qco ?_ topReasons_j28;refine Qco ?_ topReasons_j27;refine Qco ?_ Xjp;refine Qco ?_ Xjo;refine Qco ?_ topReasons_j24;refine Qco ?_ topReasons_j23;refine Qco ?_ topReasons_j22;refine Qco ?_ topReasons_j21;refine Qco ?_ topReasons_j20;refine Qco ?_ topReasons_j19;refine Qco ?_ topReasons_j18;refine Qco ?_ topReasons_j17;refine Qco ?_ topReasons_j16;refine Qco ?_ topReasons_j15;refine Qco ?_ topReasons_j14;refine Qco ?_ topReasons_j13;refine Qco ?_ topReasons_j12;refine Qco ?_ topReasons_j11;refine Qco ?_ topReasons_j10;refine Qco ?_ jf9;refine Qco ?_ topReasons_j8;refine Qco ?_ jf7;refine Qco ?_ topReasons_j6;refine Qco ?_ topReasons_j5;refine Qco ?_ topReasons_j4;refine Qco ?_ jf3;refine Qco ?_ jf2;exact topReasons_j1
theorem topReasons_said:Rows.TopReasonsSaid :=
 OpenClaim.holds_of_cond 4 Tryz.f4 rfl rfl rfl rfl rfl rfl rfl ⟨rfl,rfl,rfl,rfl,rfl⟩ rfl rfl rfl rfl rfl Kr Tryz.func4 topReasons_closed
  (of_decide_eq_true Kr) (by unfold Func.isWrapper;first | (rw[if_pos (by decide +kernel)];kernel_rfl) | (rw[if_neg (by decide +kernel)];exact⟨rfl,rfl⟩))
  (fun os started H enc _ F=>by rw[OpenClaim.pre_eq_preRow];exact topReasons_lifted os started H enc F)
