import Derived.Test.YtnpacgccajekgaaGreatDoorHPTopAuditA
import Derived.Test.YtnpacgccajekgaaGreatDoorHPTopAuditF
set_option linter.all false
namespace Go.Proofs.YtnpacgccajekgaaGreatDoor
open Go.ChangeShapes Go.WideShapes Go.ChangeAt Go.RowKit Go.Se
set_option maxRecDepth 100000 in
theorem topAudit_closed:joinedFacts Tryz.pinned.checked.prog 3 Tryz.f3 (OpenSpec.ofChange Rows.topAuditSpec).bare Rows.topAuditRow=true:=by
 unfold joinedFacts;refine Qi8 ?_ topAudit_j32;refine Qi8 ?_ topAudit_j31;refine Qi8 ?_ topAudit_j30;refine Qi8 ?_ topAudit_j29;refine Qi8 ?_ topAudit_j28;refine Qi8 ?_ topAudit_j27;refine Qi8 ?_ Xnn;refine Qi8 ?_ Xnm;refine Qi8 ?_ topAudit_j24;refine Qi8 ?_ topAudit_j23;refine Qi8 ?_ topAudit_j22;refine Qi8 ?_ topAudit_j21;refine Qi8 ?_ topAudit_j20;refine Qi8 ?_ topAudit_j19;refine Qi8 ?_ topAudit_j18;refine Qi8 ?_ topAudit_j17;refine Qi8 ?_ topAudit_j16;refine Qi8 ?_ topAudit_j15;refine Qi8 ?_ topAudit_j14;refine Qi8 ?_ topAudit_j13;refine Qi8 ?_ topAudit_j12;refine Qi8 ?_ topAudit_j11;refine Qi8 ?_ topAudit_j10;refine Qi8 ?_ jf9;refine Qi8 ?_ topAudit_j8;refine Qi8 ?_ jf7;refine Qi8 ?_ topAudit_j6;refine Qi8 ?_ topAudit_j5;refine Qi8 ?_ topAudit_j4;refine Qi8 ?_ jf3;refine Qi8 ?_ jf2;exact topAudit_j1
theorem topAudit_said:Rows.TopAuditSaid :=
 OpenClaim.holds_of_cond 3 Tryz.f3 rfl rfl rfl rfl rfl rfl rfl ⟨rfl,rfl,rfl,rfl,rfl⟩ rfl rfl rfl rfl rfl Kr Tryz.func3 topAudit_closed
  (of_decide_eq_true Kr) (by unfold Func.isWrapper;first | (rw[if_pos (by decide +kernel)];kernel_rfl) | (rw[if_neg (by decide +kernel)];exact⟨rfl,rfl⟩))
  (fun os started H enc _ F=>by rw[OpenClaim.pre_eq_preRow];exact topAudit_lifted os started H enc F)
