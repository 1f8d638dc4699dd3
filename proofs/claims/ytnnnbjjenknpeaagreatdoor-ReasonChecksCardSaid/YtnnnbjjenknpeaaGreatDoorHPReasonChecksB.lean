import Derived.Test.YtnnnbjjenknpeaaGreatDoorHPReasonChecksA
import Derived.Test.YtnnnbjjenknpeaaGreatDoorHPReasonChecksF
import Derived.Test.YtnnnbjjenknpeaaGreatDoorCards
/- The law ReasonChecks: a part of its card. -/
set_option linter.unusedVariables false
set_option linter.unusedSimpArgs false
namespace Go.Proofs.YtnnnbjjenknpeaaGreatDoor
open Go.ChangeShapes Go.WideShapes Go.ChangeAt Go.RowKit Go.Se
set_option maxRecDepth 100000 in
theorem reasonChecks_closed : joinedFacts Tryz.pinned.checked.prog 7 Tryz.f7 (OpenSpec.ofChange Rows.reasonChecksSpec).bare Rows.reasonChecksRow = true := by
 unfold joinedFacts
 refine Q3 ?_ reasonChecks_j32
 refine Q3 ?_ reasonChecks_j31
 refine Q3 ?_ reasonChecks_j30
 refine Q3 ?_ reasonChecks_j29
 refine Q3 ?_ reasonChecks_j28
 refine Q3 ?_ reasonChecks_j27
 refine Q3 ?_ Q74
 refine Q3 ?_ Q73
 refine Q3 ?_ reasonChecks_j24
 refine Q3 ?_ reasonChecks_j23
 refine Q3 ?_ reasonChecks_j22
 refine Q3 ?_ reasonChecks_j21
 refine Q3 ?_ reasonChecks_j20
 refine Q3 ?_ reasonChecks_j19
 refine Q3 ?_ reasonChecks_j18
 refine Q3 ?_ reasonChecks_j17
 refine Q3 ?_ reasonChecks_j16
 refine Q3 ?_ reasonChecks_j15
 refine Q3 ?_ reasonChecks_j14
 refine Q3 ?_ reasonChecks_j13
 refine Q3 ?_ reasonChecks_j12
 refine Q3 ?_ reasonChecks_j11
 refine Q3 ?_ reasonChecks_j10
 refine Q3 ?_ jf9
 refine Q3 ?_ reasonChecks_j8
 refine Q3 ?_ jf7
 refine Q3 ?_ reasonChecks_j6
 refine Q3 ?_ reasonChecks_j5
 refine Q3 ?_ reasonChecks_j4
 refine Q3 ?_ jf3
 refine Q3 ?_ jf2
 exact reasonChecks_j1
theorem reasonChecks_said : Rows.ReasonChecksSaid :=
 OpenClaim.holds_of_cond 7 Tryz.f7 rfl rfl rfl rfl rfl rfl rfl ⟨rfl,rfl,rfl,rfl,rfl⟩ rfl rfl rfl rfl rfl (by kernel_rfl) Tryz.func7 reasonChecks_closed
  (of_decide_eq_true (by kernel_rfl)) (by unfold Func.isWrapper; first | (rw [if_pos (by decide +kernel)]; kernel_rfl) | (rw [if_neg (by decide +kernel)]; exact ⟨rfl,rfl⟩))
  (fun os started H enc _ F => by rw [OpenClaim.pre_eq_preRow]; exact reasonChecks_lifted os started H enc F)
end Go.Proofs.YtnnnbjjenknpeaaGreatDoor
