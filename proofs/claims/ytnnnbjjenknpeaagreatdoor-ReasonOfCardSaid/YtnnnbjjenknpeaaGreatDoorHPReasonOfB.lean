import Derived.Test.YtnnnbjjenknpeaaGreatDoorHPReasonOfA
import Derived.Test.YtnnnbjjenknpeaaGreatDoorHPReasonOfF
import Derived.Test.YtnnnbjjenknpeaaGreatDoorCards
/- The law ReasonOf: a part of its card. -/
set_option linter.unusedVariables false
set_option linter.unusedSimpArgs false
namespace Go.Proofs.YtnnnbjjenknpeaaGreatDoor
open Go.ChangeShapes Go.WideShapes Go.ChangeAt Go.RowKit Go.Se
set_option maxRecDepth 100000 in
theorem reasonOf_closed : joinedFacts Tryz.pinned.checked.prog 3 Tryz.f3 (OpenSpec.ofChange Rows.reasonOfSpec).bare Rows.reasonOfRow = true := by
 unfold joinedFacts
 refine Qgz ?_ reasonOf_j32
 refine Qgz ?_ reasonOf_j31
 refine Qgz ?_ reasonOf_j30
 refine Qgz ?_ reasonOf_j29
 refine Qgz ?_ reasonOf_j28
 refine Qgz ?_ reasonOf_j27
 refine Qgz ?_ Q8n
 refine Qgz ?_ Q8m
 refine Qgz ?_ reasonOf_j24
 refine Qgz ?_ reasonOf_j23
 refine Qgz ?_ reasonOf_j22
 refine Qgz ?_ reasonOf_j21
 refine Qgz ?_ reasonOf_j20
 refine Qgz ?_ reasonOf_j19
 refine Qgz ?_ reasonOf_j18
 refine Qgz ?_ reasonOf_j17
 refine Qgz ?_ reasonOf_j16
 refine Qgz ?_ reasonOf_j15
 refine Qgz ?_ reasonOf_j14
 refine Qgz ?_ reasonOf_j13
 refine Qgz ?_ reasonOf_j12
 refine Qgz ?_ reasonOf_j11
 refine Qgz ?_ reasonOf_j10
 refine Qgz ?_ jf9
 refine Qgz ?_ reasonOf_j8
 refine Qgz ?_ jf7
 refine Qgz ?_ reasonOf_j6
 refine Qgz ?_ reasonOf_j5
 refine Qgz ?_ reasonOf_j4
 refine Qgz ?_ jf3
 refine Qgz ?_ jf2
 exact reasonOf_j1
theorem reasonOf_said : Rows.ReasonOfSaid :=
 OpenClaim.holds_of_cond 3 Tryz.f3 rfl rfl rfl rfl rfl rfl rfl ⟨rfl,rfl,rfl,rfl,rfl⟩ rfl rfl rfl rfl rfl (by kernel_rfl) Tryz.func3 reasonOf_closed
  (of_decide_eq_true (by kernel_rfl)) (by unfold Func.isWrapper; first | (rw [if_pos (by decide +kernel)]; kernel_rfl) | (rw [if_neg (by decide +kernel)]; exact ⟨rfl,rfl⟩))
  (fun os started H enc _ F => by rw [OpenClaim.pre_eq_preRow]; exact reasonOf_lifted os started H enc F)
end Go.Proofs.YtnnnbjjenknpeaaGreatDoor
