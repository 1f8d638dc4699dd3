import Derived.Test.YtnnnbjjenknpeaaGreatDoorHPReasonNobodyA
import Derived.Test.YtnnnbjjenknpeaaGreatDoorHPReasonNobodyF
import Derived.Test.YtnnnbjjenknpeaaGreatDoorCards
/- The law ReasonNobody: a part of its card. -/
set_option linter.unusedVariables false
set_option linter.unusedSimpArgs false
namespace Go.Proofs.YtnnnbjjenknpeaaGreatDoor
open Go.ChangeShapes Go.WideShapes Go.ChangeAt Go.RowKit Go.Se
set_option maxRecDepth 100000 in
theorem reasonNobody_closed : joinedFacts Tryz.pinned.checked.prog 6 Tryz.f6 (OpenSpec.ofChange Rows.reasonNobodySpec).bare Rows.reasonNobodyRow = true := by
 unfold joinedFacts
 refine Q3 ?_ reasonNobody_j32
 refine Q3 ?_ reasonNobody_j31
 refine Q3 ?_ reasonNobody_j30
 refine Q3 ?_ reasonNobody_j29
 refine Q3 ?_ reasonNobody_j28
 refine Q3 ?_ reasonNobody_j27
 refine Q3 ?_ Q74
 refine Q3 ?_ Q73
 refine Q3 ?_ reasonNobody_j24
 refine Q3 ?_ reasonNobody_j23
 refine Q3 ?_ reasonNobody_j22
 refine Q3 ?_ reasonNobody_j21
 refine Q3 ?_ reasonNobody_j20
 refine Q3 ?_ reasonNobody_j19
 refine Q3 ?_ reasonNobody_j18
 refine Q3 ?_ reasonNobody_j17
 refine Q3 ?_ reasonNobody_j16
 refine Q3 ?_ reasonNobody_j15
 refine Q3 ?_ reasonNobody_j14
 refine Q3 ?_ reasonNobody_j13
 refine Q3 ?_ reasonNobody_j12
 refine Q3 ?_ reasonNobody_j11
 refine Q3 ?_ reasonNobody_j10
 refine Q3 ?_ jf9
 refine Q3 ?_ reasonNobody_j8
 refine Q3 ?_ jf7
 refine Q3 ?_ reasonNobody_j6
 refine Q3 ?_ reasonNobody_j5
 refine Q3 ?_ reasonNobody_j4
 refine Q3 ?_ jf3
 refine Q3 ?_ jf2
 exact reasonNobody_j1
theorem reasonNobody_said : Rows.ReasonNobodySaid :=
 OpenClaim.holds_of_cond 6 Tryz.f6 rfl rfl rfl rfl rfl rfl rfl ⟨rfl,rfl,rfl,rfl,rfl⟩ rfl rfl rfl rfl rfl (by kernel_rfl) Tryz.func6 reasonNobody_closed
  (of_decide_eq_true (by kernel_rfl)) (by unfold Func.isWrapper; first | (rw [if_pos (by decide +kernel)]; kernel_rfl) | (rw [if_neg (by decide +kernel)]; exact ⟨rfl,rfl⟩))
  (fun os started H enc _ F => by rw [OpenClaim.pre_eq_preRow]; exact reasonNobody_lifted os started H enc F)
end Go.Proofs.YtnnnbjjenknpeaaGreatDoor
