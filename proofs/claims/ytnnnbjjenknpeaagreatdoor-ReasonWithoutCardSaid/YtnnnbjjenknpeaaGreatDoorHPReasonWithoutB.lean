import Derived.Test.YtnnnbjjenknpeaaGreatDoorHPReasonWithoutA
import Derived.Test.YtnnnbjjenknpeaaGreatDoorHPReasonWithoutF
import Derived.Test.YtnnnbjjenknpeaaGreatDoorCards
/- The law ReasonWithout: a part of its card. -/
set_option linter.unusedVariables false
set_option linter.unusedSimpArgs false
namespace Go.Proofs.YtnnnbjjenknpeaaGreatDoor
open Go.ChangeShapes Go.WideShapes Go.ChangeAt Go.RowKit Go.Se
set_option maxRecDepth 100000 in
theorem reasonWithout_closed : joinedFacts Tryz.pinned.checked.prog 5 Tryz.f5 (OpenSpec.ofChange Rows.reasonWithoutSpec).bare Rows.reasonWithoutRow = true := by
 unfold joinedFacts
 refine Q3 ?_ reasonWithout_j32
 refine Q3 ?_ reasonWithout_j31
 refine Q3 ?_ reasonWithout_j30
 refine Q3 ?_ reasonWithout_j29
 refine Q3 ?_ reasonWithout_j28
 refine Q3 ?_ reasonWithout_j27
 refine Q3 ?_ Q74
 refine Q3 ?_ Q73
 refine Q3 ?_ reasonWithout_j24
 refine Q3 ?_ reasonWithout_j23
 refine Q3 ?_ reasonWithout_j22
 refine Q3 ?_ reasonWithout_j21
 refine Q3 ?_ reasonWithout_j20
 refine Q3 ?_ reasonWithout_j19
 refine Q3 ?_ reasonWithout_j18
 refine Q3 ?_ reasonWithout_j17
 refine Q3 ?_ reasonWithout_j16
 refine Q3 ?_ reasonWithout_j15
 refine Q3 ?_ reasonWithout_j14
 refine Q3 ?_ reasonWithout_j13
 refine Q3 ?_ reasonWithout_j12
 refine Q3 ?_ reasonWithout_j11
 refine Q3 ?_ reasonWithout_j10
 refine Q3 ?_ jf9
 refine Q3 ?_ reasonWithout_j8
 refine Q3 ?_ jf7
 refine Q3 ?_ reasonWithout_j6
 refine Q3 ?_ reasonWithout_j5
 refine Q3 ?_ reasonWithout_j4
 refine Q3 ?_ jf3
 refine Q3 ?_ jf2
 exact reasonWithout_j1
theorem reasonWithout_said : Rows.ReasonWithoutSaid :=
 OpenClaim.holds_of_cond 5 Tryz.f5 rfl rfl rfl rfl rfl rfl rfl ⟨rfl,rfl,rfl,rfl,rfl⟩ rfl rfl rfl rfl rfl (by kernel_rfl) Tryz.func5 reasonWithout_closed
  (of_decide_eq_true (by kernel_rfl)) (by unfold Func.isWrapper; first | (rw [if_pos (by decide +kernel)]; kernel_rfl) | (rw [if_neg (by decide +kernel)]; exact ⟨rfl,rfl⟩))
  (fun os started H enc _ F => by rw [OpenClaim.pre_eq_preRow]; exact reasonWithout_lifted os started H enc F)
end Go.Proofs.YtnnnbjjenknpeaaGreatDoor
