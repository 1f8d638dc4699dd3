import Derived.Test.YtnnnbjjenknpeaaGreatDoorHPReasonApartA
import Derived.Test.YtnnnbjjenknpeaaGreatDoorHPReasonApartF
import Derived.Test.YtnnnbjjenknpeaaGreatDoorCards
/- The law ReasonApart: a part of its card. -/
set_option linter.unusedVariables false
set_option linter.unusedSimpArgs false
namespace Go.Proofs.YtnnnbjjenknpeaaGreatDoor
open Go.ChangeShapes Go.WideShapes Go.ChangeAt Go.RowKit Go.Se
set_option maxRecDepth 100000 in
theorem reasonApart_closed : joinedFacts Tryz.pinned.checked.prog 8 Tryz.f8 (OpenSpec.ofChange Rows.reasonApartSpec).bare Rows.reasonApartRow = true := by
 unfold joinedFacts
 refine Qgt ?_ reasonApart_j32
 refine Qgt ?_ reasonApart_j31
 refine Qgt ?_ reasonApart_j30
 refine Qgt ?_ reasonApart_j29
 refine Qgt ?_ reasonApart_j28
 refine Qgt ?_ reasonApart_j27
 refine Qgt ?_ Q8k
 refine Qgt ?_ Q8j
 refine Qgt ?_ reasonApart_j24
 refine Qgt ?_ reasonApart_j23
 refine Qgt ?_ reasonApart_j22
 refine Qgt ?_ reasonApart_j21
 refine Qgt ?_ reasonApart_j20
 refine Qgt ?_ reasonApart_j19
 refine Qgt ?_ reasonApart_j18
 refine Qgt ?_ reasonApart_j17
 refine Qgt ?_ reasonApart_j16
 refine Qgt ?_ reasonApart_j15
 refine Qgt ?_ reasonApart_j14
 refine Qgt ?_ reasonApart_j13
 refine Qgt ?_ reasonApart_j12
 refine Qgt ?_ reasonApart_j11
 refine Qgt ?_ reasonApart_j10
 refine Qgt ?_ jf9
 refine Qgt ?_ reasonApart_j8
 refine Qgt ?_ jf7
 refine Qgt ?_ reasonApart_j6
 refine Qgt ?_ reasonApart_j5
 refine Qgt ?_ reasonApart_j4
 refine Qgt ?_ jf3
 refine Qgt ?_ jf2
 exact reasonApart_j1
theorem reasonApart_said : Rows.ReasonApartSaid :=
 OpenClaim.holds_of_cond 8 Tryz.f8 rfl rfl rfl rfl rfl rfl rfl ⟨rfl,rfl,rfl,rfl,rfl⟩ rfl rfl rfl rfl rfl (by kernel_rfl) Tryz.func8 reasonApart_closed
  (of_decide_eq_true (by kernel_rfl)) (by unfold Func.isWrapper; first | (rw [if_pos (by decide +kernel)]; kernel_rfl) | (rw [if_neg (by decide +kernel)]; exact ⟨rfl,rfl⟩))
  (fun os started H enc _ F => by rw [OpenClaim.pre_eq_preRow]; exact reasonApart_lifted os started H enc F)
end Go.Proofs.YtnnnbjjenknpeaaGreatDoor
