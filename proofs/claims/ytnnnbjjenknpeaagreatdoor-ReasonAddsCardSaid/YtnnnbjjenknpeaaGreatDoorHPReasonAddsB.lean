import Derived.Test.YtnnnbjjenknpeaaGreatDoorHPReasonAddsA
import Derived.Test.YtnnnbjjenknpeaaGreatDoorHPReasonAddsF
import Derived.Test.YtnnnbjjenknpeaaGreatDoorCards
/- The law ReasonAdds: a part of its card. -/
set_option linter.unusedVariables false
set_option linter.unusedSimpArgs false
namespace Go.Proofs.YtnnnbjjenknpeaaGreatDoor
open Go.ChangeShapes Go.WideShapes Go.ChangeAt Go.RowKit Go.Se
set_option maxRecDepth 100000 in
theorem reasonAdds_closed : joinedFacts Tryz.pinned.checked.prog 4 Tryz.f4 (OpenSpec.ofChange Rows.reasonAddsSpec).bare Rows.reasonAddsRow = true := by
 unfold joinedFacts
 refine Q3 ?_ reasonAdds_j32
 refine Q3 ?_ reasonAdds_j31
 refine Q3 ?_ reasonAdds_j30
 refine Q3 ?_ reasonAdds_j29
 refine Q3 ?_ reasonAdds_j28
 refine Q3 ?_ reasonAdds_j27
 refine Q3 ?_ Q74
 refine Q3 ?_ Q73
 refine Q3 ?_ reasonAdds_j24
 refine Q3 ?_ reasonAdds_j23
 refine Q3 ?_ reasonAdds_j22
 refine Q3 ?_ reasonAdds_j21
 refine Q3 ?_ reasonAdds_j20
 refine Q3 ?_ reasonAdds_j19
 refine Q3 ?_ reasonAdds_j18
 refine Q3 ?_ reasonAdds_j17
 refine Q3 ?_ reasonAdds_j16
 refine Q3 ?_ reasonAdds_j15
 refine Q3 ?_ reasonAdds_j14
 refine Q3 ?_ reasonAdds_j13
 refine Q3 ?_ reasonAdds_j12
 refine Q3 ?_ reasonAdds_j11
 refine Q3 ?_ reasonAdds_j10
 refine Q3 ?_ jf9
 refine Q3 ?_ reasonAdds_j8
 refine Q3 ?_ jf7
 refine Q3 ?_ reasonAdds_j6
 refine Q3 ?_ reasonAdds_j5
 refine Q3 ?_ reasonAdds_j4
 refine Q3 ?_ jf3
 refine Q3 ?_ jf2
 exact reasonAdds_j1
theorem reasonAdds_said : Rows.ReasonAddsSaid :=
 OpenClaim.holds_of_cond 4 Tryz.f4 rfl rfl rfl rfl rfl rfl rfl ⟨rfl,rfl,rfl,rfl,rfl⟩ rfl rfl rfl rfl rfl (by kernel_rfl) Tryz.func4 reasonAdds_closed
  (of_decide_eq_true (by kernel_rfl)) (by unfold Func.isWrapper; first | (rw [if_pos (by decide +kernel)]; kernel_rfl) | (rw [if_neg (by decide +kernel)]; exact ⟨rfl,rfl⟩))
  (fun os started H enc _ F => by rw [OpenClaim.pre_eq_preRow]; exact reasonAdds_lifted os started H enc F)
end Go.Proofs.YtnnnbjjenknpeaaGreatDoor
