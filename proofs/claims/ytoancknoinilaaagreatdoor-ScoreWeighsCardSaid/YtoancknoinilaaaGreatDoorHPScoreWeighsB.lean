import Derived.Test.YtoancknoinilaaaGreatDoorHPScoreWeighsA
import Derived.Test.YtoancknoinilaaaGreatDoorHPScoreWeighsF
import Derived.Test.YtoancknoinilaaaGreatDoorCards

/- The law ScoreWeighs: a part of its card. -/
set_option linter.unusedVariables false
set_option linter.unusedSimpArgs false
namespace Go.Proofs.YtoancknoinilaaaGreatDoor
open Go.ChangeShapes Go.WideShapes Go.ChangeAt Go.RowKit Go.Se

set_option maxRecDepth 100000 in
theorem scoreWeighs_closed : joinedFacts Tryz.pinned.checked.prog 7 Tryz.f7 (OpenSpec.ofChange Rows.scoreWeighsSpec).bare Rows.scoreWeighsRow = true := by
  unfold joinedFacts
  refine and2 ?_ scoreWeighs_j32
  refine and2 ?_ scoreWeighs_j31
  refine and2 ?_ scoreWeighs_j30
  refine and2 ?_ scoreWeighs_j29
  refine and2 ?_ scoreWeighs_j28
  refine and2 ?_ scoreWeighs_j27
  refine and2 ?_ jf26
  refine and2 ?_ jf25
  refine and2 ?_ scoreWeighs_j24
  refine and2 ?_ scoreWeighs_j23
  refine and2 ?_ scoreWeighs_j22
  refine and2 ?_ scoreWeighs_j21
  refine and2 ?_ scoreWeighs_j20
  refine and2 ?_ scoreWeighs_j19
  refine and2 ?_ scoreWeighs_j18
  refine and2 ?_ scoreWeighs_j17
  refine and2 ?_ scoreWeighs_j16
  refine and2 ?_ scoreWeighs_j15
  refine and2 ?_ scoreWeighs_j14
  refine and2 ?_ scoreWeighs_j13
  refine and2 ?_ scoreWeighs_j12
  refine and2 ?_ scoreWeighs_j11
  refine and2 ?_ scoreWeighs_j10
  refine and2 ?_ jf9
  refine and2 ?_ scoreWeighs_j8
  refine and2 ?_ jf7
  refine and2 ?_ scoreWeighs_j6
  refine and2 ?_ scoreWeighs_j5
  refine and2 ?_ scoreWeighs_j4
  refine and2 ?_ jf3
  refine and2 ?_ jf2
  exact scoreWeighs_j1
theorem scoreWeighs_said : Rows.ScoreWeighsSaid :=
  OpenClaim.holds_of_cond 7 Tryz.f7 rfl rfl rfl rfl rfl rfl rfl ⟨rfl, rfl, rfl, rfl, rfl⟩ rfl rfl rfl rfl rfl (by kernel_rfl) Tryz.func7 scoreWeighs_closed
    (of_decide_eq_true (by kernel_rfl)) (by unfold Func.isWrapper; first | (rw [if_pos (by decide +kernel)]; kernel_rfl) | (rw [if_neg (by decide +kernel)]; exact ⟨rfl, rfl⟩))
    (fun os started H enc _ F => by rw [OpenClaim.pre_eq_preRow]; exact scoreWeighs_lifted os started H enc F)

end Go.Proofs.YtoancknoinilaaaGreatDoor
