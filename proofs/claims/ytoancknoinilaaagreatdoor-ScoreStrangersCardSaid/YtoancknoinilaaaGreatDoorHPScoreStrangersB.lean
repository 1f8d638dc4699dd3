import Derived.Test.YtoancknoinilaaaGreatDoorHPScoreStrangersA
import Derived.Test.YtoancknoinilaaaGreatDoorHPScoreStrangersF
import Derived.Test.YtoancknoinilaaaGreatDoorCards

/- The law ScoreStrangers: a part of its card. -/
set_option linter.unusedVariables false
set_option linter.unusedSimpArgs false
namespace Go.Proofs.YtoancknoinilaaaGreatDoor
open Go.ChangeShapes Go.WideShapes Go.ChangeAt Go.RowKit Go.Se

set_option maxRecDepth 100000 in
theorem scoreStrangers_closed : joinedFacts Tryz.pinned.checked.prog 6 Tryz.f6 (OpenSpec.ofChange Rows.scoreStrangersSpec).bare Rows.scoreStrangersRow = true := by
  unfold joinedFacts
  refine and2 ?_ scoreStrangers_j32
  refine and2 ?_ scoreStrangers_j31
  refine and2 ?_ scoreStrangers_j30
  refine and2 ?_ scoreStrangers_j29
  refine and2 ?_ scoreStrangers_j28
  refine and2 ?_ scoreStrangers_j27
  refine and2 ?_ jf26
  refine and2 ?_ jf25
  refine and2 ?_ scoreStrangers_j24
  refine and2 ?_ scoreStrangers_j23
  refine and2 ?_ scoreStrangers_j22
  refine and2 ?_ scoreStrangers_j21
  refine and2 ?_ scoreStrangers_j20
  refine and2 ?_ scoreStrangers_j19
  refine and2 ?_ scoreStrangers_j18
  refine and2 ?_ scoreStrangers_j17
  refine and2 ?_ scoreStrangers_j16
  refine and2 ?_ scoreStrangers_j15
  refine and2 ?_ scoreStrangers_j14
  refine and2 ?_ scoreStrangers_j13
  refine and2 ?_ scoreStrangers_j12
  refine and2 ?_ scoreStrangers_j11
  refine and2 ?_ scoreStrangers_j10
  refine and2 ?_ jf9
  refine and2 ?_ scoreStrangers_j8
  refine and2 ?_ jf7
  refine and2 ?_ scoreStrangers_j6
  refine and2 ?_ scoreStrangers_j5
  refine and2 ?_ scoreStrangers_j4
  refine and2 ?_ jf3
  refine and2 ?_ jf2
  exact scoreStrangers_j1
theorem scoreStrangers_said : Rows.ScoreStrangersSaid :=
  OpenClaim.holds_of_cond 6 Tryz.f6 rfl rfl rfl rfl rfl rfl rfl ⟨rfl, rfl, rfl, rfl, rfl⟩ rfl rfl rfl rfl rfl (by kernel_rfl) Tryz.func6 scoreStrangers_closed
    (of_decide_eq_true (by kernel_rfl)) (by unfold Func.isWrapper; first | (rw [if_pos (by decide +kernel)]; kernel_rfl) | (rw [if_neg (by decide +kernel)]; exact ⟨rfl, rfl⟩))
    (fun os started H enc _ F => by rw [OpenClaim.pre_eq_preRow]; exact scoreStrangers_lifted os started H enc F)

end Go.Proofs.YtoancknoinilaaaGreatDoor
