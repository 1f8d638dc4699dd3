import Derived.Test.YtoancknoinilaaaGreatDoorHPScoreAheadA
import Derived.Test.YtoancknoinilaaaGreatDoorHPScoreAheadF
import Derived.Test.YtoancknoinilaaaGreatDoorCards

/- The law ScoreAhead: a part of its card. -/
set_option linter.unusedVariables false
set_option linter.unusedSimpArgs false
namespace Go.Proofs.YtoancknoinilaaaGreatDoor
open Go.ChangeShapes Go.WideShapes Go.ChangeAt Go.RowKit Go.Se

set_option maxRecDepth 100000 in
theorem scoreAhead_closed : joinedFacts Tryz.pinned.checked.prog 8 Tryz.f8 (OpenSpec.ofChange Rows.scoreAheadSpec).bare Rows.scoreAheadRow = true := by
  unfold joinedFacts
  refine and2 ?_ scoreAhead_j32
  refine and2 ?_ scoreAhead_j31
  refine and2 ?_ scoreAhead_j30
  refine and2 ?_ scoreAhead_j29
  refine and2 ?_ scoreAhead_j28
  refine and2 ?_ scoreAhead_j27
  refine and2 ?_ jf26
  refine and2 ?_ jf25
  refine and2 ?_ scoreAhead_j24
  refine and2 ?_ scoreAhead_j23
  refine and2 ?_ scoreAhead_j22
  refine and2 ?_ scoreAhead_j21
  refine and2 ?_ scoreAhead_j20
  refine and2 ?_ scoreAhead_j19
  refine and2 ?_ scoreAhead_j18
  refine and2 ?_ scoreAhead_j17
  refine and2 ?_ scoreAhead_j16
  refine and2 ?_ scoreAhead_j15
  refine and2 ?_ scoreAhead_j14
  refine and2 ?_ scoreAhead_j13
  refine and2 ?_ scoreAhead_j12
  refine and2 ?_ scoreAhead_j11
  refine and2 ?_ scoreAhead_j10
  refine and2 ?_ jf9
  refine and2 ?_ scoreAhead_j8
  refine and2 ?_ jf7
  refine and2 ?_ scoreAhead_j6
  refine and2 ?_ scoreAhead_j5
  refine and2 ?_ scoreAhead_j4
  refine and2 ?_ jf3
  refine and2 ?_ jf2
  exact scoreAhead_j1
theorem scoreAhead_said : Rows.ScoreAheadSaid :=
  OpenClaim.holds_of_cond 8 Tryz.f8 rfl rfl rfl rfl rfl rfl rfl ⟨rfl, rfl, rfl, rfl, rfl⟩ rfl rfl rfl rfl rfl (by kernel_rfl) Tryz.func8 scoreAhead_closed
    (of_decide_eq_true (by kernel_rfl)) (by unfold Func.isWrapper; first | (rw [if_pos (by decide +kernel)]; kernel_rfl) | (rw [if_neg (by decide +kernel)]; exact ⟨rfl, rfl⟩))
    (fun os started H enc _ F => by rw [OpenClaim.pre_eq_preRow]; exact scoreAhead_lifted os started H enc F)

end Go.Proofs.YtoancknoinilaaaGreatDoor
