import Derived.Test.YtoancknoinilaaaGreatDoorHPScoreRawA
import Derived.Test.YtoancknoinilaaaGreatDoorHPScoreRawF
import Derived.Test.YtoancknoinilaaaGreatDoorCards
/- The law ScoreRaw: a part of its card. -/
set_option linter.unusedVariables false
set_option linter.unusedSimpArgs false
namespace Go.Proofs.YtoancknoinilaaaGreatDoor
open Go.ChangeShapes Go.WideShapes Go.ChangeAt Go.RowKit Go.Se
set_option maxRecDepth 100000 in
theorem scoreRaw_closed : joinedFacts Tryz.pinned.checked.prog 3 Tryz.f3 (OpenSpec.ofChange Rows.scoreRawSpec).bare Rows.scoreRawRow = true := by
 unfold joinedFacts
 refine Qg1 ?_ scoreRaw_j32
 refine Qg1 ?_ scoreRaw_j31
 refine Qg1 ?_ scoreRaw_j30
 refine Qg1 ?_ scoreRaw_j29
 refine Qg1 ?_ scoreRaw_j28
 refine Qg1 ?_ scoreRaw_j27
 refine Qg1 ?_ Q8j
 refine Qg1 ?_ Q8h
 refine Qg1 ?_ scoreRaw_j24
 refine Qg1 ?_ scoreRaw_j23
 refine Qg1 ?_ scoreRaw_j22
 refine Qg1 ?_ scoreRaw_j21
 refine Qg1 ?_ scoreRaw_j20
 refine Qg1 ?_ scoreRaw_j19
 refine Qg1 ?_ scoreRaw_j18
 refine Qg1 ?_ scoreRaw_j17
 refine Qg1 ?_ scoreRaw_j16
 refine Qg1 ?_ scoreRaw_j15
 refine Qg1 ?_ scoreRaw_j14
 refine Qg1 ?_ scoreRaw_j13
 refine Qg1 ?_ scoreRaw_j12
 refine Qg1 ?_ scoreRaw_j11
 refine Qg1 ?_ scoreRaw_j10
 refine Qg1 ?_ jf9
 refine Qg1 ?_ scoreRaw_j8
 refine Qg1 ?_ jf7
 refine Qg1 ?_ scoreRaw_j6
 refine Qg1 ?_ scoreRaw_j5
 refine Qg1 ?_ scoreRaw_j4
 refine Qg1 ?_ jf3
 refine Qg1 ?_ jf2
 exact scoreRaw_j1
theorem scoreRaw_said : Rows.ScoreRawSaid :=
 OpenClaim.holds_of_cond 3 Tryz.f3 rfl rfl rfl rfl rfl rfl rfl ⟨rfl,rfl,rfl,rfl,rfl⟩ rfl rfl rfl rfl rfl (by kernel_rfl) Tryz.func3 scoreRaw_closed
  (of_decide_eq_true (by kernel_rfl)) (by unfold Func.isWrapper; first | (rw [if_pos (by decide +kernel)]; kernel_rfl) | (rw [if_neg (by decide +kernel)]; exact ⟨rfl,rfl⟩))
  (fun os started H enc _ F => by rw [OpenClaim.pre_eq_preRow]; exact scoreRaw_lifted os started H enc F)
end Go.Proofs.YtoancknoinilaaaGreatDoor
