import Derived.Test.YtoancknoinilaaaGreatDoorHPScoreOfA
import Derived.Test.YtoancknoinilaaaGreatDoorHPScoreOfF
import Derived.Test.YtoancknoinilaaaGreatDoorCards
/- The law ScoreOf: a part of its card. -/
set_option linter.unusedVariables false
set_option linter.unusedSimpArgs false
namespace Go.Proofs.YtoancknoinilaaaGreatDoor
open Go.ChangeShapes Go.WideShapes Go.ChangeAt Go.RowKit Go.Se
set_option maxRecDepth 100000 in
theorem scoreOf_closed : joinedFacts Tryz.pinned.checked.prog 4 Tryz.f4 (OpenSpec.ofChange Rows.scoreOfSpec).bare Rows.scoreOfRow = true := by
 unfold joinedFacts
 refine Qha ?_ scoreOf_j32
 refine Qha ?_ scoreOf_j31
 refine Qha ?_ scoreOf_j30
 refine Qha ?_ scoreOf_j29
 refine Qha ?_ scoreOf_j28
 refine Qha ?_ scoreOf_j27
 refine Qha ?_ Q8k
 refine Qha ?_ Q8m
 refine Qha ?_ scoreOf_j24
 refine Qha ?_ scoreOf_j23
 refine Qha ?_ scoreOf_j22
 refine Qha ?_ scoreOf_j21
 refine Qha ?_ scoreOf_j20
 refine Qha ?_ scoreOf_j19
 refine Qha ?_ scoreOf_j18
 refine Qha ?_ scoreOf_j17
 refine Qha ?_ scoreOf_j16
 refine Qha ?_ scoreOf_j15
 refine Qha ?_ scoreOf_j14
 refine Qha ?_ scoreOf_j13
 refine Qha ?_ scoreOf_j12
 refine Qha ?_ scoreOf_j11
 refine Qha ?_ scoreOf_j10
 refine Qha ?_ jf9
 refine Qha ?_ scoreOf_j8
 refine Qha ?_ jf7
 refine Qha ?_ scoreOf_j6
 refine Qha ?_ scoreOf_j5
 refine Qha ?_ scoreOf_j4
 refine Qha ?_ jf3
 refine Qha ?_ jf2
 exact scoreOf_j1
theorem scoreOf_said : Rows.ScoreOfSaid :=
 OpenClaim.holds_of_cond 4 Tryz.f4 rfl rfl rfl rfl rfl rfl rfl ⟨rfl,rfl,rfl,rfl,rfl⟩ rfl rfl rfl rfl rfl (by kernel_rfl) Tryz.func4 scoreOf_closed
  (of_decide_eq_true (by kernel_rfl)) (by unfold Func.isWrapper; first | (rw [if_pos (by decide +kernel)]; kernel_rfl) | (rw [if_neg (by decide +kernel)]; exact ⟨rfl,rfl⟩))
  (fun os started H enc _ F => by rw [OpenClaim.pre_eq_preRow]; exact scoreOf_lifted os started H enc F)
end Go.Proofs.YtoancknoinilaaaGreatDoor
