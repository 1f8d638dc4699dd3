import Derived.Test.YtopncieoolkhjaaGreatDoorHPWorldAloneA
import Derived.Test.YtopncieoolkhjaaGreatDoorHPWorldAloneF
import Derived.Test.YtopncieoolkhjaaGreatDoorCards
/- The law WorldAlone: a part of its card. -/
set_option linter.unusedVariables false
set_option linter.unusedSimpArgs false
namespace Go.Proofs.YtopncieoolkhjaaGreatDoor
open Go.ChangeShapes Go.WideShapes Go.ChangeAt Go.RowKit Go.Se
set_option maxRecDepth 100000 in
theorem worldAlone_closed : joinedFacts Tryz.pinned.checked.prog 5 Tryz.f5 (OpenSpec.ofChange Rows.worldAloneSpec).bare Rows.worldAloneRow = true := by
 unfold joinedFacts
 refine Qbp ?_ worldAlone_j32
 refine Qbp ?_ worldAlone_j31
 refine Qbp ?_ worldAlone_j30
 refine Qbp ?_ worldAlone_j29
 refine Qbp ?_ worldAlone_j28
 refine Qbp ?_ worldAlone_j27
 refine Qbp ?_ Q5u
 refine Qbp ?_ Q5t
 refine Qbp ?_ worldAlone_j24
 refine Qbp ?_ worldAlone_j23
 refine Qbp ?_ worldAlone_j22
 refine Qbp ?_ worldAlone_j21
 refine Qbp ?_ worldAlone_j20
 refine Qbp ?_ worldAlone_j19
 refine Qbp ?_ worldAlone_j18
 refine Qbp ?_ worldAlone_j17
 refine Qbp ?_ worldAlone_j16
 refine Qbp ?_ worldAlone_j15
 refine Qbp ?_ worldAlone_j14
 refine Qbp ?_ worldAlone_j13
 refine Qbp ?_ worldAlone_j12
 refine Qbp ?_ worldAlone_j11
 refine Qbp ?_ worldAlone_j10
 refine Qbp ?_ jf9
 refine Qbp ?_ worldAlone_j8
 refine Qbp ?_ jf7
 refine Qbp ?_ worldAlone_j6
 refine Qbp ?_ worldAlone_j5
 refine Qbp ?_ worldAlone_j4
 refine Qbp ?_ jf3
 refine Qbp ?_ jf2
 exact worldAlone_j1
theorem worldAlone_said : Rows.WorldAloneSaid :=
 OpenClaim.holds_of_cond 5 Tryz.f5 rfl rfl rfl rfl rfl rfl rfl ⟨rfl,rfl,rfl,rfl,rfl⟩ rfl rfl rfl rfl rfl (by kernel_rfl) Tryz.func5 worldAlone_closed
  (of_decide_eq_true (by kernel_rfl)) (by unfold Func.isWrapper; first | (rw [if_pos (by decide +kernel)]; kernel_rfl) | (rw [if_neg (by decide +kernel)]; exact ⟨rfl,rfl⟩))
  (fun os started H enc _ F => by rw [OpenClaim.pre_eq_preRow]; exact worldAlone_lifted os started H enc F)
end Go.Proofs.YtopncieoolkhjaaGreatDoor
