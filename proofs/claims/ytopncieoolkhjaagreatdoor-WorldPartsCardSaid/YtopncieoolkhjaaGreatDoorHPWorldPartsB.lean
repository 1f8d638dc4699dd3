import Derived.Test.YtopncieoolkhjaaGreatDoorHPWorldPartsA
import Derived.Test.YtopncieoolkhjaaGreatDoorHPWorldPartsF
import Derived.Test.YtopncieoolkhjaaGreatDoorCards
/- The law WorldParts: a part of its card. -/
set_option linter.unusedVariables false
set_option linter.unusedSimpArgs false
namespace Go.Proofs.YtopncieoolkhjaaGreatDoor
open Go.ChangeShapes Go.WideShapes Go.ChangeAt Go.RowKit Go.Se
set_option maxRecDepth 100000 in
theorem worldParts_closed : joinedFacts Tryz.pinned.checked.prog 4 Tryz.f4 (OpenSpec.ofChange Rows.worldPartsSpec).bare Rows.worldPartsRow = true := by
 unfold joinedFacts
 refine Qbp ?_ worldParts_j32
 refine Qbp ?_ worldParts_j31
 refine Qbp ?_ worldParts_j30
 refine Qbp ?_ worldParts_j29
 refine Qbp ?_ worldParts_j28
 refine Qbp ?_ worldParts_j27
 refine Qbp ?_ Q5u
 refine Qbp ?_ Q5t
 refine Qbp ?_ worldParts_j24
 refine Qbp ?_ worldParts_j23
 refine Qbp ?_ worldParts_j22
 refine Qbp ?_ worldParts_j21
 refine Qbp ?_ worldParts_j20
 refine Qbp ?_ worldParts_j19
 refine Qbp ?_ worldParts_j18
 refine Qbp ?_ worldParts_j17
 refine Qbp ?_ worldParts_j16
 refine Qbp ?_ worldParts_j15
 refine Qbp ?_ worldParts_j14
 refine Qbp ?_ worldParts_j13
 refine Qbp ?_ worldParts_j12
 refine Qbp ?_ worldParts_j11
 refine Qbp ?_ worldParts_j10
 refine Qbp ?_ jf9
 refine Qbp ?_ worldParts_j8
 refine Qbp ?_ jf7
 refine Qbp ?_ worldParts_j6
 refine Qbp ?_ worldParts_j5
 refine Qbp ?_ worldParts_j4
 refine Qbp ?_ jf3
 refine Qbp ?_ jf2
 exact worldParts_j1
theorem worldParts_said : Rows.WorldPartsSaid :=
 OpenClaim.holds_of_cond 4 Tryz.f4 rfl rfl rfl rfl rfl rfl rfl ⟨rfl,rfl,rfl,rfl,rfl⟩ rfl rfl rfl rfl rfl (by kernel_rfl) Tryz.func4 worldParts_closed
  (of_decide_eq_true (by kernel_rfl)) (by unfold Func.isWrapper; first | (rw [if_pos (by decide +kernel)]; kernel_rfl) | (rw [if_neg (by decide +kernel)]; exact ⟨rfl,rfl⟩))
  (fun os started H enc _ F => by rw [OpenClaim.pre_eq_preRow]; exact worldParts_lifted os started H enc F)
end Go.Proofs.YtopncieoolkhjaaGreatDoor
