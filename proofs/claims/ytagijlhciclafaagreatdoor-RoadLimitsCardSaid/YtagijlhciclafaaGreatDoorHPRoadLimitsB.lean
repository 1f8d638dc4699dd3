import Derived.Test.YtagijlhciclafaaGreatDoorHPRoadLimitsA
import Derived.Test.YtagijlhciclafaaGreatDoorHPRoadLimitsF
import Derived.Test.YtagijlhciclafaaGreatDoorCards
/- The law RoadLimits: a part of its card. -/
set_option linter.unusedVariables false
set_option linter.unusedSimpArgs false
namespace Go.Proofs.YtagijlhciclafaaGreatDoor
open Go.ChangeShapes Go.WideShapes Go.ChangeAt Go.RowKit Go.Se
set_option maxRecDepth 100000 in
theorem roadLimits_closed : joinedFacts Tryz.pinned.checked.prog 5 Tryz.f5 (OpenSpec.ofChange Rows.roadLimitsSpec).bare Rows.roadLimitsRow = true := by
 unfold joinedFacts
 refine Xp ?_ roadLimits_j32
 refine Xp ?_ roadLimits_j31
 refine Xp ?_ roadLimits_j30
 refine Xp ?_ roadLimits_j29
 refine Xp ?_ roadLimits_j28
 refine Xp ?_ roadLimits_j27
 refine Xp ?_ Q9o
 refine Xp ?_ Q9n
 refine Xp ?_ roadLimits_j24
 refine Xp ?_ roadLimits_j23
 refine Xp ?_ roadLimits_j22
 refine Xp ?_ roadLimits_j21
 refine Xp ?_ roadLimits_j20
 refine Xp ?_ roadLimits_j19
 refine Xp ?_ roadLimits_j18
 refine Xp ?_ roadLimits_j17
 refine Xp ?_ roadLimits_j16
 refine Xp ?_ roadLimits_j15
 refine Xp ?_ roadLimits_j14
 refine Xp ?_ roadLimits_j13
 refine Xp ?_ roadLimits_j12
 refine Xp ?_ roadLimits_j11
 refine Xp ?_ roadLimits_j10
 refine Xp ?_ jf9
 refine Xp ?_ roadLimits_j8
 refine Xp ?_ jf7
 refine Xp ?_ roadLimits_j6
 refine Xp ?_ roadLimits_j5
 refine Xp ?_ roadLimits_j4
 refine Xp ?_ jf3
 refine Xp ?_ jf2
 exact roadLimits_j1
theorem roadLimits_said : Rows.RoadLimitsSaid :=
 OpenClaim.holds_of_cond 5 Tryz.f5 rfl rfl rfl rfl rfl rfl rfl ⟨rfl,rfl,rfl,rfl,rfl⟩ rfl rfl rfl rfl rfl (by kernel_rfl) Tryz.func5 roadLimits_closed
  (of_decide_eq_true (by kernel_rfl)) (by unfold Func.isWrapper; first | (rw [if_pos (by decide +kernel)]; kernel_rfl) | (rw [if_neg (by decide +kernel)]; exact ⟨rfl,rfl⟩))
  (fun os started H enc _ F => by rw [OpenClaim.pre_eq_preRow]; exact roadLimits_lifted os started H enc F)
end Go.Proofs.YtagijlhciclafaaGreatDoor
