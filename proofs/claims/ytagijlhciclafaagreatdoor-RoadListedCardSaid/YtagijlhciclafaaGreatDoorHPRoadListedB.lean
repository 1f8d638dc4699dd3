import Derived.Test.YtagijlhciclafaaGreatDoorHPRoadListedA
import Derived.Test.YtagijlhciclafaaGreatDoorHPRoadListedF
import Derived.Test.YtagijlhciclafaaGreatDoorCards
/- The law RoadListed: a part of its card. -/
set_option linter.unusedVariables false
set_option linter.unusedSimpArgs false
namespace Go.Proofs.YtagijlhciclafaaGreatDoor
open Go.ChangeShapes Go.WideShapes Go.ChangeAt Go.RowKit Go.Se
set_option maxRecDepth 100000 in
theorem roadListed_closed : joinedFacts Tryz.pinned.checked.prog 7 Tryz.f7 (OpenSpec.ofChange Rows.roadListedSpec).bare Rows.roadListedRow = true := by
 unfold joinedFacts
 refine Xp ?_ roadListed_j32
 refine Xp ?_ roadListed_j31
 refine Xp ?_ roadListed_j30
 refine Xp ?_ roadListed_j29
 refine Xp ?_ roadListed_j28
 refine Xp ?_ roadListed_j27
 refine Xp ?_ Q9o
 refine Xp ?_ Q9n
 refine Xp ?_ roadListed_j24
 refine Xp ?_ roadListed_j23
 refine Xp ?_ roadListed_j22
 refine Xp ?_ roadListed_j21
 refine Xp ?_ roadListed_j20
 refine Xp ?_ roadListed_j19
 refine Xp ?_ roadListed_j18
 refine Xp ?_ roadListed_j17
 refine Xp ?_ roadListed_j16
 refine Xp ?_ roadListed_j15
 refine Xp ?_ roadListed_j14
 refine Xp ?_ roadListed_j13
 refine Xp ?_ roadListed_j12
 refine Xp ?_ roadListed_j11
 refine Xp ?_ roadListed_j10
 refine Xp ?_ jf9
 refine Xp ?_ roadListed_j8
 refine Xp ?_ jf7
 refine Xp ?_ roadListed_j6
 refine Xp ?_ roadListed_j5
 refine Xp ?_ roadListed_j4
 refine Xp ?_ jf3
 refine Xp ?_ jf2
 exact roadListed_j1
theorem roadListed_said : Rows.RoadListedSaid :=
 OpenClaim.holds_of_cond 7 Tryz.f7 rfl rfl rfl rfl rfl rfl rfl ⟨rfl,rfl,rfl,rfl,rfl⟩ rfl rfl rfl rfl rfl (by kernel_rfl) Tryz.func7 roadListed_closed
  (of_decide_eq_true (by kernel_rfl)) (by unfold Func.isWrapper; first | (rw [if_pos (by decide +kernel)]; kernel_rfl) | (rw [if_neg (by decide +kernel)]; exact ⟨rfl,rfl⟩))
  (fun os started H enc _ F => by rw [OpenClaim.pre_eq_preRow]; exact roadListed_lifted os started H enc F)
end Go.Proofs.YtagijlhciclafaaGreatDoor
