import Derived.Test.YtagijlhciclafaaGreatDoorHPRoadStrangersA
import Derived.Test.YtagijlhciclafaaGreatDoorHPRoadStrangersF
import Derived.Test.YtagijlhciclafaaGreatDoorCards
/- The law RoadStrangers: a part of its card. -/
set_option linter.unusedVariables false
set_option linter.unusedSimpArgs false
namespace Go.Proofs.YtagijlhciclafaaGreatDoor
open Go.ChangeShapes Go.WideShapes Go.ChangeAt Go.RowKit Go.Se
set_option maxRecDepth 100000 in
theorem roadStrangers_closed : joinedFacts Tryz.pinned.checked.prog 6 Tryz.f6 (OpenSpec.ofChange Rows.roadStrangersSpec).bare Rows.roadStrangersRow = true := by
 unfold joinedFacts
 refine Xp ?_ roadStrangers_j32
 refine Xp ?_ roadStrangers_j31
 refine Xp ?_ roadStrangers_j30
 refine Xp ?_ roadStrangers_j29
 refine Xp ?_ roadStrangers_j28
 refine Xp ?_ roadStrangers_j27
 refine Xp ?_ Q9o
 refine Xp ?_ Q9n
 refine Xp ?_ roadStrangers_j24
 refine Xp ?_ roadStrangers_j23
 refine Xp ?_ roadStrangers_j22
 refine Xp ?_ roadStrangers_j21
 refine Xp ?_ roadStrangers_j20
 refine Xp ?_ roadStrangers_j19
 refine Xp ?_ roadStrangers_j18
 refine Xp ?_ roadStrangers_j17
 refine Xp ?_ roadStrangers_j16
 refine Xp ?_ roadStrangers_j15
 refine Xp ?_ roadStrangers_j14
 refine Xp ?_ roadStrangers_j13
 refine Xp ?_ roadStrangers_j12
 refine Xp ?_ roadStrangers_j11
 refine Xp ?_ roadStrangers_j10
 refine Xp ?_ jf9
 refine Xp ?_ roadStrangers_j8
 refine Xp ?_ jf7
 refine Xp ?_ roadStrangers_j6
 refine Xp ?_ roadStrangers_j5
 refine Xp ?_ roadStrangers_j4
 refine Xp ?_ jf3
 refine Xp ?_ jf2
 exact roadStrangers_j1
theorem roadStrangers_said : Rows.RoadStrangersSaid :=
 OpenClaim.holds_of_cond 6 Tryz.f6 rfl rfl rfl rfl rfl rfl rfl ⟨rfl,rfl,rfl,rfl,rfl⟩ rfl rfl rfl rfl rfl (by kernel_rfl) Tryz.func6 roadStrangers_closed
  (of_decide_eq_true (by kernel_rfl)) (by unfold Func.isWrapper; first | (rw [if_pos (by decide +kernel)]; kernel_rfl) | (rw [if_neg (by decide +kernel)]; exact ⟨rfl,rfl⟩))
  (fun os started H enc _ F => by rw [OpenClaim.pre_eq_preRow]; exact roadStrangers_lifted os started H enc F)
end Go.Proofs.YtagijlhciclafaaGreatDoor
