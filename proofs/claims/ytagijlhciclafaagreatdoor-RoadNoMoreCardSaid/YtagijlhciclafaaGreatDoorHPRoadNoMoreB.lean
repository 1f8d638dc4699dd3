import Derived.Test.YtagijlhciclafaaGreatDoorHPRoadNoMoreA
import Derived.Test.YtagijlhciclafaaGreatDoorHPRoadNoMoreF
import Derived.Test.YtagijlhciclafaaGreatDoorCards
/- The law RoadNoMore: a part of its card. -/
set_option linter.unusedVariables false
set_option linter.unusedSimpArgs false
namespace Go.Proofs.YtagijlhciclafaaGreatDoor
open Go.ChangeShapes Go.WideShapes Go.ChangeAt Go.RowKit Go.Se
set_option maxRecDepth 100000 in
theorem roadNoMore_closed : joinedFacts Tryz.pinned.checked.prog 8 Tryz.f8 (OpenSpec.ofChange Rows.roadNoMoreSpec).bare Rows.roadNoMoreRow = true := by
 unfold joinedFacts
 refine Xp ?_ roadNoMore_j32
 refine Xp ?_ roadNoMore_j31
 refine Xp ?_ roadNoMore_j30
 refine Xp ?_ roadNoMore_j29
 refine Xp ?_ roadNoMore_j28
 refine Xp ?_ roadNoMore_j27
 refine Xp ?_ Q9o
 refine Xp ?_ Q9n
 refine Xp ?_ roadNoMore_j24
 refine Xp ?_ roadNoMore_j23
 refine Xp ?_ roadNoMore_j22
 refine Xp ?_ roadNoMore_j21
 refine Xp ?_ roadNoMore_j20
 refine Xp ?_ roadNoMore_j19
 refine Xp ?_ roadNoMore_j18
 refine Xp ?_ roadNoMore_j17
 refine Xp ?_ roadNoMore_j16
 refine Xp ?_ roadNoMore_j15
 refine Xp ?_ roadNoMore_j14
 refine Xp ?_ roadNoMore_j13
 refine Xp ?_ roadNoMore_j12
 refine Xp ?_ roadNoMore_j11
 refine Xp ?_ roadNoMore_j10
 refine Xp ?_ jf9
 refine Xp ?_ roadNoMore_j8
 refine Xp ?_ jf7
 refine Xp ?_ roadNoMore_j6
 refine Xp ?_ roadNoMore_j5
 refine Xp ?_ roadNoMore_j4
 refine Xp ?_ jf3
 refine Xp ?_ jf2
 exact roadNoMore_j1
theorem roadNoMore_said : Rows.RoadNoMoreSaid :=
 OpenClaim.holds_of_cond 8 Tryz.f8 rfl rfl rfl rfl rfl rfl rfl ⟨rfl,rfl,rfl,rfl,rfl⟩ rfl rfl rfl rfl rfl (by kernel_rfl) Tryz.func8 roadNoMore_closed
  (of_decide_eq_true (by kernel_rfl)) (by unfold Func.isWrapper; first | (rw [if_pos (by decide +kernel)]; kernel_rfl) | (rw [if_neg (by decide +kernel)]; exact ⟨rfl,rfl⟩))
  (fun os started H enc _ F => by rw [OpenClaim.pre_eq_preRow]; exact roadNoMore_lifted os started H enc F)
end Go.Proofs.YtagijlhciclafaaGreatDoor
