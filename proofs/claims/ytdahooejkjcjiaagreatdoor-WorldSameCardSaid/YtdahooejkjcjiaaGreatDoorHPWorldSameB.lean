import Derived.Test.YtdahooejkjcjiaaGreatDoorHPWorldSameA
import Derived.Test.YtdahooejkjcjiaaGreatDoorHPWorldSameF
import Derived.Test.YtdahooejkjcjiaaGreatDoorCards
/- The law WorldSame: a part of its card. -/
set_option linter.unusedVariables false
set_option linter.unusedSimpArgs false
namespace Go.Proofs.YtdahooejkjcjiaaGreatDoor
open Go.ChangeShapes Go.WideShapes Go.ChangeAt Go.RowKit Go.Se
set_option maxRecDepth 100000 in
theorem worldSame_closed : joinedFacts Tryz.pinned.checked.prog 4 Tryz.f4 (OpenSpec.ofChange Rows.worldSameSpec).bare Rows.worldSameRow = true := by
 unfold joinedFacts
 refine Qag ?_ worldSame_j32
 refine Qag ?_ worldSame_j31
 refine Qag ?_ worldSame_j30
 refine Qag ?_ worldSame_j29
 refine Qag ?_ worldSame_j28
 refine Qag ?_ worldSame_j27
 refine Qag ?_ Q8b
 refine Qag ?_ Q8a
 refine Qag ?_ worldSame_j24
 refine Qag ?_ worldSame_j23
 refine Qag ?_ worldSame_j22
 refine Qag ?_ worldSame_j21
 refine Qag ?_ worldSame_j20
 refine Qag ?_ worldSame_j19
 refine Qag ?_ worldSame_j18
 refine Qag ?_ worldSame_j17
 refine Qag ?_ worldSame_j16
 refine Qag ?_ worldSame_j15
 refine Qag ?_ worldSame_j14
 refine Qag ?_ worldSame_j13
 refine Qag ?_ worldSame_j12
 refine Qag ?_ worldSame_j11
 refine Qag ?_ worldSame_j10
 refine Qag ?_ jf9
 refine Qag ?_ worldSame_j8
 refine Qag ?_ jf7
 refine Qag ?_ worldSame_j6
 refine Qag ?_ worldSame_j5
 refine Qag ?_ worldSame_j4
 refine Qag ?_ jf3
 refine Qag ?_ jf2
 exact worldSame_j1
theorem worldSame_said : Rows.WorldSameSaid :=
 OpenClaim.holds_of_cond 4 Tryz.f4 rfl rfl rfl rfl rfl rfl rfl ⟨rfl,rfl,rfl,rfl,rfl⟩ rfl rfl rfl rfl rfl (by kernel_rfl) Tryz.func4 worldSame_closed
  (of_decide_eq_true (by kernel_rfl)) (by unfold Func.isWrapper; first | (rw [if_pos (by decide +kernel)]; kernel_rfl) | (rw [if_neg (by decide +kernel)]; exact ⟨rfl,rfl⟩))
  (fun os started H enc _ F => by rw [OpenClaim.pre_eq_preRow]; exact worldSame_lifted os started H enc F)
end Go.Proofs.YtdahooejkjcjiaaGreatDoor
