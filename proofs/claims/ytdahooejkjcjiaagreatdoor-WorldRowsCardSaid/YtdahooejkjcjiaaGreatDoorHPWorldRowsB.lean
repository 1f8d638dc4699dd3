import Derived.Test.YtdahooejkjcjiaaGreatDoorHPWorldRowsA
import Derived.Test.YtdahooejkjcjiaaGreatDoorHPWorldRowsF
import Derived.Test.YtdahooejkjcjiaaGreatDoorCards
/- The law WorldRows: a part of its card. -/
set_option linter.unusedVariables false
set_option linter.unusedSimpArgs false
namespace Go.Proofs.YtdahooejkjcjiaaGreatDoor
open Go.ChangeShapes Go.WideShapes Go.ChangeAt Go.RowKit Go.Se
set_option maxRecDepth 100000 in
theorem worldRows_closed : joinedFacts Tryz.pinned.checked.prog 5 Tryz.f5 (OpenSpec.ofChange Rows.worldRowsSpec).bare Rows.worldRowsRow = true := by
 unfold joinedFacts
 refine Qag ?_ worldRows_j32
 refine Qag ?_ worldRows_j31
 refine Qag ?_ worldRows_j30
 refine Qag ?_ worldRows_j29
 refine Qag ?_ worldRows_j28
 refine Qag ?_ worldRows_j27
 refine Qag ?_ Q8b
 refine Qag ?_ Q8a
 refine Qag ?_ worldRows_j24
 refine Qag ?_ worldRows_j23
 refine Qag ?_ worldRows_j22
 refine Qag ?_ worldRows_j21
 refine Qag ?_ worldRows_j20
 refine Qag ?_ worldRows_j19
 refine Qag ?_ worldRows_j18
 refine Qag ?_ worldRows_j17
 refine Qag ?_ worldRows_j16
 refine Qag ?_ worldRows_j15
 refine Qag ?_ worldRows_j14
 refine Qag ?_ worldRows_j13
 refine Qag ?_ worldRows_j12
 refine Qag ?_ worldRows_j11
 refine Qag ?_ worldRows_j10
 refine Qag ?_ jf9
 refine Qag ?_ worldRows_j8
 refine Qag ?_ jf7
 refine Qag ?_ worldRows_j6
 refine Qag ?_ worldRows_j5
 refine Qag ?_ worldRows_j4
 refine Qag ?_ jf3
 refine Qag ?_ jf2
 exact worldRows_j1
theorem worldRows_said : Rows.WorldRowsSaid :=
 OpenClaim.holds_of_cond 5 Tryz.f5 rfl rfl rfl rfl rfl rfl rfl ⟨rfl,rfl,rfl,rfl,rfl⟩ rfl rfl rfl rfl rfl (by kernel_rfl) Tryz.func5 worldRows_closed
  (of_decide_eq_true (by kernel_rfl)) (by unfold Func.isWrapper; first | (rw [if_pos (by decide +kernel)]; kernel_rfl) | (rw [if_neg (by decide +kernel)]; exact ⟨rfl,rfl⟩))
  (fun os started H enc _ F => by rw [OpenClaim.pre_eq_preRow]; exact worldRows_lifted os started H enc F)
end Go.Proofs.YtdahooejkjcjiaaGreatDoor
