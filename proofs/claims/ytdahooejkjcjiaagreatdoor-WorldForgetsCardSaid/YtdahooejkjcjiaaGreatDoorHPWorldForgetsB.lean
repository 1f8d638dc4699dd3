import Derived.Test.YtdahooejkjcjiaaGreatDoorHPWorldForgetsA
import Derived.Test.YtdahooejkjcjiaaGreatDoorHPWorldForgetsF
import Derived.Test.YtdahooejkjcjiaaGreatDoorCards
/- The law WorldForgets: a part of its card. -/
set_option linter.unusedVariables false
set_option linter.unusedSimpArgs false
namespace Go.Proofs.YtdahooejkjcjiaaGreatDoor
open Go.ChangeShapes Go.WideShapes Go.ChangeAt Go.RowKit Go.Se
set_option maxRecDepth 100000 in
theorem worldForgets_closed : joinedFacts Tryz.pinned.checked.prog 7 Tryz.f7 (OpenSpec.ofChange Rows.worldForgetsSpec).bare Rows.worldForgetsRow = true := by
 unfold joinedFacts
 refine Qag ?_ worldForgets_j32
 refine Qag ?_ worldForgets_j31
 refine Qag ?_ worldForgets_j30
 refine Qag ?_ worldForgets_j29
 refine Qag ?_ worldForgets_j28
 refine Qag ?_ worldForgets_j27
 refine Qag ?_ Q8b
 refine Qag ?_ Q8a
 refine Qag ?_ worldForgets_j24
 refine Qag ?_ worldForgets_j23
 refine Qag ?_ worldForgets_j22
 refine Qag ?_ worldForgets_j21
 refine Qag ?_ worldForgets_j20
 refine Qag ?_ worldForgets_j19
 refine Qag ?_ worldForgets_j18
 refine Qag ?_ worldForgets_j17
 refine Qag ?_ worldForgets_j16
 refine Qag ?_ worldForgets_j15
 refine Qag ?_ worldForgets_j14
 refine Qag ?_ worldForgets_j13
 refine Qag ?_ worldForgets_j12
 refine Qag ?_ worldForgets_j11
 refine Qag ?_ worldForgets_j10
 refine Qag ?_ jf9
 refine Qag ?_ worldForgets_j8
 refine Qag ?_ jf7
 refine Qag ?_ worldForgets_j6
 refine Qag ?_ worldForgets_j5
 refine Qag ?_ worldForgets_j4
 refine Qag ?_ jf3
 refine Qag ?_ jf2
 exact worldForgets_j1
theorem worldForgets_said : Rows.WorldForgetsSaid :=
 OpenClaim.holds_of_cond 7 Tryz.f7 rfl rfl rfl rfl rfl rfl rfl ⟨rfl,rfl,rfl,rfl,rfl⟩ rfl rfl rfl rfl rfl (by kernel_rfl) Tryz.func7 worldForgets_closed
  (of_decide_eq_true (by kernel_rfl)) (by unfold Func.isWrapper; first | (rw [if_pos (by decide +kernel)]; kernel_rfl) | (rw [if_neg (by decide +kernel)]; exact ⟨rfl,rfl⟩))
  (fun os started H enc _ F => by rw [OpenClaim.pre_eq_preRow]; exact worldForgets_lifted os started H enc F)
end Go.Proofs.YtdahooejkjcjiaaGreatDoor
