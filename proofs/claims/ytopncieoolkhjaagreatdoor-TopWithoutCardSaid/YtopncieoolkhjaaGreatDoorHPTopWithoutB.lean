import Derived.Test.YtopncieoolkhjaaGreatDoorHPTopWithoutA
import Derived.Test.YtopncieoolkhjaaGreatDoorHPTopWithoutF
import Derived.Test.YtopncieoolkhjaaGreatDoorCards
/- The law TopWithout: a part of its card. -/
set_option linter.unusedVariables false
set_option linter.unusedSimpArgs false
namespace Go.Proofs.YtopncieoolkhjaaGreatDoor
open Go.ChangeShapes Go.WideShapes Go.ChangeAt Go.RowKit Go.Se
set_option maxRecDepth 100000 in
theorem topWithout_closed : joinedFacts Tryz.pinned.checked.prog 3 Tryz.f3 (OpenSpec.ofChange Rows.topWithoutSpec).bare Rows.topWithoutRow = true := by
 unfold joinedFacts
 refine Qbe ?_ topWithout_j32
 refine Qbe ?_ topWithout_j31
 refine Qbe ?_ topWithout_j30
 refine Qbe ?_ topWithout_j29
 refine Qbe ?_ topWithout_j28
 refine Qbe ?_ topWithout_j27
 refine Qbe ?_ Q7m
 refine Qbe ?_ Q7l
 refine Qbe ?_ topWithout_j24
 refine Qbe ?_ topWithout_j23
 refine Qbe ?_ topWithout_j22
 refine Qbe ?_ topWithout_j21
 refine Qbe ?_ topWithout_j20
 refine Qbe ?_ topWithout_j19
 refine Qbe ?_ topWithout_j18
 refine Qbe ?_ topWithout_j17
 refine Qbe ?_ topWithout_j16
 refine Qbe ?_ topWithout_j15
 refine Qbe ?_ topWithout_j14
 refine Qbe ?_ topWithout_j13
 refine Qbe ?_ topWithout_j12
 refine Qbe ?_ topWithout_j11
 refine Qbe ?_ topWithout_j10
 refine Qbe ?_ jf9
 refine Qbe ?_ topWithout_j8
 refine Qbe ?_ jf7
 refine Qbe ?_ topWithout_j6
 refine Qbe ?_ topWithout_j5
 refine Qbe ?_ topWithout_j4
 refine Qbe ?_ jf3
 refine Qbe ?_ jf2
 exact topWithout_j1
theorem topWithout_said : Rows.TopWithoutSaid :=
 OpenClaim.holds_of_cond 3 Tryz.f3 rfl rfl rfl rfl rfl rfl rfl ⟨rfl,rfl,rfl,rfl,rfl⟩ rfl rfl rfl rfl rfl (by kernel_rfl) Tryz.func3 topWithout_closed
  (of_decide_eq_true (by kernel_rfl)) (by unfold Func.isWrapper; first | (rw [if_pos (by decide +kernel)]; kernel_rfl) | (rw [if_neg (by decide +kernel)]; exact ⟨rfl,rfl⟩))
  (fun os started H enc _ F => by rw [OpenClaim.pre_eq_preRow]; exact topWithout_lifted os started H enc F)
end Go.Proofs.YtopncieoolkhjaaGreatDoor
