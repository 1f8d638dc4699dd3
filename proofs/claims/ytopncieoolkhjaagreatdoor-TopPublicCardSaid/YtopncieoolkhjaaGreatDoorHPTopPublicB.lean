import Derived.Test.YtopncieoolkhjaaGreatDoorHPTopPublicA
import Derived.Test.YtopncieoolkhjaaGreatDoorHPTopPublicF
import Derived.Test.YtopncieoolkhjaaGreatDoorCards
/- The law TopPublic: a part of its card. -/
set_option linter.unusedVariables false
set_option linter.unusedSimpArgs false
namespace Go.Proofs.YtopncieoolkhjaaGreatDoor
open Go.ChangeShapes Go.WideShapes Go.ChangeAt Go.RowKit Go.Se
set_option maxRecDepth 100000 in
theorem topPublic_closed : joinedFacts Tryz.pinned.checked.prog 6 Tryz.f6 (OpenSpec.ofChange Rows.topPublicSpec).bare Rows.topPublicRow = true := by
 unfold joinedFacts
 refine Qbe ?_ topPublic_j32
 refine Qbe ?_ topPublic_j31
 refine Qbe ?_ topPublic_j30
 refine Qbe ?_ topPublic_j29
 refine Qbe ?_ topPublic_j28
 refine Qbe ?_ topPublic_j27
 refine Qbe ?_ Q7m
 refine Qbe ?_ Q7l
 refine Qbe ?_ topPublic_j24
 refine Qbe ?_ topPublic_j23
 refine Qbe ?_ topPublic_j22
 refine Qbe ?_ topPublic_j21
 refine Qbe ?_ topPublic_j20
 refine Qbe ?_ topPublic_j19
 refine Qbe ?_ topPublic_j18
 refine Qbe ?_ topPublic_j17
 refine Qbe ?_ topPublic_j16
 refine Qbe ?_ topPublic_j15
 refine Qbe ?_ topPublic_j14
 refine Qbe ?_ topPublic_j13
 refine Qbe ?_ topPublic_j12
 refine Qbe ?_ topPublic_j11
 refine Qbe ?_ topPublic_j10
 refine Qbe ?_ jf9
 refine Qbe ?_ topPublic_j8
 refine Qbe ?_ jf7
 refine Qbe ?_ topPublic_j6
 refine Qbe ?_ topPublic_j5
 refine Qbe ?_ topPublic_j4
 refine Qbe ?_ jf3
 refine Qbe ?_ jf2
 exact topPublic_j1
theorem topPublic_said : Rows.TopPublicSaid :=
 OpenClaim.holds_of_cond 6 Tryz.f6 rfl rfl rfl rfl rfl rfl rfl ⟨rfl,rfl,rfl,rfl,rfl⟩ rfl rfl rfl rfl rfl (by kernel_rfl) Tryz.func6 topPublic_closed
  (of_decide_eq_true (by kernel_rfl)) (by unfold Func.isWrapper; first | (rw [if_pos (by decide +kernel)]; kernel_rfl) | (rw [if_neg (by decide +kernel)]; exact ⟨rfl,rfl⟩))
  (fun os started H enc _ F => by rw [OpenClaim.pre_eq_preRow]; exact topPublic_lifted os started H enc F)
end Go.Proofs.YtopncieoolkhjaaGreatDoor
