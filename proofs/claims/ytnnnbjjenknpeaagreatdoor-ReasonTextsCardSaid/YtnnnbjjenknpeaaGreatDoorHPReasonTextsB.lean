import Derived.Test.YtnnnbjjenknpeaaGreatDoorHPReasonTextsA
import Derived.Test.YtnnnbjjenknpeaaGreatDoorHPReasonTextsF
import Derived.Test.YtnnnbjjenknpeaaGreatDoorCards
/- The law ReasonTexts: a part of its card. -/
set_option linter.unusedVariables false
set_option linter.unusedSimpArgs false
namespace Go.Proofs.YtnnnbjjenknpeaaGreatDoor
open Go.ChangeShapes Go.WideShapes Go.ChangeAt Go.RowKit Go.Se
set_option maxRecDepth 100000 in
theorem reasonTexts_closed : joinedFacts Tryz.pinned.checked.prog 9 Tryz.f9 (OpenSpec.ofChange Rows.reasonTextsSpec).bare Rows.reasonTextsRow = true := by
 unfold joinedFacts
 refine Q3 ?_ reasonTexts_j32
 refine Q3 ?_ reasonTexts_j31
 refine Q3 ?_ reasonTexts_j30
 refine Q3 ?_ reasonTexts_j29
 refine Q3 ?_ reasonTexts_j28
 refine Q3 ?_ reasonTexts_j27
 refine Q3 ?_ Q74
 refine Q3 ?_ Q73
 refine Q3 ?_ reasonTexts_j24
 refine Q3 ?_ reasonTexts_j23
 refine Q3 ?_ reasonTexts_j22
 refine Q3 ?_ reasonTexts_j21
 refine Q3 ?_ reasonTexts_j20
 refine Q3 ?_ reasonTexts_j19
 refine Q3 ?_ reasonTexts_j18
 refine Q3 ?_ reasonTexts_j17
 refine Q3 ?_ reasonTexts_j16
 refine Q3 ?_ reasonTexts_j15
 refine Q3 ?_ reasonTexts_j14
 refine Q3 ?_ reasonTexts_j13
 refine Q3 ?_ reasonTexts_j12
 refine Q3 ?_ reasonTexts_j11
 refine Q3 ?_ reasonTexts_j10
 refine Q3 ?_ jf9
 refine Q3 ?_ reasonTexts_j8
 refine Q3 ?_ jf7
 refine Q3 ?_ reasonTexts_j6
 refine Q3 ?_ reasonTexts_j5
 refine Q3 ?_ reasonTexts_j4
 refine Q3 ?_ jf3
 refine Q3 ?_ jf2
 exact reasonTexts_j1
theorem reasonTexts_said : Rows.ReasonTextsSaid :=
 OpenClaim.holds_of_cond 9 Tryz.f9 rfl rfl rfl rfl rfl rfl rfl ⟨rfl,rfl,rfl,rfl,rfl⟩ rfl rfl rfl rfl rfl (by kernel_rfl) Tryz.func9 reasonTexts_closed
  (of_decide_eq_true (by kernel_rfl)) (by unfold Func.isWrapper; first | (rw [if_pos (by decide +kernel)]; kernel_rfl) | (rw [if_neg (by decide +kernel)]; exact ⟨rfl,rfl⟩))
  (fun os started H enc _ F => by rw [OpenClaim.pre_eq_preRow]; exact reasonTexts_lifted os started H enc F)
end Go.Proofs.YtnnnbjjenknpeaaGreatDoor
