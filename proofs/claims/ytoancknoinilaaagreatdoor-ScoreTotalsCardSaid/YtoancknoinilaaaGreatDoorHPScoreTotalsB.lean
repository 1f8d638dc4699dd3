import Derived.Test.YtoancknoinilaaaGreatDoorHPScoreTotalsA
import Derived.Test.YtoancknoinilaaaGreatDoorHPScoreTotalsF
import Derived.Test.YtoancknoinilaaaGreatDoorCards

/- The law ScoreTotals: a part of its card. -/
set_option linter.unusedVariables false
set_option linter.unusedSimpArgs false
namespace Go.Proofs.YtoancknoinilaaaGreatDoor
open Go.ChangeShapes Go.WideShapes Go.ChangeAt Go.RowKit Go.Se

set_option maxRecDepth 100000 in
theorem scoreTotals_closed : joinedFacts Tryz.pinned.checked.prog 5 Tryz.f5 (OpenSpec.ofChange Rows.scoreTotalsSpec).bare Rows.scoreTotalsRow = true := by
  unfold joinedFacts
  refine and2 ?_ scoreTotals_j32
  refine and2 ?_ scoreTotals_j31
  refine and2 ?_ scoreTotals_j30
  refine and2 ?_ scoreTotals_j29
  refine and2 ?_ scoreTotals_j28
  refine and2 ?_ scoreTotals_j27
  refine and2 ?_ jf26
  refine and2 ?_ jf25
  refine and2 ?_ scoreTotals_j24
  refine and2 ?_ scoreTotals_j23
  refine and2 ?_ scoreTotals_j22
  refine and2 ?_ scoreTotals_j21
  refine and2 ?_ scoreTotals_j20
  refine and2 ?_ scoreTotals_j19
  refine and2 ?_ scoreTotals_j18
  refine and2 ?_ scoreTotals_j17
  refine and2 ?_ scoreTotals_j16
  refine and2 ?_ scoreTotals_j15
  refine and2 ?_ scoreTotals_j14
  refine and2 ?_ scoreTotals_j13
  refine and2 ?_ scoreTotals_j12
  refine and2 ?_ scoreTotals_j11
  refine and2 ?_ scoreTotals_j10
  refine and2 ?_ jf9
  refine and2 ?_ scoreTotals_j8
  refine and2 ?_ jf7
  refine and2 ?_ scoreTotals_j6
  refine and2 ?_ scoreTotals_j5
  refine and2 ?_ scoreTotals_j4
  refine and2 ?_ jf3
  refine and2 ?_ jf2
  exact scoreTotals_j1
theorem scoreTotals_said : Rows.ScoreTotalsSaid :=
  OpenClaim.holds_of_cond 5 Tryz.f5 rfl rfl rfl rfl rfl rfl rfl ⟨rfl, rfl, rfl, rfl, rfl⟩ rfl rfl rfl rfl rfl (by kernel_rfl) Tryz.func5 scoreTotals_closed
    (of_decide_eq_true (by kernel_rfl)) (by unfold Func.isWrapper; first | (rw [if_pos (by decide +kernel)]; kernel_rfl) | (rw [if_neg (by decide +kernel)]; exact ⟨rfl, rfl⟩))
    (fun os started H enc _ F => by rw [OpenClaim.pre_eq_preRow]; exact scoreTotals_lifted os started H enc F)

end Go.Proofs.YtoancknoinilaaaGreatDoor
