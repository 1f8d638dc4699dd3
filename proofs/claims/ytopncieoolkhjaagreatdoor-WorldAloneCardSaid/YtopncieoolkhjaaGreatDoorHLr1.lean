import Derived.Test.YtopncieoolkhjaaGreatDoorHRs7
/- The reason's laws: how they begin; their example. -/
set_option linter.unusedVariables false
set_option linter.unusedSimpArgs false
namespace Go.Proofs.YtopncieoolkhjaaGreatDoor
open Go.Se Go.RowKit
theorem Q50 (a b:Ev) (ox oy:Operand) : Qmv Tryz.prog 49 ox oy (evV a) (evV b) (decide (a = b)) := by
 have h := Qfa (ox := ox) (oy := oy) Qa st49 (xs := evC a) (ys := evC b) (b := decide (a.src = b.src) && (decide (a.num = b.num) && (decide (a.at_ = b.at_) && (decide (a.kind = b.kind) && (decide (a.person = b.person) && (decide (a.item = b.item) && (decide (a.val = b.val) && (decide (a.text = b.text) && true)))))))) rfl
 have e : (decide (a.src = b.src) && (decide (a.num = b.num) && (decide (a.at_ = b.at_) && (decide (a.kind = b.kind) && (decide (a.person = b.person) && (decide (a.item = b.item) && (decide (a.val = b.val) && (decide (a.text = b.text) && true)))))))) = decide (a = b) := by
  rw [Bool.eq_iff_iff]
  simp only [Bool.and_eq_true,decide_eq_true_eq,Ev.ext_iff,and_true]
 rw [e] at h
 exact h
end Go.Proofs.YtopncieoolkhjaaGreatDoor
