/- Several texts in one: Wq2. -/
import Derived.Test.YteabekcdcphjpaaGreatDoorHWq1
set_option linter.unusedVariables false
set_option linter.unusedSimpArgs false
namespace Go.Proofs.YteabekcdcphjpaaGreatDoor
open Go.Se Go.RowKit
theorem Qs3 (p:ByteArray) : ∀ l : List Ev,Qc (Qdn (l.filter fun e => decide (e.person = p))) p = Qc (Qdn l) p := by
 refine Qy rfl fun l e ih => ?_
 have hs : ∀ (l:List Ev) (e:Ev),Qdn (l ++ [e]) = Qq7 (Qdn l) e.person e.at_ e.item := fun l e => by unfold Qdn; rw [List.foldl_append]; rfl
 rw [List.filter_append,hs]
 by_cases h : e.person = p
 · rw [show List.filter (fun e => decide (e.person = p)) [e] = [e] by simp [h],hs,h]
   exact Q1b ih _ _
 · rw [show List.filter (fun e => decide (e.person = p)) [e] = [] by simp [h],List.append_nil,ih,Qyd (fun e' => h e'.symm)]
end Go.Proofs.YteabekcdcphjpaaGreatDoor
