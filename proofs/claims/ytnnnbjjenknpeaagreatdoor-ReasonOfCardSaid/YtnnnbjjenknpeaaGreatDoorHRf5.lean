import Derived.Test.YtnnnbjjenknpeaaGreatDoorHRf4
import Derived.Test.YtnnnbjjenknpeaaGreatDoorGM
/- The reference's Taste and Raw: all raw points. -/
set_option linter.unusedVariables false
set_option linter.unusedSimpArgs false
namespace Go.Proofs.YtnnnbjjenknpeaaGreatDoor
open Go.Se Go.RowKit
theorem Q3q : ∀ z : List Ev,(∀ e ∈ z,Xu e = true) → ∀ r ∈ Qfa z,Xu r.1 = true ∧ r.2.length ≤ 8 := by
 refine Qy (fun _ r hr => by simp [Qfa,Qxm] at hr) fun z e ih hm r hr => ?_
 rw [Qcg] at hr
 rcases List.mem_append.1 hr with hr | hr
 · exact ih (fun x hx => hm x (by simp [hx])) r hr
 · split at hr
   · rw [List.mem_singleton] at hr
     subst hr
     refine ⟨hm e (by simp),?_⟩
     show (Qf7 (Qj z) e).length ≤ 8
     unfold Qf7
     split
     · simp
     · exact (Qg5 e.item _ fun y hy => X4 (fun x hx => hm x (by simp [hx])) y (List.mem_filter.1 hy).1).2.2
   · simp at hr
end Go.Proofs.YtnnnbjjenknpeaaGreatDoor
