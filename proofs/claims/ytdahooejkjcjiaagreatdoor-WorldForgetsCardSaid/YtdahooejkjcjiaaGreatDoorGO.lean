/- Several texts in one: Rs1, Rs3, Ra1. -/
import Derived.Test.YtdahooejkjcjiaaGreatDoorGM
import Derived.Test.YtdahooejkjcjiaaGreatDoorGL
import Derived.Test.YtdahooejkjcjiaaGreatDoorHPl8
set_option linter.unusedVariables false
set_option linter.unusedSimpArgs false
namespace Go.Proofs.YtdahooejkjcjiaaGreatDoor
open Go.Se Go.RowKit
section
variable {z1 z2:List Ev} {o:Ev}
theorem Q2p {s:Ses} {p q:ByteArray} {t:Int} {x:ByteArray} : q ∈ (Qy4 s p t x).map (·.1) ↔ q ∈ s.map (·.1) ∨ q = p := by
 rw [Qfe,Qfe]
 unfold Qy4
 rw [Xe]
 by_cases h : q = p
 · simp [h]
 · rw [if_neg h]; simp [h]
theorem Q7v {q:ByteArray} : ∀ l : List Ev,q ∈ (Qe5 l).map (·.1) ↔ ∃ e ∈ l,e.person = q := by
 refine Q7 (by simp [Qe5]) fun l e ih => ?_
 rw [Qpm,Q2p,ih]
 constructor
 · rintro (⟨x,hx,h⟩ | h)
   · exact ⟨x,by simp [hx],h⟩
   · exact ⟨e,by simp,h.symm⟩
 · rintro ⟨x,hx,h⟩
   rcases List.mem_append.1 hx with hx | hx
   · exact .inl ⟨x,hx,h⟩
   · rw [List.mem_singleton] at hx; subst hx; exact .inr h.symm
end
section
variable {z z':List Ev} {o:Ev}
end
end Go.Proofs.YtdahooejkjcjiaaGreatDoor
