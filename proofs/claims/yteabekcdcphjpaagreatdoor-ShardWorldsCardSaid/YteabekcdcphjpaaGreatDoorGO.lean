/- Several texts in one: Rs1, Rs3, Ra1. -/
import Derived.Test.YteabekcdcphjpaaGreatDoorGM
import Derived.Test.YteabekcdcphjpaaGreatDoorGL
import Derived.Test.YteabekcdcphjpaaGreatDoorHPl8
set_option linter.unusedVariables false
set_option linter.unusedSimpArgs false
namespace Go.Proofs.YteabekcdcphjpaaGreatDoor
open Go.Se Go.RowKit
section
variable {z1 z2:List Ev} {o:Ev}
theorem Qyd {s:Ses} {p q:ByteArray} (h:q ≠ p) (t:Int) (x:ByteArray) : Qc (Qq7 s p t x) q = Qc s q := by
 unfold Qq7
 rw [Q5,if_neg h]
theorem Q1b {s s':Ses} {p:ByteArray} (h:Qc s' p = Qc s p) (t:Int) (x:ByteArray) : Qc (Qq7 s' p t x) p = Qc (Qq7 s p t x) p := by
 unfold Qq7
 rw [Qs,Qs,h]
theorem Q4x {s:Ses} {p q:ByteArray} {t:Int} {x:ByteArray} : q ∈ (Qq7 s p t x).map (·.1) ↔ q ∈ s.map (·.1) ∨ q = p := by
 rw [Qgl,Qgl]
 unfold Qq7
 rw [Q5]
 by_cases h : q = p
 · simp [h]
 · rw [if_neg h]; simp [h]
theorem Q7i {q:ByteArray} : ∀ l : List Ev,q ∈ (Qdn l).map (·.1) ↔ ∃ e ∈ l,e.person = q := by
 refine Qy (by simp [Qdn]) fun l e ih => ?_
 rw [Qqq,Q4x,ih]
 constructor
 · rintro (⟨x,hx,h⟩ | h)
   · exact ⟨x,by simp [hx],h⟩
   · exact ⟨e,by simp,h.symm⟩
 · rintro ⟨x,hx,h⟩
   rcases List.mem_append.1 hx with hx | hx
   · exact .inl ⟨x,hx,h⟩
   · rw [List.mem_singleton] at hx; subst hx; exact .inr h.symm
theorem Qxv (l:List Ev) : ((Qdn l).map (·.1)).Nodup := Qal (Q6m l).keys
end
theorem Q61 {e:Ev} (h:wpB e = true) : e.kind ≠ 14 ∧ thB e = false ∧ peB e = true := by
 have := Q4o h
 unfold peB thB
 refine ⟨by omega,?_,?_⟩
 · rw [decide_eq_false_iff_not]; omega
 · rw [Bool.and_eq_true,Bool.not_eq_true',Bool.not_eq_true',decide_eq_false_iff_not,decide_eq_false_iff_not]; omega
section
variable {z z':List Ev} {o:Ev}
end
end Go.Proofs.YteabekcdcphjpaaGreatDoor
