/- Several texts in one: Wa1, Wa2, Wa3, Wr1. -/
import Derived.Test.YteabekcdcphjpaaGreatDoorGF
import Derived.Test.YteabekcdcphjpaaGreatDoorGC
set_option linter.unusedVariables false
set_option linter.unusedSimpArgs false
namespace Go.Proofs.YteabekcdcphjpaaGreatDoor
open Go.Se Go.RowKit
section
variable {α:Type} {enc:α → List Value} {sz:Nat} {te:TypeId} {base:Nat} {w w':World} {A:Option Addr} {c:Nat} {l:List α}
end
structure Xbh (c:Cfg) (s:WS) : Prop where
 ct : s.ct = Qe c.width s.es
 may : ∀ x ∈ s.es,Xj x = true
 rise : Rise s.es
 last : s.any = true → ∀ x ∈ s.es,x = s.last ∨ Q7 x s.last = true
 none : s.any = false → s.es = []
theorem Xa3 (c:Cfg) : Xbh c WS0 := ⟨rfl,by simp [WS0],List.Pairwise.nil,by simp [WS0],by simp [WS0]⟩
theorem Qks {l:List Ev} {p:ByteArray} : Qhc l p = true ↔ ∃ x ∈ l,x.kind = 14 ∧ x.person = p := by
 unfold Qhc
 rw [List.any_eq_true]
 simp
theorem Q79 {l l':List Ev} (h:∀ x,x.kind = 14 → (x ∈ l ↔ x ∈ l')) (p:ByteArray) : Qhc l p = Qhc l' p := by
 rw [Bool.eq_iff_iff,Qks,Qks]
 constructor <;> rintro ⟨x,hx,h1,h2⟩
 · exact ⟨x,(h x h1).1 hx,h1,h2⟩
 · exact ⟨x,(h x h1).2 hx,h1,h2⟩
theorem Q8i {l l':List Ev} (h:∀ x,x.kind = 14 → (x ∈ l ↔ x ∈ l')) (e:Ev) : Qeq l e = Qeq l' e := by
 unfold Qeq
 rw [Q79 h]
structure Xax (c:Cfg) (s:WS) (all:List Ev) : Prop where
 inv : Xbh c s
 nil : s.any = false → all = []
 last : s.any = true → all.getLast? = some s.last
 ad : ∀ i,(Qc s.ad i).getD false = all.any (fun e => decide (idE e = i))
 fg : ∀ p,(Qc s.fg p).getD false = Qhc s.es p
 left : ∀ x ∈ s.es,Qeq s.es x = true
theorem add_zero (c:Cfg) : Xax c WS0 [] := ⟨Xa3 c,fun _ => rfl,fun h => (by cases h),fun _ => rfl,fun _ => rfl,fun x hx => (by cases hx)⟩
end Go.Proofs.YteabekcdcphjpaaGreatDoor
