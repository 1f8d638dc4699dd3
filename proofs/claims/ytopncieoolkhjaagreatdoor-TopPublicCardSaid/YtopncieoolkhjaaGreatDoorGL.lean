/- Several texts in one: Pl7, Cu. -/
import Derived.Test.YtopncieoolkhjaaGreatDoorGN
import Derived.Test.YtopncieoolkhjaaGreatDoorGJ
set_option linter.unusedVariables false
set_option linter.unusedSimpArgs false
namespace Go.Proofs.YtopncieoolkhjaaGreatDoor
open Go.Se Go.RowKit
def Qsf (c:Cfg) (z:List Ev) (person item:ByteArray) (now:Int) (k:Nat) : Int :=
 if k = 0 then min (Q3i (z.filter wpB) (Q7 c.half) item now) 1099511627776
 else if k = 1 then (if (Qgp z item now).listed = true then min (Qfr (Q0x (Q7 c.half) now (rowsOf (Qk1 z) person)) (Qw (Qex (Qgp z item now).tags))) 1099511627776 else 0)
 else if k = 2 then Q6z c z person item
 else if k = 3 then Qwm c (paE (z.filter wpB) c.width item ((Qn5 c now - c.span) / Q7 c.width) (Qn5 c now / Q7 c.width)) (paE (z.filter wpB) c.width item ((Qn5 c now - 2 * c.span) / Q7 c.width) ((Qn5 c now - c.span) / Q7 c.width))
 else if k = 4 then (if (Qgp z item now).listed = true ∧ Qt1 z person (Qgp z item now).maker = true then 1048576 else 0)
 else if k = 5 then (if (Qgp z item now).listed = true then X9 (now - (Qgp z item now).born) c.half else 0)
 else 0
structure Behind (now:Int) (person:ByteArray) (M:List Ev) : Prop where
 at_ : ∀ e ∈ M,now < e.at_
 worth : ∀ e ∈ M,Qr e ≤ 0
 person : ∀ e ∈ M,e.person ≠ person
theorem Qh0 {α:Type} {p:α → Bool} {l:List α} {k:Nat} (hk:k ≤ l.length) (h1:∀ x ∈ l.take k,p x = true) (h2:k = l.length ∨ ∃ x,l[k]? = some x ∧ p x = false) : l.takeWhile p = l.take k ∧ l.dropWhile p = l.drop k := by
 have hd : (l.drop k).takeWhile p = [] ∧ (l.drop k).dropWhile p = l.drop k := by
  rcases h2 with rfl | ⟨x,hx,hp⟩
  · simp
  · have hlt : k < l.length := (List.getElem?_eq_some_iff.1 hx).1
    have hxe : l[k] = x := by rw [List.getElem?_eq_getElem hlt] at hx; simpa using hx
    rw [List.drop_eq_getElem_cons hlt,hxe]
    simp [hp]
 constructor
 · conv => lhs; rw [← List.take_append_drop k l]
   rw [List.takeWhile_append_of_pos h1,hd.1,List.append_nil]
 · conv => lhs; rw [← List.take_append_drop k l]
   rw [List.dropWhile_append_of_pos h1,hd.2]
end Go.Proofs.YtopncieoolkhjaaGreatDoor
