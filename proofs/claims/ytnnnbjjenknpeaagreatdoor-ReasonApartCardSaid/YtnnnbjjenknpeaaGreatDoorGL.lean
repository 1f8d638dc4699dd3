/- Several texts in one: Pl7, Cu. -/
import Derived.Test.YtnnnbjjenknpeaaGreatDoorGN
import Derived.Test.YtnnnbjjenknpeaaGreatDoorGJ
set_option linter.unusedVariables false
set_option linter.unusedSimpArgs false
namespace Go.Proofs.YtnnnbjjenknpeaaGreatDoor
open Go.Se Go.RowKit
def Qql (c:Cfg) (z:List Ev) (person item:ByteArray) (now:Int) (k:Nat) : Int :=
 if k = 0 then min (Qz9 (z.filter wpB) (Q3 c.half) item now) 1099511627776
 else if k = 1 then (if (Qg3 z item now).listed = true then min (Qh7 (Qx9 (Q3 c.half) now (rowsOf (Qgg z) person)) (Qr (Qez (Qg3 z item now).tags))) 1099511627776 else 0)
 else if k = 2 then Q2s c z person item
 else if k = 3 then Qs4 c (paE (z.filter wpB) c.width item ((Qg6 c now - c.span) / Q3 c.width) (Qg6 c now / Q3 c.width)) (paE (z.filter wpB) c.width item ((Qg6 c now - 2 * c.span) / Q3 c.width) ((Qg6 c now - c.span) / Q3 c.width))
 else if k = 4 then (if (Qg3 z item now).listed = true ∧ Qrl z person (Qg3 z item now).maker = true then 1048576 else 0)
 else if k = 5 then (if (Qg3 z item now).listed = true then X9 (now - (Qg3 z item now).born) c.half else 0)
 else 0
structure Behind (now:Int) (person:ByteArray) (M:List Ev) : Prop where
 at_ : ∀ e ∈ M,now < e.at_
 worth : ∀ e ∈ M,Qu e ≤ 0
 person : ∀ e ∈ M,e.person ≠ person
theorem Qo7 {l l':List Ev} (hm:∀ x ∈ l,Xm x = true) {q:Ev → Bool} (hp:((Qjf (Qbf l)).filter q).Perm ((Qjf (Qbf l')).filter q)) : (Xq l).filter q = (Xq l').filter q :=
 Qm3 (((Qdc l).filter q).trans (hp.trans ((Qdc l').filter q).symm)) ((Qne hm).sublist List.filter_sublist) (List.Pairwise.sublist List.filter_sublist (Qjk l)) (List.Pairwise.sublist List.filter_sublist (Qjk l'))
theorem Qh6 {α:Type} {p:α → Bool} {l:List α} {k:Nat} (hk:k ≤ l.length) (h1:∀ x ∈ l.take k,p x = true) (h2:k = l.length ∨ ∃ x,l[k]? = some x ∧ p x = false) : l.takeWhile p = l.take k ∧ l.dropWhile p = l.drop k := by
 have hd : (l.drop k).takeWhile p = [] ∧ (l.drop k).dropWhile p = l.drop k := by
  rcases h2 with rfl | ⟨x,hx,hp⟩
  · simp
  · have hlt : k < l.length := (List.getElem?_eq_some_iff.1 hx).1
    have hxe : l[k] = x := by rw [List.getElem?_eq_getElem hlt] at hx; simpa using hx
    rw [List.drop_eq_getElem_cons hlt,hxe]
    simp [hp]
 constructor
 · conv => lhs; rw [← List.take_append_drop k l]
   rw [List.takeWhile_append_of_pos h1,hd.1,List.append_nil]
 · conv => lhs; rw [← List.take_append_drop k l]
   rw [List.dropWhile_append_of_pos h1,hd.2]
end Go.Proofs.YtnnnbjjenknpeaaGreatDoor
