/- Several texts in one: Pl7, Cu. -/
import Derived.Test.YtnnnbjjenknpeaaGreatDoorGN
import Derived.Test.YtnnnbjjenknpeaaGreatDoorGJ
set_option linter.unusedVariables false
set_option linter.unusedSimpArgs false
namespace Go.Proofs.YtnnnbjjenknpeaaGreatDoor
open Go.Se Go.RowKit
def Qre (c:Cfg) (z:List Ev) (person item:ByteArray) (now:Int) (k:Nat) : Int :=
 if k = 0 then min (Q43 (z.filter wpB) (Q8 c.half) item now) 1099511627776
 else if k = 1 then (if (Qgo z item now).listed = true then min (Qe8 (Qze (Q8 c.half) now (rowsOf (Qi3 z) person)) (Qq (Qe4 (Qgo z item now).tags))) 1099511627776 else 0)
 else if k = 2 then Q75 c z person item
 else if k = 3 then Qyc c (paE (z.filter wpB) c.width item ((Qo6 c now - c.span) / Q8 c.width) (Qo6 c now / Q8 c.width)) (paE (z.filter wpB) c.width item ((Qo6 c now - 2 * c.span) / Q8 c.width) ((Qo6 c now - c.span) / Q8 c.width))
 else if k = 4 then (if (Qgo z item now).listed = true ∧ Qs6 z person (Qgo z item now).maker = true then 1048576 else 0)
 else if k = 5 then (if (Qgo z item now).listed = true then Qah (now - (Qgo z item now).born) c.half else 0)
 else 0
theorem Qt4 {R:List Row} {person:ByteArray} (h:∀ r ∈ R,r.1.person ≠ person) : rowsOf R person = [] := by
 unfold rowsOf
 rw [List.filter_eq_nil_iff]
 intro r hr
 simpa using h r hr
theorem Qx9 (c:Cfg) (z:List Ev) (p item:ByteArray) (now:Int) (hp:∀ e ∈ z,peB e = true → e.person ≠ p) (k:Nat) (h:k = 1 ∨ k = 2 ∨ k = 4) : Qre c z p item now k = 0 := by
 have hpe : ∀ e ∈ Q7 z,e.person ≠ p := fun e he => hp e (List.mem_filter.1 he).1 (List.mem_filter.1 he).2
 unfold Qre
 rcases h with rfl | rfl | rfl
 · rw [if_neg (by decide),if_pos rfl]
   have : rowsOf (Qi3 z) p = [] := Qt4 fun r hr => hpe r.1 (by rw [← Q1s]; exact List.mem_map.2 ⟨r,hr,rfl⟩)
   rw [this]
   have h0 : Qe8 (Qze (Q8 c.half) now []) (Qq (Qe4 (Qgo z item now).tags)) = 0 := Qcr _ fun x _ => rfl
   rw [h0]
   split <;> rfl
 · rw [if_neg (by decide),if_neg (by decide),if_pos rfl]
   have : Qcb z p = [] := by
    unfold Qcb hist
    rw [List.filter_eq_nil_iff]
    intro e he
    simpa using hpe e he
   unfold Q75
   rw [this]
   rfl
 · rw [if_neg (by decide),if_neg (by decide),if_neg (by decide),if_neg (by decide),if_pos rfl,if_neg]
   rintro ⟨_,h⟩
   rw [← Qm5] at h
   unfold Qs6 at h
   have : (Q7 z).filter (flB p (Qgo z item now).maker) = [] := by
    rw [List.filter_eq_nil_iff]
    intro e he
    simp [flB,hpe e he]
   rw [this] at h
   cases h
structure Behind (now:Int) (person:ByteArray) (M:List Ev) : Prop where
 at_ : ∀ e ∈ M,now < e.at_
 worth : ∀ e ∈ M,Qs e ≤ 0
 person : ∀ e ∈ M,e.person ≠ person
theorem Qii {α:Type} {p:α → Bool} {l:List α} {k:Nat} (hk:k ≤ l.length) (h1:∀ x ∈ l.take k,p x = true) (h2:k = l.length ∨ ∃ x,l[k]? = some x ∧ p x = false) : l.takeWhile p = l.take k ∧ l.dropWhile p = l.drop k := by
 have hd : (l.drop k).takeWhile p = [] ∧ (l.drop k).dropWhile p = l.drop k := by
  rcases h2 with rfl | ⟨x,hx,hp⟩
  · simp
  · have hlt : k < l.length := (List.getElem?_eq_some_iff.1 hx).1
    have hxe : l[k] = x := by rw [List.getElem?_eq_getElem hlt] at hx; simpa using hx
    rw [List.drop_eq_getElem_cons hlt,hxe]
    simp [hp]
 constructor
 · conv => lhs; rw [← List.take_append_drop k l]
   rw [List.takeWhile_append_of_pos h1,hd.1,List.append_nil]
 · conv => lhs; rw [← List.take_append_drop k l]
   rw [List.dropWhile_append_of_pos h1,hd.2]
end Go.Proofs.YtnnnbjjenknpeaaGreatDoor
