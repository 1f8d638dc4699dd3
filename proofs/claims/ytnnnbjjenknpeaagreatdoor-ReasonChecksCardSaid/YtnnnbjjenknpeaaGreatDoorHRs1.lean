import Derived.Test.YtnnnbjjenknpeaaGreatDoorGM
import Derived.Test.YtnnnbjjenknpeaaGreatDoorGL
/- What a reason tells,in plain words. -/
set_option linter.unusedVariables false
set_option linter.unusedSimpArgs false
namespace Go.Proofs.YtnnnbjjenknpeaaGreatDoor
open Go.Se Go.RowKit
def Qdv (z:List Ev) (e:Ev) : List Ev := z.takeWhile fun x => Qv x e
theorem Q3q (e:Ev) : Qv e e = false := by
 rw [← Bool.not_eq_true,Qd5]
 rintro (h | ⟨_,h | ⟨_,h⟩⟩)
 · omega
 · rw [Xt] at h; cases h
 · omega
theorem Qhj {l1 l2:List Ev} {e:Ev} (h:Rise (l1 ++ e :: l2)) : Qdv (l1 ++ e :: l2) e = l1 := by
 unfold Qdv
 rw [List.takeWhile_append_of_pos fun x hx => (List.pairwise_append.1 h).2.2 x hx e (by simp),List.takeWhile_cons,Q3q]
 simp
theorem Q25 {z:List Ev} {a e:Ev} (h:Rise (z ++ [a])) (he:e ∈ z) : Qdv (z ++ [a]) e = Qdv z e := by
 obtain ⟨l1,l2,rfl⟩ := List.append_of_mem he
 have h1 : Rise (l1 ++ e :: l2) := (List.pairwise_append.1 h).1
 rw [Qhj h1]
 have e1 : (l1 ++ e :: l2) ++ [a] = l1 ++ e :: (l2 ++ [a]) := by simp
 rw [e1] at h ⊢
 exact Qhj h
theorem Q24 {z:List Ev} {a:Ev} (h:Rise (z ++ [a])) : Qdv (z ++ [a]) a = z := Qhj (l2 := []) h
theorem Qn4 {z:List Ev} {e x:Ev} (h:x ∈ Qdv z e) : x ∈ z := (List.takeWhile_sublist _).mem h
theorem Q39 : ∀ z : List Ev,Rise z → Qi3 z = (Q7 z).map fun e => (e,Qpn (Ql (Qdv z e)) e) := by
 refine Qu (fun _ => rfl) fun z a ih h => ?_
 have h1 : Rise z := (List.pairwise_append.1 h).1
 have ih := ih h1
 have hc : ((Q7 z).map fun e => (e,Qpn (Ql (Qdv (z ++ [a]) e)) e)) = (Q7 z).map fun e => (e,Qpn (Ql (Qdv z e)) e) := by
  refine List.map_congr_left fun e he => ?_
  rw [Q25 h (List.mem_filter.1 he).1]
 rw [Qi4,ih]
 unfold Q7 at *
 rw [List.filter_append,List.map_append,hc]
 congr 1
 cases hp : peB a with
 | true => simp [hp,Q24 h]
 | false => simp [hp]
def Ql9 (z:List Ev) (e:Ev) : List ByteArray := Qq (Qe4 (Qon e.item ((Ql (Qdv z e)).filter (thQ e.item e.at_))).tags)
theorem Qwc {e:Ev} (h:peB e = true) : thB e = false := by
 unfold peB at h
 cases hq : thB e with
 | false => rfl
 | true => rw [hq] at h; simp at h
theorem Quw {z:List Ev} (h:Rise z) {e:Ev} (he:e ∈ z) (hp:thB e = false) (hno:∀ x ∈ Ql z,x.item = e.item → x.at_ ≠ e.at_) : (Ql z).filter (thQ e.item e.at_) = (Ql (Qdv z e)).filter (thQ e.item e.at_) := by
 obtain ⟨l1,l2,rfl⟩ := List.append_of_mem he
 rw [Qhj h]
 unfold Ql at *
 rw [List.filter_append,List.filter_append]
 have : ((e :: l2).filter thB).filter (thQ e.item e.at_) = [] := by
  rw [List.filter_eq_nil_iff]
  intro x hx hq
  obtain ⟨hx1,hx2⟩ := List.mem_filter.1 hx
  have hq : x.item = e.item ∧ x.at_ ≤ e.at_ := by simpa [thQ] using hq
  rcases List.mem_cons.1 hx1 with rfl | hx1
  · rw [hp] at hx2; cases hx2
  · have hl := (List.pairwise_cons.1 (List.pairwise_append.1 h).2.1).1 x hx1
    have := Qtf hl
    exact hno x (List.mem_filter.2 ⟨by simp [hx1],hx2⟩) hq.1 (by omega)
 rw [this,List.append_nil]
theorem Qzv (name:ByteArray) (t:Int) : ∀ cs : List Ev,t ∈ (Qx cs name).map (·.at_) ↔ ∃ x ∈ cs,x.item = name ∧ x.at_ = t := by
 refine Qu (by simp [Qx]) fun cs e ih => ?_
 have hx : (∃ x ∈ cs ++ [e],x.item = name ∧ x.at_ = t) ↔ (∃ x ∈ cs,x.item = name ∧ x.at_ = t) ∨ (e.item = name ∧ e.at_ = t) := by
  constructor
  · rintro ⟨x,hx,h⟩
    rcases List.mem_append.1 hx with hx | hx
    · exact .inl ⟨x,hx,h⟩
    · rw [List.mem_singleton] at hx; subst hx; exact .inr h
  · rintro (⟨x,hx,h⟩ | h)
    · exact ⟨x,by simp [hx],h⟩
    · exact ⟨e,by simp,h⟩
 rw [Qck,hx,← ih]
 unfold Qg2 Qnv
 by_cases hn : name = e.item
 · subst hn
   rw [if_pos rfl,List.map_append,List.mem_append,List.map_cons,List.map_nil,List.mem_singleton]
   have : (Qf1 (Qx cs e.item) e).at_ = e.at_ := Qf2 _ _
   rw [this]
   constructor
   · rintro (h | h)
     · exact .inl h
     · exact .inr ⟨rfl,h.symm⟩
   · rintro (h | ⟨_,h⟩)
     · exact .inl h
     · exact .inr h.symm
 · rw [if_neg hn]
   constructor
   · exact .inl
   · rintro (h | ⟨h,_⟩)
     · exact h
     · exact absurd h.symm hn
def Qmn (c:Cfg) (z:List Ev) (item:ByteArray) (tags:List ByteArray) (e:Ev) : Bool := decide (0 < Qs e) && ((!decide (e.item = item) && decide (0 < (Qe2 (Qib c z) e.item item).1)) || (Ql9 z e).any fun t => decide (t ∈ tags))
def Qk4 (z:List Ev) (item:ByteArray) (now:Int) : Bool := !((Ql z).filter (thQ item now)).isEmpty
def Qma (z:List Ev) (item:ByteArray) (now:Int) : List ByteArray := Qq (Qe4 (Qgo z item now).tags)
def Qdi (c:Cfg) (z:List Ev) (item:ByteArray) (now:Int) (e:Ev) : Bool := if e.kind = 7 ∨ e.kind = 8 then Qk4 z item now && decide (e.text = (Qgo z item now).maker) else Qmn c z item (Qma z item now) e
def Qj8 (c:Cfg) (z:List Ev) (person item:ByteArray) (now:Int) : List Ev := (Qcb z person).filter (Qdi c z item now)
theorem Q05 (c:Cfg) (z:List Ev) (person item:ByteArray) (now:Int) : (Qj8 c z person item now).length ≤ z.length := by
 have h1 := List.length_filter_le (Qdi c z item now) (Qcb z person)
 have h2 := Qok z person
 unfold Qj8
 omega
theorem Q6m {c:Cfg} {z:List Ev} {person:ByteArray} (h:Qcb z person = []) (item:ByteArray) (now:Int) : Qj8 c z person item now = [] := by unfold Qj8; rw [h]; rfl
end Go.Proofs.YtnnnbjjenknpeaaGreatDoor
