import Derived.Test.YtnnnbjjenknpeaaGreatDoorGM
import Derived.Test.YtnnnbjjenknpeaaGreatDoorGL
/- What a reason tells,in plain words. -/
set_option linter.unusedVariables false
set_option linter.unusedSimpArgs false
namespace Go.Proofs.YtnnnbjjenknpeaaGreatDoor
open Go.Se Go.RowKit
def Qd0 (z:List Ev) (e:Ev) : List Ev := z.takeWhile fun x => Qu x e
theorem Q25 (e:Ev) : Qu e e = false := by
 rw [← Bool.not_eq_true,Qd3]
 rintro (h | ⟨_,h | ⟨_,h⟩⟩)
 · omega
 · rw [Qaa] at h; cases h
 · omega
theorem Qhh {l1 l2:List Ev} {e:Ev} (h:Rise (l1 ++ e :: l2)) : Qd0 (l1 ++ e :: l2) e = l1 := by
 unfold Qd0
 rw [List.takeWhile_append_of_pos fun x hx => (List.pairwise_append.1 h).2.2 x hx e (by simp),List.takeWhile_cons,Q25]
 simp
theorem Q2h {z:List Ev} {a e:Ev} (h:Rise (z ++ [a])) (he:e ∈ z) : Qd0 (z ++ [a]) e = Qd0 z e := by
 obtain ⟨l1,l2,rfl⟩ := List.append_of_mem he
 have h1 : Rise (l1 ++ e :: l2) := (List.pairwise_append.1 h).1
 rw [Qhh h1]
 have e1 : (l1 ++ e :: l2) ++ [a] = l1 ++ e :: (l2 ++ [a]) := by simp
 rw [e1] at h ⊢
 exact Qhh h
theorem Q2g {z:List Ev} {a:Ev} (h:Rise (z ++ [a])) : Qd0 (z ++ [a]) a = z := Qhh (l2 := []) h
theorem Qnr {z:List Ev} {e x:Ev} (h:x ∈ Qd0 z e) : x ∈ z := (List.takeWhile_sublist _).mem h
theorem Q3p : ∀ z : List Ev,Rise z → Qfa z = (Xt z).map fun e => (e,Qf7 (Qj (Qd0 z e)) e) := by
 refine Qy (fun _ => rfl) fun z a ih h => ?_
 have h1 : Rise z := (List.pairwise_append.1 h).1
 have ih := ih h1
 have hc : ((Xt z).map fun e => (e,Qf7 (Qj (Qd0 (z ++ [a]) e)) e)) = (Xt z).map fun e => (e,Qf7 (Qj (Qd0 z e)) e) := by
  refine List.map_congr_left fun e he => ?_
  rw [Q2h h (List.mem_filter.1 he).1]
 rw [Qcg,ih]
 unfold Xt at *
 rw [List.filter_append,List.map_append,hc]
 congr 1
 cases hp : peB a with
 | true => simp [hp,Q2g h]
 | false => simp [hp]
def Qjy (z:List Ev) (e:Ev) : List ByteArray := Qw (Qdy (Qgs e.item ((Qj (Qd0 z e)).filter (thQ e.item e.at_))).tags)
theorem Q3h {e:Ev} (h:peB e = true) : thB e = false := by
 unfold peB at h
 cases hq : thB e with
 | false => rfl
 | true => rw [hq] at h; simp at h
theorem Qt6 {z:List Ev} (h:Rise z) {e:Ev} (he:e ∈ z) (hp:thB e = false) (hno:∀ x ∈ Qj z,x.item = e.item → x.at_ ≠ e.at_) : (Qj z).filter (thQ e.item e.at_) = (Qj (Qd0 z e)).filter (thQ e.item e.at_) := by
 obtain ⟨l1,l2,rfl⟩ := List.append_of_mem he
 rw [Qhh h]
 unfold Qj at *
 rw [List.filter_append,List.filter_append]
 have : ((e :: l2).filter thB).filter (thQ e.item e.at_) = [] := by
  rw [List.filter_eq_nil_iff]
  intro x hx hq
  obtain ⟨hx1,hx2⟩ := List.mem_filter.1 hx
  have hq : x.item = e.item ∧ x.at_ ≤ e.at_ := by simpa [thQ] using hq
  rcases List.mem_cons.1 hx1 with rfl | hx1
  · rw [hp] at hx2; cases hx2
  · have hl := (List.pairwise_cons.1 (List.pairwise_append.1 h).2.1).1 x hx1
    have := Qsp hl
    exact hno x (List.mem_filter.2 ⟨by simp [hx1],hx2⟩) hq.1 (by omega)
 rw [this,List.append_nil]
theorem Qy1 (name:ByteArray) (t:Int) : ∀ cs : List Ev,t ∈ (Q9 cs name).map (·.at_) ↔ ∃ x ∈ cs,x.item = name ∧ x.at_ = t := by
 refine Qy (by simp [Q9]) fun cs e ih => ?_
 have hx : (∃ x ∈ cs ++ [e],x.item = name ∧ x.at_ = t) ↔ (∃ x ∈ cs,x.item = name ∧ x.at_ = t) ∨ (e.item = name ∧ e.at_ = t) := by
  constructor
  · rintro ⟨x,hx,h⟩
    rcases List.mem_append.1 hx with hx | hx
    · exact .inl ⟨x,hx,h⟩
    · rw [List.mem_singleton] at hx; subst hx; exact .inr h
  · rintro (⟨x,hx,h⟩ | h)
    · exact ⟨x,by simp [hx],h⟩
    · exact ⟨e,by simp,h⟩
 rw [Qcs,hx,← ih]
 unfold Qg0 Qnh
 by_cases hn : name = e.item
 · subst hn
   rw [if_pos rfl,List.map_append,List.mem_append,List.map_cons,List.map_nil,List.mem_singleton]
   have : (Qf5 (Q9 cs e.item) e).at_ = e.at_ := Qf6 _ _
   rw [this]
   constructor
   · rintro (h | h)
     · exact .inl h
     · exact .inr ⟨rfl,h.symm⟩
   · rintro (h | ⟨_,h⟩)
     · exact .inl h
     · exact .inr h.symm
 · rw [if_neg hn]
   constructor
   · exact .inl
   · rintro (h | ⟨h,_⟩)
     · exact h
     · exact absurd h.symm hn
def Qp9 (c:Cfg) (z:List Ev) (item:ByteArray) (tags:List ByteArray) (e:Ev) : Bool := decide (0 < Qo e) && ((!decide (e.item = item) && decide (0 < (Qen (Qhb c z) e.item item).1)) || (Qjy z e).any fun t => decide (t ∈ tags))
def Qec (z:List Ev) (item:ByteArray) (now:Int) : Bool := !((Qj z).filter (thQ item now)).isEmpty
def Qhd (z:List Ev) (item:ByteArray) (now:Int) : List ByteArray := Qw (Qdy (Qgr z item now).tags)
def Qfo (c:Cfg) (z:List Ev) (item:ByteArray) (now:Int) (e:Ev) : Bool := if e.kind = 7 ∨ e.kind = 8 then Qec z item now && decide (e.text = (Qgr z item now).maker) else Qp9 c z item (Qhd z item now) e
def Qsy (c:Cfg) (z:List Ev) (person item:ByteArray) (now:Int) : List Ev := (Qip z person).filter (Qfo c z item now)
theorem Q5y (c:Cfg) (z:List Ev) (person item:ByteArray) (now:Int) : (Qsy c z person item now).length ≤ z.length := by
 have h1 := List.length_filter_le (Qfo c z item now) (Qip z person)
 have h2 := Quy z person
 unfold Qsy
 omega
end Go.Proofs.YtnnnbjjenknpeaaGreatDoor
