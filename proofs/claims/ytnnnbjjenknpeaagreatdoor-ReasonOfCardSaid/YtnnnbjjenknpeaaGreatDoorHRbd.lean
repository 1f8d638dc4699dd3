import Derived.Test.YtnnnbjjenknpeaaGreatDoorHRf5
/- Raw points are bounded. -/
set_option linter.unusedVariables false
set_option linter.unusedSimpArgs false
namespace Go.Proofs.YtnnnbjjenknpeaaGreatDoor
open Go.Se Go.RowKit
theorem Q1f (c:Cfg) (l:List Ev) (hl:l.length < 1000) (hm:∀ e ∈ l,Xu e = true) : (Qhb c l).length < 1000 ∧ ∀ q ∈ Qhb c l,q.items.length < 1000000 := by
 have hfl := List.length_filter_le wpB l
 have hok : ∀ x ∈ Qbq ahB ((l.filter wpB).map adE),Qyq x := fun x hx => by
  rw [Qiq,List.mem_map] at hx
  obtain ⟨e,he,rfl⟩ := hx
  obtain ⟨he1,he2⟩ := List.mem_filter.1 he
  have hml := hm e he1
  have hq : 0 < Qo e := by simpa [wpB] using he2
  have hno := Qcn hml hq
  have hn1 := Qav hno.1
  have hn2 := Qav hno.2
  exact ⟨⟨by show 1 ≤ e.person.size; omega,by show e.person.size ≤ 24; omega⟩,Qm3 hml,⟨by show 1 ≤ e.item.size; omega,by show e.item.size ≤ 24; omega⟩⟩
 have hlen := Qge (lt := ahB) ((l.filter wpB).map adE)
 rw [List.length_map] at hlen
 have h := Qig (Qpc c.gap) _ hok
 unfold Qhb
 rw [← Qtk _ (by unfold Qpc; omega)]
 exact ⟨by omega,fun q hq => by have := (h.2 q hq).2; omega⟩
end Go.Proofs.YtnnnbjjenknpeaaGreatDoor
