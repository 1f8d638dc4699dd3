import Derived.Test.YtnnnbjjenknpeaaGreatDoorHRs3
/- The reference's own events are the reason's,in plain words. -/
set_option linter.unusedVariables false
set_option linter.unusedSimpArgs false
namespace Go.Proofs.YtnnnbjjenknpeaaGreatDoor
open Go.Se Go.RowKit
def Q3c (c:Cfg) (z:List Ev) (person item:ByteArray) (now:Int) (r:Row) : Bool :=
 decide (r.1.person = person) && (((Qec z item now && decide (r.1.text = (Qgr z item now).maker)) && (decide (r.1.kind = 7) || decide (r.1.kind = 8))) || (decide (0 < Qo r.1) && (r.2.any (fun t => decide (t ∈ Qhd z item now)) || (!decide (r.1.item = item) && decide (0 < (Qen (Qhb c z) r.1.item item).1)))))
theorem Qyj {e:Ev} (hm:Xu e = true) (hw:0 < Qo e) : e.item ≠ ⟨#[]⟩ := by
 have h1 := (Qcn hm hw).2
 intro h
 rw [h] at h1
 revert h1
 decide
theorem Q3w {z:List Ev} {e:Ev} (hm:Xu e = true) (hw:0 < Qo e) : Qf7 (Qj (Qd0 z e)) e = Qjy z e := by
 unfold Qf7 Qjy
 rw [if_neg (Qyj hm hw)]
theorem Q50 {c:Cfg} {z:List Ev} (hr:Rise z) (hm:∀ e ∈ z,Xu e = true) (person item:ByteArray) (now:Int) : ((Qfa z).filter (Q3c c z person item now)).map (·.1) = Qsy c z person item now := by
 rw [Q3p z hr,List.filter_map,List.map_map]
 have h1 : ∀ l : List Ev,l.map ((fun x:Row => x.1) ∘ fun e => (e,Qf7 (Qj (Qd0 z e)) e)) = l := fun l => List.map_id' l
 rw [h1]
 unfold Qsy Qip hist
 rw [List.filter_filter]
 apply List.filter_congr
 intro e he
 have he := (List.mem_filter.1 he).1
 have hme := hm e he
 unfold Q3c Qfo Qp9
 simp only [Function.comp]
 by_cases hp : e.person = person
 · by_cases hk : e.kind = 7 ∨ e.kind = 8
   · have hw : ¬ 0 < Qo e := fun hw => by
      have := Q12 (e := e) (by simpa [wpB] using hw)
      omega
     rw [if_pos hk,decide_eq_true hp,decide_eq_false hw]
     have : (decide (e.kind = 7) || decide (e.kind = 8)) = true := by simpa using hk
     rw [this]
     simp
   · rw [if_neg hk,decide_eq_true hp]
     have : (decide (e.kind = 7) || decide (e.kind = 8)) = false := by simpa using hk
     rw [this]
     by_cases hw : 0 < Qo e
     · rw [Q3w hme hw,decide_eq_true hw,Bool.or_comm (List.any _ _)]
       simp
     · rw [decide_eq_false hw]
       simp
 · rw [decide_eq_false hp]
   simp
end Go.Proofs.YtnnnbjjenknpeaaGreatDoor
