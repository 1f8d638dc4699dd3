import Derived.Test.YtnnnbjjenknpeaaGreatDoorHRs3
/- Fans in plain words; a world that holds one more event,of somebody and something else (ReasonApart). -/
set_option linter.unusedVariables false
set_option linter.unusedSimpArgs false
namespace Go.Proofs.YtnnnbjjenknpeaaGreatDoor
open Go.Se Go.RowKit
def Qio (item:ByteArray) (l:List ByteArray) (e:Ev) : List ByteArray := if e.item = item ∧ 0 < Qo e then (if e.person ∈ l then l else l ++ [e.person]) else l
def Qn4 (z:List Ev) (item:ByteArray) : List ByteArray := z.foldl (Qio item) []
theorem Qhp (z:List Ev) (e:Ev) (item:ByteArray) : Qn4 (z ++ [e]) item = Qio item (Qn4 z item) e := by unfold Qn4; rw [List.foldl_append]; rfl
theorem Q2t (item:ByteArray) : ∀ rs : List Row,(∀ p,(Qe (Xj rs).liked (p,item)).getD false = decide (p ∈ Qn4 (evs rs) item)) ∧ (Qe (Xj rs).fans item).getD 0 = ((Qn4 (evs rs) item).length : Int) := by
 refine Qy ⟨fun p => by simp [Xj,evs,Cw0,Qe,Qn4],by simp [Xj,evs,Cw0,Qe,Qn4]⟩ fun rs r ih => ?_
 obtain ⟨ih1,ih2⟩ := ih
 obtain ⟨hf,hl⟩ := (Qe7 (Qhw rs) r.1).2
 have hB : Xj (rs ++ [r]) = Qlf (Qca (Xj rs) r.1) r.1 := Qd4 rs r
 rw [hB,Qj1,Qhp]
 rw [← hf] at ih2
 simp only [← hl] at ih1
 generalize Qca (Xj rs) r.1 = c at ih1 ih2 ⊢
 clear hB hf hl
 unfold Qlf Qio
 by_cases hw : 0 < Qo r.1
 · by_cases hi : r.1.item = item
   · have ht : thing r.1 = (r.1.person,item) := by unfold thing; rw [hi]
     have h1 := ih1 r.1.person
     rw [if_pos (c := r.1.item = item ∧ 0 < Qo r.1) ⟨hi,hw⟩,ht,hi]
     by_cases hp : r.1.person ∈ Qn4 (evs rs) item
     · rw [decide_eq_true hp] at h1
       rw [if_neg (fun h => by rw [h1] at h; cases h.2),if_pos hp]
       exact ⟨ih1,ih2⟩
     · rw [decide_eq_false hp] at h1
       rw [if_pos ⟨hw,h1⟩,if_neg hp]
       refine ⟨fun p => ?_,?_⟩
       · show (Qe (Xc c.liked (r.1.person,item) true) (p,item)).getD false = _
         rw [Xg]
         by_cases hpp : p = r.1.person
         · subst hpp; simp
         · rw [if_neg fun h => hpp (congrArg Prod.fst h),ih1]
           simp [hpp]
       · show (Qe (Xc c.fans item ((Qe c.fans item).getD 0 + 1)) item).getD 0 = _
         rw [Q8,ih2,List.length_append]
         rfl
   · rw [if_neg (c := r.1.item = item ∧ 0 < Qo r.1) fun h => hi h.1]
     split
     · refine ⟨fun p => ?_,?_⟩
       · show (Qe (Xc c.liked (thing r.1) true) (p,item)).getD false = _
         rw [Xg,if_neg fun h => hi (congrArg Prod.snd h).symm,ih1]
       · show (Qe (Xc c.fans r.1.item ((Qe c.fans r.1.item).getD 0 + 1)) item).getD 0 = _
         rw [Xg,if_neg fun h => hi h.symm,ih2]
     · exact ⟨ih1,ih2⟩
 · rw [if_neg (c := r.1.item = item ∧ 0 < Qo r.1) fun h => hw h.2,if_neg fun h => hw h.1]
   exact ⟨ih1,ih2⟩
theorem Qsf (width:Int) (z:List Ev) (item:ByteArray) : (Qe (Xj (Qp width z).rs).fans item).getD 0 = ((Qn4 (Xt z) item).length : Int) := by
 rw [(Q2t item _).2,(Qbv width z).2]
section
variable {z1 z2:List Ev} {o:Ev}
end
section
variable {z z':List Ev} {o:Ev}
end
end Go.Proofs.YtnnnbjjenknpeaaGreatDoor
