/- Several texts in one: Rs1, Rs3, Ra1. -/
import Derived.Test.YtopncieoolkhjaaGreatDoorGM
import Derived.Test.YtopncieoolkhjaaGreatDoorGL
import Derived.Test.YtopncieoolkhjaaGreatDoorHPl8
set_option linter.unusedVariables false
set_option linter.unusedSimpArgs false
namespace Go.Proofs.YtopncieoolkhjaaGreatDoor
open Go.Se Go.RowKit
theorem Qxv (name:ByteArray) (t:Int) : ∀ cs : List Ev,t ∈ (Q5 cs name).map (·.at_) ↔ ∃ x ∈ cs,x.item = name ∧ x.at_ = t := by
 refine Qy (by simp [Q5]) fun cs e ih => ?_
 have hx : (∃ x ∈ cs ++ [e],x.item = name ∧ x.at_ = t) ↔ (∃ x ∈ cs,x.item = name ∧ x.at_ = t) ∨ (e.item = name ∧ e.at_ = t) := by
  constructor
  · rintro ⟨x,hx,h⟩
    rcases List.mem_append.1 hx with hx | hx
    · exact .inl ⟨x,hx,h⟩
    · rw [List.mem_singleton] at hx; subst hx; exact .inr h
  · rintro (⟨x,hx,h⟩ | h)
    · exact ⟨x,by simp [hx],h⟩
    · exact ⟨e,by simp,h⟩
 rw [Qcf,hx,← ih]
 unfold Qga Qmp
 by_cases hn : name = e.item
 · subst hn
   rw [if_pos rfl,List.map_append,List.mem_append,List.map_cons,List.map_nil,List.mem_singleton]
   have : (Qfj (Q5 cs e.item) e).at_ = e.at_ := Qfk _ _
   rw [this]
   constructor
   · rintro (h | h)
     · exact .inl h
     · exact .inr ⟨rfl,h.symm⟩
   · rintro (h | ⟨_,h⟩)
     · exact .inl h
     · exact .inr h.symm
 · rw [if_neg hn]
   constructor
   · exact .inl
   · rintro (h | ⟨h,_⟩)
     · exact h
     · exact absurd h.symm hn
def Qhq (item:ByteArray) (l:List ByteArray) (e:Ev) : List ByteArray := if e.item = item ∧ 0 < Qo e then (if e.person ∈ l then l else l ++ [e.person]) else l
def Qth (z:List Ev) (item:ByteArray) : List ByteArray := z.foldl (Qhq item) []
theorem Qfb (z:List Ev) (e:Ev) (item:ByteArray) : Qth (z ++ [e]) item = Qhq item (Qth z item) e := by unfold Qth; rw [List.foldl_append]; rfl
theorem Q00 (item:ByteArray) : ∀ rs : List Row,(∀ p,(Qd (Xg rs).liked (p,item)).getD false = decide (p ∈ Qth (evs rs) item)) ∧ (Qd (Xg rs).fans item).getD 0 = ((Qth (evs rs) item).length : Int) := by
 refine Qy ⟨fun p => by simp [Xg,evs,Cw0,Qd,Qth],by simp [Xg,evs,Cw0,Qd,Qth]⟩ fun rs r ih => ?_
 obtain ⟨ih1,ih2⟩ := ih
 obtain ⟨hf,hl⟩ := (Qes (Qg3 rs) r.1).2
 have hB : Xg (rs ++ [r]) = Qke (Qb4 (Xg rs) r.1) r.1 := Qdk rs r
 rw [hB,Qi2,Qfb]
 rw [← hf] at ih2
 simp only [← hl] at ih1
 generalize Qb4 (Xg rs) r.1 = c at ih1 ih2 ⊢
 clear hB hf hl
 unfold Qke Qhq
 by_cases hw : 0 < Qo r.1
 · by_cases hi : r.1.item = item
   · have ht : thing r.1 = (r.1.person,item) := by unfold thing; rw [hi]
     have h1 := ih1 r.1.person
     rw [if_pos (c := r.1.item = item ∧ 0 < Qo r.1) ⟨hi,hw⟩,ht,hi]
     by_cases hp : r.1.person ∈ Qth (evs rs) item
     · rw [decide_eq_true hp] at h1
       rw [if_neg (fun h => by rw [h1] at h; cases h.2),if_pos hp]
       exact ⟨ih1,ih2⟩
     · rw [decide_eq_false hp] at h1
       rw [if_pos ⟨hw,h1⟩,if_neg hp]
       refine ⟨fun p => ?_,?_⟩
       · show (Qd (Q7 c.liked (r.1.person,item) true) (p,item)).getD false = _
         rw [Xi]
         by_cases hpp : p = r.1.person
         · subst hpp; simp
         · rw [if_neg fun h => hpp (congrArg Prod.fst h),ih1]
           simp [hpp]
       · show (Qd (Q7 c.fans item ((Qd c.fans item).getD 0 + 1)) item).getD 0 = _
         rw [Q3,ih2,List.length_append]
         rfl
   · rw [if_neg (c := r.1.item = item ∧ 0 < Qo r.1) fun h => hi h.1]
     split
     · refine ⟨fun p => ?_,?_⟩
       · show (Qd (Q7 c.liked (thing r.1) true) (p,item)).getD false = _
         rw [Xi,if_neg fun h => hi (congrArg Prod.snd h).symm,ih1]
       · show (Qd (Q7 c.fans r.1.item ((Qd c.fans r.1.item).getD 0 + 1)) item).getD 0 = _
         rw [Xi,if_neg fun h => hi h.symm,ih2]
     · exact ⟨ih1,ih2⟩
 · rw [if_neg (c := r.1.item = item ∧ 0 < Qo r.1) fun h => hw h.2,if_neg fun h => hw h.1]
   exact ⟨ih1,ih2⟩
theorem Qrb (width:Int) (z:List Ev) (item:ByteArray) : (Qd (Xg (Qq width z).rs).fans item).getD 0 = ((Qth (Qbf z) item).length : Int) := by
 rw [(Q00 item _).2,(Qat width z).2]
theorem Q4l (item:ByteArray) : ∀ z : List Ev,Qth (Qbf z) item = Qth z item := by
 refine Qy rfl fun z e ih => ?_
 unfold Qbf at *
 rw [List.filter_append,Qfb,← ih]
 cases hp : peB e with
 | true => rw [List.filter_cons_of_pos hp,List.filter_nil,Qfb]
 | false =>
   rw [List.filter_cons_of_neg (by simp [hp]),List.filter_nil,List.append_nil]
   unfold Qhq
   rw [if_neg]
   intro h
   have := Q16 hp
   omega
section
variable {z1 z2:List Ev} {o:Ev}
theorem Qu0 {s:Ses} {p q:ByteArray} (h:q ≠ p) (t:Int) (x:ByteArray) : Qd (Qqi s p t x) q = Qd s q := by
 unfold Qqi
 rw [Xi,if_neg h]
theorem Qxm {s s':Ses} {p:ByteArray} (h:Qd s' p = Qd s p) (t:Int) (x:ByteArray) : Qd (Qqi s' p t x) p = Qd (Qqi s p t x) p := by
 unfold Qqi
 rw [Q3,Q3,h]
end
section
variable {z z':List Ev} {o:Ev}
end
end Go.Proofs.YtopncieoolkhjaaGreatDoor
