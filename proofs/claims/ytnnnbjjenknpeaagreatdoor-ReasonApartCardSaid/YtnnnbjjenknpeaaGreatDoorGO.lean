/- Several texts in one: Rs1, Rs3, Ra1. -/
import Derived.Test.YtnnnbjjenknpeaaGreatDoorGM
import Derived.Test.YtnnnbjjenknpeaaGreatDoorGL
import Derived.Test.YtnnnbjjenknpeaaGreatDoorHPl8
set_option linter.unusedVariables false
set_option linter.unusedSimpArgs false
namespace Go.Proofs.YtnnnbjjenknpeaaGreatDoor
open Go.Se Go.RowKit
def Qc5 (z:List Ev) (e:Ev) : List Ev := z.takeWhile fun x => Qv x e
theorem Q2u (e:Ev) : Qv e e = false := by
 rw [← Bool.not_eq_true,Qdu]
 rintro (h | ⟨_,h | ⟨_,h⟩⟩)
 · omega
 · rw [X4] at h; cases h
 · omega
theorem Qhf {l1 l2:List Ev} {e:Ev} (h:Rise (l1 ++ e :: l2)) : Qc5 (l1 ++ e :: l2) e = l1 := by
 unfold Qc5
 rw [List.takeWhile_append_of_pos fun x hx => (List.pairwise_append.1 h).2.2 x hx e (by simp),List.takeWhile_cons,Q2u]
 simp
theorem Q14 {z:List Ev} {a e:Ev} (h:Rise (z ++ [a])) (he:e ∈ z) : Qc5 (z ++ [a]) e = Qc5 z e := by
 obtain ⟨l1,l2,rfl⟩ := List.append_of_mem he
 have h1 : Rise (l1 ++ e :: l2) := (List.pairwise_append.1 h).1
 rw [Qhf h1]
 have e1 : (l1 ++ e :: l2) ++ [a] = l1 ++ e :: (l2 ++ [a]) := by simp
 rw [e1] at h ⊢
 exact Qhf h
theorem Q13 {z:List Ev} {a:Ev} (h:Rise (z ++ [a])) : Qc5 (z ++ [a]) a = z := Qhf (l2 := []) h
theorem Qng {z:List Ev} {e x:Ev} (h:x ∈ Qc5 z e) : x ∈ z := (List.takeWhile_sublist _).mem h
theorem Qvf : ∀ z : List Ev,Rise z → Qgg z = (Xc z).map fun e => (e,Ql3 (Qi (Qc5 z e)) e) := by
 refine Qq (fun _ => rfl) fun z a ih h => ?_
 have h1 : Rise z := (List.pairwise_append.1 h).1
 have ih := ih h1
 have hc : ((Xc z).map fun e => (e,Ql3 (Qi (Qc5 (z ++ [a]) e)) e)) = (Xc z).map fun e => (e,Ql3 (Qi (Qc5 z e)) e) := by
  refine List.map_congr_left fun e he => ?_
  rw [Q14 h (List.mem_filter.1 he).1]
 rw [Qit,ih]
 unfold Xc at *
 rw [List.filter_append,List.map_append,hc]
 congr 1
 cases hp : peB a with
 | true => simp [hp,Q13 h]
 | false => simp [hp]
def Qix (z:List Ev) (e:Ev) : List ByteArray := Qr (Qez (Qo1 e.item ((Qi (Qc5 z e)).filter (thQ e.item e.at_))).tags)
theorem Q27 {e:Ev} (h:peB e = true) : thB e = false := by
 unfold peB at h
 cases hq : thB e with
 | false => rfl
 | true => rw [hq] at h; simp at h
theorem Qtw {z:List Ev} (h:Rise z) {e:Ev} (he:e ∈ z) (hp:thB e = false) (hno:∀ x ∈ Qi z,x.item = e.item → x.at_ ≠ e.at_) : (Qi z).filter (thQ e.item e.at_) = (Qi (Qc5 z e)).filter (thQ e.item e.at_) := by
 obtain ⟨l1,l2,rfl⟩ := List.append_of_mem he
 rw [Qhf h]
 unfold Qi at *
 rw [List.filter_append,List.filter_append]
 have : ((e :: l2).filter thB).filter (thQ e.item e.at_) = [] := by
  rw [List.filter_eq_nil_iff]
  intro x hx hq
  obtain ⟨hx1,hx2⟩ := List.mem_filter.1 hx
  have hq : x.item = e.item ∧ x.at_ ≤ e.at_ := by simpa [thQ] using hq
  rcases List.mem_cons.1 hx1 with rfl | hx1
  · rw [hp] at hx2; cases hx2
  · have hl := (List.pairwise_cons.1 (List.pairwise_append.1 h).2.1).1 x hx1
    have := Qsk hl
    exact hno x (List.mem_filter.2 ⟨by simp [hx1],hx2⟩) hq.1 (by omega)
 rw [this,List.append_nil]
theorem Qyp (name:ByteArray) (t:Int) : ∀ cs : List Ev,t ∈ (Qz cs name).map (·.at_) ↔ ∃ x ∈ cs,x.item = name ∧ x.at_ = t := by
 refine Qq (by simp [Qz]) fun cs e ih => ?_
 have hx : (∃ x ∈ cs ++ [e],x.item = name ∧ x.at_ = t) ↔ (∃ x ∈ cs,x.item = name ∧ x.at_ = t) ∨ (e.item = name ∧ e.at_ = t) := by
  constructor
  · rintro ⟨x,hx,h⟩
    rcases List.mem_append.1 hx with hx | hx
    · exact .inl ⟨x,hx,h⟩
    · rw [List.mem_singleton] at hx; subst hx; exact .inr h
  · rintro (⟨x,hx,h⟩ | h)
    · exact ⟨x,by simp [hx],h⟩
    · exact ⟨e,by simp,h⟩
 rw [Qci,hx,← ih]
 unfold Qgu Qm7
 by_cases hn : name = e.item
 · subst hn
   rw [if_pos rfl,List.map_append,List.mem_append,List.map_cons,List.map_nil,List.mem_singleton]
   have : (Qfv (Qz cs e.item) e).at_ = e.at_ := Qfw _ _
   rw [this]
   constructor
   · rintro (h | h)
     · exact .inl h
     · exact .inr ⟨rfl,h.symm⟩
   · rintro (h | ⟨_,h⟩)
     · exact .inl h
     · exact .inr h.symm
 · rw [if_neg hn]
   constructor
   · exact .inl
   · rintro (h | ⟨h,_⟩)
     · exact h
     · exact absurd h.symm hn
def Qp5 (c:Cfg) (z:List Ev) (item:ByteArray) (tags:List ByteArray) (e:Ev) : Bool := decide (0 < Qu e) && ((!decide (e.item = item) && decide (0 < (Qed (Qd5 c z) e.item item).1)) || (Qix z e).any fun t => decide (t ∈ tags))
def Qnv (z:List Ev) (item:ByteArray) (now:Int) : Bool := !((Qi z).filter (thQ item now)).isEmpty
def Qq9 (z:List Ev) (item:ByteArray) (now:Int) : List ByteArray := Qr (Qez (Qg3 z item now).tags)
def Qfb (c:Cfg) (z:List Ev) (item:ByteArray) (now:Int) (e:Ev) : Bool := if e.kind = 7 ∨ e.kind = 8 then Qnv z item now && decide (e.text = (Qg3 z item now).maker) else Qp5 c z item (Qq9 z item now) e
def Qst (c:Cfg) (z:List Ev) (person item:ByteArray) (now:Int) : List Ev := (Qd3 z person).filter (Qfb c z item now)
theorem Q5q (c:Cfg) (z:List Ev) (person item:ByteArray) (now:Int) : (Qst c z person item now).length ≤ z.length := by
 have h1 := List.length_filter_le (Qfb c z item now) (Qd3 z person)
 have h2 := Qup z person
 unfold Qst
 omega
theorem Qux {S:List Sn} {a b:ByteArray} (h:a ≠ b) : 0 < (Qed S a b).1 ↔ 0 < Qc0 S a b := by
 have h1 := Qqd S a b
 have h2 : Qc0 S a b ≤ Xu S b := by rw [Qz2]; exact Qqd S b a
 unfold Qed
 split
 · simp only; omega
 · simp only
   constructor
   · intro hp
     rcases Nat.eq_zero_or_pos (Qc0 S a b) with h0 | h0
     · rw [h0] at hp; simp at hp
     · exact h0
   · intro hp
     exact Int.mul_pos (by omega) (by omega)
def Qgw (item:ByteArray) (l:List ByteArray) (e:Ev) : List ByteArray := if e.item = item ∧ 0 < Qu e then (if e.person ∈ l then l else l ++ [e.person]) else l
def Qr9 (z:List Ev) (item:ByteArray) : List ByteArray := z.foldl (Qgw item) []
theorem Qhm (z:List Ev) (e:Ev) (item:ByteArray) : Qr9 (z ++ [e]) item = Qgw item (Qr9 z item) e := by unfold Qr9; rw [List.foldl_append]; rfl
theorem Q2g (item:ByteArray) : ∀ rs : List Row,(∀ p,(Qg (Xb rs).liked (p,item)).getD false = decide (p ∈ Qr9 (evs rs) item)) ∧ (Qg (Xb rs).fans item).getD 0 = ((Qr9 (evs rs) item).length : Int) := by
 refine Qq ⟨fun p => by simp [Xb,evs,Cw0,Qg,Qr9],by simp [Xb,evs,Cw0,Qg,Qr9]⟩ fun rs r ih => ?_
 obtain ⟨ih1,ih2⟩ := ih
 obtain ⟨hf,hl⟩ := (Qex (Qhr rs) r.1).2
 have hB : Xb (rs ++ [r]) = Qk1 (Qb2 (Xb rs) r.1) r.1 := Qdw rs r
 rw [hB,Qjn,Qhm]
 rw [← hf] at ih2
 simp only [← hl] at ih1
 generalize Qb2 (Xb rs) r.1 = c at ih1 ih2 ⊢
 clear hB hf hl
 unfold Qk1 Qgw
 by_cases hw : 0 < Qu r.1
 · by_cases hi : r.1.item = item
   · have ht : thing r.1 = (r.1.person,item) := by unfold thing; rw [hi]
     have h1 := ih1 r.1.person
     rw [if_pos (c := r.1.item = item ∧ 0 < Qu r.1) ⟨hi,hw⟩,ht,hi]
     by_cases hp : r.1.person ∈ Qr9 (evs rs) item
     · rw [decide_eq_true hp] at h1
       rw [if_neg (fun h => by rw [h1] at h; cases h.2),if_pos hp]
       exact ⟨ih1,ih2⟩
     · rw [decide_eq_false hp] at h1
       rw [if_pos ⟨hw,h1⟩,if_neg hp]
       refine ⟨fun p => ?_,?_⟩
       · show (Qg (Q7 c.liked (r.1.person,item) true) (p,item)).getD false = _
         rw [Q5]
         by_cases hpp : p = r.1.person
         · subst hpp; simp
         · rw [if_neg fun h => hpp (congrArg Prod.fst h),ih1]
           simp [hpp]
       · show (Qg (Q7 c.fans item ((Qg c.fans item).getD 0 + 1)) item).getD 0 = _
         rw [Qy,ih2,List.length_append]
         rfl
   · rw [if_neg (c := r.1.item = item ∧ 0 < Qu r.1) fun h => hi h.1]
     split
     · refine ⟨fun p => ?_,?_⟩
       · show (Qg (Q7 c.liked (thing r.1) true) (p,item)).getD false = _
         rw [Q5,if_neg fun h => hi (congrArg Prod.snd h).symm,ih1]
       · show (Qg (Q7 c.fans r.1.item ((Qg c.fans r.1.item).getD 0 + 1)) item).getD 0 = _
         rw [Q5,if_neg fun h => hi h.symm,ih2]
     · exact ⟨ih1,ih2⟩
 · rw [if_neg (c := r.1.item = item ∧ 0 < Qu r.1) fun h => hw h.2,if_neg fun h => hw h.1]
   exact ⟨ih1,ih2⟩
theorem Qgx (width:Int) (z:List Ev) (item:ByteArray) : (Qg (Xb (Qn width z).rs).fans item).getD 0 = ((Qr9 (Xc z) item).length : Int) := by
 rw [(Q2g item _).2,(Qbk width z).2]
theorem Q33 (item:ByteArray) : ∀ z : List Ev,Qr9 (Xc z) item = Qr9 z item := by
 refine Qq rfl fun z e ih => ?_
 unfold Xc at *
 rw [List.filter_append,Qhm,← ih]
 cases hp : peB e with
 | true => rw [List.filter_cons_of_pos hp,List.filter_nil,Qhm]
 | false =>
   rw [List.filter_cons_of_neg (by simp [hp]),List.filter_nil,List.append_nil]
   unfold Qgw
   rw [if_neg]
   intro h
   have := Q3v hp
   omega
section
variable {z1 z2:List Ev} {o:Ev}
theorem filter_one {α:Type} {q:α → Bool} {o:α} (h:q o = false) (a b:List α) : (a ++ o :: b).filter q = (a ++ b).filter q := by
 rw [List.filter_append,List.filter_append,List.filter_cons_of_neg (by simp [h])]
theorem Qfz {s:Ses} {p q:ByteArray} (h:q ≠ p) (t:Int) (x:ByteArray) : Qg (Ql7 s p t x) q = Qg s q := by
 unfold Ql7
 rw [Q5,if_neg h]
theorem Qo5 {s s':Ses} {p:ByteArray} (h:Qg s' p = Qg s p) (t:Int) (x:ByteArray) : Qg (Ql7 s' p t x) p = Qg (Ql7 s p t x) p := by
 unfold Ql7
 rw [Qy,Qy,h]
theorem Q1x {s:Ses} {p q:ByteArray} {t:Int} {x:ByteArray} : q ∈ (Ql7 s p t x).map (·.1) ↔ q ∈ s.map (·.1) ∨ q = p := by
 rw [Qjv,Qjv]
 unfold Ql7
 rw [Q5]
 by_cases h : q = p
 · simp [h]
 · rw [if_neg h]; simp [h]
theorem Qh2 {q:ByteArray} : ∀ l : List Ev,q ∈ (Qb3 l).map (·.1) ↔ ∃ e ∈ l,e.person = q := by
 refine Qq (by simp [Qb3]) fun l e ih => ?_
 rw [Qe0,Q1x,ih]
 constructor
 · rintro (⟨x,hx,h⟩ | h)
   · exact ⟨x,by simp [hx],h⟩
   · exact ⟨e,by simp,h.symm⟩
 · rintro ⟨x,hx,h⟩
   rcases List.mem_append.1 hx with hx | hx
   · exact .inl ⟨x,hx,h⟩
   · rw [List.mem_singleton] at hx; subst hx; exact .inr h.symm
theorem Q7h (a:List Ev) (o:Ev) {p:ByteArray} (hp:p ≠ o.person) : ∀ b : List Ev,Qg (Qb3 (a ++ o :: b)) p = Qg (Qb3 (a ++ b)) p := by
 refine Qq ?_ fun b e ih => ?_
 · rw [List.append_nil,Qe0,Qfz hp]
 · have e1 : a ++ o :: (b ++ [e]) = (a ++ o :: b) ++ [e] := by simp
   rw [e1,← List.append_assoc,Qe0,Qe0]
   by_cases h : p = e.person
   · subst h; exact Qo5 ih _ _
   · rw [Qfz h,Qfz h,ih]
theorem Q5z (o:Ev) : ∀ a b : List Ev,(∀ e ∈ a,e.person ≠ o.person) → (∀ e ∈ b,e.person ≠ o.person) → Qg (Qb3 (a ++ o :: b)) o.person = Qg (Qb3 [o]) o.person := by
 intro a b ha
 revert b
 refine Qq (fun _ => ?_) fun b e ih hb => ?_
 · have h0 : Qg (Qb3 a) o.person = none := by
    cases h : Qg (Qb3 a) o.person with
    | none => rfl
    | some v =>
      have := (Qh2 a).1 (Qjv.2 (by rw [h]; rfl))
      obtain ⟨e,he,h⟩ := this
      exact absurd h (ha e he)
   rw [Qe0]
   show Qg (Ql7 (Qb3 a) _ _ _) _ = Qg (Ql7 [] _ _ _) _
   exact Qo5 (by rw [h0]; rfl) _ _
 · have e1 : a ++ o :: (b ++ [e]) = (a ++ o :: b) ++ [e] := by simp
   rw [e1,Qe0,Qfz (hb e (by simp)).symm,ih fun x hx => hb x (by simp [hx])]
theorem Qvi (l:List Ev) : ((Qb3 l).map (·.1)).Nodup := Qca (Q3f l).keys
theorem Q5x (gap:Int) {a b:List Ev} {o:Ev} (ha:∀ e ∈ a,e.person ≠ o.person) (hb:∀ e ∈ b,e.person ≠ o.person) :
 (Qe3 gap (Qb3 (a ++ o :: b))).Perm (Qbr gap (Qb3 [o]) o.person ++ Qe3 gap (Qb3 (a ++ b))) := by
 have hk : (Xv ((Qb3 (a ++ o :: b)).map (·.1))).Perm (o.person :: Xv ((Qb3 (a ++ b)).map (·.1))) := by
  have hno : o.person ∉ (Qb3 (a ++ b)).map (·.1) := fun h => by
   obtain ⟨e,he,h⟩ := (Qh2 _).1 h
   rcases List.mem_append.1 he with he | he
   · exact ha e he h
   · exact hb e he h
  refine ((Qa9 _).trans ?_).trans ((Qa9 _).symm.cons _)
  refine Qcn (Qvi _) (List.nodup_cons.2 ⟨hno,Qvi _⟩) (fun x hx => ?_) fun x hx => ?_
  · obtain ⟨e,he,rfl⟩ := (Qh2 _).1 hx
    rw [List.mem_cons]
    rcases List.mem_append.1 he with he | he
    · exact .inr ((Qh2 _).2 ⟨e,by simp [he],rfl⟩)
    · rcases List.mem_cons.1 he with rfl | he
      · exact .inl rfl
      · exact .inr ((Qh2 _).2 ⟨e,by simp [he],rfl⟩)
  · rcases List.mem_cons.1 hx with rfl | hx
    · exact (Qh2 _).2 ⟨o,by simp,rfl⟩
    · obtain ⟨e,he,rfl⟩ := (Qh2 _).1 hx
      refine (Qh2 _).2 ⟨e,?_,rfl⟩
      rcases List.mem_append.1 he with he | he <;> simp [he]
 unfold Qe3
 refine (hk.flatMap_right _).trans ?_
 rw [List.flatMap_cons]
 have h1 : Qbr gap (Qb3 (a ++ o :: b)) o.person = Qbr gap (Qb3 [o]) o.person := by
  unfold Qbr
  rw [Q5z o a b ha hb]
 have h2 : (Xv ((Qb3 (a ++ b)).map (·.1))).flatMap (Qbr gap (Qb3 (a ++ o :: b))) = (Xv ((Qb3 (a ++ b)).map (·.1))).flatMap (Qbr gap (Qb3 (a ++ b))) := by
  rw [List.flatMap_def,List.flatMap_def]
  congr 1
  refine List.map_congr_left fun p hp => ?_
  obtain ⟨e,he,rfl⟩ := (Qh2 _).1 (Qhz.1 hp)
  unfold Qbr
  rw [Q7h a o (p := e.person)]
  intro h
  rcases List.mem_append.1 he with he | he
  · exact ha e he h
  · exact hb e he h
 rw [h1,h2]
theorem Qxg (gap:Int) (o:Ev) : Qbr gap (Qb3 [o]) o.person = [⟨o.person,o.at_,o.at_,[o.item]⟩] := by
 have h : Qbr gap (Qb3 [o]) o.person = [Qx8 o.person (o.at_,o.at_,[o.item])] := by
  unfold Qbr Qb3 Ql7
  simp [Q7,Qg,Q6g,Qev,Qbv,Xf,Qdm]
 rw [h]
 simp [Qx8,Qen,Xv,Qx4]
end
structure Apart (l:List Ev) (o:Ev) : Prop where
 may : Xm o = true
 wp : wpB o = true
 src : ∀ e ∈ l,e.src ≠ o.src
 person : ∀ e ∈ l,e.person ≠ o.person
 item : ∀ e ∈ l,e.item ≠ o.item
theorem Qvs {e:Ev} (h:wpB e = true) : e.kind ≠ 14 ∧ thB e = false ∧ peB e = true := by
 have := Q1q h
 unfold peB thB
 refine ⟨by omega,?_,?_⟩
 · rw [decide_eq_false_iff_not]; omega
 · rw [Bool.and_eq_true,Bool.not_eq_true',Bool.not_eq_true',decide_eq_false_iff_not,decide_eq_false_iff_not]; omega
theorem Qru {l:List Ev} {o:Ev} (hl:∀ e ∈ l,Xm e = true) (h:Apart l o) : ∃ z1 z2,Xq l = z1 ++ z2 ∧ Xq (l ++ [o]) = z1 ++ o :: z2 := by
 have hall : ∀ e ∈ l ++ [o],Xm e = true := fun e he => (List.mem_append.1 he).elim (hl e) fun h' => by rw [List.mem_singleton] at h'; rw [h']; exact h.may
 have o1 := Qsp hl
 have o2 := Qsp hall
 have hon : ∀ x,x ∈ Qbf (l ++ [o]) ↔ x ∈ Qbf l ∨ x = o := fun x => by
  rw [o1.mem,o2.mem]
  constructor
  · rintro ⟨h3,h4⟩
    rcases List.mem_append.1 h3 with h5 | h5
    · exact .inl ⟨h5,fun y hy he => h4 y (by simp [hy]) he⟩
    · exact .inr (List.mem_singleton.1 h5)
  · rintro (⟨h3,h4⟩ | rfl)
    · refine ⟨by simp [h3],fun y hy he => ?_⟩
      rcases List.mem_append.1 hy with h5 | h5
      · exact h4 y h5 he
      · rw [List.mem_singleton] at h5
        subst h5
        exact absurd (congrArg Prod.fst he).symm (h.src x h3)
    · refine ⟨by simp,fun y hy he => ?_⟩
      rcases List.mem_append.1 hy with h5 | h5
      · exact absurd (congrArg Prod.fst he) (h.src y h5)
      · rw [List.mem_singleton] at h5
        subst h5
        obtain ⟨x,hx,hxe⟩ := o2.all y (by simp)
        have hx1 := (o2.mem x).1 hx
        rcases List.mem_append.1 hx1.1 with h6 | h6
        · exact absurd (congrArg Prod.fst hxe) (h.src x h6)
        · rw [List.mem_singleton] at h6
          subst h6
          exact hx1.2 x (by simp) rfl
 have hgone : ∀ p,Qg1 (Qbf (l ++ [o])) p = Qg1 (Qbf l) p := fun p => by
  unfold Qg1
  rw [Bool.eq_iff_iff,List.any_eq_true,List.any_eq_true]
  constructor
  · rintro ⟨x,hx,hk⟩
    rcases (hon x).1 hx with h5 | rfl
    · exact ⟨x,h5,hk⟩
    · have hk1 : x.kind = 14 := by simp at hk; exact hk.1
      exact absurd hk1 (Qvs h.wp).1
  · rintro ⟨x,hx,hk⟩
    exact ⟨x,(hon x).2 (.inl hx),hk⟩
 have hno : Qg1 (Qbf l) o.person = false := by
  unfold Qg1
  rw [List.any_eq_false]
  intro x hx hk
  have : x.person = o.person := by simp at hk; exact hk.2
  exact h.person x (Qn7 hx) this
 have hmem : o ∈ Xq (l ++ [o]) := by
  refine (Qdc _).symm.subset (List.mem_filter.2 ⟨(hon o).2 (.inr rfl),?_⟩)
  unfold Qg4
  rw [hgone,hno]
  rfl
 have hq : ∀ e ∈ l,decide (e.src ≠ o.src) = true := fun e he => decide_eq_true (h.src e he)
 have hperm : ((Qjf (Qbf (l ++ [o]))).filter fun e => decide (e.src ≠ o.src)).Perm ((Qjf (Qbf l)).filter fun e => decide (e.src ≠ o.src)) := by
  refine Qcn ((Qpw (Qju hall)).sublist List.filter_sublist) ((Qpw (Qju hl)).sublist List.filter_sublist) (fun x hx => ?_) (fun x hx => ?_)
  · obtain ⟨h3,h4⟩ := List.mem_filter.1 hx
    obtain ⟨h5,h6⟩ := List.mem_filter.1 h3
    refine List.mem_filter.2 ⟨List.mem_filter.2 ⟨?_,?_⟩,h4⟩
    · rcases (hon x).1 h5 with h7 | rfl
      · exact h7
      · simp at h4
    · unfold Qg4 at h6 ⊢; rw [hgone] at h6; exact h6
  · obtain ⟨h3,h4⟩ := List.mem_filter.1 hx
    obtain ⟨h5,h6⟩ := List.mem_filter.1 h3
    refine List.mem_filter.2 ⟨List.mem_filter.2 ⟨(hon x).2 (.inl h5),?_⟩,h4⟩
    unfold Qg4 at h6 ⊢; rw [hgone]; exact h6
 have hf := Qo7 hall hperm
 have hfl : (Xq l).filter (fun e => decide (e.src ≠ o.src)) = Xq l := by
  rw [List.filter_eq_self]
  exact fun x hx => hq x (Qce hx)
 rw [hfl] at hf
 obtain ⟨z1,z2,hz⟩ := List.append_of_mem hmem
 have hids := Qne hall
 rw [hz] at hids
 have hin : ∀ x,x ∈ z1 ∨ x ∈ z2 → decide (x.src ≠ o.src) = true := fun x hx => by
  have hxz : x ∈ Xq (l ++ [o]) := by rw [hz]; rcases hx with hx | hx <;> simp [hx]
  rcases List.mem_append.1 (Qce hxz) with h5 | h5
  · exact hq x h5
  · rw [List.mem_singleton] at h5
    subst h5
    exfalso
    have hp := List.pairwise_append.1 hids
    rcases hx with hx | hx
    · exact hp.2.2 x hx x (by simp) rfl
    · exact (List.pairwise_cons.1 hp.2.1).1 x hx rfl
 refine ⟨z1,z2,?_,hz⟩
 rw [← hf,hz,filter_one (by simp),List.filter_eq_self.2]
 intro x hx
 exact hin x (List.mem_append.1 hx)
structure ApZ (z z':List Ev) (o:Ev) : Prop where
 ex : ∃ z1 z2,z = z1 ++ z2 ∧ z' = z1 ++ o :: z2
 rise : Rise z'
 may : ∀ e ∈ z',Xm e = true
 wp : wpB o = true
 person : ∀ e ∈ z,e.person ≠ o.person
 item : ∀ e ∈ z,e.item ≠ o.item
section
variable {z z':List Ev} {o:Ev}
theorem ApZ.rise0 (h:ApZ z z' o) : Rise z := by
 obtain ⟨z1,z2,rfl,rfl⟩ := h.ex
 exact h.rise.sublist (List.Sublist.append_left (List.sublist_cons_self o z2) z1)
theorem ApZ.filt (h:ApZ z z' o) {q:Ev → Bool} (hq:q o = false) : z'.filter q = z.filter q := by
 obtain ⟨z1,z2,rfl,rfl⟩ := h.ex
 exact filter_one hq z1 z2
theorem ApZ.filt2 (h:ApZ z z' o) {q r:Ev → Bool} (hr:r o = false) : (z'.filter q).filter r = (z.filter q).filter r := by
 rw [List.filter_filter,List.filter_filter]
 exact h.filt (by simp [hr])
theorem ApZ.things (h:ApZ z z' o) : Qi z' = Qi z := h.filt (Qvs h.wp).2.1
theorem ApZ.hist (h:ApZ z z' o) {p:ByteArray} (hp:p ≠ o.person) : Qd3 z' p = Qd3 z p := by
 unfold Qd3 Go.Proofs.YtnnnbjjenknpeaaGreatDoor.hist Xc
 exact h.filt2 (by simp [hp.symm])
theorem ApZ.fol (h:ApZ z z' o) {p:ByteArray} (hp:p ≠ o.person) (m:ByteArray) : Qrl z' p m = Qrl z p m := by
 unfold Qrl
 rw [h.filt (q := flB p m) (by unfold flB; simp [hp.symm])]
theorem Qmd (hr:Rise z) (hr':Rise z') (ht:Qi z' = Qi z) (e:Ev) : Qi (Qc5 z' e) = Qi (Qc5 z e) := by
 have hb : ∀ {z:List Ev},Rise z → Qc5 z e = z.filter fun x => Qv x e := by
  intro z
  induction z with
  | nil => exact fun _ => rfl
  | cons x z ih =>
    intro h
    have h' := List.pairwise_cons.1 h
    have ih := ih h'.2
    unfold Qc5 at *
    rw [List.takeWhile_cons,List.filter_cons]
    cases hx : Qv x e with
    | true => simp only [if_true]; rw [ih]
    | false =>
      simp only [Bool.false_eq_true,if_false]
      symm
      rw [List.filter_eq_nil_iff]
      intro y hy hq
      have := Qms (h'.1 y hy) hq
      rw [hx] at this; cases this
 rw [hb hr',hb hr]
 unfold Qi at *
 have h1 : ∀ l : List Ev,((l.filter fun x => Qv x e).filter thB) = (l.filter thB).filter fun a => Qv a e := fun l => by
  rw [List.filter_filter,List.filter_filter]
  apply List.filter_congr
  intro a _
  rw [Bool.and_comm]
 rw [h1,h1,ht]
theorem ApZ.tags (h:ApZ z z' o) (e:Ev) : Qix z' e = Qix z e := by
 unfold Qix
 rw [Qmd h.rise0 h.rise h.things]
theorem ApZ.rows (h:ApZ z z' o) {p:ByteArray} (hp:p ≠ o.person) : rowsOf (Qgg z') p = rowsOf (Qgg z) p := by
 rw [Qvf z' h.rise,Qvf z h.rise0]
 have hc : (fun e:Ev => (e,Ql3 (Qi (Qc5 z' e)) e)) = fun e => (e,Ql3 (Qi (Qc5 z e)) e) := by
  funext e
  rw [Qmd h.rise0 h.rise h.things]
 rw [hc]
 unfold rowsOf Xc
 rw [List.filter_map,List.filter_map]
 congr 1
 exact h.filt2 (by simp [hp.symm])
theorem ApZ.sns (h:ApZ z z' o) (c:Cfg) : (Qd5 c z').Perm (⟨o.person,o.at_,o.at_,[o.item]⟩ :: Qd5 c z) := by
 obtain ⟨z1,z2,rfl,rfl⟩ := h.ex
 unfold Qd5
 rw [List.filter_append,List.filter_append,List.filter_cons_of_pos h.wp]
 have := Q5x (Quo c.gap) (a := z1.filter wpB) (b := z2.filter wpB) (o := o) (fun e he => h.person e (by simp [(List.mem_filter.1 he).1])) (fun e he => h.person e (by simp [(List.mem_filter.1 he).1]))
 rw [Qxg] at this
 exact this
theorem ApZ.pair (h:ApZ z z' o) (c:Cfg) {a b:ByteArray} (hab:a ≠ o.item ∨ b ≠ o.item) : Qc0 (Qd5 c z') a b = Qc0 (Qd5 c z) a b := by
 unfold Qc0
 rw [((h.sns c).filter _).length_eq,List.filter_cons_of_neg]
 unfold hasB
 simp only [List.mem_singleton,Bool.and_eq_true,decide_eq_true_eq]
 rintro ⟨h1,h2⟩
 rcases hab with hab | hab
 · exact hab h1
 · exact hab h2
theorem ApZ.single (h:ApZ z z' o) (c:Cfg) {a:ByteArray} (ha:a ≠ o.item) : Xu (Qd5 c z') a = Xu (Qd5 c z) a := by
 unfold Xu
 rw [((h.sns c).filter _).length_eq,List.filter_cons_of_neg]
 unfold hasB
 simp only [List.mem_singleton,decide_eq_true_eq]
 exact ha
theorem ApZ.like (h:ApZ z z' o) (c:Cfg) {a b:ByteArray} (ha:a ≠ o.item) (hb:b ≠ o.item) : Qed (Qd5 c z') a b = Qed (Qd5 c z) a b := by
 unfold Qed
 rw [h.single c ha,h.single c hb,h.pair c (.inl ha)]
theorem ApZ.hist_item (h:ApZ z z' o) {p:ByteArray} {e:Ev} (he:e ∈ Qd3 z p) : e ∈ z ∧ e.item ≠ o.item := by
 unfold Qd3 Go.Proofs.YtnnnbjjenknpeaaGreatDoor.hist Xc at he
 have := (List.mem_filter.1 (List.mem_filter.1 he).1).1
 exact ⟨this,h.item e this⟩
theorem ApZ.own (h:ApZ z z' o) (c:Cfg) {p:ByteArray} (hp:p ≠ o.person) (item:ByteArray) (now:Int) : Qst c z' p item now = Qst c z p item now := by
 unfold Qst
 rw [h.hist hp]
 apply List.filter_congr
 intro e he
 have hei := (h.hist_item he).2
 unfold Qfb Qp5 Qnv Qq9 Qg3
 rw [h.things,h.tags]
 by_cases hi : e.item = item
 · simp [hi]
 · have hl : decide (0 < (Qed (Qd5 c z') e.item item).1) = decide (0 < (Qed (Qd5 c z) e.item item).1) := decide_eq_decide.2 (by rw [Qux hi,Qux hi,h.pair c (.inl hei)])
   rw [hl]
theorem Qfg {α β:Type} {f g:β → α → β} : ∀ {l:List α},(∀ x ∈ l,∀ b,f b x = g b x) → ∀ b,l.foldl f b = l.foldl g b
 | [],_,_ => rfl
 | x :: l,h,b => by
   rw [List.foldl_cons,List.foldl_cons,h x (by simp)]
   exact Qfg (fun y hy => h y (by simp [hy])) _
theorem ApZ.raw (h:ApZ z z' o) (c:Cfg) {p item:ByteArray} (hp:p ≠ o.person) (hi:item ≠ o.item) (now:Int) (k:Nat) : Qql c z' p item now k = Qql c z p item now k := by
 have hit : Qg3 z' item now = Qg3 z item now := by unfold Qg3; rw [h.things]
 have hpop : ∀ half,Qz9 (z'.filter wpB) half item now = Qz9 (z.filter wpB) half item now := fun half => by
  unfold Qz9
  rw [h.filt2 (by simp [hi.symm])]
 have hpa : ∀ width lo hi',paE (z'.filter wpB) width item lo hi' = paE (z.filter wpB) width item lo hi' := fun width lo hi' => by
  unfold paE
  rw [h.filt2 (by simp [hi.symm])]
 have hkin : Q2s c z' p item = Q2s c z p item := by
  unfold Q2s
  rw [h.hist hp]
  have : Qgd (Qd5 c z') item (Qd3 z p) = Qgd (Qd5 c z) item (Qd3 z p) := by
   unfold Qgd
   refine Qfg (fun e he b => ?_) _
   unfold Qcw
   rw [h.like c hi (h.hist_item he).2]
  rw [this]
 unfold Qql
 rw [hit,hpop,hpa,hpa,hkin,h.rows hp,h.fol hp]
theorem ApZ.fans (h:ApZ z z' o) (width:Int) {item:ByteArray} (hi:item ≠ o.item) : (Qg (Xb (Qn width z').rs).fans item).getD 0 = (Qg (Xb (Qn width z).rs).fans item).getD 0 := by
 rw [Qgx,Qgx,Q33,Q33]
 obtain ⟨z1,z2,rfl,rfl⟩ := h.ex
 have hf : ∀ l,Qgw item l o = l := fun l => by unfold Qgw; rw [if_neg fun h => hi h.1.symm]
 unfold Qr9
 rw [List.foldl_append,List.foldl_append,List.foldl_cons,hf]
end
theorem ApZ.rawx {z z':List Ev} {o:Ev} (h:ApZ z z' o) (c:Cfg) {p item:ByteArray} (hp:p ≠ o.person) (hi:item ≠ o.item) (now x:Int) : Q0d c z' p item now x = Q0d c z p item now x := by
 unfold Q0d
 rw [h.raw c hp hi]
theorem Q4t {l:List Ev} {o:Ev} (hl:∀ e ∈ l,Xm e = true) (h:Apart l o) : ApZ (Xq l) (Xq (l ++ [o])) o := by
 have hall : ∀ e ∈ l ++ [o],Xm e = true := fun e he => (List.mem_append.1 he).elim (hl e) fun h' => by rw [List.mem_singleton] at h'; rw [h']; exact h.may
 exact ⟨Qru hl h,Qj6 hall,fun e he => hall e (Qce he),h.wp,fun e he => h.person e (Qce he),fun e he => h.item e (Qce he)⟩
end Go.Proofs.YtnnnbjjenknpeaaGreatDoor
