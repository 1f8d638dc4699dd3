/- Several texts in one: Ct, Pl5, Pl6, Sm. -/
import Derived.Test.YtagijlhciclafaaGreatDoorGF
import Derived.Test.YtagijlhciclafaaGreatDoorGC
import Derived.Test.YtagijlhciclafaaGreatDoorGH
set_option linter.unusedVariables false
set_option linter.unusedSimpArgs false
namespace Go.Proofs.YtagijlhciclafaaGreatDoor
open Go.Se Go.RowKit
theorem Q7s (row:List St) (t:Int) : (stN row t = 0 ∨ ∃ s,row[stN row t - 1]? = some s ∧ s.at_ ≤ t) ∧ (stN row t = row.length ∨ ∃ s,row[stN row t]? = some s ∧ t < s.at_) ∧ stN row t ≤ row.length := by
 unfold stN
 induction row with
 | nil => simp
 | cons a row ih =>
   rw [List.takeWhile_cons]
   by_cases h : a.at_ ≤ t
   · rw [if_pos (by simpa using h)]
     obtain ⟨i1,i2,i3⟩ := ih
     simp only [List.length_cons]
     generalize (row.takeWhile fun s => decide (s.at_ ≤ t)).length = n at *
     refine ⟨.inr ?_,?_,by omega⟩
     · rcases i1 with rfl | ⟨s,hs,hle⟩
       · exact ⟨a,by simp,h⟩
       · cases n with
         | zero => exact ⟨a,by simp,h⟩
         | succ n => exact ⟨s,by simpa using hs,hle⟩
     · rcases i2 with h2 | ⟨s,hs,hlt⟩
       · exact .inl (by omega)
       · exact .inr ⟨s,by simpa using hs,hlt⟩
   · rw [if_neg (by simpa using h)]
     exact ⟨.inl rfl,.inr ⟨a,rfl,by omega⟩,by simp⟩
def thQ (name:ByteArray) (t:Int) (e:Ev) : Bool := decide (e.item = name) && decide (e.at_ ≤ t)
def Qy7 (name:ByteArray) (es:List Ev) : St := es.foldl Qb6 (Qic name)
theorem Qnw (name:ByteArray) (es:List Ev) (e:Ev) : Qy7 name (es ++ [e]) = Qb6 (Qy7 name es) e := by simp [Qy7]
theorem Qu0 (s:St) (e:Ev) : (Qb6 s e).item.name = s.item.name := by unfold Qb6; split <;> (try split) <;> rfl
def Q9m (name:ByteArray) (es:List Ev) : It := if es.isEmpty then Qcz else (Qy7 name es).item
theorem Qih {row:List St} {t:Int} (h:∀ s ∈ row,s.at_ ≤ t) : stN row t = row.length := by
 unfold stN
 have : row.takeWhile (fun s => decide (s.at_ ≤ t)) = row := by
  have := List.takeWhile_append_of_pos (l₂ := []) (p := fun s : St => decide (s.at_ ≤ t)) (l₁ := row) (fun s hs => by simpa using h s hs)
  simpa using this
 rw [this]
theorem Q23 : ∀ (cs:List Ev),Rise cs → ∀ (name:ByteArray) (t:Int),
 (stN (Qv cs name) t = 0 ↔ cs.filter (thQ name t) = []) ∧ (stN (Qv cs name) t ≠ 0 → (Qv cs name)[stN (Qv cs name) t - 1]? = some (Qy7 name (cs.filter (thQ name t)))) := by
 refine Qw ?_ ?_
 · intro _ name t
   simp [Qv,stN]
 · intro cs e ih h name t
   have h1 : Rise cs := (List.pairwise_append.1 h).1
   have h2 := (List.pairwise_append.1 h).2.2
   obtain ⟨i1,i2⟩ := ih h1 name t
   obtain ⟨r1,r2⟩ := Qjh cs h1 name
   rw [Qbc,List.filter_append]
   unfold Qez Qj8
   by_cases hn : name = e.item
   · rw [if_pos hn]
     subst hn
     generalize hrow : Qv cs e.item = row at *
     have hle : ∀ s ∈ row,s.at_ ≤ e.at_ := fun s hs => by
      obtain ⟨e',he',h3,_⟩ := r2 s hs
      have := Q09 (h2 e' he' e (by simp)); omega
     by_cases ht : e.at_ ≤ t
     · have hq : thQ e.item t e = true := by simp [thQ,ht]
       have hall : ∀ s ∈ row ++ [Qew row e],s.at_ ≤ t := fun s hs => by
        rcases List.mem_append.1 hs with hs | hs
        · have := hle s hs; omega
        · simp at hs; subst hs; unfold Qew; rw [Qf8]; exact ht
       have hN : stN row t = row.length := Qih fun s hs => hall s (by simp [hs])
       rw [Qih hall]
       refine ⟨by simp [List.filter_cons,hq],fun _ => ?_⟩
       simp only [List.filter_cons,hq,if_true,List.filter_nil,Qnw]
       rw [List.length_append,List.length_singleton,Nat.add_sub_cancel,List.getElem?_append_right (Nat.le_refl _),Nat.sub_self]
       unfold Qew
       rw [hN] at i1 i2
       congr 2
       by_cases h0 : row.length = 0
       · have h3 := i1.1 h0
         rw [h3,List.length_eq_zero_iff.1 h0]
         rfl
       · rw [List.getLast?_eq_getElem?,i2 h0]; rfl
     · have hq : thQ e.item t e = false := by simp [thQ,ht]
       have hN : stN (row ++ [Qew row e]) t = stN row t := by
        unfold stN
        rw [List.takeWhile_append]
        split
        · rw [List.takeWhile_cons_of_neg (by unfold Qew; rw [Qf8]; simpa using ht)]
          simp; omega
        · rfl
       rw [hN]
       simp only [List.filter_cons,hq,Bool.false_eq_true,if_false,List.filter_nil,List.append_nil]
       refine ⟨i1,fun h0 => ?_⟩
       have := (Q7s row t).2.2
       rw [List.getElem?_append_left (by omega)]
       exact i2 h0
   · rw [if_neg hn]
     have hq : thQ name t e = false := by simp [thQ,Ne.symm hn]
     simp only [List.filter_cons,hq,Bool.false_eq_true,if_false,List.filter_nil,List.append_nil]
     exact ⟨i1,i2⟩
theorem Qz8 {cs:List Ev} (h:Rise cs) (name:ByteArray) (t:Int) : Xz cs name t = (Q9m name (cs.filter (thQ name t)),!(cs.filter (thQ name t)).isEmpty) := by
 obtain ⟨h1,h2⟩ := Q23 cs h name t
 unfold Xz Q9m
 by_cases h0 : stN (Qv cs name) t = 0
 · have h3 := h1.1 h0
   rw [h3,h0]
   cases (Qv cs name)[0 - 1]? <;> rfl
 · have h3 : cs.filter (thQ name t) ≠ [] := fun h => h0 (h1.2 h)
   rw [h2 h0]
   simp only [if_neg h0]
   generalize cs.filter (thQ name t) = F at h3
   cases F with
   | nil => exact absurd rfl h3
   | cons a es => rfl
structure Sto {α:Type} (lt:α → α → Bool) : Prop where
 irrefl : ∀ a,lt a a = false
 trans : ∀ {a b c},lt a b = true → lt b c = true → lt a c = true
 tri : ∀ {a b},lt a b = false → lt b a = false → a = b
theorem Qwr : Sto bLt := ⟨Xi,Qa1,Qa4⟩
def SG {α:Type} (lt:α → α → Bool) (l:List α) : Prop := l.Pairwise fun x y => lt x y = true
theorem SG.nodup {α:Type} {lt:α → α → Bool} (O:Sto lt) {l:List α} (h:SG lt l) : l.Nodup := h.imp fun h e => by rw [e,O.irrefl] at h; cases h
theorem Qsi {α:Type} {lt:α → α → Bool} (O:Sto lt) {a b:α} (h:lt a b = true) : lt b a = false := by
 cases hb : lt b a with
 | false => rfl
 | true => have := O.trans h hb; rw [O.irrefl] at this; cases this
theorem Qr6 {α:Type} {lt:α → α → Bool} (O:Sto lt) {l m:List α} (h1:SG lt l) (h2:SG lt m) (hm:∀ x,x ∈ l ↔ x ∈ m) : l = m :=
 List.Perm.eq_of_pairwise (le := fun a b => lt b a = false) (fun a b _ _ h1 h2 => O.tri h2 h1) (h1.imp fun h => Qsi O h) (h2.imp fun h => Qsi O h) (Qfz (h1.nodup O) (h2.nodup O) (fun x hx => (hm x).1 hx) fun x hx => (hm x).2 hx)
section
variable {α:Type} [DecidableEq α] {lt:α → α → Bool}
def Qxx (lt:α → α → Bool) (l:List α) (a:α) : List α :=
 if (l.dropWhile fun x => lt x a).head? = some a then l else l.takeWhile (fun x => lt x a) ++ a :: l.dropWhile (fun x => lt x a)
theorem Qo2 (a:α) : Qxx lt [] a = [a] := by simp [Qxx]
theorem Qlb (x:α) (l:List α) (a:α) : Qxx lt (x :: l) a = if lt x a = true then x :: Qxx lt l a else if x = a then x :: l else a :: x :: l := by
 unfold Qxx
 rw [List.takeWhile_cons,List.dropWhile_cons]
 cases h : lt x a with
 | true =>
   simp only [if_true]
   split <;> simp
 | false =>
   simp only [Bool.false_eq_true,if_false,List.head?_cons,Option.some.injEq,List.nil_append]
theorem Qhz {x a:α} : ∀ {l:List α},x ∈ Qxx lt l a ↔ x ∈ l ∨ x = a
 | [] => by rw [Qo2]; simp
 | y :: l => by
   have ih := Qhz (x := x) (a := a) (l := l)
   rw [Qlb]
   split
   · rw [List.mem_cons,ih,List.mem_cons]; exact or_assoc.symm
   · split
     · next h =>
       subst h
       constructor
       · exact .inl
       · rintro (h | rfl)
         · exact h
         · simp
     · rw [List.mem_cons]; exact or_comm
theorem Qtv (O:Sto lt) {a:α} : ∀ {l:List α},SG lt l → SG lt (Qxx lt l a)
 | [],_ => by rw [Qo2]; exact List.pairwise_singleton _ _
 | y :: l,h => by
   have h' := List.pairwise_cons.1 h
   have ih := Qtv O (a := a) h'.2
   rw [Qlb]
   split
   · next hy =>
     refine List.pairwise_cons.2 ⟨fun x hx => ?_,ih⟩
     rcases Qhz.1 hx with hx | rfl
     · exact h'.1 x hx
     · exact hy
   · next hy =>
     split
     · exact h
     · next hne =>
       have hay : lt a y = true := by
        cases hq : lt a y with
        | true => rfl
        | false => exact absurd (O.tri (by simpa using hy) hq) hne
       refine List.pairwise_cons.2 ⟨fun x hx => ?_,h⟩
       rcases List.mem_cons.1 hx with rfl | hx
       · exact hay
       · exact O.trans hay (h'.1 x hx)
def Qem (lt:α → α → Bool) (l:List α) : List α := l.foldl (Qxx lt) []
theorem Qg9 (l:List α) (a:α) : Qem lt (l ++ [a]) = Qxx lt (Qem lt l) a := by unfold Qem; rw [List.foldl_append]; rfl
theorem Qnb {x:α} : ∀ l : List α,x ∈ Qem lt l ↔ x ∈ l := by
 refine Qw (by simp [Qem]) fun l a ih => ?_
 rw [Qg9,Qhz,ih,List.mem_append,List.mem_singleton]
theorem Q0w (O:Sto lt) : ∀ l : List α,SG lt (Qem lt l) := by
 refine Qw List.Pairwise.nil fun l a ih => ?_
 rw [Qg9]
 exact Qtv O ih
theorem Qo1 (a:α) : ∀ l : List α,(Qxx lt l a).length ≤ l.length + 1
 | [] => by rw [Qo2]; simp
 | y :: l => by
   have ih := Qo1 a l
   rw [Qlb]
   split
   · simp; omega
   · split <;> simp
theorem Qxw : ∀ l : List α,(Qem lt l).length ≤ l.length := by
 refine Qw (by simp [Qem]) fun l a ih => ?_
 rw [Qg9]
 have := Qo1 (lt := lt) a (Qem lt l)
 simp; omega
end
theorem Qjw {l:List ByteArray} (h:l.Nodup) : SG bLt (Q9 l) := by
 have h1 := Qdy l
 have h2 : (Q9 l).Pairwise (· ≠ ·) := List.nodup_iff_pairwise_ne.1 ((Qap l).nodup_iff.2 h)
 refine (List.Pairwise.and h1 h2).imp ?_
 rintro a b ⟨h3,h4⟩
 cases hc : bLt a b with
 | true => rfl
 | false => exact absurd (Qa4 hc h3) h4
theorem Qr8 {l:List Int} (h:l.Nodup) : (Qd4 l).Pairwise (· < ·) := by
 have h1 := Ql5 l
 have h2 : (Qd4 l).Pairwise (· ≠ ·) := List.nodup_iff_pairwise_ne.1 ((Qdf l).nodup_iff.2 h)
 refine (List.Pairwise.and h1 h2).imp ?_
 rintro a b ⟨h3,h4⟩
 omega
theorem Qhh (l:List ByteArray) : SG bLt (Qbn l) := Qjw (Qdc l)
theorem Qv1 (l:List ByteArray) (s:ByteArray) : Qxx bLt (Qbn l) s = Qbn (l ++ [s]) :=
 Qr6 Qwr (Qtv Qwr (Qhh l)) (Qhh _) fun x => by rw [Qhz,Xq,Xq,List.mem_append,List.mem_singleton]
theorem Q2q (l:List ByteArray) : Qbn (Qbn l) = Qbn l := Qnu fun x => Xq
abbrev Ad3 := ByteArray × Int × ByteArray
def adE (e:Ev) : Ad3 := (e.person,e.at_,e.item)
def ahB (a b:Ad3) : Bool := if a.1 = b.1 then (if a.2.1 = b.2.1 then bLt a.2.2 b.2.2 else decide (a.2.1 < b.2.1)) else bLt a.1 b.1
theorem Qks {a b:Ad3} : ahB a b = true ↔ bLt a.1 b.1 = true ∨ (a.1 = b.1 ∧ (a.2.1 < b.2.1 ∨ (a.2.1 = b.2.1 ∧ bLt a.2.2 b.2.2 = true))) := by
 unfold ahB
 by_cases h1 : a.1 = b.1
 · have hi : bLt a.1 b.1 = false := by rw [h1]; exact Xi _
   rw [if_pos h1]
   by_cases h2 : a.2.1 = b.2.1
   · rw [if_pos h2]
     constructor
     · intro h; exact .inr ⟨h1,.inr ⟨h2,h⟩⟩
     · rintro (h | ⟨_,h | ⟨_,h⟩⟩)
       · rw [hi] at h; cases h
       · omega
       · exact h
   · rw [if_neg h2,decide_eq_true_eq]
     constructor
     · intro h; exact .inr ⟨h1,.inl h⟩
     · rintro (h | ⟨_,h | ⟨h,_⟩⟩)
       · rw [hi] at h; cases h
       · exact h
       · exact absurd h h2
 · rw [if_neg h1]
   constructor
   · exact .inl
   · rintro (h | ⟨h,_⟩)
     · exact h
     · exact absurd h h1
theorem Q57 : Sto ahB where
 irrefl a := by unfold ahB; rw [if_pos rfl,if_pos rfl]; exact Xi _
 trans := by
  intro a b c h k
  rw [Qks] at *
  rcases h with h | ⟨h,h'⟩ <;> rcases k with k | ⟨k,k'⟩
  · exact .inl (Qa1 h k)
  · exact .inl (k ▸ h)
  · exact .inl (h ▸ k)
  · refine .inr ⟨h.trans k,?_⟩
    rcases h' with h' | ⟨h',h2⟩ <;> rcases k' with k' | ⟨k',k2⟩
    · exact .inl (by omega)
    · exact .inl (by omega)
    · exact .inl (by omega)
    · exact .inr ⟨by omega,Qa1 h2 k2⟩
 tri := by
  intro a b h k
  obtain ⟨a1,a2,a3⟩ := a
  obtain ⟨b1,b2,b3⟩ := b
  rw [← Bool.not_eq_true,Qks] at h k
  simp only at h k
  have e1 : a1 = b1 := Qa4 (by rw [← Bool.not_eq_true]; exact fun x => h (.inl x)) (by rw [← Bool.not_eq_true]; exact fun x => k (.inl x))
  subst e1
  have e2 : a2 = b2 := by
   rcases Int.lt_trichotomy a2 b2 with x | x | x
   · exact absurd (.inr ⟨rfl,.inl x⟩) h
   · exact x
   · exact absurd (.inr ⟨rfl,.inl x⟩) k
  subst e2
  have e3 : a3 = b3 := Qa4 (by rw [← Bool.not_eq_true]; exact fun x => h (.inr ⟨rfl,.inr ⟨rfl,x⟩⟩)) (by rw [← Bool.not_eq_true]; exact fun x => k (.inr ⟨rfl,.inr ⟨rfl,x⟩⟩))
  rw [e3]
def tks (ss:Ses) (p:ByteArray) : Qd0 := (Qd ss p).getD []
theorem Qkn (s:Ses) (P I:ByteArray) (T:Int) (p:ByteArray) : tks (Q3k s P T I) p = if p = P then Q8 (tks s P) T (Q8 ((Qd (tks s P) T).getD []) I true) else tks s p := by
 unfold tks Q3k
 rw [Xr]
 split <;> rfl
theorem Qfs {κ β:Type} [DecidableEq κ] {k x:κ} {v:β} {l:List (κ × β)} : x ∈ (Q8 l k v).map (·.1) ↔ x ∈ l.map (·.1) ∨ x = k := by
 rw [Qei]
 split
 · next h =>
   constructor
   · exact .inl
   · rintro (h1 | rfl)
     · exact h1
     · exact h
 · rw [List.mem_append,List.mem_singleton]
theorem Qu8 (m:Qd0) (T t:Int) (x:List (ByteArray × Bool)) : Xk (Q8 m T x) t = if t = T then x.map (·.1) else Xk m t := by
 unfold Xk
 rw [Xr]
 split <;> rfl
structure Q6g (ss:Ses) (l:List Ev) : Prop where
 keys : ss.Pairwise (fun x y => x.1 ≠ y.1)
 ticks : ∀ p,(tks ss p).Pairwise (fun x y => x.1 ≠ y.1)
 item : ∀ p t i,i ∈ Xk (tks ss p) t ↔ ∃ e ∈ l,e.person = p ∧ e.at_ = t ∧ e.item = i
 tick : ∀ p t,t ∈ (tks ss p).map (·.1) ↔ ∃ e ∈ l,e.person = p ∧ e.at_ = t
 person : ∀ p,p ∈ ss.map (·.1) ↔ ∃ e ∈ l,e.person = p
theorem Q7r : ∀ l : List Ev,Q6g (Qg1 l) l := by
 refine Qw ⟨List.Pairwise.nil,fun p => List.Pairwise.nil,fun p t i => by simp [Qg1,tks,Qd,Xk],fun p t => by simp [Qg1,tks,Qd],fun p => by simp [Qg1]⟩ fun l e ih => ?_
 rw [Quy]
 refine ⟨Qag ih.keys,fun p => ?_,fun p t i => ?_,fun p t => ?_,fun p => ?_⟩
 · rw [Qkn]
   split
   · exact Qag (ih.ticks _)
   · exact ih.ticks p
 · rw [Qkn]
   have hx : (∃ x ∈ l ++ [e],x.person = p ∧ x.at_ = t ∧ x.item = i) ↔ (∃ x ∈ l,x.person = p ∧ x.at_ = t ∧ x.item = i) ∨ (e.person = p ∧ e.at_ = t ∧ e.item = i) := by
    constructor
    · rintro ⟨x,hx,h⟩
      rcases List.mem_append.1 hx with hx | hx
      · exact .inl ⟨x,hx,h⟩
      · rw [List.mem_singleton] at hx; subst hx; exact .inr h
    · rintro (⟨x,hx,h⟩ | h)
      · exact ⟨x,by simp [hx],h⟩
      · exact ⟨e,by simp,h⟩
   rw [hx,← ih.item]
   by_cases hp : p = e.person
   · subst hp
     rw [if_pos rfl,Qu8]
     by_cases ht : t = e.at_
     · subst ht
       rw [if_pos rfl,Qfs]
       show (i ∈ Xk (tks (Qg1 l) e.person) e.at_ ∨ i = e.item) ↔ _
       constructor
       · rintro (h | h)
         · exact .inl h
         · exact .inr ⟨rfl,rfl,h.symm⟩
       · rintro (h | ⟨_,_,h⟩)
         · exact .inl h
         · exact .inr h.symm
     · rw [if_neg ht]
       constructor
       · exact .inl
       · rintro (h | ⟨_,h,_⟩)
         · exact h
         · exact absurd h.symm ht
   · rw [if_neg hp]
     constructor
     · exact .inl
     · rintro (h | ⟨h,_⟩)
       · exact h
       · exact absurd h.symm hp
 · rw [Qkn]
   have hx : (∃ x ∈ l ++ [e],x.person = p ∧ x.at_ = t) ↔ (∃ x ∈ l,x.person = p ∧ x.at_ = t) ∨ (e.person = p ∧ e.at_ = t) := by
    constructor
    · rintro ⟨x,hx,h⟩
      rcases List.mem_append.1 hx with hx | hx
      · exact .inl ⟨x,hx,h⟩
      · rw [List.mem_singleton] at hx; subst hx; exact .inr h
    · rintro (⟨x,hx,h⟩ | h)
      · exact ⟨x,by simp [hx],h⟩
      · exact ⟨e,by simp,h⟩
   rw [hx,← ih.tick]
   by_cases hp : p = e.person
   · subst hp
     rw [if_pos rfl,Qfs]
     constructor
     · rintro (h | h)
       · exact .inl h
       · exact .inr ⟨rfl,h.symm⟩
     · rintro (h | ⟨_,h⟩)
       · exact .inl h
       · exact .inr h.symm
   · rw [if_neg hp]
     constructor
     · exact .inl
     · rintro (h | ⟨h,_⟩)
       · exact h
       · exact absurd h.symm hp
 · show p ∈ (Q8 _ _ _).map (·.1) ↔ _
   rw [Qfs,ih.person]
   constructor
   · rintro (⟨x,hx,h⟩ | rfl)
     · exact ⟨x,by simp [hx],h⟩
     · exact ⟨e,by simp,rfl⟩
   · rintro ⟨x,hx,h⟩
     rcases List.mem_append.1 hx with hx | hx
     · exact .inl ⟨x,hx,h⟩
     · rw [List.mem_singleton] at hx; subst hx; exact .inr h.symm
def Qow (p:ByteArray) (k:Qd0) (t:Int) : List Ad3 := (Qbn (Xk k t)).map fun i => (p,t,i)
def Qtq (ss:Ses) (p:ByteArray) : List Ad3 := (Qd4 ((tks ss p).map (·.1))).flatMap (Qow p (tks ss p))
def Q4f (ss:Ses) : List Ad3 := (Q9 (ss.map (·.1))).flatMap (Qtq ss)
theorem Qlg {β:Type} {L:List (Int × β)} (h:L.Pairwise (fun x y => x.1 ≠ y.1)) : (L.map (·.1)).Nodup := by
 rw [List.nodup_iff_pairwise_ne,List.pairwise_map]; exact h
theorem Q4h (p:ByteArray) (k:Qd0) (t:Int) : SG ahB (Qow p k t) := by
 unfold SG Qow
 rw [List.pairwise_map]
 refine List.Pairwise.imp ?_ (Qhh (Xk k t))
 intro a b h
 exact Qks.2 (.inr ⟨rfl,.inr ⟨rfl,h⟩⟩)
theorem Qhy {p:ByteArray} {k:Qd0} {t:Int} {x:Ad3} : x ∈ Qow p k t ↔ x.1 = p ∧ x.2.1 = t ∧ x.2.2 ∈ Xk k t := by
 unfold Qow
 rw [List.mem_map]
 constructor
 · rintro ⟨i,hi,rfl⟩; exact ⟨rfl,rfl,Xq.1 hi⟩
 · rintro ⟨h1,h2,h3⟩; exact ⟨x.2.2,Xq.2 h3,by rw [← h1,← h2]⟩
theorem Q4e {ss:Ses} {l:List Ev} (h:Q6g ss l) (p:ByteArray) : SG ahB (Qtq ss p) := by
 unfold SG Qtq
 rw [List.pairwise_flatMap]
 refine ⟨fun t _ => Q4h _ _ _,(Qr8 (Qlg (h.ticks p))).imp fun hlt x hx y hy => ?_⟩
 obtain ⟨x1,x2,_⟩ := Qhy.1 hx
 obtain ⟨y1,y2,_⟩ := Qhy.1 hy
 exact Qks.2 (.inr ⟨x1.trans y1.symm,.inl (by omega)⟩)
theorem Qhx {ss:Ses} {l:List Ev} (h:Q6g ss l) {p:ByteArray} {x:Ad3} : x ∈ Qtq ss p ↔ x.1 = p ∧ ∃ e ∈ l,adE e = x := by
 unfold Qtq
 rw [List.mem_flatMap]
 constructor
 · rintro ⟨t,_,hx⟩
   obtain ⟨h1,h2,h3⟩ := Qhy.1 hx
   obtain ⟨e,he,e1,e2,e3⟩ := (h.item _ _ _).1 h3
   exact ⟨h1,e,he,by unfold adE; rw [e1,e2,e3,← h1,← h2]⟩
 · rintro ⟨h1,e,he,rfl⟩
   refine ⟨e.at_,Ql3.2 ((h.tick _ _).2 ⟨e,he,h1,rfl⟩),Qhy.2 ⟨h1,rfl,(h.item _ _ _).2 ⟨e,he,h1,rfl,rfl⟩⟩⟩
theorem Q4g (l:List Ev) : Q4f (Qg1 l) = Qem ahB (l.map adE) := by
 have h := Q7r l
 refine Qr6 Q57 ?_ (Q0w Q57 _) fun x => ?_
 · unfold SG Q4f
   rw [List.pairwise_flatMap]
   refine ⟨fun p _ => Q4e h p,(Qjw (Xy h.keys)).imp fun hlt x hx y hy => ?_⟩
   have h1 := ((Qhx h).1 hx).1
   have h2 := ((Qhx h).1 hy).1
   exact Qks.2 (.inl (by rw [h1,h2]; exact hlt))
 · rw [Qnb]
   unfold Q4f
   rw [List.mem_flatMap,List.mem_map]
   constructor
   · rintro ⟨p,_,hx⟩
     exact ((Qhx h).1 hx).2
   · rintro ⟨e,he,rfl⟩
     exact ⟨e.person,Qf7.2 ((h.person _).2 ⟨e,he,rfl⟩),(Qhx h).2 ⟨rfl,e,he,rfl⟩⟩
def Qbb (gap:Int) (acc:List Sn) (a:Ad3) : List Sn :=
 match acc.getLast? with
 | some g => if g.person = a.1 ∧ a.2.1 - g.to_ ≤ gap then acc.dropLast ++ [⟨a.1,g.from_,a.2.1,Qxx bLt g.items a.2.2⟩] else acc ++ [⟨a.1,a.2.1,a.2.1,[a.2.2]⟩]
 | none => acc ++ [⟨a.1,a.2.1,a.2.1,[a.2.2]⟩]
theorem Qjg (gap:Int) (acc:List Sn) (g:Sn) (a:Ad3) : Qbb gap (acc ++ [g]) a = if g.person = a.1 ∧ a.2.1 - g.to_ ≤ gap then acc ++ [⟨a.1,g.from_,a.2.1,Qxx bLt g.items a.2.2⟩] else (acc ++ [g]) ++ [⟨a.1,a.2.1,a.2.1,[a.2.2]⟩] := by
 unfold Qbb
 rw [List.getLast?_append,List.getLast?_singleton,Option.some_or,List.dropLast_concat]
def allL (gap:Int) (L:List Ad3) : List Sn := L.foldl (Qbb gap) []
theorem Qoa (gap:Int) (hg:0 ≤ gap) (p:ByteArray) (t:Int) : ∀ (its:List ByteArray) (acc:List Sn) (f:Int) (X:List ByteArray),(its.map fun i => ((p,t,i) : Ad3)).foldl (Qbb gap) (acc ++ [⟨p,f,t,Qbn X⟩]) = acc ++ [⟨p,f,t,Qbn (X ++ its)⟩]
 | [],acc,f,X => by simp
 | i :: its,acc,f,X => by
   have ih := Qoa gap hg p t its acc f (X ++ [i])
   rw [List.map_cons,List.foldl_cons,Qjg,if_pos ⟨rfl,by simp only; omega⟩,Qv1,ih]
   simp
theorem Q5a (i:ByteArray) : Qbn [i] = [i] := by simp [Qbn,Qxl,Q9]
theorem Q3s (gap:Int) (hg:0 ≤ gap) (p:ByteArray) (k:Qd0) (t:Int) (hne:Xk k t ≠ []) :
 (∀ (acc:List Sn),(∀ g,acc.getLast? = some g → g.person ≠ p ∨ gap < t - g.to_) → (Qow p k t).foldl (Qbb gap) acc = acc ++ [⟨p,t,t,Qbn (Xk k t)⟩]) ∧
 (∀ (acc:List Sn) (f u:Int) (X:List ByteArray),t - u ≤ gap → (Qow p k t).foldl (Qbb gap) (acc ++ [⟨p,f,u,Qbn X⟩]) = acc ++ [⟨p,f,t,Qbn (X ++ Xk k t)⟩]) := by
 have hex : Qbn (Xk k t) ≠ [] := by
  intro h
  cases hq : Xk k t with
  | nil => exact hne hq
  | cons y l =>
    have : y ∈ Qbn (Xk k t) := Xq.2 (by rw [hq]; simp)
    rw [h] at this
    simp at this
 unfold Qow
 cases hs : Qbn (Xk k t) with
 | nil => exact absurd hs hex
 | cons i its =>
   have hss : Qbn (i :: its) = Qbn (Xk k t) := by rw [← hs,Q2q]
   refine ⟨fun acc hacc => ?_,fun acc f u X hu => ?_⟩
   · have h1 : Qbb gap acc (p,t,i) = acc ++ [⟨p,t,t,Qbn [i]⟩] := by
      unfold Qbb
      rw [Q5a]
      cases hl : acc.getLast? with
      | none => rfl
      | some g =>
        simp only
        rw [if_neg]
        rintro ⟨h2,h3⟩
        rcases hacc g hl with h | h
        · exact h h2
        · have h3 : t - g.to_ ≤ gap := h3
          omega
     rw [List.map_cons,List.foldl_cons,h1,Qoa gap hg]
     rw [show [i] ++ its = i :: its from rfl,hss,hs]
   · rw [List.map_cons,List.foldl_cons,Qjg,if_pos ⟨rfl,hu⟩,Qv1,Qoa gap hg]
     have : Qbn (X ++ [i] ++ its) = Qbn (X ++ Xk k t) := Qnu fun x => by
      have hx : x ∈ i :: its ↔ x ∈ Xk k t := by rw [← hs]; exact Xq
      have h4 : x ∈ X ++ [i] ++ its ↔ x ∈ X ∨ x ∈ i :: its := by simp [or_assoc]
      rw [h4,hx,List.mem_append]
     rw [this]
theorem Qw2 (gap:Int) (hg:0 ≤ gap) (p:ByteArray) (k:Qd0) (acc:List Sn) (hacc:∀ g,acc.getLast? = some g → g.person ≠ p) : ∀ ts : List Int,(∀ t ∈ ts,Xk k t ≠ []) → (ts.flatMap (Qow p k)).foldl (Qbb gap) acc = acc ++ (Qfn gap k ts).map (Q3o p) := by
 refine Qw (fun _ => by simp [Qfn]) fun ts t ih h => ?_
 have ih := ih fun x hx => h x (by simp [hx])
 obtain ⟨hA,hB⟩ := Q3s gap hg p k t (h t (by simp))
 rw [List.flatMap_append,List.foldl_append,ih,Qgg]
 simp only [List.flatMap_cons,List.flatMap_nil,List.append_nil]
 generalize Qfn gap k ts = G
 clear ih
 unfold Qck
 cases hG : G.getLast? with
 | none =>
   have : G = [] := by simpa using hG
   subst this
   simp only [List.map_nil,List.append_nil,List.map_cons]
   rw [hA acc fun g hl => .inl (hacc g hl)]
   rfl
 | some g =>
   obtain ⟨G',rfl⟩ : ∃ G',G = G' ++ [g] := by
    have := List.getLast?_eq_some_iff.1 hG
    obtain ⟨ys,h⟩ := this
    exact ⟨ys,h⟩
   simp only [List.dropLast_concat]
   by_cases hc : gap < t - g.2.1
   · rw [if_pos hc,hA _ fun g' hl => ?_]
     · simp [Q3o]
     · rw [List.map_append,← List.append_assoc,List.map_cons,List.map_nil,List.getLast?_append,List.getLast?_singleton,Option.some_or] at hl
       injection hl with hl
       subst hl
       exact .inr hc
   · rw [if_neg hc,List.map_append,← List.append_assoc,List.map_cons,List.map_nil]
     rw [show Q3o p g = ⟨p,g.1,g.2.1,Qbn g.2.2⟩ from rfl,hB _ _ _ _ (by omega),List.map_append,List.append_assoc]
     rfl
theorem Q2v {gap:Int} {ss:Ses} {p:ByteArray} {x:Sn} (h:x ∈ Qet gap ss p) : x.person = p := by
 unfold Qet at h
 obtain ⟨g,_,rfl⟩ := List.mem_map.1 h
 rfl
theorem Qm0 (gap:Int) (hg:0 ≤ gap) (ss:Ses) (hne:∀ p t,t ∈ (tks ss p).map (·.1) → Xk (tks ss p) t ≠ []) : ∀ (ps:List ByteArray) (acc:List Sn),ps.Nodup → (∀ g,acc.getLast? = some g → g.person ∉ ps) → (ps.flatMap (Qtq ss)).foldl (Qbb gap) acc = acc ++ ps.flatMap (Qet gap ss)
 | [],acc,_,_ => by simp
 | p :: ps,acc,hn,hl => by
   rw [List.nodup_cons] at hn
   rw [List.flatMap_cons,List.foldl_append,List.flatMap_cons]
   have h1 : (Qtq ss p).foldl (Qbb gap) acc = acc ++ Qet gap ss p := Qw2 gap hg p (tks ss p) acc (fun g hg he => hl g hg (by rw [he]; simp)) _ fun t ht => hne p t (Ql3.1 ht)
   rw [h1,Qm0 gap hg ss hne ps _ hn.2 ?_,List.append_assoc]
   intro g hgl
   rw [List.getLast?_append] at hgl
   cases hq : (Qet gap ss p).getLast? with
   | none =>
     rw [hq,Option.none_or] at hgl
     exact fun hm => hl g hgl (by simp [hm])
   | some x =>
     rw [hq,Option.some_or] at hgl
     injection hgl with hgl
     subst hgl
     rw [Q2v (List.mem_of_getLast? hq)]
     exact hn.1
theorem Q2w (gap:Int) (hg:0 ≤ gap) (l:List Ev) : allL gap (Qem ahB (l.map adE)) = Qh9 gap (Qg1 l) := by
 have h := Q7r l
 rw [← Q4g]
 unfold allL Q4f Qh9
 rw [Qm0 gap hg (Qg1 l) (fun p t ht hne => ?_) _ [] ((Qap _).nodup_iff.2 (Xy h.keys)) (by simp),List.nil_append]
 obtain ⟨e,he,e1,e2⟩ := (h.tick p t).1 ht
 have := (h.item p t e.item).2 ⟨e,he,e1,e2,rfl⟩
 rw [hne] at this
 simp at this
theorem Qry (r:ByteArray) : Qas (Qpx r) = r := by
 have hl : (Qpx r).data.toList = 59 :: r.data.toList := by unfold Qpx; simp
 have hp : Qaa (Qpx r) = some 0 := by unfold Qaa; rw [hl]; rfl
 unfold Qas
 rw [hp]
 simp only
 apply Qz1
 have h2 : ∀ s : ByteArray,s.toList = s.data.toList := fun s => by rw [ByteArray.toList_eq]
 rw [h2,h2,Qd6,hl]
 have : (Qpx r).size = r.size + 1 := by
  have := congrArg List.length hl
  simpa using this
 rw [this]
 simp
 exact List.take_of_length_le (by simp)
theorem Q28 (s:ByteArray) : Qu (Qpx (Qas s)) = Qu s := by rw [Qdx,Qry,Qdx s]
theorem Qn0 : Qu (Qpx ⟨#[]⟩) = [] := by rw [Qdx,Qry,if_pos rfl]
def Q8b (l:List ByteArray) : Prop := (∀ t ∈ l,Qm t = true) ∧ SG bLt l ∧ l.length ≤ 8
theorem Q7x {l:List ByteArray} (h:Qfm l = true) (h8:l.length ≤ 8) : Q8b l := by
 unfold Qfm at h
 rw [List.all_eq_true] at h
 have hk : ∀ i (hi:i < l.length),Qm l[i] = true ∧ (i = 0 ∨ bLt (l.getD (i - 1) .empty) l[i] = true) := fun i hi => by
  have := h i (List.mem_range.2 hi)
  unfold Qmb at this
  rw [getD_lt hi] at this
  simpa using this
 refine ⟨fun t ht => ?_,?_,h8⟩
 · obtain ⟨i,hi,rfl⟩ := List.getElem_of_mem ht
   exact (hk i hi).1
 · have hs : ∀ d i (hi:i + d + 1 < l.length),bLt (l[i]'(by omega)) (l[i + d + 1]'hi) = true := by
    intro d
    induction d with
    | zero =>
      intro i hi
      have := (hk (i + 1) hi).2
      rw [Nat.add_sub_cancel,getD_lt (by omega)] at this
      rcases this with h | h
      · omega
      · exact h
    | succ d ih =>
      intro i hi
      have h1 := ih i (by omega)
      have := (hk (i + (d + 1) + 1) hi).2
      rw [show i + (d + 1) + 1 - 1 = i + d + 1 by omega,getD_lt (by omega)] at this
      rcases this with h | h
      · omega
      · exact Qa1 h1 h
   unfold SG
   rw [List.pairwise_iff_getElem]
   intro i j hi hj hij
   have := hs (j - i - 1) i (by omega)
   have e : i + (j - i - 1) + 1 = j := by omega
   simp only [e] at this
   exact this
theorem Q7t (name:ByteArray) : ∀ es : List Ev,(∀ e ∈ es,Xx e = true) → Q8b (Qu (Qpx (Qy7 name es).item.tags)) := by
 refine Qw (fun _ => ?_) fun es e ih h => ?_
 · show Q8b (Qu (Qpx ⟨#[]⟩))
   rw [Qn0]
   exact ⟨by simp,List.Pairwise.nil,by simp⟩
 · have ih := ih fun x hx => h x (by simp [hx])
   have he := h e (by simp)
   rw [Qnw]
   unfold Qb6
   split
   · next hk =>
     show Q8b (Qu (Qpx (Qas e.text)))
     rw [Q28]
     have hl : Qa6 e.text = true := by
      rcases Qbl (Qcc.1 he).kind with hq | hq | hq | hq | hq | hq | hq
      all_goals first | (exfalso; omega) | exact hq.2.2.2.1
     unfold Qa6 at hl
     simp only [Bool.and_eq_true] at hl
     exact Q7x hl.2.1 (by simpa using hl.2.2)
   · split
     · exact ih
     · exact ih
theorem Q7a (name:ByteArray) (es:List Ev) (h:∀ e ∈ es,Xx e = true) : Q8b (Qu (Qpx (Q9m name es).tags)) := by
 unfold Q9m
 split
 · show Q8b (Qu (Qpx ⟨#[]⟩))
   rw [Qn0]
   exact ⟨by simp,List.Pairwise.nil,by simp⟩
 · exact Q7t name es h
theorem Qu4 (tg:List ByteArray) : (Qbr tg).Nodup := by
 have : ∀ (tg l:List ByteArray),l.Nodup → (tg.foldl Qce l).Nodup := by
  intro tg
  induction tg with
  | nil => intro l h; exact h
  | cons t tg ih =>
    intro l h
    rw [List.foldl_cons]
    refine ih _ ?_
    unfold Qce
    split
    · next hc =>
      have hn : t ∉ l := by
       intro hm
       have := (Lib.containsS_iff _ _).2 hm
       rw [this] at hc
       simp at hc
      rw [List.nodup_append]
      refine ⟨h,by simp,?_⟩
      intro a ha b hb
      rw [List.mem_singleton] at hb
      subst hb
      exact fun e => hn (e ▸ ha)
    · exact h
 exact this tg [] List.nodup_nil
theorem Q29 {z:List Ev} (h:∀ e ∈ z,Xx e = true) : ∀ e ∈ Qz z,Xx e = true := fun e he => h e (List.mem_filter.1 he).1
theorem Qzd {z:List Ev} (h:Rise z) : Rise (Qz z) := h.sublist List.filter_sublist
theorem Q37 (width:Int) (z:List Ev) (e:Ev) : (Qh width (z ++ [e])).rs = (Qh width z).rs ++ if peB e = true then [(e,Qbr (Qbh (Qz z) e))] else [] := by
 have hc := (Qbv width z).1
 rw [Qcb]
 unfold Qcf peB thB
 by_cases h1 : e.kind = 11 ∨ e.kind = 12 ∨ e.kind = 13
 · simp [h1]
 · rw [if_neg h1]
   by_cases h2 : e.kind = 14
   · simp [h2]
   · rw [if_neg h2,← hc]
     simp only [h1,h2,decide_false,Bool.not_false,Bool.and_self,if_true]
     split <;> rfl
theorem Qtg (width:Int) : ∀ z : List Ev,Rise z → (∀ e ∈ z,Xx e = true) → ∀ r ∈ (Qh width z).rs,Xx r.1 = true ∧ r.2.Nodup ∧ r.2.length ≤ 8 := by
 refine Qw (fun _ _ r hr => by simp [Qh,Qs3] at hr) fun z e ih hR hm => ?_
 have hr1 : Rise z := (List.pairwise_append.1 hR).1
 have hm1 : ∀ x ∈ z,Xx x = true := fun x hx => hm x (by simp [hx])
 have ih := ih hr1 hm1
 rw [Q37]
 intro r hr
 rcases List.mem_append.1 hr with hr | hr
 · exact ih r hr
 · split at hr
   · rw [List.mem_singleton] at hr
     subst hr
     refine ⟨hm e (by simp),Qu4 _,Nat.le_trans (Qsn _) ?_⟩
     unfold Qbh
     split
     · rw [Qz8 (Qzd hr1)]
       exact (Q7a e.item _ fun y hy => Q29 hm1 y (List.mem_filter.1 hy).1).2.2
     · simp
   · simp at hr
abbrev Ct := ByteArray × Int
def Qmp (x:Ct) : List Value := [.string x.1,.int .i64 x.2]
theorem Qok (x:Ct) : (Qmp x).length = 2 := rfl
theorem Qol (x:Ct) : ∀ u ∈ Qmp x,u.oneCell' = true := by simp [Qmp,Value.oneCell']
theorem Q87 : Qsx Tryz.prog 73 78 Qmp 2 24 := ⟨by kernel_rfl,⟨_,ty78_ok,rfl,rfl⟩,by78,by decide,by decide,Qok,Qol⟩
theorem Q6c {z:List Ev} (h:∀ e ∈ z,Xx e = true) : ∀ e ∈ z.filter wpB,Xx e = true := fun e he => h e (List.mem_filter.1 he).1
theorem Q5y {e:Ev} (h:Xx e = true) : 0 ≤ e.at_ ∧ e.at_ ≤ 1099511627776 := by
 have := (Qcc.1 h).at_
 exact this
theorem Q8p {c:Cfg} (h:Qqq c = true) : (1 ≤ c.half ∧ c.half ≤ 1099511627776) ∧ (1 ≤ c.width ∧ c.width ≤ 1099511627776) ∧ (1 ≤ c.span ∧ c.span ≤ 1099511627776) ∧ c.span.tmod c.width = 0 ∧ (0 ≤ c.gap ∧ c.gap ≤ 1099511627776) ∧ (0 ≤ c.floor ∧ c.floor ≤ 1048576) ∧ (0 ≤ c.crowd ∧ c.crowd ≤ 1048576) := by
 unfold Qqq inB at h
 simp only [Bool.and_eq_true,decide_eq_true_eq] at h
 obtain ⟨⟨⟨⟨⟨⟨h1,h2⟩,h3⟩,h4⟩,h5⟩,h6⟩,h7⟩ := h
 exact ⟨h1,h2,h3,h4,h5,h6,h7⟩
theorem Q67 {n:Int} (h:1 ≤ n ∧ n ≤ 1099511627776) : Xn n = n := by unfold Xn; omega
theorem Qhv {t width:Int} (hw:1 ≤ width) (h:-4398046511104 ≤ t ∧ t ≤ 4398046511104) : -4398046511104 ≤ t / width ∧ t / width ≤ 4398046511104 := by
 constructor
 · rw [Int.le_ediv_iff_mul_le (by omega)]
   have : -4398046511104 * width ≤ -4398046511104 * 1 := Int.mul_le_mul_of_nonpos_left (by omega) (by omega)
   omega
 · rcases Int.lt_or_le t 0 with h1 | h1
   · have := Int.ediv_neg_of_neg_of_pos h1 (show 0 < width by omega)
     omega
   · have := Int.ediv_le_self width h1
     omega
theorem Qkr.ext {w w1:World} {T:Nat → Prop} {D:List (Ev × SV)} {rs:List Row} (h:Qkr w T D rs) (hT:∀ k,T k → k < w.heap.size) (hx:Ext w w1) : Qkr w1 T D rs :=
 ⟨h.len,fun i d r hd hr => by
  obtain ⟨h1,h2,h3,h4⟩ := h.ev i d r hd hr
  exact ⟨h1,h2,h3.ext hx,h4⟩⟩
theorem Qbe {w w1 w2:World} {T:Nat → Prop} (hx:Ext w w1) (hT:∀ k,T k → w.heap.size ≤ k) (hM:Mod T w1 w2) : Ext w w2 :=
 (Qp (Mod.of_ext (S := fun _ => False) hx) (hM.mono fun k _ hk => .inr (hT k hk))).ext fun _ _ h => h
def Qhi (c:Cfg) (z:List Ev) : List Sn := Qh9 (Q0o c.gap) (Qg1 (z.filter wpB))
def Qyl (c:Cfg) (now:Int) : Int := now - now.tmod (Xn c.width)
end Go.Proofs.YtagijlhciclafaaGreatDoor
