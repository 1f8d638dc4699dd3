/- Several texts in one: Ct, Pl5, Pl6, Sm. -/
import Derived.Test.YteabekcdcphjpaaGreatDoorGF
import Derived.Test.YteabekcdcphjpaaGreatDoorGC
import Derived.Test.YteabekcdcphjpaaGreatDoorGH
set_option linter.unusedVariables false
set_option linter.unusedSimpArgs false
namespace Go.Proofs.YteabekcdcphjpaaGreatDoor
open Go.Se Go.RowKit
theorem Q81 (row:List St) (t:Int) : (stN row t = 0 ∨ ∃ s,row[stN row t - 1]? = some s ∧ s.at_ ≤ t) ∧ (stN row t = row.length ∨ ∃ s,row[stN row t]? = some s ∧ t < s.at_) ∧ stN row t ≤ row.length := by
 unfold stN
 induction row with
 | nil => simp
 | cons a row ih =>
   rw [List.takeWhile_cons]
   by_cases h : a.at_ ≤ t
   · rw [if_pos (by simpa using h)]
     obtain ⟨i1,i2,i3⟩ := ih
     simp only [List.length_cons]
     generalize (row.takeWhile fun s => decide (s.at_ ≤ t)).length = n at *
     refine ⟨.inr ?_,?_,by omega⟩
     · rcases i1 with rfl | ⟨s,hs,hle⟩
       · exact ⟨a,by simp,h⟩
       · cases n with
         | zero => exact ⟨a,by simp,h⟩
         | succ n => exact ⟨s,by simpa using hs,hle⟩
     · rcases i2 with h2 | ⟨s,hs,hlt⟩
       · exact .inl (by omega)
       · exact .inr ⟨s,by simpa using hs,hlt⟩
   · rw [if_neg (by simpa using h)]
     exact ⟨.inl rfl,.inr ⟨a,rfl,by omega⟩,by simp⟩
def thQ (name:ByteArray) (t:Int) (e:Ev) : Bool := decide (e.item = name) && decide (e.at_ ≤ t)
def Q0g (name:ByteArray) (es:List Ev) : St := es.foldl Qcj (Qik name)
theorem Qon (name:ByteArray) (es:List Ev) (e:Ev) : Q0g name (es ++ [e]) = Qcj (Q0g name es) e := by simp [Q0g]
def Xaw (name:ByteArray) (es:List Ev) : It := if es.isEmpty then Qc9 else (Q0g name es).item
theorem Qin {row:List St} {t:Int} (h:∀ s ∈ row,s.at_ ≤ t) : stN row t = row.length := by
 unfold stN
 have : row.takeWhile (fun s => decide (s.at_ ≤ t)) = row := by
  have := List.takeWhile_append_of_pos (l₂ := []) (p := fun s : St => decide (s.at_ ≤ t)) (l₁ := row) (fun s hs => by simpa using h s hs)
  simpa using this
 rw [this]
theorem Q38 : ∀ (cs:List Ev),Rise cs → ∀ (name:ByteArray) (t:Int),
 (stN (Q3 cs name) t = 0 ↔ cs.filter (thQ name t) = []) ∧ (stN (Q3 cs name) t ≠ 0 → (Q3 cs name)[stN (Q3 cs name) t - 1]? = some (Q0g name (cs.filter (thQ name t)))) := by
 refine Qy ?_ ?_
 · intro _ name t
   simp [Q3,stN]
 · intro cs e ih h name t
   have h1 : Rise cs := (List.pairwise_append.1 h).1
   have h2 := (List.pairwise_append.1 h).2.2
   obtain ⟨i1,i2⟩ := ih h1 name t
   obtain ⟨r1,r2⟩ := Qju cs h1 name
   rw [Qb5,List.filter_append]
   unfold Qfr Qho
   by_cases hn : name = e.item
   · rw [if_pos hn]
     subst hn
     generalize hrow : Q3 cs e.item = row at *
     have hle : ∀ s ∈ row,s.at_ ≤ e.at_ := fun s hs => by
      obtain ⟨e',he',h3,_⟩ := r2 s hs
      have := Q2l (h2 e' he' e (by simp)); omega
     by_cases ht : e.at_ ≤ t
     · have hq : thQ e.item t e = true := by simp [thQ,ht]
       have hall : ∀ s ∈ row ++ [Qfe row e],s.at_ ≤ t := fun s hs => by
        rcases List.mem_append.1 hs with hs | hs
        · have := hle s hs; omega
        · simp at hs; subst hs; unfold Qfe; rw [Qf5]; exact ht
       have hN : stN row t = row.length := Qin fun s hs => hall s (by simp [hs])
       rw [Qin hall]
       refine ⟨by simp [List.filter_cons,hq],fun _ => ?_⟩
       simp only [List.filter_cons,hq,if_true,List.filter_nil,Qon]
       rw [List.length_append,List.length_singleton,Nat.add_sub_cancel,List.getElem?_append_right (Nat.le_refl _),Nat.sub_self]
       unfold Qfe
       rw [hN] at i1 i2
       congr 2
       by_cases h0 : row.length = 0
       · have h3 := i1.1 h0
         rw [h3,List.length_eq_zero_iff.1 h0]
         rfl
       · rw [List.getLast?_eq_getElem?,i2 h0]; rfl
     · have hq : thQ e.item t e = false := by simp [thQ,ht]
       have hN : stN (row ++ [Qfe row e]) t = stN row t := by
        unfold stN
        rw [List.takeWhile_append]
        split
        · rw [List.takeWhile_cons_of_neg (by unfold Qfe; rw [Qf5]; simpa using ht)]
          simp; omega
        · rfl
       rw [hN]
       simp only [List.filter_cons,hq,Bool.false_eq_true,if_false,List.filter_nil,List.append_nil]
       refine ⟨i1,fun h0 => ?_⟩
       have := (Q81 row t).2.2
       rw [List.getElem?_append_left (by omega)]
       exact i2 h0
   · rw [if_neg hn]
     have hq : thQ name t e = false := by simp [thQ,Ne.symm hn]
     simp only [List.filter_cons,hq,Bool.false_eq_true,if_false,List.filter_nil,List.append_nil]
     exact ⟨i1,i2⟩
theorem Q1n {cs:List Ev} (h:Rise cs) (name:ByteArray) (t:Int) : X4 cs name t = (Xaw name (cs.filter (thQ name t)),!(cs.filter (thQ name t)).isEmpty) := by
 obtain ⟨h1,h2⟩ := Q38 cs h name t
 unfold X4 Xaw
 by_cases h0 : stN (Q3 cs name) t = 0
 · have h3 := h1.1 h0
   rw [h3,h0]
   cases (Q3 cs name)[0 - 1]? <;> rfl
 · have h3 : cs.filter (thQ name t) ≠ [] := fun h => h0 (h1.2 h)
   rw [h2 h0]
   simp only [if_neg h0]
   generalize cs.filter (thQ name t) = F at h3
   cases F with
   | nil => exact absurd rfl h3
   | cons a es => rfl
structure Sto {α:Type} (lt:α → α → Bool) : Prop where
 irrefl : ∀ a,lt a a = false
 trans : ∀ {a b c},lt a b = true → lt b c = true → lt a c = true
 tri : ∀ {a b},lt a b = false → lt b a = false → a = b
theorem Qqs : Sto bLt := ⟨Qae,Qbb,Qbz⟩
def SG {α:Type} (lt:α → α → Bool) (l:List α) : Prop := l.Pairwise fun x y => lt x y = true
theorem SG.nodup {α:Type} {lt:α → α → Bool} (O:Sto lt) {l:List α} (h:SG lt l) : l.Nodup := h.imp fun h e => by rw [e,O.irrefl] at h; cases h
theorem Qs5 {α:Type} {lt:α → α → Bool} (O:Sto lt) {a b:α} (h:lt a b = true) : lt b a = false := by
 cases hb : lt b a with
 | false => rfl
 | true => have := O.trans h hb; rw [O.irrefl] at this; cases this
theorem Qmq {α:Type} {lt:α → α → Bool} (O:Sto lt) {l m:List α} (h1:SG lt l) (h2:SG lt m) (hm:∀ x,x ∈ l ↔ x ∈ m) : l = m :=
 List.Perm.eq_of_pairwise (le := fun a b => lt b a = false) (fun a b _ _ h1 h2 => O.tri h2 h1) (h1.imp fun h => Qs5 O h) (h2.imp fun h => Qs5 O h) (Qcy (h1.nodup O) (h2.nodup O) (fun x hx => (hm x).1 hx) fun x hx => (hm x).2 hx)
section
variable {α:Type} [DecidableEq α] {lt:α → α → Bool}
def Qw3 (lt:α → α → Bool) (l:List α) (a:α) : List α :=
 if (l.dropWhile fun x => lt x a).head? = some a then l else l.takeWhile (fun x => lt x a) ++ a :: l.dropWhile (fun x => lt x a)
theorem Qpp (a:α) : Qw3 lt [] a = [a] := by simp [Qw3]
theorem Qlv (x:α) (l:List α) (a:α) : Qw3 lt (x :: l) a = if lt x a = true then x :: Qw3 lt l a else if x = a then x :: l else a :: x :: l := by
 unfold Qw3
 rw [List.takeWhile_cons,List.dropWhile_cons]
 cases h : lt x a with
 | true =>
   simp only [if_true]
   split <;> simp
 | false =>
   simp only [Bool.false_eq_true,if_false,List.head?_cons,Option.some.injEq,List.nil_append]
theorem Qgg {x a:α} : ∀ {l:List α},x ∈ Qw3 lt l a ↔ x ∈ l ∨ x = a
 | [] => by rw [Qpp]; simp
 | y :: l => by
   have ih := Qgg (x := x) (a := a) (l := l)
   rw [Qlv]
   split
   · rw [List.mem_cons,ih,List.mem_cons]; exact or_assoc.symm
   · split
     · next h =>
       subst h
       constructor
       · exact .inl
       · rintro (h | rfl)
         · exact h
         · simp
     · rw [List.mem_cons]; exact or_comm
theorem Qus (O:Sto lt) {a:α} : ∀ {l:List α},SG lt l → SG lt (Qw3 lt l a)
 | [],_ => by rw [Qpp]; exact List.pairwise_singleton _ _
 | y :: l,h => by
   have h' := List.pairwise_cons.1 h
   have ih := Qus O (a := a) h'.2
   rw [Qlv]
   split
   · next hy =>
     refine List.pairwise_cons.2 ⟨fun x hx => ?_,ih⟩
     rcases Qgg.1 hx with hx | rfl
     · exact h'.1 x hx
     · exact hy
   · next hy =>
     split
     · exact h
     · next hne =>
       have hay : lt a y = true := by
        cases hq : lt a y with
        | true => rfl
        | false => exact absurd (O.tri (by simpa using hy) hq) hne
       refine List.pairwise_cons.2 ⟨fun x hx => ?_,h⟩
       rcases List.mem_cons.1 hx with rfl | hx
       · exact hay
       · exact O.trans hay (h'.1 x hx)
def Qd7 (lt:α → α → Bool) (l:List α) : List α := l.foldl (Qw3 lt) []
theorem Qhd (l:List α) (a:α) : Qd7 lt (l ++ [a]) = Qw3 lt (Qd7 lt l) a := by unfold Qd7; rw [List.foldl_append]; rfl
theorem Qn4 {x:α} : ∀ l : List α,x ∈ Qd7 lt l ↔ x ∈ l := by
 refine Qy (by simp [Qd7]) fun l a ih => ?_
 rw [Qhd,Qgg,ih,List.mem_append,List.mem_singleton]
theorem Q2a (O:Sto lt) : ∀ l : List α,SG lt (Qd7 lt l) := by
 refine Qy List.Pairwise.nil fun l a ih => ?_
 rw [Qhd]
 exact Qus O ih
theorem Qpo (a:α) : ∀ l : List α,(Qw3 lt l a).length ≤ l.length + 1
 | [] => by rw [Qpp]; simp
 | y :: l => by
   have ih := Qpo a l
   rw [Qlv]
   split
   · simp; omega
   · split <;> simp
theorem Qn3 : ∀ l : List α,(Qd7 lt l).length ≤ l.length := by
 refine Qy (by simp [Qd7]) fun l a ih => ?_
 rw [Qhd]
 have := Qpo (lt := lt) a (Qd7 lt l)
 simp; omega
end
theorem Qeb {l:List ByteArray} (h:l.Nodup) : SG bLt (Xr l) := by
 have h1 := Qii l
 have h2 : (Xr l).Pairwise (· ≠ ·) := List.nodup_iff_pairwise_ne.1 ((Qcp l).nodup_iff.2 h)
 refine (List.Pairwise.and h1 h2).imp ?_
 rintro a b ⟨h3,h4⟩
 cases hc : bLt a b with
 | true => rfl
 | false => exact absurd (Qbz hc h3) h4
theorem Qsr {l:List Int} (h:l.Nodup) : (Qd3 l).Pairwise (· < ·) := by
 have h1 := Qmz l
 have h2 : (Qd3 l).Pairwise (· ≠ ·) := List.nodup_iff_pairwise_ne.1 ((Qdm l).nodup_iff.2 h)
 refine (List.Pairwise.and h1 h2).imp ?_
 rintro a b ⟨h3,h4⟩
 omega
theorem Qhk (l:List ByteArray) : SG bLt (Qc8 l) := Qeb (Qen l)
theorem Qw4 (l:List ByteArray) (s:ByteArray) : Qw3 bLt (Qc8 l) s = Qc8 (l ++ [s]) :=
 Qmq Qqs (Qus Qqs (Qhk l)) (Qhk _) fun x => by rw [Qgg,Xz,Xz,List.mem_append,List.mem_singleton]
theorem Q3v (l:List ByteArray) : Qc8 (Qc8 l) = Qc8 l := Qjq fun x => Xz
abbrev Ad3 := ByteArray × Int × ByteArray
def adE (e:Ev) : Ad3 := (e.person,e.at_,e.item)
def ahB (a b:Ad3) : Bool := if a.1 = b.1 then (if a.2.1 = b.2.1 then bLt a.2.2 b.2.2 else decide (a.2.1 < b.2.1)) else bLt a.1 b.1
theorem Qlb {a b:Ad3} : ahB a b = true ↔ bLt a.1 b.1 = true ∨ (a.1 = b.1 ∧ (a.2.1 < b.2.1 ∨ (a.2.1 = b.2.1 ∧ bLt a.2.2 b.2.2 = true))) := by
 unfold ahB
 by_cases h1 : a.1 = b.1
 · have hi : bLt a.1 b.1 = false := by rw [h1]; exact Qae _
   rw [if_pos h1]
   by_cases h2 : a.2.1 = b.2.1
   · rw [if_pos h2]
     constructor
     · intro h; exact .inr ⟨h1,.inr ⟨h2,h⟩⟩
     · rintro (h | ⟨_,h | ⟨_,h⟩⟩)
       · rw [hi] at h; cases h
       · omega
       · exact h
   · rw [if_neg h2,decide_eq_true_eq]
     constructor
     · intro h; exact .inr ⟨h1,.inl h⟩
     · rintro (h | ⟨_,h | ⟨h,_⟩⟩)
       · rw [hi] at h; cases h
       · exact h
       · exact absurd h h2
 · rw [if_neg h1]
   constructor
   · exact .inl
   · rintro (h | ⟨h,_⟩)
     · exact h
     · exact absurd h h1
theorem Q7j : Sto ahB where
 irrefl a := by unfold ahB; rw [if_pos rfl,if_pos rfl]; exact Qae _
 trans := by
  intro a b c h k
  rw [Qlb] at *
  rcases h with h | ⟨h,h'⟩ <;> rcases k with k | ⟨k,k'⟩
  · exact .inl (Qbb h k)
  · exact .inl (k ▸ h)
  · exact .inl (h ▸ k)
  · refine .inr ⟨h.trans k,?_⟩
    rcases h' with h' | ⟨h',h2⟩ <;> rcases k' with k' | ⟨k',k2⟩
    · exact .inl (by omega)
    · exact .inl (by omega)
    · exact .inl (by omega)
    · exact .inr ⟨by omega,Qbb h2 k2⟩
 tri := by
  intro a b h k
  obtain ⟨a1,a2,a3⟩ := a
  obtain ⟨b1,b2,b3⟩ := b
  rw [← Bool.not_eq_true,Qlb] at h k
  simp only at h k
  have e1 : a1 = b1 := Qbz (by rw [← Bool.not_eq_true]; exact fun x => h (.inl x)) (by rw [← Bool.not_eq_true]; exact fun x => k (.inl x))
  subst e1
  have e2 : a2 = b2 := by
   rcases Int.lt_trichotomy a2 b2 with x | x | x
   · exact absurd (.inr ⟨rfl,.inl x⟩) h
   · exact x
   · exact absurd (.inr ⟨rfl,.inl x⟩) k
  subst e2
  have e3 : a3 = b3 := Qbz (by rw [← Bool.not_eq_true]; exact fun x => h (.inr ⟨rfl,.inr ⟨rfl,x⟩⟩)) (by rw [← Bool.not_eq_true]; exact fun x => k (.inr ⟨rfl,.inr ⟨rfl,x⟩⟩))
  rw [e3]
def tks (ss:Ses) (p:ByteArray) : Qd1 := (Qc ss p).getD []
theorem Qk2 (s:Ses) (P I:ByteArray) (T:Int) (p:ByteArray) : tks (Qq7 s P T I) p = if p = P then Qz (tks s P) T (Qz ((Qc (tks s P) T).getD []) I true) else tks s p := by
 unfold tks Qq7
 rw [Q5]
 split <;> rfl
theorem Qfn {κ β:Type} [DecidableEq κ] {k x:κ} {v:β} {l:List (κ × β)} : x ∈ (Qz l k v).map (·.1) ↔ x ∈ l.map (·.1) ∨ x = k := by
 rw [Qfo]
 split
 · next h =>
   constructor
   · exact .inl
   · rintro (h1 | rfl)
     · exact h1
     · exact h
 · rw [List.mem_append,List.mem_singleton]
theorem Qv2 (m:Qd1) (T t:Int) (x:List (ByteArray × Bool)) : Xl (Qz m T x) t = if t = T then x.map (·.1) else Xl m t := by
 unfold Xl
 rw [Q5]
 split <;> rfl
structure Q7r (ss:Ses) (l:List Ev) : Prop where
 keys : ss.Pairwise (fun x y => x.1 ≠ y.1)
 ticks : ∀ p,(tks ss p).Pairwise (fun x y => x.1 ≠ y.1)
 item : ∀ p t i,i ∈ Xl (tks ss p) t ↔ ∃ e ∈ l,e.person = p ∧ e.at_ = t ∧ e.item = i
 tick : ∀ p t,t ∈ (tks ss p).map (·.1) ↔ ∃ e ∈ l,e.person = p ∧ e.at_ = t
 person : ∀ p,p ∈ ss.map (·.1) ↔ ∃ e ∈ l,e.person = p
theorem Q6m : ∀ l : List Ev,Q7r (Qdn l) l := by
 refine Qy ⟨List.Pairwise.nil,fun p => List.Pairwise.nil,fun p t i => by simp [Qdn,tks,Qc,Xl],fun p t => by simp [Qdn,tks,Qc],fun p => by simp [Qdn]⟩ fun l e ih => ?_
 rw [Qqq]
 refine ⟨X8 ih.keys,fun p => ?_,fun p t i => ?_,fun p t => ?_,fun p => ?_⟩
 · rw [Qk2]
   split
   · exact X8 (ih.ticks _)
   · exact ih.ticks p
 · rw [Qk2]
   have hx : (∃ x ∈ l ++ [e],x.person = p ∧ x.at_ = t ∧ x.item = i) ↔ (∃ x ∈ l,x.person = p ∧ x.at_ = t ∧ x.item = i) ∨ (e.person = p ∧ e.at_ = t ∧ e.item = i) := by
    constructor
    · rintro ⟨x,hx,h⟩
      rcases List.mem_append.1 hx with hx | hx
      · exact .inl ⟨x,hx,h⟩
      · rw [List.mem_singleton] at hx; subst hx; exact .inr h
    · rintro (⟨x,hx,h⟩ | h)
      · exact ⟨x,by simp [hx],h⟩
      · exact ⟨e,by simp,h⟩
   rw [hx,← ih.item]
   by_cases hp : p = e.person
   · subst hp
     rw [if_pos rfl,Qv2]
     by_cases ht : t = e.at_
     · subst ht
       rw [if_pos rfl,Qfn]
       show (i ∈ Xl (tks (Qdn l) e.person) e.at_ ∨ i = e.item) ↔ _
       constructor
       · rintro (h | h)
         · exact .inl h
         · exact .inr ⟨rfl,rfl,h.symm⟩
       · rintro (h | ⟨_,_,h⟩)
         · exact .inl h
         · exact .inr h.symm
     · rw [if_neg ht]
       constructor
       · exact .inl
       · rintro (h | ⟨_,h,_⟩)
         · exact h
         · exact absurd h.symm ht
   · rw [if_neg hp]
     constructor
     · exact .inl
     · rintro (h | ⟨h,_⟩)
       · exact h
       · exact absurd h.symm hp
 · rw [Qk2]
   have hx : (∃ x ∈ l ++ [e],x.person = p ∧ x.at_ = t) ↔ (∃ x ∈ l,x.person = p ∧ x.at_ = t) ∨ (e.person = p ∧ e.at_ = t) := by
    constructor
    · rintro ⟨x,hx,h⟩
      rcases List.mem_append.1 hx with hx | hx
      · exact .inl ⟨x,hx,h⟩
      · rw [List.mem_singleton] at hx; subst hx; exact .inr h
    · rintro (⟨x,hx,h⟩ | h)
      · exact ⟨x,by simp [hx],h⟩
      · exact ⟨e,by simp,h⟩
   rw [hx,← ih.tick]
   by_cases hp : p = e.person
   · subst hp
     rw [if_pos rfl,Qfn]
     constructor
     · rintro (h | h)
       · exact .inl h
       · exact .inr ⟨rfl,h.symm⟩
     · rintro (h | ⟨_,h⟩)
       · exact .inl h
       · exact .inr h.symm
   · rw [if_neg hp]
     constructor
     · exact .inl
     · rintro (h | ⟨h,_⟩)
       · exact h
       · exact absurd h.symm hp
 · show p ∈ (Qz _ _ _).map (·.1) ↔ _
   rw [Qfn,ih.person]
   constructor
   · rintro (⟨x,hx,h⟩ | rfl)
     · exact ⟨x,by simp [hx],h⟩
     · exact ⟨e,by simp,rfl⟩
   · rintro ⟨x,hx,h⟩
     rcases List.mem_append.1 hx with hx | hx
     · exact .inl ⟨x,hx,h⟩
     · rw [List.mem_singleton] at hx; subst hx; exact .inr h.symm
def Qpk (p:ByteArray) (k:Qd1) (t:Int) : List Ad3 := (Qc8 (Xl k t)).map fun i => (p,t,i)
def Quo (ss:Ses) (p:ByteArray) : List Ad3 := (Qd3 ((tks ss p).map (·.1))).flatMap (Qpk p (tks ss p))
def Q5l (ss:Ses) : List Ad3 := (Xr (ss.map (·.1))).flatMap (Quo ss)
theorem Ql2 {β:Type} {L:List (Int × β)} (h:L.Pairwise (fun x y => x.1 ≠ y.1)) : (L.map (·.1)).Nodup := by
 rw [List.nodup_iff_pairwise_ne,List.pairwise_map]; exact h
theorem Q5n (p:ByteArray) (k:Qd1) (t:Int) : SG ahB (Qpk p k t) := by
 unfold SG Qpk
 rw [List.pairwise_map]
 refine List.Pairwise.imp ?_ (Qhk (Xl k t))
 intro a b h
 exact Qlb.2 (.inr ⟨rfl,.inr ⟨rfl,h⟩⟩)
theorem Qh1 {p:ByteArray} {k:Qd1} {t:Int} {x:Ad3} : x ∈ Qpk p k t ↔ x.1 = p ∧ x.2.1 = t ∧ x.2.2 ∈ Xl k t := by
 unfold Qpk
 rw [List.mem_map]
 constructor
 · rintro ⟨i,hi,rfl⟩; exact ⟨rfl,rfl,Xz.1 hi⟩
 · rintro ⟨h1,h2,h3⟩; exact ⟨x.2.2,Xz.2 h3,by rw [← h1,← h2]⟩
theorem Q5k {ss:Ses} {l:List Ev} (h:Q7r ss l) (p:ByteArray) : SG ahB (Quo ss p) := by
 unfold SG Quo
 rw [List.pairwise_flatMap]
 refine ⟨fun t _ => Q5n _ _ _,(Qsr (Ql2 (h.ticks p))).imp fun hlt x hx y hy => ?_⟩
 obtain ⟨x1,x2,_⟩ := Qh1.1 hx
 obtain ⟨y1,y2,_⟩ := Qh1.1 hy
 exact Qlb.2 (.inr ⟨x1.trans y1.symm,.inl (by omega)⟩)
theorem Qh0 {ss:Ses} {l:List Ev} (h:Q7r ss l) {p:ByteArray} {x:Ad3} : x ∈ Quo ss p ↔ x.1 = p ∧ ∃ e ∈ l,adE e = x := by
 unfold Quo
 rw [List.mem_flatMap]
 constructor
 · rintro ⟨t,_,hx⟩
   obtain ⟨h1,h2,h3⟩ := Qh1.1 hx
   obtain ⟨e,he,e1,e2,e3⟩ := (h.item _ _ _).1 h3
   exact ⟨h1,e,he,by unfold adE; rw [e1,e2,e3,← h1,← h2]⟩
 · rintro ⟨h1,e,he,rfl⟩
   refine ⟨e.at_,Qmx.2 ((h.tick _ _).2 ⟨e,he,h1,rfl⟩),Qh1.2 ⟨h1,rfl,(h.item _ _ _).2 ⟨e,he,h1,rfl,rfl⟩⟩⟩
theorem Q5m (l:List Ev) : Q5l (Qdn l) = Qd7 ahB (l.map adE) := by
 have h := Q6m l
 refine Qmq Q7j ?_ (Q2a Q7j _) fun x => ?_
 · unfold SG Q5l
   rw [List.pairwise_flatMap]
   refine ⟨fun p _ => Q5k h p,(Qeb (Qal h.keys)).imp fun hlt x hx y hy => ?_⟩
   have h1 := ((Qh0 h).1 hx).1
   have h2 := ((Qh0 h).1 hy).1
   exact Qlb.2 (.inl (by rw [h1,h2]; exact hlt))
 · rw [Qn4]
   unfold Q5l
   rw [List.mem_flatMap,List.mem_map]
   constructor
   · rintro ⟨p,_,hx⟩
     exact ((Qh0 h).1 hx).2
   · rintro ⟨e,he,rfl⟩
     exact ⟨e.person,Qdy.2 ((h.person _).2 ⟨e,he,rfl⟩),(Qh0 h).2 ⟨rfl,e,he,rfl⟩⟩
def Qaw (gap:Int) (acc:List Sn) (a:Ad3) : List Sn :=
 match acc.getLast? with
 | some g => if g.person = a.1 ∧ a.2.1 - g.to_ ≤ gap then acc.dropLast ++ [⟨a.1,g.from_,a.2.1,Qw3 bLt g.items a.2.2⟩] else acc ++ [⟨a.1,a.2.1,a.2.1,[a.2.2]⟩]
 | none => acc ++ [⟨a.1,a.2.1,a.2.1,[a.2.2]⟩]
theorem Qjt (gap:Int) (acc:List Sn) (g:Sn) (a:Ad3) : Qaw gap (acc ++ [g]) a = if g.person = a.1 ∧ a.2.1 - g.to_ ≤ gap then acc ++ [⟨a.1,g.from_,a.2.1,Qw3 bLt g.items a.2.2⟩] else (acc ++ [g]) ++ [⟨a.1,a.2.1,a.2.1,[a.2.2]⟩] := by
 unfold Qaw
 rw [List.getLast?_append,List.getLast?_singleton,Option.some_or,List.dropLast_concat]
def allL (gap:Int) (L:List Ad3) : List Sn := L.foldl (Qaw gap) []
theorem Qo2 (gap:Int) (hg:0 ≤ gap) (p:ByteArray) (t:Int) : ∀ (its:List ByteArray) (acc:List Sn) (f:Int) (X:List ByteArray),(its.map fun i => ((p,t,i) : Ad3)).foldl (Qaw gap) (acc ++ [⟨p,f,t,Qc8 X⟩]) = acc ++ [⟨p,f,t,Qc8 (X ++ its)⟩]
 | [],acc,f,X => by simp
 | i :: its,acc,f,X => by
   have ih := Qo2 gap hg p t its acc f (X ++ [i])
   rw [List.map_cons,List.foldl_cons,Qjt,if_pos ⟨rfl,by simp only; omega⟩,Qw4,ih]
   simp
theorem Q6j (i:ByteArray) : Qc8 [i] = [i] := by simp [Qc8,Q1w,Xr]
theorem Q41 (gap:Int) (hg:0 ≤ gap) (p:ByteArray) (k:Qd1) (t:Int) (hne:Xl k t ≠ []) :
 (∀ (acc:List Sn),(∀ g,acc.getLast? = some g → g.person ≠ p ∨ gap < t - g.to_) → (Qpk p k t).foldl (Qaw gap) acc = acc ++ [⟨p,t,t,Qc8 (Xl k t)⟩]) ∧
 (∀ (acc:List Sn) (f u:Int) (X:List ByteArray),t - u ≤ gap → (Qpk p k t).foldl (Qaw gap) (acc ++ [⟨p,f,u,Qc8 X⟩]) = acc ++ [⟨p,f,t,Qc8 (X ++ Xl k t)⟩]) := by
 have hex : Qc8 (Xl k t) ≠ [] := by
  intro h
  cases hq : Xl k t with
  | nil => exact hne hq
  | cons y l =>
    have : y ∈ Qc8 (Xl k t) := Xz.2 (by rw [hq]; simp)
    rw [h] at this
    simp at this
 unfold Qpk
 cases hs : Qc8 (Xl k t) with
 | nil => exact absurd hs hex
 | cons i its =>
   have hss : Qc8 (i :: its) = Qc8 (Xl k t) := by rw [← hs,Q3v]
   refine ⟨fun acc hacc => ?_,fun acc f u X hu => ?_⟩
   · have h1 : Qaw gap acc (p,t,i) = acc ++ [⟨p,t,t,Qc8 [i]⟩] := by
      unfold Qaw
      rw [Q6j]
      cases hl : acc.getLast? with
      | none => rfl
      | some g =>
        simp only
        rw [if_neg]
        rintro ⟨h2,h3⟩
        rcases hacc g hl with h | h
        · exact h h2
        · have h3 : t - g.to_ ≤ gap := h3
          omega
     rw [List.map_cons,List.foldl_cons,h1,Qo2 gap hg]
     rw [show [i] ++ its = i :: its from rfl,hss,hs]
   · rw [List.map_cons,List.foldl_cons,Qjt,if_pos ⟨rfl,hu⟩,Qw4,Qo2 gap hg]
     have : Qc8 (X ++ [i] ++ its) = Qc8 (X ++ Xl k t) := Qjq fun x => by
      have hx : x ∈ i :: its ↔ x ∈ Xl k t := by rw [← hs]; exact Xz
      have h4 : x ∈ X ++ [i] ++ its ↔ x ∈ X ∨ x ∈ i :: its := by simp [or_assoc]
      rw [h4,hx,List.mem_append]
     rw [this]
theorem Qyh (gap:Int) (hg:0 ≤ gap) (p:ByteArray) (k:Qd1) (acc:List Sn) (hacc:∀ g,acc.getLast? = some g → g.person ≠ p) : ∀ ts : List Int,(∀ t ∈ ts,Xl k t ≠ []) → (ts.flatMap (Qpk p k)).foldl (Qaw gap) acc = acc ++ (Qfi gap k ts).map (Q4s p) := by
 refine Qy (fun _ => by simp [Qfi]) fun ts t ih h => ?_
 have ih := ih fun x hx => h x (by simp [hx])
 obtain ⟨hA,hB⟩ := Q41 gap hg p k t (h t (by simp))
 rw [List.flatMap_append,List.foldl_append,ih,Qgf]
 simp only [List.flatMap_cons,List.flatMap_nil,List.append_nil]
 generalize Qfi gap k ts = G
 clear ih
 unfold Qco
 cases hG : G.getLast? with
 | none =>
   have : G = [] := by simpa using hG
   subst this
   simp only [List.map_nil,List.append_nil,List.map_cons]
   rw [hA acc fun g hl => .inl (hacc g hl)]
   rfl
 | some g =>
   obtain ⟨G',rfl⟩ : ∃ G',G = G' ++ [g] := by
    have := List.getLast?_eq_some_iff.1 hG
    obtain ⟨ys,h⟩ := this
    exact ⟨ys,h⟩
   simp only [List.dropLast_concat]
   by_cases hc : gap < t - g.2.1
   · rw [if_pos hc,hA _ fun g' hl => ?_]
     · simp [Q4s]
     · rw [List.map_append,← List.append_assoc,List.map_cons,List.map_nil,List.getLast?_append,List.getLast?_singleton,Option.some_or] at hl
       injection hl with hl
       subst hl
       exact .inr hc
   · rw [if_neg hc,List.map_append,← List.append_assoc,List.map_cons,List.map_nil]
     rw [show Q4s p g = ⟨p,g.1,g.2.1,Qc8 g.2.2⟩ from rfl,hB _ _ _ _ (by omega),List.map_append,List.append_assoc]
     rfl
theorem Q31 {gap:Int} {ss:Ses} {p:ByteArray} {x:Sn} (h:x ∈ Qc0 gap ss p) : x.person = p := by
 unfold Qc0 at h
 obtain ⟨g,_,rfl⟩ := List.mem_map.1 h
 rfl
theorem Qnq (gap:Int) (hg:0 ≤ gap) (ss:Ses) (hne:∀ p t,t ∈ (tks ss p).map (·.1) → Xl (tks ss p) t ≠ []) : ∀ (ps:List ByteArray) (acc:List Sn),ps.Nodup → (∀ g,acc.getLast? = some g → g.person ∉ ps) → (ps.flatMap (Quo ss)).foldl (Qaw gap) acc = acc ++ ps.flatMap (Qc0 gap ss)
 | [],acc,_,_ => by simp
 | p :: ps,acc,hn,hl => by
   rw [List.nodup_cons] at hn
   rw [List.flatMap_cons,List.foldl_append,List.flatMap_cons]
   have h1 : (Quo ss p).foldl (Qaw gap) acc = acc ++ Qc0 gap ss p := Qyh gap hg p (tks ss p) acc (fun g hg he => hl g hg (by rw [he]; simp)) _ fun t ht => hne p t (Qmx.1 ht)
   rw [h1,Qnq gap hg ss hne ps _ hn.2 ?_,List.append_assoc]
   intro g hgl
   rw [List.getLast?_append] at hgl
   cases hq : (Qc0 gap ss p).getLast? with
   | none =>
     rw [hq,Option.none_or] at hgl
     exact fun hm => hl g hgl (by simp [hm])
   | some x =>
     rw [hq,Option.some_or] at hgl
     injection hgl with hgl
     subst hgl
     rw [Q31 (List.mem_of_getLast? hq)]
     exact hn.1
theorem Qqm (gap:Int) (hg:0 ≤ gap) (l:List Ev) : allL gap (Qd7 ahB (l.map adE)) = Qg4 gap (Qdn l) := by
 have h := Q6m l
 rw [← Q5m]
 unfold allL Q5l Qg4
 rw [Qnq gap hg (Qdn l) (fun p t ht hne => ?_) _ [] ((Qcp _).nodup_iff.2 (Qal h.keys)) (by simp),List.nil_append]
 obtain ⟨e,he,e1,e2⟩ := (h.tick p t).1 ht
 have := (h.item p t e.item).2 ⟨e,he,e1,e2,rfl⟩
 rw [hne] at this
 simp at this
theorem Qsl (r:ByteArray) : Qau (Qqe r) = r := by
 have hl : (Qqe r).data.toList = 59 :: r.data.toList := by unfold Qqe; simp
 have hp : Qai (Qqe r) = some 0 := by unfold Qai; rw [hl]; rfl
 unfold Qau
 rw [hp]
 simp only
 apply Q1g
 have h2 : ∀ s : ByteArray,s.toList = s.data.toList := fun s => by rw [ByteArray.toList_eq]
 rw [h2,h2,Qd6,hl]
 have : (Qqe r).size = r.size + 1 := by
  have := congrArg List.length hl
  simpa using this
 rw [this]
 simp
 exact List.take_of_length_le (by simp)
theorem Q4g (s:ByteArray) : Qu (Qqe (Qau s)) = Qu s := by rw [Qdx,Qsl,Qdx s]
theorem Qoq : Qu (Qqe ⟨#[]⟩) = [] := by rw [Qdx,Qsl,if_pos rfl]
def Q9i (l:List ByteArray) : Prop := (∀ t ∈ l,Qi t = true) ∧ SG bLt l ∧ l.length ≤ 8
theorem Q86 {l:List ByteArray} (h:Qff l = true) (h8:l.length ≤ 8) : Q9i l := by
 unfold Qff at h
 rw [List.all_eq_true] at h
 have hk : ∀ i (hi:i < l.length),Qi l[i] = true ∧ (i = 0 ∨ bLt (l.getD (i - 1) .empty) l[i] = true) := fun i hi => by
  have := h i (List.mem_range.2 hi)
  unfold Qm6 at this
  rw [getD_lt hi] at this
  simpa using this
 refine ⟨fun t ht => ?_,?_,h8⟩
 · obtain ⟨i,hi,rfl⟩ := List.getElem_of_mem ht
   exact (hk i hi).1
 · have hs : ∀ d i (hi:i + d + 1 < l.length),bLt (l[i]'(by omega)) (l[i + d + 1]'hi) = true := by
    intro d
    induction d with
    | zero =>
      intro i hi
      have := (hk (i + 1) hi).2
      rw [Nat.add_sub_cancel,getD_lt (by omega)] at this
      rcases this with h | h
      · omega
      · exact h
    | succ d ih =>
      intro i hi
      have h1 := ih i (by omega)
      have := (hk (i + (d + 1) + 1) hi).2
      rw [show i + (d + 1) + 1 - 1 = i + d + 1 by omega,getD_lt (by omega)] at this
      rcases this with h | h
      · omega
      · exact Qbb h1 h
   unfold SG
   rw [List.pairwise_iff_getElem]
   intro i j hi hj hij
   have := hs (j - i - 1) i (by omega)
   have e : i + (j - i - 1) + 1 = j := by omega
   simp only [e] at this
   exact this
theorem Q82 (name:ByteArray) : ∀ es : List Ev,(∀ e ∈ es,Xj e = true) → Q9i (Qu (Qqe (Q0g name es).item.tags)) := by
 refine Qy (fun _ => ?_) fun es e ih h => ?_
 · show Q9i (Qu (Qqe ⟨#[]⟩))
   rw [Qoq]
   exact ⟨by simp,List.Pairwise.nil,by simp⟩
 · have ih := ih fun x hx => h x (by simp [hx])
   have he := h e (by simp)
   rw [Qon]
   unfold Qcj
   split
   · next hk =>
     show Q9i (Qu (Qqe (Qau e.text)))
     rw [Q4g]
     have hl : Qa7 e.text = true := by
      rcases Qa4 (Qb2.1 he).kind with hq | hq | hq | hq | hq | hq | hq
      all_goals first | (exfalso; omega) | exact hq.2.2.2.1
     unfold Qa7 at hl
     simp only [Bool.and_eq_true] at hl
     exact Q86 hl.2.1 (by simpa using hl.2.2)
   · split
     · exact ih
     · exact ih
theorem Q8g (name:ByteArray) (es:List Ev) (h:∀ e ∈ es,Xj e = true) : Q9i (Qu (Qqe (Xaw name es).tags)) := by
 unfold Xaw
 split
 · show Q9i (Qu (Qqe ⟨#[]⟩))
   rw [Qoq]
   exact ⟨by simp,List.Pairwise.nil,by simp⟩
 · exact Q82 name es h
theorem Qvv {l:List ByteArray} {t x:ByteArray} : x ∈ Qbg l t ↔ x ∈ l ∨ (x = t ∧ Qi t = true) := by
 unfold Qbg
 split
 · next h =>
   rw [List.mem_append,List.mem_singleton]
   have hn : Qi t = true := by simp at h; exact h.1
   simp [hn]
 · next h =>
   constructor
   · exact .inl
   · rintro (h1 | ⟨rfl,h2⟩)
     · exact h1
     · rw [h2,Bool.true_and,Bool.not_eq_true,Bool.not_eq_false',Lib.containsS_iff] at h
       exact h
theorem Q4f {x:ByteArray} (tg:List ByteArray) : x ∈ Qbi tg ↔ x ∈ tg ∧ Qi x = true := by
 have : ∀ (tg l:List ByteArray),x ∈ tg.foldl Qbg l ↔ x ∈ l ∨ (x ∈ tg ∧ Qi x = true) := by
  intro tg
  induction tg with
  | nil => intro l; simp
  | cons t tg ih =>
    intro l
    rw [List.foldl_cons,ih,Qvv,List.mem_cons]
    constructor
    · rintro ((h | ⟨rfl,h⟩) | ⟨h1,h2⟩)
      · exact .inl h
      · exact .inr ⟨.inl rfl,h⟩
      · exact .inr ⟨.inr h1,h2⟩
    · rintro (h | ⟨rfl | h1,h2⟩)
      · exact .inl (.inl h)
      · exact .inl (.inr ⟨rfl,h2⟩)
      · exact .inr ⟨h1,h2⟩
 unfold Qbi
 rw [this]
 simp
theorem Qvw (tg:List ByteArray) : (Qbi tg).Nodup := by
 have : ∀ (tg l:List ByteArray),l.Nodup → (tg.foldl Qbg l).Nodup := by
  intro tg
  induction tg with
  | nil => intro l h; exact h
  | cons t tg ih =>
    intro l h
    rw [List.foldl_cons]
    refine ih _ ?_
    unfold Qbg
    split
    · next hc =>
      have hn : t ∉ l := by
       intro hm
       have := (Lib.containsS_iff _ _).2 hm
       rw [this] at hc
       simp at hc
      rw [List.nodup_append]
      refine ⟨h,by simp,?_⟩
      intro a ha b hb
      rw [List.mem_singleton] at hb
      subst hb
      exact fun e => hn (e ▸ ha)
    · exact h
 exact this tg [] List.nodup_nil
theorem Qtd {z:List Ev} (h:∀ e ∈ z,Xj e = true) : ∀ e ∈ Xd z,Xj e = true := fun e he => h e (List.mem_filter.1 he).1
theorem Q0m {z:List Ev} (h:Rise z) : Rise (Xd z) := h.sublist List.filter_sublist
theorem Qwq (width:Int) (z:List Ev) (e:Ev) : (Qe width (z ++ [e])).rs = (Qe width z).rs ++ if peB e = true then [(e,Qbi (Qbh (Xd z) e))] else [] := by
 have hc := (Qdr width z).1
 rw [Qce]
 unfold Qc6 peB thB
 by_cases h1 : e.kind = 11 ∨ e.kind = 12 ∨ e.kind = 13
 · simp [h1]
 · rw [if_neg h1]
   by_cases h2 : e.kind = 14
   · simp [h2]
   · rw [if_neg h2,← hc]
     simp only [h1,h2,decide_false,Bool.not_false,Bool.and_self,if_true]
     split <;> rfl
theorem Qg8 (width:Int) : ∀ z : List Ev,Rise z → (∀ e ∈ z,Xj e = true) → ∀ r ∈ (Qe width z).rs,Xj r.1 = true ∧ r.2.Nodup ∧ r.2.length ≤ 8 := by
 refine Qy (fun _ _ r hr => by simp [Qe,Q0x] at hr) fun z e ih hR hm => ?_
 have hr1 : Rise z := (List.pairwise_append.1 hR).1
 have hm1 : ∀ x ∈ z,Xj x = true := fun x hx => hm x (by simp [hx])
 have ih := ih hr1 hm1
 rw [Qwq]
 intro r hr
 rcases List.mem_append.1 hr with hr | hr
 · exact ih r hr
 · split at hr
   · rw [List.mem_singleton] at hr
     subst hr
     refine ⟨hm e (by simp),Qvw _,Nat.le_trans (Qs9 _) ?_⟩
     unfold Qbh
     split
     · rw [Q1n (Q0m hr1)]
       exact (Q8g e.item _ fun y hy => Qtd hm1 y (List.mem_filter.1 hy).1).2.2
     · simp
   · simp at hr
abbrev Ct := ByteArray × Int
def Qd4 (x:Ct) : List Value := [.string x.1,.int .i64 x.2]
theorem Qko (x:Ct) : (Qd4 x).length = 2 := rfl
theorem Qpa (x:Ct) : ∀ u ∈ Qd4 x,u.oneCell' = true := by simp [Qd4,Value.oneCell']
theorem Q6f : Q0y Tryz.prog 53 98 Qd4 2 24 := ⟨by kernel_rfl,⟨_,ty98_ok,rfl,rfl⟩,by98,by decide,by decide,Qko,Qpa⟩
theorem Qtj {z:List Ev} (h:∀ e ∈ z,Xj e = true) : ∀ e ∈ z.filter wpB,Xj e = true := fun e he => h e (List.mem_filter.1 he).1
theorem Qr7 {e:Ev} (h:Xj e = true) : 0 ≤ e.at_ ∧ e.at_ ≤ 1099511627776 := by
 have := (Qb2.1 h).at_
 exact this
theorem Q1r {c:Cfg} (h:Qjv c = true) : (1 ≤ c.half ∧ c.half ≤ 1099511627776) ∧ (1 ≤ c.width ∧ c.width ≤ 1099511627776) ∧ (1 ≤ c.span ∧ c.span ≤ 1099511627776) ∧ c.span.tmod c.width = 0 ∧ (0 ≤ c.gap ∧ c.gap ≤ 1099511627776) ∧ (0 ≤ c.floor ∧ c.floor ≤ 1048576) ∧ (0 ≤ c.crowd ∧ c.crowd ≤ 1048576) := by
 unfold Qjv inB at h
 simp only [Bool.and_eq_true,decide_eq_true_eq] at h
 obtain ⟨⟨⟨⟨⟨⟨h1,h2⟩,h3⟩,h4⟩,h5⟩,h6⟩,h7⟩ := h
 exact ⟨h1,h2,h3,h4,h5,h6,h7⟩
theorem Q8d {n:Int} (h:1 ≤ n ∧ n ≤ 1099511627776) : Qq n = n := by unfold Qq; omega
theorem Qhx {t width:Int} (hw:1 ≤ width) (h:-4398046511104 ≤ t ∧ t ≤ 4398046511104) : -4398046511104 ≤ t / width ∧ t / width ≤ 4398046511104 := by
 constructor
 · rw [Int.le_ediv_iff_mul_le (by omega)]
   have : -4398046511104 * width ≤ -4398046511104 * 1 := Int.mul_le_mul_of_nonpos_left (by omega) (by omega)
   omega
 · rcases Int.lt_or_le t 0 with h1 | h1
   · have := Int.ediv_neg_of_neg_of_pos h1 (show 0 < width by omega)
     omega
   · have := Int.ediv_le_self width h1
     omega
theorem Qm8 {w:World} {T:Nat → Prop} (person:ByteArray) : ∀ {D:List (Ev × SV)} {rs:List Row},Qno w T D rs → Qno w T (Qay D person) (rowsOf rs person)
 | [],rs,h => by
   have : rs = [] := by have := h.len; simpa using this.symm
   subst this
   exact h
 | d :: D,[],h => by have := h.len; simp at this
 | d :: D,r :: rs,h => by
   have h0 := h.ev 0 d r rfl rfl
   have hT : Qno w T D rs := ⟨by have := h.len; simpa using this,fun i d r hd hr => h.ev (i + 1) d r hd hr⟩
   have ih := Qm8 person hT
   unfold Qay rowsOf at *
   simp only [List.filter_cons,h0.1]
   split
   · refine ⟨by simp [ih.len],fun i d' r' hd hr => ?_⟩
     cases i with
     | zero =>
       simp at hd hr
       subst hd; subst hr
       exact h0
     | succ i => exact ih.ev i d' r' (by simpa using hd) (by simpa using hr)
   · exact ih
def Qas (c:Cfg) (z:List Ev) : List Sn := Qg4 (Qw0 c.gap) (Qdn (z.filter wpB))
end Go.Proofs.YteabekcdcphjpaaGreatDoor
