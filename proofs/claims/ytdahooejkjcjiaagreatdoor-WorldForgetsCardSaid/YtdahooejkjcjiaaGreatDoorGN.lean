/- Several texts in one: Ct, Pl5, Pl6, Sm. -/
import Derived.Test.YtdahooejkjcjiaaGreatDoorGF
import Derived.Test.YtdahooejkjcjiaaGreatDoorGC
import Derived.Test.YtdahooejkjcjiaaGreatDoorGH
set_option linter.unusedVariables false
set_option linter.unusedSimpArgs false
namespace Go.Proofs.YtdahooejkjcjiaaGreatDoor
open Go.Se Go.RowKit
theorem Q6n (row:List St) (t:Int) : (stN row t = 0 ∨ ∃ s,row[stN row t - 1]? = some s ∧ s.at_ ≤ t) ∧ (stN row t = row.length ∨ ∃ s,row[stN row t]? = some s ∧ t < s.at_) ∧ stN row t ≤ row.length := by
 unfold stN
 induction row with
 | nil => simp
 | cons a row ih =>
   rw [List.takeWhile_cons]
   by_cases h : a.at_ ≤ t
   · rw [if_pos (by simpa using h)]
     obtain ⟨i1,i2,i3⟩ := ih
     simp only [List.length_cons]
     generalize (row.takeWhile fun s => decide (s.at_ ≤ t)).length = n at *
     refine ⟨.inr ?_,?_,by omega⟩
     · rcases i1 with rfl | ⟨s,hs,hle⟩
       · exact ⟨a,by simp,h⟩
       · cases n with
         | zero => exact ⟨a,by simp,h⟩
         | succ n => exact ⟨s,by simpa using hs,hle⟩
     · rcases i2 with h2 | ⟨s,hs,hlt⟩
       · exact .inl (by omega)
       · exact .inr ⟨s,by simpa using hs,hlt⟩
   · rw [if_neg (by simpa using h)]
     exact ⟨.inl rfl,.inr ⟨a,rfl,by omega⟩,by simp⟩
def thQ (name:ByteArray) (t:Int) (e:Ev) : Bool := decide (e.item = name) && decide (e.at_ ≤ t)
def Qyp (name:ByteArray) (es:List Ev) : St := es.foldl Qcn (Qii name)
theorem Qnl (name:ByteArray) (es:List Ev) (e:Ev) : Qyp name (es ++ [e]) = Qcn (Qyp name es) e := by simp [Qyp]
def Q75 (name:ByteArray) (es:List Ev) : It := if es.isEmpty then Qdc else (Qyp name es).item
theorem Qim {row:List St} {t:Int} (h:∀ s ∈ row,s.at_ ≤ t) : stN row t = row.length := by
 unfold stN
 have : row.takeWhile (fun s => decide (s.at_ ≤ t)) = row := by
  have := List.takeWhile_append_of_pos (l₂ := []) (p := fun s : St => decide (s.at_ ≤ t)) (l₁ := row) (fun s hs => by simpa using h s hs)
  simpa using this
 rw [this]
theorem Q15 : ∀ (cs:List Ev),Rise cs → ∀ (name:ByteArray) (t:Int),
 (stN (Qy cs name) t = 0 ↔ cs.filter (thQ name t) = []) ∧ (stN (Qy cs name) t ≠ 0 → (Qy cs name)[stN (Qy cs name) t - 1]? = some (Qyp name (cs.filter (thQ name t)))) := by
 refine Q7 ?_ ?_
 · intro _ name t
   simp [Qy,stN]
 · intro cs e ih h name t
   have h1 : Rise cs := (List.pairwise_append.1 h).1
   have h2 := (List.pairwise_append.1 h).2.2
   obtain ⟨i1,i2⟩ := ih h1 name t
   obtain ⟨r1,r2⟩ := Qjn cs h1 name
   rw [Qcd,List.filter_append]
   unfold Qfx Qml
   by_cases hn : name = e.item
   · rw [if_pos hn]
     subst hn
     generalize hrow : Qy cs e.item = row at *
     have hle : ∀ s ∈ row,s.at_ ≤ e.at_ := fun s hs => by
      obtain ⟨e',he',h3,_⟩ := r2 s hs
      have := Q0o (h2 e' he' e (by simp)); omega
     by_cases ht : e.at_ ≤ t
     · have hq : thQ e.item t e = true := by simp [thQ,ht]
       have hall : ∀ s ∈ row ++ [Qfo row e],s.at_ ≤ t := fun s hs => by
        rcases List.mem_append.1 hs with hs | hs
        · have := hle s hs; omega
        · simp at hs; subst hs; unfold Qfo; rw [Qgd]; exact ht
       have hN : stN row t = row.length := Qim fun s hs => hall s (by simp [hs])
       rw [Qim hall]
       refine ⟨by simp [List.filter_cons,hq],fun _ => ?_⟩
       simp only [List.filter_cons,hq,if_true,List.filter_nil,Qnl]
       rw [List.length_append,List.length_singleton,Nat.add_sub_cancel,List.getElem?_append_right (Nat.le_refl _),Nat.sub_self]
       unfold Qfo
       rw [hN] at i1 i2
       congr 2
       by_cases h0 : row.length = 0
       · have h3 := i1.1 h0
         rw [h3,List.length_eq_zero_iff.1 h0]
         rfl
       · rw [List.getLast?_eq_getElem?,i2 h0]; rfl
     · have hq : thQ e.item t e = false := by simp [thQ,ht]
       have hN : stN (row ++ [Qfo row e]) t = stN row t := by
        unfold stN
        rw [List.takeWhile_append]
        split
        · rw [List.takeWhile_cons_of_neg (by unfold Qfo; rw [Qgd]; simpa using ht)]
          simp; omega
        · rfl
       rw [hN]
       simp only [List.filter_cons,hq,Bool.false_eq_true,if_false,List.filter_nil,List.append_nil]
       refine ⟨i1,fun h0 => ?_⟩
       have := (Q6n row t).2.2
       rw [List.getElem?_append_left (by omega)]
       exact i2 h0
   · rw [if_neg hn]
     have hq : thQ name t e = false := by simp [thQ,Ne.symm hn]
     simp only [List.filter_cons,hq,Bool.false_eq_true,if_false,List.filter_nil,List.append_nil]
     exact ⟨i1,i2⟩
theorem Qzn {cs:List Ev} (h:Rise cs) (name:ByteArray) (t:Int) : Xx cs name t = (Q75 name (cs.filter (thQ name t)),!(cs.filter (thQ name t)).isEmpty) := by
 obtain ⟨h1,h2⟩ := Q15 cs h name t
 unfold Xx Q75
 by_cases h0 : stN (Qy cs name) t = 0
 · have h3 := h1.1 h0
   rw [h3,h0]
   cases (Qy cs name)[0 - 1]? <;> rfl
 · have h3 : cs.filter (thQ name t) ≠ [] := fun h => h0 (h1.2 h)
   rw [h2 h0]
   simp only [if_neg h0]
   generalize cs.filter (thQ name t) = F at h3
   cases F with
   | nil => exact absurd rfl h3
   | cons a es => rfl
structure Sto {α:Type} (lt:α → α → Bool) : Prop where
 irrefl : ∀ a,lt a a = false
 trans : ∀ {a b c},lt a b = true → lt b c = true → lt a c = true
 tri : ∀ {a b},lt a b = false → lt b a = false → a = b
theorem Qwg : Sto bLt := ⟨X6,Qbl,Qb7⟩
def SG {α:Type} (lt:α → α → Bool) (l:List α) : Prop := l.Pairwise fun x y => lt x y = true
theorem SG.nodup {α:Type} {lt:α → α → Bool} (O:Sto lt) {l:List α} (h:SG lt l) : l.Nodup := h.imp fun h e => by rw [e,O.irrefl] at h; cases h
theorem Qrx {α:Type} {lt:α → α → Bool} (O:Sto lt) {a b:α} (h:lt a b = true) : lt b a = false := by
 cases hb : lt b a with
 | false => rfl
 | true => have := O.trans h hb; rw [O.irrefl] at this; cases this
theorem Qrj {α:Type} {lt:α → α → Bool} (O:Sto lt) {l m:List α} (h1:SG lt l) (h2:SG lt m) (hm:∀ x,x ∈ l ↔ x ∈ m) : l = m :=
 List.Perm.eq_of_pairwise (le := fun a b => lt b a = false) (fun a b _ _ h1 h2 => O.tri h2 h1) (h1.imp fun h => Qrx O h) (h2.imp fun h => Qrx O h) (Qej (h1.nodup O) (h2.nodup O) (fun x hx => (hm x).1 hx) fun x hx => (hm x).2 hx)
section
variable {α:Type} [DecidableEq α] {lt:α → α → Bool}
def Qvl (lt:α → α → Bool) (l:List α) (a:α) : List α :=
 if (l.dropWhile fun x => lt x a).head? = some a then l else l.takeWhile (fun x => lt x a) ++ a :: l.dropWhile (fun x => lt x a)
theorem Qon (a:α) : Qvl lt [] a = [a] := by simp [Qvl]
theorem Qk6 (x:α) (l:List α) (a:α) : Qvl lt (x :: l) a = if lt x a = true then x :: Qvl lt l a else if x = a then x :: l else a :: x :: l := by
 unfold Qvl
 rw [List.takeWhile_cons,List.dropWhile_cons]
 cases h : lt x a with
 | true =>
   simp only [if_true]
   split <;> simp
 | false =>
   simp only [Bool.false_eq_true,if_false,List.head?_cons,Option.some.injEq,List.nil_append]
theorem Qgp {x a:α} : ∀ {l:List α},x ∈ Qvl lt l a ↔ x ∈ l ∨ x = a
 | [] => by rw [Qon]; simp
 | y :: l => by
   have ih := Qgp (x := x) (a := a) (l := l)
   rw [Qk6]
   split
   · rw [List.mem_cons,ih,List.mem_cons]; exact or_assoc.symm
   · split
     · next h =>
       subst h
       constructor
       · exact .inl
       · rintro (h | rfl)
         · exact h
         · simp
     · rw [List.mem_cons]; exact or_comm
theorem Qtd (O:Sto lt) {a:α} : ∀ {l:List α},SG lt l → SG lt (Qvl lt l a)
 | [],_ => by rw [Qon]; exact List.pairwise_singleton _ _
 | y :: l,h => by
   have h' := List.pairwise_cons.1 h
   have ih := Qtd O (a := a) h'.2
   rw [Qk6]
   split
   · next hy =>
     refine List.pairwise_cons.2 ⟨fun x hx => ?_,ih⟩
     rcases Qgp.1 hx with hx | rfl
     · exact h'.1 x hx
     · exact hy
   · next hy =>
     split
     · exact h
     · next hne =>
       have hay : lt a y = true := by
        cases hq : lt a y with
        | true => rfl
        | false => exact absurd (O.tri (by simpa using hy) hq) hne
       refine List.pairwise_cons.2 ⟨fun x hx => ?_,h⟩
       rcases List.mem_cons.1 hx with rfl | hx
       · exact hay
       · exact O.trans hay (h'.1 x hx)
def Qef (lt:α → α → Bool) (l:List α) : List α := l.foldl (Qvl lt) []
theorem Qhe (l:List α) (a:α) : Qef lt (l ++ [a]) = Qvl lt (Qef lt l) a := by unfold Qef; rw [List.foldl_append]; rfl
theorem Qm3 {x:α} : ∀ l : List α,x ∈ Qef lt l ↔ x ∈ l := by
 refine Q7 (by simp [Qef]) fun l a ih => ?_
 rw [Qhe,Qgp,ih,List.mem_append,List.mem_singleton]
theorem Qz9 (O:Sto lt) : ∀ l : List α,SG lt (Qef lt l) := by
 refine Q7 List.Pairwise.nil fun l a ih => ?_
 rw [Qhe]
 exact Qtd O ih
theorem Qom (a:α) : ∀ l : List α,(Qvl lt l a).length ≤ l.length + 1
 | [] => by rw [Qon]; simp
 | y :: l => by
   have ih := Qom a l
   rw [Qk6]
   split
   · simp; omega
   · split <;> simp
theorem Qm2 : ∀ l : List α,(Qef lt l).length ≤ l.length := by
 refine Q7 (by simp [Qef]) fun l a ih => ?_
 rw [Qhe]
 have := Qom (lt := lt) a (Qef lt l)
 simp; omega
end
theorem Qjx {l:List ByteArray} (h:l.Nodup) : SG bLt (Xu l) := by
 have h1 := Qig l
 have h2 : (Xu l).Pairwise (· ≠ ·) := List.nodup_iff_pairwise_ne.1 ((Qcu l).nodup_iff.2 h)
 refine (List.Pairwise.and h1 h2).imp ?_
 rintro a b ⟨h3,h4⟩
 cases hc : bLt a b with
 | true => rfl
 | false => exact absurd (Qb7 hc h3) h4
theorem Qrl {l:List Int} (h:l.Nodup) : (Qeb l).Pairwise (· < ·) := by
 have h1 := Qlx l
 have h2 : (Qeb l).Pairwise (· ≠ ·) := List.nodup_iff_pairwise_ne.1 ((Qdo l).nodup_iff.2 h)
 refine (List.Pairwise.and h1 h2).imp ?_
 rintro a b ⟨h3,h4⟩
 omega
theorem Qhn (l:List ByteArray) : SG bLt (Qdb l) := Qjx (Qew l)
theorem Qvm (l:List ByteArray) (s:ByteArray) : Qvl bLt (Qdb l) s = Qdb (l ++ [s]) :=
 Qrj Qwg (Qtd Qwg (Qhn l)) (Qhn _) fun x => by rw [Qgp,Qaf,Qaf,List.mem_append,List.mem_singleton]
theorem Q1v (l:List ByteArray) : Qdb (Qdb l) = Qdb l := Qnh fun x => Qaf
abbrev Ad3 := ByteArray × Int × ByteArray
def adE (e:Ev) : Ad3 := (e.person,e.at_,e.item)
def ahB (a b:Ad3) : Bool := if a.1 = b.1 then (if a.2.1 = b.2.1 then bLt a.2.2 b.2.2 else decide (a.2.1 < b.2.1)) else bLt a.1 b.1
theorem Qkq {a b:Ad3} : ahB a b = true ↔ bLt a.1 b.1 = true ∨ (a.1 = b.1 ∧ (a.2.1 < b.2.1 ∨ (a.2.1 = b.2.1 ∧ bLt a.2.2 b.2.2 = true))) := by
 unfold ahB
 by_cases h1 : a.1 = b.1
 · have hi : bLt a.1 b.1 = false := by rw [h1]; exact X6 _
   rw [if_pos h1]
   by_cases h2 : a.2.1 = b.2.1
   · rw [if_pos h2]
     constructor
     · intro h; exact .inr ⟨h1,.inr ⟨h2,h⟩⟩
     · rintro (h | ⟨_,h | ⟨_,h⟩⟩)
       · rw [hi] at h; cases h
       · omega
       · exact h
   · rw [if_neg h2,decide_eq_true_eq]
     constructor
     · intro h; exact .inr ⟨h1,.inl h⟩
     · rintro (h | ⟨_,h | ⟨h,_⟩⟩)
       · rw [hi] at h; cases h
       · exact h
       · exact absurd h h2
 · rw [if_neg h1]
   constructor
   · exact .inl
   · rintro (h | ⟨h,_⟩)
     · exact h
     · exact absurd h h1
theorem Q45 : Sto ahB where
 irrefl a := by unfold ahB; rw [if_pos rfl,if_pos rfl]; exact X6 _
 trans := by
  intro a b c h k
  rw [Qkq] at *
  rcases h with h | ⟨h,h'⟩ <;> rcases k with k | ⟨k,k'⟩
  · exact .inl (Qbl h k)
  · exact .inl (k ▸ h)
  · exact .inl (h ▸ k)
  · refine .inr ⟨h.trans k,?_⟩
    rcases h' with h' | ⟨h',h2⟩ <;> rcases k' with k' | ⟨k',k2⟩
    · exact .inl (by omega)
    · exact .inl (by omega)
    · exact .inl (by omega)
    · exact .inr ⟨by omega,Qbl h2 k2⟩
 tri := by
  intro a b h k
  obtain ⟨a1,a2,a3⟩ := a
  obtain ⟨b1,b2,b3⟩ := b
  rw [← Bool.not_eq_true,Qkq] at h k
  simp only at h k
  have e1 : a1 = b1 := Qb7 (by rw [← Bool.not_eq_true]; exact fun x => h (.inl x)) (by rw [← Bool.not_eq_true]; exact fun x => k (.inl x))
  subst e1
  have e2 : a2 = b2 := by
   rcases Int.lt_trichotomy a2 b2 with x | x | x
   · exact absurd (.inr ⟨rfl,.inl x⟩) h
   · exact x
   · exact absurd (.inr ⟨rfl,.inl x⟩) k
  subst e2
  have e3 : a3 = b3 := Qb7 (by rw [← Bool.not_eq_true]; exact fun x => h (.inr ⟨rfl,.inr ⟨rfl,x⟩⟩)) (by rw [← Bool.not_eq_true]; exact fun x => k (.inr ⟨rfl,.inr ⟨rfl,x⟩⟩))
  rw [e3]
def tks (ss:Ses) (p:ByteArray) : Qd9 := (Qd ss p).getD []
theorem Qkn (s:Ses) (P I:ByteArray) (T:Int) (p:ByteArray) : tks (Qy4 s P T I) p = if p = P then Xb (tks s P) T (Xb ((Qd (tks s P) T).getD []) I true) else tks s p := by
 unfold tks Qy4
 rw [Xe]
 split <;> rfl
theorem Qfu {κ β:Type} [DecidableEq κ] {k x:κ} {v:β} {l:List (κ × β)} : x ∈ (Xb l k v).map (·.1) ↔ x ∈ l.map (·.1) ∨ x = k := by
 rw [Qfv]
 split
 · next h =>
   constructor
   · exact .inl
   · rintro (h1 | rfl)
     · exact h1
     · exact h
 · rw [List.mem_append,List.mem_singleton]
theorem Qup (m:Qd9) (T t:Int) (x:List (ByteArray × Bool)) : Xl (Xb m T x) t = if t = T then x.map (·.1) else Xl m t := by
 unfold Xl
 rw [Xe]
 split <;> rfl
structure Q5c (ss:Ses) (l:List Ev) : Prop where
 keys : ss.Pairwise (fun x y => x.1 ≠ y.1)
 ticks : ∀ p,(tks ss p).Pairwise (fun x y => x.1 ≠ y.1)
 item : ∀ p t i,i ∈ Xl (tks ss p) t ↔ ∃ e ∈ l,e.person = p ∧ e.at_ = t ∧ e.item = i
 tick : ∀ p t,t ∈ (tks ss p).map (·.1) ↔ ∃ e ∈ l,e.person = p ∧ e.at_ = t
 person : ∀ p,p ∈ ss.map (·.1) ↔ ∃ e ∈ l,e.person = p
theorem Q6m : ∀ l : List Ev,Q5c (Qe5 l) l := by
 refine Q7 ⟨List.Pairwise.nil,fun p => List.Pairwise.nil,fun p t i => by simp [Qe5,tks,Qd,Xl],fun p t => by simp [Qe5,tks,Qd],fun p => by simp [Qe5]⟩ fun l e ih => ?_
 rw [Qpm]
 refine ⟨Qbt ih.keys,fun p => ?_,fun p t i => ?_,fun p t => ?_,fun p => ?_⟩
 · rw [Qkn]
   split
   · exact Qbt (ih.ticks _)
   · exact ih.ticks p
 · rw [Qkn]
   have hx : (∃ x ∈ l ++ [e],x.person = p ∧ x.at_ = t ∧ x.item = i) ↔ (∃ x ∈ l,x.person = p ∧ x.at_ = t ∧ x.item = i) ∨ (e.person = p ∧ e.at_ = t ∧ e.item = i) := by
    constructor
    · rintro ⟨x,hx,h⟩
      rcases List.mem_append.1 hx with hx | hx
      · exact .inl ⟨x,hx,h⟩
      · rw [List.mem_singleton] at hx; subst hx; exact .inr h
    · rintro (⟨x,hx,h⟩ | h)
      · exact ⟨x,by simp [hx],h⟩
      · exact ⟨e,by simp,h⟩
   rw [hx,← ih.item]
   by_cases hp : p = e.person
   · subst hp
     rw [if_pos rfl,Qup]
     by_cases ht : t = e.at_
     · subst ht
       rw [if_pos rfl,Qfu]
       show (i ∈ Xl (tks (Qe5 l) e.person) e.at_ ∨ i = e.item) ↔ _
       constructor
       · rintro (h | h)
         · exact .inl h
         · exact .inr ⟨rfl,rfl,h.symm⟩
       · rintro (h | ⟨_,_,h⟩)
         · exact .inl h
         · exact .inr h.symm
     · rw [if_neg ht]
       constructor
       · exact .inl
       · rintro (h | ⟨_,h,_⟩)
         · exact h
         · exact absurd h.symm ht
   · rw [if_neg hp]
     constructor
     · exact .inl
     · rintro (h | ⟨h,_⟩)
       · exact h
       · exact absurd h.symm hp
 · rw [Qkn]
   have hx : (∃ x ∈ l ++ [e],x.person = p ∧ x.at_ = t) ↔ (∃ x ∈ l,x.person = p ∧ x.at_ = t) ∨ (e.person = p ∧ e.at_ = t) := by
    constructor
    · rintro ⟨x,hx,h⟩
      rcases List.mem_append.1 hx with hx | hx
      · exact .inl ⟨x,hx,h⟩
      · rw [List.mem_singleton] at hx; subst hx; exact .inr h
    · rintro (⟨x,hx,h⟩ | h)
      · exact ⟨x,by simp [hx],h⟩
      · exact ⟨e,by simp,h⟩
   rw [hx,← ih.tick]
   by_cases hp : p = e.person
   · subst hp
     rw [if_pos rfl,Qfu]
     constructor
     · rintro (h | h)
       · exact .inl h
       · exact .inr ⟨rfl,h.symm⟩
     · rintro (h | ⟨_,h⟩)
       · exact .inl h
       · exact .inr h.symm
   · rw [if_neg hp]
     constructor
     · exact .inl
     · rintro (h | ⟨h,_⟩)
       · exact h
       · exact absurd h.symm hp
 · show p ∈ (Xb _ _ _).map (·.1) ↔ _
   rw [Qfu,ih.person]
   constructor
   · rintro (⟨x,hx,h⟩ | rfl)
     · exact ⟨x,by simp [hx],h⟩
     · exact ⟨e,by simp,rfl⟩
   · rintro ⟨x,hx,h⟩
     rcases List.mem_append.1 hx with hx | hx
     · exact .inl ⟨x,hx,h⟩
     · rw [List.mem_singleton] at hx; subst hx; exact .inr h.symm
def Qoh (p:ByteArray) (k:Qd9) (t:Int) : List Ad3 := (Qdb (Xl k t)).map fun i => (p,t,i)
def Qs9 (ss:Ses) (p:ByteArray) : List Ad3 := (Qeb ((tks ss p).map (·.1))).flatMap (Qoh p (tks ss p))
def Q3c (ss:Ses) : List Ad3 := (Xu (ss.map (·.1))).flatMap (Qs9 ss)
theorem Qla {β:Type} {L:List (Int × β)} (h:L.Pairwise (fun x y => x.1 ≠ y.1)) : (L.map (·.1)).Nodup := by
 rw [List.nodup_iff_pairwise_ne,List.pairwise_map]; exact h
theorem Q3e (p:ByteArray) (k:Qd9) (t:Int) : SG ahB (Qoh p k t) := by
 unfold SG Qoh
 rw [List.pairwise_map]
 refine List.Pairwise.imp ?_ (Qhn (Xl k t))
 intro a b h
 exact Qkq.2 (.inr ⟨rfl,.inr ⟨rfl,h⟩⟩)
theorem Qh3 {p:ByteArray} {k:Qd9} {t:Int} {x:Ad3} : x ∈ Qoh p k t ↔ x.1 = p ∧ x.2.1 = t ∧ x.2.2 ∈ Xl k t := by
 unfold Qoh
 rw [List.mem_map]
 constructor
 · rintro ⟨i,hi,rfl⟩; exact ⟨rfl,rfl,Qaf.1 hi⟩
 · rintro ⟨h1,h2,h3⟩; exact ⟨x.2.2,Qaf.2 h3,by rw [← h1,← h2]⟩
theorem Q3b {ss:Ses} {l:List Ev} (h:Q5c ss l) (p:ByteArray) : SG ahB (Qs9 ss p) := by
 unfold SG Qs9
 rw [List.pairwise_flatMap]
 refine ⟨fun t _ => Q3e _ _ _,(Qrl (Qla (h.ticks p))).imp fun hlt x hx y hy => ?_⟩
 obtain ⟨x1,x2,_⟩ := Qh3.1 hx
 obtain ⟨y1,y2,_⟩ := Qh3.1 hy
 exact Qkq.2 (.inr ⟨x1.trans y1.symm,.inl (by omega)⟩)
theorem Qh2 {ss:Ses} {l:List Ev} (h:Q5c ss l) {p:ByteArray} {x:Ad3} : x ∈ Qs9 ss p ↔ x.1 = p ∧ ∃ e ∈ l,adE e = x := by
 unfold Qs9
 rw [List.mem_flatMap]
 constructor
 · rintro ⟨t,_,hx⟩
   obtain ⟨h1,h2,h3⟩ := Qh3.1 hx
   obtain ⟨e,he,e1,e2,e3⟩ := (h.item _ _ _).1 h3
   exact ⟨h1,e,he,by unfold adE; rw [e1,e2,e3,← h1,← h2]⟩
 · rintro ⟨h1,e,he,rfl⟩
   refine ⟨e.at_,Qlw.2 ((h.tick _ _).2 ⟨e,he,h1,rfl⟩),Qh3.2 ⟨h1,rfl,(h.item _ _ _).2 ⟨e,he,h1,rfl,rfl⟩⟩⟩
theorem Q3d (l:List Ev) : Q3c (Qe5 l) = Qef ahB (l.map adE) := by
 have h := Q6m l
 refine Qrj Q45 ?_ (Qz9 Q45 _) fun x => ?_
 · unfold SG Q3c
   rw [List.pairwise_flatMap]
   refine ⟨fun p _ => Q3b h p,(Qjx (Qar h.keys)).imp fun hlt x hx y hy => ?_⟩
   have h1 := ((Qh2 h).1 hx).1
   have h2 := ((Qh2 h).1 hy).1
   exact Qkq.2 (.inl (by rw [h1,h2]; exact hlt))
 · rw [Qm3]
   unfold Q3c
   rw [List.mem_flatMap,List.mem_map]
   constructor
   · rintro ⟨p,_,hx⟩
     exact ((Qh2 h).1 hx).2
   · rintro ⟨e,he,rfl⟩
     exact ⟨e.person,Qgc.2 ((h.person _).2 ⟨e,he,rfl⟩),(Qh2 h).2 ⟨rfl,e,he,rfl⟩⟩
def Qa0 (gap:Int) (acc:List Sn) (a:Ad3) : List Sn :=
 match acc.getLast? with
 | some g => if g.person = a.1 ∧ a.2.1 - g.to_ ≤ gap then acc.dropLast ++ [⟨a.1,g.from_,a.2.1,Qvl bLt g.items a.2.2⟩] else acc ++ [⟨a.1,a.2.1,a.2.1,[a.2.2]⟩]
 | none => acc ++ [⟨a.1,a.2.1,a.2.1,[a.2.2]⟩]
theorem Qjl (gap:Int) (acc:List Sn) (g:Sn) (a:Ad3) : Qa0 gap (acc ++ [g]) a = if g.person = a.1 ∧ a.2.1 - g.to_ ≤ gap then acc ++ [⟨a.1,g.from_,a.2.1,Qvl bLt g.items a.2.2⟩] else (acc ++ [g]) ++ [⟨a.1,a.2.1,a.2.1,[a.2.2]⟩] := by
 unfold Qa0
 rw [List.getLast?_append,List.getLast?_singleton,Option.some_or,List.dropLast_concat]
def allL (gap:Int) (L:List Ad3) : List Sn := L.foldl (Qa0 gap) []
theorem Qnw (gap:Int) (hg:0 ≤ gap) (p:ByteArray) (t:Int) : ∀ (its:List ByteArray) (acc:List Sn) (f:Int) (X:List ByteArray),(its.map fun i => ((p,t,i) : Ad3)).foldl (Qa0 gap) (acc ++ [⟨p,f,t,Qdb X⟩]) = acc ++ [⟨p,f,t,Qdb (X ++ its)⟩]
 | [],acc,f,X => by simp
 | i :: its,acc,f,X => by
   have ih := Qnw gap hg p t its acc f (X ++ [i])
   rw [List.map_cons,List.foldl_cons,Qjl,if_pos ⟨rfl,by simp only; omega⟩,Qvm,ih]
   simp
theorem Q4b (i:ByteArray) : Qdb [i] = [i] := by simp [Qdb,Qzx,Xu]
theorem Q2r (gap:Int) (hg:0 ≤ gap) (p:ByteArray) (k:Qd9) (t:Int) (hne:Xl k t ≠ []) :
 (∀ (acc:List Sn),(∀ g,acc.getLast? = some g → g.person ≠ p ∨ gap < t - g.to_) → (Qoh p k t).foldl (Qa0 gap) acc = acc ++ [⟨p,t,t,Qdb (Xl k t)⟩]) ∧
 (∀ (acc:List Sn) (f u:Int) (X:List ByteArray),t - u ≤ gap → (Qoh p k t).foldl (Qa0 gap) (acc ++ [⟨p,f,u,Qdb X⟩]) = acc ++ [⟨p,f,t,Qdb (X ++ Xl k t)⟩]) := by
 have hex : Qdb (Xl k t) ≠ [] := by
  intro h
  cases hq : Xl k t with
  | nil => exact hne hq
  | cons y l =>
    have : y ∈ Qdb (Xl k t) := Qaf.2 (by rw [hq]; simp)
    rw [h] at this
    simp at this
 unfold Qoh
 cases hs : Qdb (Xl k t) with
 | nil => exact absurd hs hex
 | cons i its =>
   have hss : Qdb (i :: its) = Qdb (Xl k t) := by rw [← hs,Q1v]
   refine ⟨fun acc hacc => ?_,fun acc f u X hu => ?_⟩
   · have h1 : Qa0 gap acc (p,t,i) = acc ++ [⟨p,t,t,Qdb [i]⟩] := by
      unfold Qa0
      rw [Q4b]
      cases hl : acc.getLast? with
      | none => rfl
      | some g =>
        simp only
        rw [if_neg]
        rintro ⟨h2,h3⟩
        rcases hacc g hl with h | h
        · exact h h2
        · have h3 : t - g.to_ ≤ gap := h3
          omega
     rw [List.map_cons,List.foldl_cons,h1,Qnw gap hg]
     rw [show [i] ++ its = i :: its from rfl,hss,hs]
   · rw [List.map_cons,List.foldl_cons,Qjl,if_pos ⟨rfl,hu⟩,Qvm,Qnw gap hg]
     have : Qdb (X ++ [i] ++ its) = Qdb (X ++ Xl k t) := Qnh fun x => by
      have hx : x ∈ i :: its ↔ x ∈ Xl k t := by rw [← hs]; exact Qaf
      have h4 : x ∈ X ++ [i] ++ its ↔ x ∈ X ∨ x ∈ i :: its := by simp [or_assoc]
      rw [h4,hx,List.mem_append]
     rw [this]
theorem Qwz (gap:Int) (hg:0 ≤ gap) (p:ByteArray) (k:Qd9) (acc:List Sn) (hacc:∀ g,acc.getLast? = some g → g.person ≠ p) : ∀ ts : List Int,(∀ t ∈ ts,Xl k t ≠ []) → (ts.flatMap (Qoh p k)).foldl (Qa0 gap) acc = acc ++ (Qfa gap k ts).map (Q2o p) := by
 refine Q7 (fun _ => by simp [Qfa]) fun ts t ih h => ?_
 have ih := ih fun x hx => h x (by simp [hx])
 obtain ⟨hA,hB⟩ := Q2r gap hg p k t (h t (by simp))
 rw [List.flatMap_append,List.foldl_append,ih,Qgo]
 simp only [List.flatMap_cons,List.flatMap_nil,List.append_nil]
 generalize Qfa gap k ts = G
 clear ih
 unfold Qcs
 cases hG : G.getLast? with
 | none =>
   have : G = [] := by simpa using hG
   subst this
   simp only [List.map_nil,List.append_nil,List.map_cons]
   rw [hA acc fun g hl => .inl (hacc g hl)]
   rfl
 | some g =>
   obtain ⟨G',rfl⟩ : ∃ G',G = G' ++ [g] := by
    have := List.getLast?_eq_some_iff.1 hG
    obtain ⟨ys,h⟩ := this
    exact ⟨ys,h⟩
   simp only [List.dropLast_concat]
   by_cases hc : gap < t - g.2.1
   · rw [if_pos hc,hA _ fun g' hl => ?_]
     · simp [Q2o]
     · rw [List.map_append,← List.append_assoc,List.map_cons,List.map_nil,List.getLast?_append,List.getLast?_singleton,Option.some_or] at hl
       injection hl with hl
       subst hl
       exact .inr hc
   · rw [if_neg hc,List.map_append,← List.append_assoc,List.map_cons,List.map_nil]
     rw [show Q2o p g = ⟨p,g.1,g.2.1,Qdb g.2.2⟩ from rfl,hB _ _ _ _ (by omega),List.map_append,List.append_assoc]
     rfl
theorem Q10 {gap:Int} {ss:Ses} {p:ByteArray} {x:Sn} (h:x ∈ Qc9 gap ss p) : x.person = p := by
 unfold Qc9 at h
 obtain ⟨g,_,rfl⟩ := List.mem_map.1 h
 rfl
theorem Qmo (gap:Int) (hg:0 ≤ gap) (ss:Ses) (hne:∀ p t,t ∈ (tks ss p).map (·.1) → Xl (tks ss p) t ≠ []) : ∀ (ps:List ByteArray) (acc:List Sn),ps.Nodup → (∀ g,acc.getLast? = some g → g.person ∉ ps) → (ps.flatMap (Qs9 ss)).foldl (Qa0 gap) acc = acc ++ ps.flatMap (Qc9 gap ss)
 | [],acc,_,_ => by simp
 | p :: ps,acc,hn,hl => by
   rw [List.nodup_cons] at hn
   rw [List.flatMap_cons,List.foldl_append,List.flatMap_cons]
   have h1 : (Qs9 ss p).foldl (Qa0 gap) acc = acc ++ Qc9 gap ss p := Qwz gap hg p (tks ss p) acc (fun g hg he => hl g hg (by rw [he]; simp)) _ fun t ht => hne p t (Qlw.1 ht)
   rw [h1,Qmo gap hg ss hne ps _ hn.2 ?_,List.append_assoc]
   intro g hgl
   rw [List.getLast?_append] at hgl
   cases hq : (Qc9 gap ss p).getLast? with
   | none =>
     rw [hq,Option.none_or] at hgl
     exact fun hm => hl g hgl (by simp [hm])
   | some x =>
     rw [hq,Option.some_or] at hgl
     injection hgl with hgl
     subst hgl
     rw [Q10 (List.mem_of_getLast? hq)]
     exact hn.1
theorem Qpj (gap:Int) (hg:0 ≤ gap) (l:List Ev) : allL gap (Qef ahB (l.map adE)) = Qid gap (Qe5 l) := by
 have h := Q6m l
 rw [← Q3d]
 unfold allL Q3c Qid
 rw [Qmo gap hg (Qe5 l) (fun p t ht hne => ?_) _ [] ((Qcu _).nodup_iff.2 (Qar h.keys)) (by simp),List.nil_append]
 obtain ⟨e,he,e1,e2⟩ := (h.tick p t).1 ht
 have := (h.item p t e.item).2 ⟨e,he,e1,e2,rfl⟩
 rw [hne] at this
 simp at this
theorem Qrd (r:ByteArray) : Qax (Qpe r) = r := by
 have hl : (Qpe r).data.toList = 59 :: r.data.toList := by unfold Qpe; simp
 have hp : Qac (Qpe r) = some 0 := by unfold Qac; rw [hl]; rfl
 unfold Qax
 rw [hp]
 simp only
 apply Qzg
 have h2 : ∀ s : ByteArray,s.toList = s.data.toList := fun s => by rw [ByteArray.toList_eq]
 rw [h2,h2,Qee,hl]
 have : (Qpe r).size = r.size + 1 := by
  have := congrArg List.length hl
  simpa using this
 rw [this]
 simp
 exact List.take_of_length_le (by simp)
theorem Q2b (s:ByteArray) : Qs (Qpe (Qax s)) = Qs s := by rw [Qd5,Qrd,Qd5 s]
theorem Qno : Qs (Qpe ⟨#[]⟩) = [] := by rw [Qd5,Qrd,if_pos rfl]
def Q65 (l:List ByteArray) : Prop := (∀ t ∈ l,Qi t = true) ∧ SG bLt l ∧ l.length ≤ 8
theorem Q6s {l:List ByteArray} (h:Qfp l = true) (h8:l.length ≤ 8) : Q65 l := by
 unfold Qfp at h
 rw [List.all_eq_true] at h
 have hk : ∀ i (hi:i < l.length),Qi l[i] = true ∧ (i = 0 ∨ bLt (l.getD (i - 1) .empty) l[i] = true) := fun i hi => by
  have := h i (List.mem_range.2 hi)
  unfold Ql5 at this
  rw [getD_lt hi] at this
  simpa using this
 refine ⟨fun t ht => ?_,?_,h8⟩
 · obtain ⟨i,hi,rfl⟩ := List.getElem_of_mem ht
   exact (hk i hi).1
 · have hs : ∀ d i (hi:i + d + 1 < l.length),bLt (l[i]'(by omega)) (l[i + d + 1]'hi) = true := by
    intro d
    induction d with
    | zero =>
      intro i hi
      have := (hk (i + 1) hi).2
      rw [Nat.add_sub_cancel,getD_lt (by omega)] at this
      rcases this with h | h
      · omega
      · exact h
    | succ d ih =>
      intro i hi
      have h1 := ih i (by omega)
      have := (hk (i + (d + 1) + 1) hi).2
      rw [show i + (d + 1) + 1 - 1 = i + d + 1 by omega,getD_lt (by omega)] at this
      rcases this with h | h
      · omega
      · exact Qbl h1 h
   unfold SG
   rw [List.pairwise_iff_getElem]
   intro i j hi hj hij
   have := hs (j - i - 1) i (by omega)
   have e : i + (j - i - 1) + 1 = j := by omega
   simp only [e] at this
   exact this
theorem Q6o (name:ByteArray) : ∀ es : List Ev,(∀ e ∈ es,Xa e = true) → Q65 (Qs (Qpe (Qyp name es).item.tags)) := by
 refine Q7 (fun _ => ?_) fun es e ih h => ?_
 · show Q65 (Qs (Qpe ⟨#[]⟩))
   rw [Qno]
   exact ⟨by simp,List.Pairwise.nil,by simp⟩
 · have ih := ih fun x hx => h x (by simp [hx])
   have he := h e (by simp)
   rw [Qnl]
   unfold Qcn
   split
   · next hk =>
     show Q65 (Qs (Qpe (Qax e.text)))
     rw [Q2b]
     have hl : Qbc e.text = true := by
      rcases Qa8 (Qb9.1 he).kind with hq | hq | hq | hq | hq | hq | hq
      all_goals first | (exfalso; omega) | exact hq.2.2.2.1
     unfold Qbc at hl
     simp only [Bool.and_eq_true] at hl
     exact Q6s hl.2.1 (by simpa using hl.2.2)
   · split
     · exact ih
     · exact ih
theorem Q5y (name:ByteArray) (es:List Ev) (h:∀ e ∈ es,Xa e = true) : Q65 (Qs (Qpe (Q75 name es).tags)) := by
 unfold Q75
 split
 · show Q65 (Qs (Qpe ⟨#[]⟩))
   rw [Qno]
   exact ⟨by simp,List.Pairwise.nil,by simp⟩
 · exact Q6o name es h
theorem Qui {l:List ByteArray} {t x:ByteArray} : x ∈ Qbo l t ↔ x ∈ l ∨ (x = t ∧ Qi t = true) := by
 unfold Qbo
 split
 · next h =>
   rw [List.mem_append,List.mem_singleton]
   have hn : Qi t = true := by simp at h; exact h.1
   simp [hn]
 · next h =>
   constructor
   · exact .inl
   · rintro (h1 | ⟨rfl,h2⟩)
     · exact h1
     · rw [h2,Bool.true_and,Bool.not_eq_true,Bool.not_eq_false',Lib.containsS_iff] at h
       exact h
theorem Q2a {x:ByteArray} (tg:List ByteArray) : x ∈ Qbq tg ↔ x ∈ tg ∧ Qi x = true := by
 have : ∀ (tg l:List ByteArray),x ∈ tg.foldl Qbo l ↔ x ∈ l ∨ (x ∈ tg ∧ Qi x = true) := by
  intro tg
  induction tg with
  | nil => intro l; simp
  | cons t tg ih =>
    intro l
    rw [List.foldl_cons,ih,Qui,List.mem_cons]
    constructor
    · rintro ((h | ⟨rfl,h⟩) | ⟨h1,h2⟩)
      · exact .inl h
      · exact .inr ⟨.inl rfl,h⟩
      · exact .inr ⟨.inr h1,h2⟩
    · rintro (h | ⟨rfl | h1,h2⟩)
      · exact .inl (.inl h)
      · exact .inl (.inr ⟨rfl,h2⟩)
      · exact .inr ⟨h1,h2⟩
 unfold Qbq
 rw [this]
 simp
theorem Quj (tg:List ByteArray) : (Qbq tg).Nodup := by
 have : ∀ (tg l:List ByteArray),l.Nodup → (tg.foldl Qbo l).Nodup := by
  intro tg
  induction tg with
  | nil => intro l h; exact h
  | cons t tg ih =>
    intro l h
    rw [List.foldl_cons]
    refine ih _ ?_
    unfold Qbo
    split
    · next hc =>
      have hn : t ∉ l := by
       intro hm
       have := (Lib.containsS_iff _ _).2 hm
       rw [this] at hc
       simp at hc
      rw [List.nodup_append]
      refine ⟨h,by simp,?_⟩
      intro a ha b hb
      rw [List.mem_singleton] at hb
      subst hb
      exact fun e => hn (e ▸ ha)
    · exact h
 exact this tg [] List.nodup_nil
theorem Qr4 {z:List Ev} (h:∀ e ∈ z,Xa e = true) : ∀ e ∈ Q8 z,Xa e = true := fun e he => h e (List.mem_filter.1 he).1
theorem Qyu {z:List Ev} (h:Rise z) : Rise (Q8 z) := h.sublist List.filter_sublist
theorem Qvb (width:Int) (z:List Ev) (e:Ev) : (Ql width (z ++ [e])).rs = (Ql width z).rs ++ if peB e = true then [(e,Qbq (Qbp (Q8 z) e))] else [] := by
 have hc := (Qcq width z).1
 rw [Qa1]
 unfold Qc2 peB thB
 by_cases h1 : e.kind = 11 ∨ e.kind = 12 ∨ e.kind = 13
 · simp [h1]
 · rw [if_neg h1]
   by_cases h2 : e.kind = 14
   · simp [h2]
   · rw [if_neg h2,← hc]
     simp only [h1,h2,decide_false,Bool.not_false,Bool.and_self,if_true]
     split <;> rfl
theorem Qg9 (width:Int) : ∀ z : List Ev,Rise z → (∀ e ∈ z,Xa e = true) → ∀ r ∈ (Ql width z).rs,Xa r.1 = true ∧ r.2.Nodup ∧ r.2.length ≤ 8 := by
 refine Q7 (fun _ _ r hr => by simp [Ql,Qwv] at hr) fun z e ih hR hm => ?_
 have hr1 : Rise z := (List.pairwise_append.1 hR).1
 have hm1 : ∀ x ∈ z,Xa x = true := fun x hx => hm x (by simp [hx])
 have ih := ih hr1 hm1
 rw [Qvb]
 intro r hr
 rcases List.mem_append.1 hr with hr | hr
 · exact ih r hr
 · split at hr
   · rw [List.mem_singleton] at hr
     subst hr
     refine ⟨hm e (by simp),Quj _,Nat.le_trans (Qr1 _) ?_⟩
     unfold Qbp
     split
     · rw [Qzn (Qyu hr1)]
       exact (Q5y e.item _ fun y hy => Qr4 hm1 y (List.mem_filter.1 hy).1).2.2
     · simp
   · simp at hr
abbrev Ct := ByteArray × Int
def Qgk (x:Ct) : List Value := [.string x.1,.int .i64 x.2]
theorem Qkb (x:Ct) : (Qgk x).length = 2 := rfl
theorem Qn6 (x:Ct) : ∀ u ∈ Qgk x,u.oneCell' = true := by simp [Qgk,Value.oneCell']
theorem Q34 : Qy9 Tryz.prog 99 102 Qgk 2 24 := ⟨by kernel_rfl,⟨_,ty102_ok,rfl,rfl⟩,by102,by decide,by decide,Qkb,Qn6⟩
theorem Qr9 {z:List Ev} (h:∀ e ∈ z,Xa e = true) : ∀ e ∈ z.filter wpB,Xa e = true := fun e he => h e (List.mem_filter.1 he).1
theorem Qqx {e:Ev} (h:Xa e = true) : 0 ≤ e.at_ ∧ e.at_ ≤ 1099511627776 := by
 have := (Qb9.1 h).at_
 exact this
theorem Qzr {c:Cfg} (h:Qj2 c = true) : (1 ≤ c.half ∧ c.half ≤ 1099511627776) ∧ (1 ≤ c.width ∧ c.width ≤ 1099511627776) ∧ (1 ≤ c.span ∧ c.span ≤ 1099511627776) ∧ c.span.tmod c.width = 0 ∧ (0 ≤ c.gap ∧ c.gap ≤ 1099511627776) ∧ (0 ≤ c.floor ∧ c.floor ≤ 1048576) ∧ (0 ≤ c.crowd ∧ c.crowd ≤ 1048576) := by
 unfold Qj2 inB at h
 simp only [Bool.and_eq_true,decide_eq_true_eq] at h
 obtain ⟨⟨⟨⟨⟨⟨h1,h2⟩,h3⟩,h4⟩,h5⟩,h6⟩,h7⟩ := h
 exact ⟨h1,h2,h3,h4,h5,h6,h7⟩
theorem Q5t {n:Int} (h:1 ≤ n ∧ n ≤ 1099511627776) : Qw n = n := by unfold Qw; omega
theorem Qhz {t width:Int} (hw:1 ≤ width) (h:-4398046511104 ≤ t ∧ t ≤ 4398046511104) : -4398046511104 ≤ t / width ∧ t / width ≤ 4398046511104 := by
 constructor
 · rw [Int.le_ediv_iff_mul_le (by omega)]
   have : -4398046511104 * width ≤ -4398046511104 * 1 := Int.mul_le_mul_of_nonpos_left (by omega) (by omega)
   omega
 · rcases Int.lt_or_le t 0 with h1 | h1
   · have := Int.ediv_neg_of_neg_of_pos h1 (show 0 < width by omega)
     omega
   · have := Int.ediv_le_self width h1
     omega
theorem Ql7 {w:World} {T:Nat → Prop} (person:ByteArray) : ∀ {D:List (Ev × SV)} {rs:List Row},Qg0 w T D rs → Qg0 w T (Qaa D person) (rowsOf rs person)
 | [],rs,h => by
   have : rs = [] := by have := h.len; simpa using this.symm
   subst this
   exact h
 | d :: D,[],h => by have := h.len; simp at this
 | d :: D,r :: rs,h => by
   have h0 := h.ev 0 d r rfl rfl
   have hT : Qg0 w T D rs := ⟨by have := h.len; simpa using this,fun i d r hd hr => h.ev (i + 1) d r hd hr⟩
   have ih := Ql7 person hT
   unfold Qaa rowsOf at *
   simp only [List.filter_cons,h0.1]
   split
   · refine ⟨by simp [ih.len],fun i d' r' hd hr => ?_⟩
     cases i with
     | zero =>
       simp at hd hr
       subst hd; subst hr
       exact h0
     | succ i => exact ih.ev i d' r' (by simpa using hd) (by simpa using hr)
   · exact ih
theorem Qg0.ext {w w1:World} {T:Nat → Prop} {D:List (Ev × SV)} {rs:List Row} (h:Qg0 w T D rs) (hT:∀ k,T k → k < w.heap.size) (hx:Ext w w1) : Qg0 w1 T D rs :=
 ⟨h.len,fun i d r hd hr => by
  obtain ⟨h1,h2,h3,h4⟩ := h.ev i d r hd hr
  exact ⟨h1,h2,h3.ext hx,h4⟩⟩
def Qd8 (c:Cfg) (z:List Ev) : List Sn := Qid (Qvi c.gap) (Qe5 (z.filter wpB))
end Go.Proofs.YtdahooejkjcjiaaGreatDoor
