/- Several texts in one: Ct, Pl5, Pl6, Sm. -/
import Derived.Test.YtopncieoolkhjaaGreatDoorGF
import Derived.Test.YtopncieoolkhjaaGreatDoorGC
import Derived.Test.YtopncieoolkhjaaGreatDoorGH
set_option linter.unusedVariables false
set_option linter.unusedSimpArgs false
namespace Go.Proofs.YtopncieoolkhjaaGreatDoor
open Go.Se Go.RowKit
theorem Q46 (row:List St) (t:Int) : (stN row t = 0 ∨ ∃ s,row[stN row t - 1]? = some s ∧ s.at_ ≤ t) ∧ (stN row t = row.length ∨ ∃ s,row[stN row t]? = some s ∧ t < s.at_) ∧ stN row t ≤ row.length := by
 unfold stN
 induction row with
 | nil => simp
 | cons a row ih =>
   rw [List.takeWhile_cons]
   by_cases h : a.at_ ≤ t
   · rw [if_pos (by simpa using h)]
     obtain ⟨i1,i2,i3⟩ := ih
     simp only [List.length_cons]
     generalize (row.takeWhile fun s => decide (s.at_ ≤ t)).length = n at *
     refine ⟨.inr ?_,?_,by omega⟩
     · rcases i1 with rfl | ⟨s,hs,hle⟩
       · exact ⟨a,by simp,h⟩
       · cases n with
         | zero => exact ⟨a,by simp,h⟩
         | succ n => exact ⟨s,by simpa using hs,hle⟩
     · rcases i2 with h2 | ⟨s,hs,hlt⟩
       · exact .inl (by omega)
       · exact .inr ⟨s,by simpa using hs,hlt⟩
   · rw [if_neg (by simpa using h)]
     exact ⟨.inl rfl,.inr ⟨a,rfl,by omega⟩,by simp⟩
def thQ (name:ByteArray) (t:Int) (e:Ev) : Bool := decide (e.item = name) && decide (e.at_ ≤ t)
def Qlv (name:ByteArray) (es:List Ev) : St := es.foldl Qbt (Qgg name)
theorem Qf6 (name:ByteArray) (es:List Ev) (e:Ev) : Qlv name (es ++ [e]) = Qbt (Qlv name es) e := by simp [Qlv]
def Qnl (name:ByteArray) (es:List Ev) : It := if es.isEmpty then Qcn else (Qlv name es).item
theorem Qhz {row:List St} {t:Int} (h:∀ s ∈ row,s.at_ ≤ t) : stN row t = row.length := by
 unfold stN
 have : row.takeWhile (fun s => decide (s.at_ ≤ t)) = row := by
  have := List.takeWhile_append_of_pos (l₂ := []) (p := fun s : St => decide (s.at_ ≤ t)) (l₁ := row) (fun s hs => by simpa using h s hs)
  simpa using this
 rw [this]
theorem Q0e : ∀ (cs:List Ev),Rise cs → ∀ (name:ByteArray) (t:Int),
 (stN (Qz cs name) t = 0 ↔ cs.filter (thQ name t) = []) ∧ (stN (Qz cs name) t ≠ 0 → (Qz cs name)[stN (Qz cs name) t - 1]? = some (Qlv name (cs.filter (thQ name t)))) := by
 refine Qv ?_ ?_
 · intro _ name t
   simp [Qz,stN]
 · intro cs e ih h name t
   have h1 : Rise cs := (List.pairwise_append.1 h).1
   have h2 := (List.pairwise_append.1 h).2.2
   obtain ⟨i1,i2⟩ := ih h1 name t
   obtain ⟨r1,r2⟩ := Qiu cs h1 name
   rw [Qcb,List.filter_append]
   unfold Qgk Qmy
   by_cases hn : name = e.item
   · rw [if_pos hn]
     subst hn
     generalize hrow : Qz cs e.item = row at *
     have hle : ∀ s ∈ row,s.at_ ≤ e.at_ := fun s hs => by
      obtain ⟨e',he',h3,_⟩ := r2 s hs
      have := Qr3 (h2 e' he' e (by simp)); omega
     by_cases ht : e.at_ ≤ t
     · have hq : thQ e.item t e = true := by simp [thQ,ht]
       have hall : ∀ s ∈ row ++ [Qfo row e],s.at_ ≤ t := fun s hs => by
        rcases List.mem_append.1 hs with hs | hs
        · have := hle s hs; omega
        · simp at hs; subst hs; unfold Qfo; rw [Qfp]; exact ht
       have hN : stN row t = row.length := Qhz fun s hs => hall s (by simp [hs])
       rw [Qhz hall]
       refine ⟨by simp [List.filter_cons,hq],fun _ => ?_⟩
       simp only [List.filter_cons,hq,if_true,List.filter_nil,Qf6]
       rw [List.length_append,List.length_singleton,Nat.add_sub_cancel,List.getElem?_append_right (Nat.le_refl _),Nat.sub_self]
       unfold Qfo
       rw [hN] at i1 i2
       congr 2
       by_cases h0 : row.length = 0
       · have h3 := i1.1 h0
         rw [h3,List.length_eq_zero_iff.1 h0]
         rfl
       · rw [List.getLast?_eq_getElem?,i2 h0]; rfl
     · have hq : thQ e.item t e = false := by simp [thQ,ht]
       have hN : stN (row ++ [Qfo row e]) t = stN row t := by
        unfold stN
        rw [List.takeWhile_append]
        split
        · rw [List.takeWhile_cons_of_neg (by unfold Qfo; rw [Qfp]; simpa using ht)]
          simp; omega
        · rfl
       rw [hN]
       simp only [List.filter_cons,hq,Bool.false_eq_true,if_false,List.filter_nil,List.append_nil]
       refine ⟨i1,fun h0 => ?_⟩
       have := (Q46 row t).2.2
       rw [List.getElem?_append_left (by omega)]
       exact i2 h0
   · rw [if_neg hn]
     have hq : thQ name t e = false := by simp [thQ,Ne.symm hn]
     simp only [List.filter_cons,hq,Bool.false_eq_true,if_false,List.filter_nil,List.append_nil]
     exact ⟨i1,i2⟩
theorem Qdb {cs:List Ev} (h:Rise cs) (name:ByteArray) (t:Int) : Qbp cs name t = (Qnl name (cs.filter (thQ name t)),!(cs.filter (thQ name t)).isEmpty) := by
 obtain ⟨h1,h2⟩ := Q0e cs h name t
 unfold Qbp Qnl
 by_cases h0 : stN (Qz cs name) t = 0
 · have h3 := h1.1 h0
   rw [h3,h0]
   cases (Qz cs name)[0 - 1]? <;> rfl
 · have h3 : cs.filter (thQ name t) ≠ [] := fun h => h0 (h1.2 h)
   rw [h2 h0]
   simp only [if_neg h0]
   generalize cs.filter (thQ name t) = F at h3
   cases F with
   | nil => exact absurd rfl h3
   | cons a es => rfl
structure Sto {α:Type} (lt:α → α → Bool) : Prop where
 irrefl : ∀ a,lt a a = false
 trans : ∀ {a b c},lt a b = true → lt b c = true → lt a c = true
 tri : ∀ {a b},lt a b = false → lt b a = false → a = b
theorem Qoj : Sto bLt := ⟨Xm,Qa6,Qbw⟩
def SG {α:Type} (lt:α → α → Bool) (l:List α) : Prop := l.Pairwise fun x y => lt x y = true
theorem SG.nodup {α:Type} {lt:α → α → Bool} (O:Sto lt) {l:List α} (h:SG lt l) : l.Nodup := h.imp fun h e => by rw [e,O.irrefl] at h; cases h
theorem Qqq {α:Type} {lt:α → α → Bool} (O:Sto lt) {a b:α} (h:lt a b = true) : lt b a = false := by
 cases hb : lt b a with
 | false => rfl
 | true => have := O.trans h hb; rw [O.irrefl] at this; cases this
theorem Qk3 {α:Type} {lt:α → α → Bool} (O:Sto lt) {l m:List α} (h1:SG lt l) (h2:SG lt m) (hm:∀ x,x ∈ l ↔ x ∈ m) : l = m :=
 List.Perm.eq_of_pairwise (le := fun a b => lt b a = false) (fun a b _ _ h1 h2 => O.tri h2 h1) (h1.imp fun h => Qqq O h) (h2.imp fun h => Qqq O h) (Qch (h1.nodup O) (h2.nodup O) (fun x hx => (hm x).1 hx) fun x hx => (hm x).2 hx)
section
variable {α:Type} [DecidableEq α] {lt:α → α → Bool}
def Qq7 (lt:α → α → Bool) (l:List α) (a:α) : List α :=
 if (l.dropWhile fun x => lt x a).head? = some a then l else l.takeWhile (fun x => lt x a) ++ a :: l.dropWhile (fun x => lt x a)
theorem Qnk (a:α) : Qq7 lt [] a = [a] := by simp [Qq7]
theorem Qkd (x:α) (l:List α) (a:α) : Qq7 lt (x :: l) a = if lt x a = true then x :: Qq7 lt l a else if x = a then x :: l else a :: x :: l := by
 unfold Qq7
 rw [List.takeWhile_cons,List.dropWhile_cons]
 cases h : lt x a with
 | true =>
   simp only [if_true]
   split <;> simp
 | false =>
   simp only [Bool.false_eq_true,if_false,List.head?_cons,Option.some.injEq,List.nil_append]
theorem Qcu {x a:α} : ∀ {l:List α},x ∈ Qq7 lt l a ↔ x ∈ l ∨ x = a
 | [] => by rw [Qnk]; simp
 | y :: l => by
   have ih := Qcu (x := x) (a := a) (l := l)
   rw [Qkd]
   split
   · rw [List.mem_cons,ih,List.mem_cons]; exact or_assoc.symm
   · split
     · next h =>
       subst h
       constructor
       · exact .inl
       · rintro (h | rfl)
         · exact h
         · simp
     · rw [List.mem_cons]; exact or_comm
theorem Qr1 (O:Sto lt) {a:α} : ∀ {l:List α},SG lt l → SG lt (Qq7 lt l a)
 | [],_ => by rw [Qnk]; exact List.pairwise_singleton _ _
 | y :: l,h => by
   have h' := List.pairwise_cons.1 h
   have ih := Qr1 O (a := a) h'.2
   rw [Qkd]
   split
   · next hy =>
     refine List.pairwise_cons.2 ⟨fun x hx => ?_,ih⟩
     rcases Qcu.1 hx with hx | rfl
     · exact h'.1 x hx
     · exact hy
   · next hy =>
     split
     · exact h
     · next hne =>
       have hay : lt a y = true := by
        cases hq : lt a y with
        | true => rfl
        | false => exact absurd (O.tri (by simpa using hy) hq) hne
       refine List.pairwise_cons.2 ⟨fun x hx => ?_,h⟩
       rcases List.mem_cons.1 hx with rfl | hx
       · exact hay
       · exact O.trans hay (h'.1 x hx)
def Qec (lt:α → α → Bool) (l:List α) : List α := l.foldl (Qq7 lt) []
theorem Qgo (l:List α) (a:α) : Qec lt (l ++ [a]) = Qq7 lt (Qec lt l) a := by unfold Qec; rw [List.foldl_append]; rfl
theorem Qmc {x:α} : ∀ l : List α,x ∈ Qec lt l ↔ x ∈ l := by
 refine Qv (by simp [Qec]) fun l a ih => ?_
 rw [Qgo,Qcu,ih,List.mem_append,List.mem_singleton]
theorem Qhd (O:Sto lt) : ∀ l : List α,SG lt (Qec lt l) := by
 refine Qv List.Pairwise.nil fun l a ih => ?_
 rw [Qgo]
 exact Qr1 O ih
theorem Qnj (a:α) : ∀ l : List α,(Qq7 lt l a).length ≤ l.length + 1
 | [] => by rw [Qnk]; simp
 | y :: l => by
   have ih := Qnj a l
   rw [Qkd]
   split
   · simp; omega
   · split <;> simp
theorem Qv3 : ∀ l : List α,(Qec lt l).length ≤ l.length := by
 refine Qv (by simp [Qec]) fun l a ih => ?_
 rw [Qgo]
 have := Qnj (lt := lt) a (Qec lt l)
 simp; omega
end
theorem Qi2 {l:List ByteArray} (h:l.Nodup) : SG bLt (Xz l) := by
 have h1 := Qhs l
 have h2 : (Xz l).Pairwise (· ≠ ·) := List.nodup_iff_pairwise_ne.1 ((Qb5 l).nodup_iff.2 h)
 refine (List.Pairwise.and h1 h2).imp ?_
 rintro a b ⟨h3,h4⟩
 cases hc : bLt a b with
 | true => rfl
 | false => exact absurd (Qbw hc h3) h4
theorem Qqh {l:List Int} (h:l.Nodup) : (Qdo l).Pairwise (· < ·) := by
 have h1 := Qk5 l
 have h2 : (Qdo l).Pairwise (· ≠ ·) := List.nodup_iff_pairwise_ne.1 ((Qc5 l).nodup_iff.2 h)
 refine (List.Pairwise.and h1 h2).imp ?_
 rintro a b ⟨h3,h4⟩
 omega
theorem Qgv (l:List ByteArray) : SG bLt (Qev l) := Qi2 (Qd9 l)
theorem Qt4 (l:List ByteArray) (s:ByteArray) : Qq7 bLt (Qev l) s = Qev (l ++ [s]) :=
 Qk3 Qoj (Qr1 Qoj (Qgv l)) (Qgv _) fun x => by rw [Qcu,Qcz,Qcz,List.mem_append,List.mem_singleton]
theorem Qz5 (l:List ByteArray) : Qev (Qev l) = Qev l := Qmq fun x => Qcz
abbrev Ad3 := ByteArray × Int × ByteArray
def adE (e:Ev) : Ad3 := (e.person,e.at_,e.item)
def ahB (a b:Ad3) : Bool := if a.1 = b.1 then (if a.2.1 = b.2.1 then bLt a.2.2 b.2.2 else decide (a.2.1 < b.2.1)) else bLt a.1 b.1
theorem Qgj {a b:Ad3} : ahB a b = true ↔ bLt a.1 b.1 = true ∨ (a.1 = b.1 ∧ (a.2.1 < b.2.1 ∨ (a.2.1 = b.2.1 ∧ bLt a.2.2 b.2.2 = true))) := by
 unfold ahB
 by_cases h1 : a.1 = b.1
 · have hi : bLt a.1 b.1 = false := by rw [h1]; exact Xm _
   rw [if_pos h1]
   by_cases h2 : a.2.1 = b.2.1
   · rw [if_pos h2]
     constructor
     · intro h; exact .inr ⟨h1,.inr ⟨h2,h⟩⟩
     · rintro (h | ⟨_,h | ⟨_,h⟩⟩)
       · rw [hi] at h; cases h
       · omega
       · exact h
   · rw [if_neg h2,decide_eq_true_eq]
     constructor
     · intro h; exact .inr ⟨h1,.inl h⟩
     · rintro (h | ⟨_,h | ⟨h,_⟩⟩)
       · rw [hi] at h; cases h
       · exact h
       · exact absurd h h2
 · rw [if_neg h1]
   constructor
   · exact .inl
   · rintro (h | ⟨h,_⟩)
     · exact h
     · exact absurd h h1
theorem Qmv : Sto ahB where
 irrefl a := by unfold ahB; rw [if_pos rfl,if_pos rfl]; exact Xm _
 trans := by
  intro a b c h k
  rw [Qgj] at *
  rcases h with h | ⟨h,h'⟩ <;> rcases k with k | ⟨k,k'⟩
  · exact .inl (Qa6 h k)
  · exact .inl (k ▸ h)
  · exact .inl (h ▸ k)
  · refine .inr ⟨h.trans k,?_⟩
    rcases h' with h' | ⟨h',h2⟩ <;> rcases k' with k' | ⟨k',k2⟩
    · exact .inl (by omega)
    · exact .inl (by omega)
    · exact .inl (by omega)
    · exact .inr ⟨by omega,Qa6 h2 k2⟩
 tri := by
  intro a b h k
  obtain ⟨a1,a2,a3⟩ := a
  obtain ⟨b1,b2,b3⟩ := b
  rw [← Bool.not_eq_true,Qgj] at h k
  simp only at h k
  have e1 : a1 = b1 := Qbw (by rw [← Bool.not_eq_true]; exact fun x => h (.inl x)) (by rw [← Bool.not_eq_true]; exact fun x => k (.inl x))
  subst e1
  have e2 : a2 = b2 := by
   rcases Int.lt_trichotomy a2 b2 with x | x | x
   · exact absurd (.inr ⟨rfl,.inl x⟩) h
   · exact x
   · exact absurd (.inr ⟨rfl,.inl x⟩) k
  subst e2
  have e3 : a3 = b3 := Qbw (by rw [← Bool.not_eq_true]; exact fun x => h (.inr ⟨rfl,.inr ⟨rfl,x⟩⟩)) (by rw [← Bool.not_eq_true]; exact fun x => k (.inr ⟨rfl,.inr ⟨rfl,x⟩⟩))
  rw [e3]
def tks (ss:Ses) (p:ByteArray) : Qdk := (Qe ss p).getD []
theorem Qjp (s:Ses) (P I:ByteArray) (T:Int) (p:ByteArray) : tks (Q09 s P T I) p = if p = P then Q3 (tks s P) T (Q3 ((Qe (tks s P) T).getD []) I true) else tks s p := by
 unfold tks Q09
 rw [Xe]
 split <;> rfl
theorem Qe7 {κ β:Type} [DecidableEq κ] {k x:κ} {v:β} {l:List (κ × β)} : x ∈ (Q3 l k v).map (·.1) ↔ x ∈ l.map (·.1) ∨ x = k := by
 rw [Qd8]
 split
 · next h =>
   constructor
   · exact .inl
   · rintro (h1 | rfl)
     · exact h1
     · exact h
 · rw [List.mem_append,List.mem_singleton]
theorem Qta (m:Qdk) (T t:Int) (x:List (ByteArray × Bool)) : Xf (Q3 m T x) t = if t = T then x.map (·.1) else Xf m t := by
 unfold Xf
 rw [Xe]
 split <;> rfl
structure Q30 (ss:Ses) (l:List Ev) : Prop where
 keys : ss.Pairwise (fun x y => x.1 ≠ y.1)
 ticks : ∀ p,(tks ss p).Pairwise (fun x y => x.1 ≠ y.1)
 item : ∀ p t i,i ∈ Xf (tks ss p) t ↔ ∃ e ∈ l,e.person = p ∧ e.at_ = t ∧ e.item = i
 tick : ∀ p t,t ∈ (tks ss p).map (·.1) ↔ ∃ e ∈ l,e.person = p ∧ e.at_ = t
 person : ∀ p,p ∈ ss.map (·.1) ↔ ∃ e ∈ l,e.person = p
theorem Q45 : ∀ l : List Ev,Q30 (Qgf l) l := by
 refine Qv ⟨List.Pairwise.nil,fun p => List.Pairwise.nil,fun p t i => by simp [Qgf,tks,Qe,Xf],fun p t => by simp [Qgf,tks,Qe],fun p => by simp [Qgf]⟩ fun l e ih => ?_
 rw [Qsz]
 refine ⟨Qa1 ih.keys,fun p => ?_,fun p t i => ?_,fun p t => ?_,fun p => ?_⟩
 · rw [Qjp]
   split
   · exact Qa1 (ih.ticks _)
   · exact ih.ticks p
 · rw [Qjp]
   have hx : (∃ x ∈ l ++ [e],x.person = p ∧ x.at_ = t ∧ x.item = i) ↔ (∃ x ∈ l,x.person = p ∧ x.at_ = t ∧ x.item = i) ∨ (e.person = p ∧ e.at_ = t ∧ e.item = i) := by
    constructor
    · rintro ⟨x,hx,h⟩
      rcases List.mem_append.1 hx with hx | hx
      · exact .inl ⟨x,hx,h⟩
      · rw [List.mem_singleton] at hx; subst hx; exact .inr h
    · rintro (⟨x,hx,h⟩ | h)
      · exact ⟨x,by simp [hx],h⟩
      · exact ⟨e,by simp,h⟩
   rw [hx,← ih.item]
   by_cases hp : p = e.person
   · subst hp
     rw [if_pos rfl,Qta]
     by_cases ht : t = e.at_
     · subst ht
       rw [if_pos rfl,Qe7]
       show (i ∈ Xf (tks (Qgf l) e.person) e.at_ ∨ i = e.item) ↔ _
       constructor
       · rintro (h | h)
         · exact .inl h
         · exact .inr ⟨rfl,rfl,h.symm⟩
       · rintro (h | ⟨_,_,h⟩)
         · exact .inl h
         · exact .inr h.symm
     · rw [if_neg ht]
       constructor
       · exact .inl
       · rintro (h | ⟨_,h,_⟩)
         · exact h
         · exact absurd h.symm ht
   · rw [if_neg hp]
     constructor
     · exact .inl
     · rintro (h | ⟨h,_⟩)
       · exact h
       · exact absurd h.symm hp
 · rw [Qjp]
   have hx : (∃ x ∈ l ++ [e],x.person = p ∧ x.at_ = t) ↔ (∃ x ∈ l,x.person = p ∧ x.at_ = t) ∨ (e.person = p ∧ e.at_ = t) := by
    constructor
    · rintro ⟨x,hx,h⟩
      rcases List.mem_append.1 hx with hx | hx
      · exact .inl ⟨x,hx,h⟩
      · rw [List.mem_singleton] at hx; subst hx; exact .inr h
    · rintro (⟨x,hx,h⟩ | h)
      · exact ⟨x,by simp [hx],h⟩
      · exact ⟨e,by simp,h⟩
   rw [hx,← ih.tick]
   by_cases hp : p = e.person
   · subst hp
     rw [if_pos rfl,Qe7]
     constructor
     · rintro (h | h)
       · exact .inl h
       · exact .inr ⟨rfl,h.symm⟩
     · rintro (h | ⟨_,h⟩)
       · exact .inl h
       · exact .inr h.symm
   · rw [if_neg hp]
     constructor
     · exact .inl
     · rintro (h | ⟨h,_⟩)
       · exact h
       · exact absurd h.symm hp
 · show p ∈ (Q3 _ _ _).map (·.1) ↔ _
   rw [Qe7,ih.person]
   constructor
   · rintro (⟨x,hx,h⟩ | rfl)
     · exact ⟨x,by simp [hx],h⟩
     · exact ⟨e,by simp,rfl⟩
   · rintro ⟨x,hx,h⟩
     rcases List.mem_append.1 hx with hx | hx
     · exact .inl ⟨x,hx,h⟩
     · rw [List.mem_singleton] at hx; subst hx; exact .inr h.symm
def Qni (p:ByteArray) (k:Qdk) (t:Int) : List Ad3 := (Qev (Xf k t)).map fun i => (p,t,i)
def Qrv (ss:Ses) (p:ByteArray) : List Ad3 := (Qdo ((tks ss p).map (·.1))).flatMap (Qni p (tks ss p))
def Q1v (ss:Ses) : List Ad3 := (Xz (ss.map (·.1))).flatMap (Qrv ss)
theorem Qkj {β:Type} {L:List (Int × β)} (h:L.Pairwise (fun x y => x.1 ≠ y.1)) : (L.map (·.1)).Nodup := by
 rw [List.nodup_iff_pairwise_ne,List.pairwise_map]; exact h
theorem Q1x (p:ByteArray) (k:Qdk) (t:Int) : SG ahB (Qni p k t) := by
 unfold SG Qni
 rw [List.pairwise_map]
 refine List.Pairwise.imp ?_ (Qgv (Xf k t))
 intro a b h
 exact Qgj.2 (.inr ⟨rfl,.inr ⟨rfl,h⟩⟩)
theorem Qhb {p:ByteArray} {k:Qdk} {t:Int} {x:Ad3} : x ∈ Qni p k t ↔ x.1 = p ∧ x.2.1 = t ∧ x.2.2 ∈ Xf k t := by
 unfold Qni
 rw [List.mem_map]
 constructor
 · rintro ⟨i,hi,rfl⟩; exact ⟨rfl,rfl,Qcz.1 hi⟩
 · rintro ⟨h1,h2,h3⟩; exact ⟨x.2.2,Qcz.2 h3,by rw [← h1,← h2]⟩
theorem Q1u {ss:Ses} {l:List Ev} (h:Q30 ss l) (p:ByteArray) : SG ahB (Qrv ss p) := by
 unfold SG Qrv
 rw [List.pairwise_flatMap]
 refine ⟨fun t _ => Q1x _ _ _,(Qqh (Qkj (h.ticks p))).imp fun hlt x hx y hy => ?_⟩
 obtain ⟨x1,x2,_⟩ := Qhb.1 hx
 obtain ⟨y1,y2,_⟩ := Qhb.1 hy
 exact Qgj.2 (.inr ⟨x1.trans y1.symm,.inl (by omega)⟩)
theorem Qha {ss:Ses} {l:List Ev} (h:Q30 ss l) {p:ByteArray} {x:Ad3} : x ∈ Qrv ss p ↔ x.1 = p ∧ ∃ e ∈ l,adE e = x := by
 unfold Qrv
 rw [List.mem_flatMap]
 constructor
 · rintro ⟨t,_,hx⟩
   obtain ⟨h1,h2,h3⟩ := Qhb.1 hx
   obtain ⟨e,he,e1,e2,e3⟩ := (h.item _ _ _).1 h3
   exact ⟨h1,e,he,by unfold adE; rw [e1,e2,e3,← h1,← h2]⟩
 · rintro ⟨h1,e,he,rfl⟩
   refine ⟨e.at_,Qk4.2 ((h.tick _ _).2 ⟨e,he,h1,rfl⟩),Qhb.2 ⟨h1,rfl,(h.item _ _ _).2 ⟨e,he,h1,rfl,rfl⟩⟩⟩
theorem Q1w (l:List Ev) : Q1v (Qgf l) = Qec ahB (l.map adE) := by
 have h := Q45 l
 refine Qk3 Qmv ?_ (Qhd Qmv _) fun x => ?_
 · unfold SG Q1v
   rw [List.pairwise_flatMap]
   refine ⟨fun p _ => Q1u h p,(Qi2 (Qc3 h.keys)).imp fun hlt x hx y hy => ?_⟩
   have h1 := ((Qha h).1 hx).1
   have h2 := ((Qha h).1 hy).1
   exact Qgj.2 (.inl (by rw [h1,h2]; exact hlt))
 · rw [Qmc]
   unfold Q1v
   rw [List.mem_flatMap,List.mem_map]
   constructor
   · rintro ⟨p,_,hx⟩
     exact ((Qha h).1 hx).2
   · rintro ⟨e,he,rfl⟩
     exact ⟨e.person,Qk7.2 ((h.person _).2 ⟨e,he,rfl⟩),(Qha h).2 ⟨rfl,e,he,rfl⟩⟩
def Xl (gap:Int) (acc:List Sn) (a:Ad3) : List Sn :=
 match acc.getLast? with
 | some g => if g.person = a.1 ∧ a.2.1 - g.to_ ≤ gap then acc.dropLast ++ [⟨a.1,g.from_,a.2.1,Qq7 bLt g.items a.2.2⟩] else acc ++ [⟨a.1,a.2.1,a.2.1,[a.2.2]⟩]
 | none => acc ++ [⟨a.1,a.2.1,a.2.1,[a.2.2]⟩]
theorem Qe4 (gap:Int) (acc:List Sn) (g:Sn) (a:Ad3) : Xl gap (acc ++ [g]) a = if g.person = a.1 ∧ a.2.1 - g.to_ ≤ gap then acc ++ [⟨a.1,g.from_,a.2.1,Qq7 bLt g.items a.2.2⟩] else (acc ++ [g]) ++ [⟨a.1,a.2.1,a.2.1,[a.2.2]⟩] := by
 unfold Xl
 rw [List.getLast?_append,List.getLast?_singleton,Option.some_or,List.dropLast_concat]
def allL (gap:Int) (L:List Ad3) : List Sn := L.foldl (Xl gap) []
theorem Qm2 (gap:Int) (hg:0 ≤ gap) (p:ByteArray) (t:Int) : ∀ (its:List ByteArray) (acc:List Sn) (f:Int) (X:List ByteArray),(its.map fun i => ((p,t,i) : Ad3)).foldl (Xl gap) (acc ++ [⟨p,f,t,Qev X⟩]) = acc ++ [⟨p,f,t,Qev (X ++ its)⟩]
 | [],acc,f,X => by simp
 | i :: its,acc,f,X => by
   have ih := Qm2 gap hg p t its acc f (X ++ [i])
   rw [List.map_cons,List.foldl_cons,Qe4,if_pos ⟨rfl,by simp only; omega⟩,Qt4,ih]
   simp
theorem Q2l (i:ByteArray) : Qev [i] = [i] := by simp [Qev,Qyc,Xz]
theorem Q1f (gap:Int) (hg:0 ≤ gap) (p:ByteArray) (k:Qdk) (t:Int) (hne:Xf k t ≠ []) :
 (∀ (acc:List Sn),(∀ g,acc.getLast? = some g → g.person ≠ p ∨ gap < t - g.to_) → (Qni p k t).foldl (Xl gap) acc = acc ++ [⟨p,t,t,Qev (Xf k t)⟩]) ∧
 (∀ (acc:List Sn) (f u:Int) (X:List ByteArray),t - u ≤ gap → (Qni p k t).foldl (Xl gap) (acc ++ [⟨p,f,u,Qev X⟩]) = acc ++ [⟨p,f,t,Qev (X ++ Xf k t)⟩]) := by
 have hex : Qev (Xf k t) ≠ [] := by
  intro h
  cases hq : Xf k t with
  | nil => exact hne hq
  | cons y l =>
    have : y ∈ Qev (Xf k t) := Qcz.2 (by rw [hq]; simp)
    rw [h] at this
    simp at this
 unfold Qni
 cases hs : Qev (Xf k t) with
 | nil => exact absurd hs hex
 | cons i its =>
   have hss : Qev (i :: its) = Qev (Xf k t) := by rw [← hs,Qz5]
   refine ⟨fun acc hacc => ?_,fun acc f u X hu => ?_⟩
   · have h1 : Xl gap acc (p,t,i) = acc ++ [⟨p,t,t,Qev [i]⟩] := by
      unfold Xl
      rw [Q2l]
      cases hl : acc.getLast? with
      | none => rfl
      | some g =>
        simp only
        rw [if_neg]
        rintro ⟨h2,h3⟩
        rcases hacc g hl with h | h
        · exact h h2
        · have h3 : t - g.to_ ≤ gap := h3
          omega
     rw [List.map_cons,List.foldl_cons,h1,Qm2 gap hg]
     rw [show [i] ++ its = i :: its from rfl,hss,hs]
   · rw [List.map_cons,List.foldl_cons,Qe4,if_pos ⟨rfl,hu⟩,Qt4,Qm2 gap hg]
     have : Qev (X ++ [i] ++ its) = Qev (X ++ Xf k t) := Qmq fun x => by
      have hx : x ∈ i :: its ↔ x ∈ Xf k t := by rw [← hs]; exact Qcz
      have h4 : x ∈ X ++ [i] ++ its ↔ x ∈ X ∨ x ∈ i :: its := by simp [or_assoc]
      rw [h4,hx,List.mem_append]
     rw [this]
theorem Qve (gap:Int) (hg:0 ≤ gap) (p:ByteArray) (k:Qdk) (acc:List Sn) (hacc:∀ g,acc.getLast? = some g → g.person ≠ p) : ∀ ts : List Int,(∀ t ∈ ts,Xf k t ≠ []) → (ts.flatMap (Qni p k)).foldl (Xl gap) acc = acc ++ (Qez gap k ts).map (Q1c p) := by
 refine Qv (fun _ => by simp [Qez]) fun ts t ih h => ?_
 have ih := ih fun x hx => h x (by simp [hx])
 obtain ⟨hA,hB⟩ := Q1f gap hg p k t (h t (by simp))
 rw [List.flatMap_append,List.foldl_append,ih,Qfy]
 simp only [List.flatMap_cons,List.flatMap_nil,List.append_nil]
 generalize Qez gap k ts = G
 clear ih
 unfold Qb0
 cases hG : G.getLast? with
 | none =>
   have : G = [] := by simpa using hG
   subst this
   simp only [List.map_nil,List.append_nil,List.map_cons]
   rw [hA acc fun g hl => .inl (hacc g hl)]
   rfl
 | some g =>
   obtain ⟨G',rfl⟩ : ∃ G',G = G' ++ [g] := by
    have := List.getLast?_eq_some_iff.1 hG
    obtain ⟨ys,h⟩ := this
    exact ⟨ys,h⟩
   simp only [List.dropLast_concat]
   by_cases hc : gap < t - g.2.1
   · rw [if_pos hc,hA _ fun g' hl => ?_]
     · simp [Q1c]
     · rw [List.map_append,← List.append_assoc,List.map_cons,List.map_nil,List.getLast?_append,List.getLast?_singleton,Option.some_or] at hl
       injection hl with hl
       subst hl
       exact .inr hc
   · rw [if_neg hc,List.map_append,← List.append_assoc,List.map_cons,List.map_nil]
     rw [show Q1c p g = ⟨p,g.1,g.2.1,Qev g.2.2⟩ from rfl,hB _ _ _ _ (by omega),List.map_append,List.append_assoc]
     rfl
theorem Q0a {gap:Int} {ss:Ses} {p:ByteArray} {x:Sn} (h:x ∈ Qej gap ss p) : x.person = p := by
 unfold Qej at h
 obtain ⟨g,_,rfl⟩ := List.mem_map.1 h
 rfl
theorem Ql0 (gap:Int) (hg:0 ≤ gap) (ss:Ses) (hne:∀ p t,t ∈ (tks ss p).map (·.1) → Xf (tks ss p) t ≠ []) : ∀ (ps:List ByteArray) (acc:List Sn),ps.Nodup → (∀ g,acc.getLast? = some g → g.person ∉ ps) → (ps.flatMap (Qrv ss)).foldl (Xl gap) acc = acc ++ ps.flatMap (Qej gap ss)
 | [],acc,_,_ => by simp
 | p :: ps,acc,hn,hl => by
   rw [List.nodup_cons] at hn
   rw [List.flatMap_cons,List.foldl_append,List.flatMap_cons]
   have h1 : (Qrv ss p).foldl (Xl gap) acc = acc ++ Qej gap ss p := Qve gap hg p (tks ss p) acc (fun g hg he => hl g hg (by rw [he]; simp)) _ fun t ht => hne p t (Qk4.1 ht)
   rw [h1,Ql0 gap hg ss hne ps _ hn.2 ?_,List.append_assoc]
   intro g hgl
   rw [List.getLast?_append] at hgl
   cases hq : (Qej gap ss p).getLast? with
   | none =>
     rw [hq,Option.none_or] at hgl
     exact fun hm => hl g hgl (by simp [hm])
   | some x =>
     rw [hq,Option.some_or] at hgl
     injection hgl with hgl
     subst hgl
     rw [Q0a (List.mem_of_getLast? hq)]
     exact hn.1
theorem Qsq (gap:Int) (hg:0 ≤ gap) (l:List Ev) : allL gap (Qec ahB (l.map adE)) = Qhq gap (Qgf l) := by
 have h := Q45 l
 rw [← Q1w]
 unfold allL Q1v Qhq
 rw [Ql0 gap hg (Qgf l) (fun p t ht hne => ?_) _ [] ((Qb5 _).nodup_iff.2 (Qc3 h.keys)) (by simp),List.nil_append]
 obtain ⟨e,he,e1,e2⟩ := (h.tick p t).1 ht
 have := (h.item p t e.item).2 ⟨e,he,e1,e2,rfl⟩
 rw [hne] at this
 simp at this
theorem Qxi {age half:Int} (h:age < 0) : X9 age half = 0 := by unfold X9; rw [if_pos h]
theorem Qqb (r:ByteArray) : Qaj (Qex r) = r := by
 have hl : (Qex r).data.toList = 59 :: r.data.toList := by unfold Qex; simp
 have hp : Qbs (Qex r) = some 0 := by unfold Qbs; rw [hl]; rfl
 unfold Qaj
 rw [hp]
 simp only
 apply Qxx
 have h2 : ∀ s : ByteArray,s.toList = s.data.toList := fun s => by rw [ByteArray.toList_eq]
 rw [h2,h2,Qdq,hl]
 have : (Qex r).size = r.size + 1 := by
  have := congrArg List.length hl
  simpa using this
 rw [this]
 simp
 exact List.take_of_length_le (by simp)
theorem Q0s (s:ByteArray) : Qw (Qex (Qaj s)) = Qw s := by rw [Qdh,Qqb,Qdh s]
theorem Qiq : Qw (Qex ⟨#[]⟩) = [] := by rw [Qdh,Qqb,if_pos rfl]
def Q31 (l:List ByteArray) : Prop := (∀ t ∈ l,Qp t = true) ∧ SG bLt l ∧ l.length ≤ 8
theorem Q5b {l:List ByteArray} (h:Qfq l = true) (h8:l.length ≤ 8) : Q31 l := by
 unfold Qfq at h
 rw [List.all_eq_true] at h
 have hk : ∀ i (hi:i < l.length),Qp l[i] = true ∧ (i = 0 ∨ bLt (l.getD (i - 1) .empty) l[i] = true) := fun i hi => by
  have := h i (List.mem_range.2 hi)
  unfold Qqt at this
  rw [getD_lt hi] at this
  simpa using this
 refine ⟨fun t ht => ?_,?_,h8⟩
 · obtain ⟨i,hi,rfl⟩ := List.getElem_of_mem ht
   exact (hk i hi).1
 · have hs : ∀ d i (hi:i + d + 1 < l.length),bLt (l[i]'(by omega)) (l[i + d + 1]'hi) = true := by
    intro d
    induction d with
    | zero =>
      intro i hi
      have := (hk (i + 1) hi).2
      rw [Nat.add_sub_cancel,getD_lt (by omega)] at this
      rcases this with h | h
      · omega
      · exact h
    | succ d ih =>
      intro i hi
      have h1 := ih i (by omega)
      have := (hk (i + (d + 1) + 1) hi).2
      rw [show i + (d + 1) + 1 - 1 = i + d + 1 by omega,getD_lt (by omega)] at this
      rcases this with h | h
      · omega
      · exact Qa6 h1 h
   unfold SG
   rw [List.pairwise_iff_getElem]
   intro i j hi hj hij
   have := hs (j - i - 1) i (by omega)
   have e : i + (j - i - 1) + 1 = j := by omega
   simp only [e] at this
   exact this
theorem Q47 (name:ByteArray) : ∀ es : List Ev,(∀ e ∈ es,Xy e = true) → Q31 (Qw (Qex (Qlv name es).item.tags)) := by
 refine Qv (fun _ => ?_) fun es e ih h => ?_
 · show Q31 (Qw (Qex ⟨#[]⟩))
   rw [Qiq]
   exact ⟨by simp,List.Pairwise.nil,by simp⟩
 · have ih := ih fun x hx => h x (by simp [hx])
   have he := h e (by simp)
   rw [Qf6]
   unfold Qbt
   split
   · next hk =>
     show Q31 (Qw (Qex (Qaj e.text)))
     rw [Q0s]
     have hl : Qce e.text = true := by
      rcases Qbf (Qb2.1 he).kind with hq | hq | hq | hq | hq | hq | hq
      all_goals first | (exfalso; omega) | exact hq.2.2.2.1
     unfold Qce at hl
     simp only [Bool.and_eq_true] at hl
     exact Q5b hl.2.1 (by simpa using hl.2.2)
   · split
     · exact ih
     · exact ih
theorem Qkh (name:ByteArray) (es:List Ev) (h:∀ e ∈ es,Xy e = true) : Q31 (Qw (Qex (Qnl name es).tags)) := by
 unfold Qnl
 split
 · show Q31 (Qw (Qex ⟨#[]⟩))
   rw [Qiq]
   exact ⟨by simp,List.Pairwise.nil,by simp⟩
 · exact Q47 name es h
def Qom (cs:List Ev) (e:Ev) : List ByteArray := if e.item = ⟨#[]⟩ then [] else Qw (Qex (Qnl e.item (cs.filter (thQ e.item e.at_))).tags)
def Qz1 (z:List Ev) : List Ev × List Row := z.foldl (fun s e => (s.1 ++ [e],s.2 ++ if peB e = true then [(e,Qom (Qi s.1) e)] else [])) ([],[])
def Qk1 (z:List Ev) : List Row := (Qz1 z).2
theorem Q40 : ∀ z : List Ev,(Qz1 z).1 = z := by
 refine Qv rfl fun z e ih => ?_
 unfold Qz1 at *
 rw [List.foldl_append]
 simp only [List.foldl_cons,List.foldl_nil]
 rw [ih]
theorem Qmo (z:List Ev) (e:Ev) : Qk1 (z ++ [e]) = Qk1 z ++ if peB e = true then [(e,Qom (Qi z) e)] else [] := by
 have h := Q40 z
 unfold Qk1 Qz1 at *
 rw [List.foldl_append]
 simp only [List.foldl_cons,List.foldl_nil]
 rw [h]
theorem Qs5 {l:List ByteArray} {t x:ByteArray} : x ∈ Qaz l t ↔ x ∈ l ∨ (x = t ∧ Qp t = true) := by
 unfold Qaz
 split
 · next h =>
   rw [List.mem_append,List.mem_singleton]
   have hn : Qp t = true := by simp at h; exact h.1
   simp [hn]
 · next h =>
   constructor
   · exact .inl
   · rintro (h1 | ⟨rfl,h2⟩)
     · exact h1
     · rw [h2,Bool.true_and,Bool.not_eq_true,Bool.not_eq_false',Lib.containsS_iff] at h
       exact h
theorem Q0q {x:ByteArray} (tg:List ByteArray) : x ∈ Qat tg ↔ x ∈ tg ∧ Qp x = true := by
 have : ∀ (tg l:List ByteArray),x ∈ tg.foldl Qaz l ↔ x ∈ l ∨ (x ∈ tg ∧ Qp x = true) := by
  intro tg
  induction tg with
  | nil => intro l; simp
  | cons t tg ih =>
    intro l
    rw [List.foldl_cons,ih,Qs5,List.mem_cons]
    constructor
    · rintro ((h | ⟨rfl,h⟩) | ⟨h1,h2⟩)
      · exact .inl h
      · exact .inr ⟨.inl rfl,h⟩
      · exact .inr ⟨.inr h1,h2⟩
    · rintro (h | ⟨rfl | h1,h2⟩)
      · exact .inl (.inl h)
      · exact .inl (.inr ⟨rfl,h2⟩)
      · exact .inr ⟨h1,h2⟩
 unfold Qat
 rw [this]
 simp
theorem Qs6 (tg:List ByteArray) : (Qat tg).Nodup := by
 have : ∀ (tg l:List ByteArray),l.Nodup → (tg.foldl Qaz l).Nodup := by
  intro tg
  induction tg with
  | nil => intro l h; exact h
  | cons t tg ih =>
    intro l h
    rw [List.foldl_cons]
    refine ih _ ?_
    unfold Qaz
    split
    · next hc =>
      have hn : t ∉ l := by
       intro hm
       have := (Lib.containsS_iff _ _).2 hm
       rw [this] at hc
       simp at hc
      rw [List.nodup_append]
      refine ⟨h,by simp,?_⟩
      intro a ha b hb
      rw [List.mem_singleton] at hb
      subst hb
      exact fun e => hn (e ▸ ha)
    · exact h
 exact this tg [] List.nodup_nil
theorem Qcl {z:List Ev} (h:∀ e ∈ z,Xy e = true) : ∀ e ∈ Qi z,Xy e = true := fun e he => h e (List.mem_filter.1 he).1
theorem Qb6 {z:List Ev} (h:Rise z) : Rise (Qi z) := h.sublist List.filter_sublist
theorem Q0r {cs:List Ev} (hr:Rise cs) (hm:∀ e ∈ cs,Xy e = true) (ht:∀ e ∈ cs,thB e = true) (e:Ev) (x:ByteArray) : x ∈ Qat (Qal cs e) ↔ x ∈ Qom cs e := by
 have hsub : ∀ y ∈ cs.filter (thQ e.item e.at_),Xy y = true := fun y hy => hm y (List.mem_filter.1 hy).1
 have htg := Qkh e.item (cs.filter (thQ e.item e.at_)) hsub
 rw [Q0q]
 unfold Qal Qom
 rw [Qdb hr]
 simp only
 by_cases h0 : cs.filter (thQ e.item e.at_) = []
 · rw [h0]
   simp only [List.isEmpty_nil,Bool.not_true,Bool.false_eq_true,if_false,List.not_mem_nil,false_and]
   have : Qw (Qex (Qnl e.item []).tags) = [] := Qiq
   rw [this]
   simp
 · have h1 : (cs.filter (thQ e.item e.at_)).isEmpty = false := by simpa using h0
   rw [h1]
   simp only [Bool.not_false,if_true]
   have h2 : e.item ≠ ⟨#[]⟩ := by
    intro hi
    cases hq : cs.filter (thQ e.item e.at_) with
    | nil => exact h0 hq
    | cons y l =>
      have hy : y ∈ cs.filter (thQ e.item e.at_) := by rw [hq]; simp
      have hyc := List.mem_filter.1 hy
      have hyi : y.item = e.item := by
       have := hyc.2
       unfold thQ at this
       simp at this
       exact this.1
      have hyn : Qp y.item = true := by
       have hk := ht y hyc.1
       unfold thB at hk
       simp only [decide_eq_true_eq] at hk
       rcases Qbf (Qb2.1 (hm y hyc.1)).kind with hq | hq | hq | hq | hq | hq | hq
       all_goals first | (exfalso; omega) | exact hq.2.2.1
      rw [hyi,hi] at hyn
      exact absurd hyn (by decide)
   rw [if_neg h2]
   constructor
   · exact fun h => h.1
   · exact fun h => ⟨h,htg.1 x h⟩
def Q0x (half now:Int) (R:List Row) (t:ByteArray) : Int := ((R.filter fun r => decide (t ∈ r.2)).map fun r => Qqy half now r.1).sum
theorem Q0y (half now:Int) (R:List Row) (r:Row) (t:ByteArray) : Q0x half now (R ++ [r]) t = Q0x half now R t + if t ∈ r.2 then Qqy half now r.1 else 0 := by
 unfold Q0x
 rw [List.filter_append,List.map_append,List.sum_append]
 by_cases h : t ∈ r.2 <;> simp [h]
theorem Qk0 (R:List Row) (r:Row) (person:ByteArray) : rowsOf (R ++ [r]) person = rowsOf R person ++ if r.1.person = person then [r] else [] := by
 unfold rowsOf
 rw [List.filter_append]
 by_cases h : r.1.person = person <;> simp [h]
theorem Qtu (width:Int) (z:List Ev) (e:Ev) : (Qm width (z ++ [e])).rs = (Qm width z).rs ++ if peB e = true then [(e,Qat (Qal (Qi z) e))] else [] := by
 have hc := (Qbx width z).1
 rw [Qbk]
 unfold Qcs peB thB
 by_cases h1 : e.kind = 11 ∨ e.kind = 12 ∨ e.kind = 13
 · simp [h1]
 · rw [if_neg h1]
   by_cases h2 : e.kind = 14
   · simp [h2]
   · rw [if_neg h2,← hc]
     simp only [h1,h2,decide_false,Bool.not_false,Bool.and_self,if_true]
     split <;> rfl
theorem Q2y (width half now:Int) (person t:ByteArray) : ∀ z : List Ev,Rise z → (∀ e ∈ z,Xy e = true) → Qu5 half now (rowsOf (Qm width z).rs person) t = Q0x half now (rowsOf (Qk1 z) person) t := by
 refine Qv (fun _ _ => by simp [Qm,Qxk,rowsOf,Qu5,Q0x,Qk1,Qz1]) fun z e ih hr hm => ?_
 have hr1 : Rise z := (List.pairwise_append.1 hr).1
 have hm1 : ∀ x ∈ z,Xy x = true := fun x hx => hm x (by simp [hx])
 have ih := ih hr1 hm1
 rw [Qtu,Qmo]
 cases hp : peB e with
 | false => simpa using ih
 | true =>
   rw [if_pos rfl,if_pos rfl,Qk0,Qk0]
   simp only
   by_cases hq : e.person = person
   · rw [if_pos hq,if_pos hq,Q0y,← ih]
     have hs := Q0r (Qb6 hr1) (Qcl hm1) (fun x hx => (List.mem_filter.1 hx).2) e t
     unfold Qu5
     rw [List.filter_append,List.map_append,List.sum_append]
     congr 1
     by_cases h1 : t ∈ Qom (Qi z) e
     · rw [if_pos h1]
       by_cases h2 : e.at_ ≤ now
       · simp [h2,hs.2 h1]
       · have : Qqy half now e = 0 := by
          unfold Qqy
          rw [Qxi (by omega)]
          simp
         simp [h2,this]
     · rw [if_neg h1]
       have h3 : ¬ t ∈ Qat (Qal (Qi z) e) := fun h => h1 (hs.1 h)
       simp [h3]
   · rw [if_neg hq,if_neg hq,List.append_nil,List.append_nil,ih]
theorem Qj2 (width:Int) : ∀ z : List Ev,Rise z → (∀ e ∈ z,Xy e = true) → ∀ r ∈ (Qm width z).rs,Xy r.1 = true ∧ r.2.Nodup ∧ r.2.length ≤ 8 := by
 refine Qv (fun _ _ r hr => by simp [Qm,Qxk] at hr) fun z e ih hR hm => ?_
 have hr1 : Rise z := (List.pairwise_append.1 hR).1
 have hm1 : ∀ x ∈ z,Xy x = true := fun x hx => hm x (by simp [hx])
 have ih := ih hr1 hm1
 rw [Qtu]
 intro r hr
 rcases List.mem_append.1 hr with hr | hr
 · exact ih r hr
 · split at hr
   · rw [List.mem_singleton] at hr
     subst hr
     refine ⟨hm e (by simp),Qs6 _,Nat.le_trans (Qqu _) ?_⟩
     unfold Qal
     split
     · rw [Qdb (Qb6 hr1)]
       exact (Qkh e.item _ fun y hy => Qcl hm1 y (List.mem_filter.1 hy).1).2.2
     · simp
   · simp at hr
def Qfr (f:ByteArray → Int) (tags:List ByteArray) : Int := (tags.map f).sum
theorem Q0j (x:ByteArray) (n:Int) : ∀ tags : List ByteArray,tags.Nodup → (tags.map fun t => if t = x then n else 0).sum = if x ∈ tags then n else 0
 | [],_ => by simp
 | a :: tags,h => by
   rw [List.nodup_cons] at h
   have ih := Q0j x n tags h.2
   rw [List.map_cons,List.sum_cons,ih]
   by_cases hx : a = x
   · subst hx
     rw [if_pos rfl,if_neg h.1,if_pos (by simp)]; omega
   · rw [if_neg hx]
     by_cases h2 : x ∈ tags
     · rw [if_pos h2,if_pos (by simp [h2])]; omega
     · rw [if_neg h2,if_neg (by simp [h2]; exact fun e => hx e.symm)]; omega
theorem Q0i {α:Type} (f g:α → Int) : ∀ l : List α,(l.map fun x => f x + g x).sum = (l.map f).sum + (l.map g).sum
 | [] => rfl
 | x :: l => by
   have := Q0i f g l
   simp only [List.map_cons,List.sum_cons]
   omega
theorem Qu0 {tags:List ByteArray} (ht:tags.Nodup) : ∀ L : List (ByteArray × Int),L.Pairwise (fun x y => x.1 ≠ y.1) → ((L.filter fun x => decide (x.1 ∈ tags)).map (·.2)).sum = (tags.map fun t => (Qe L t).getD 0).sum
 | [],_ => by
   have : (tags.map fun t => (Qe ([] : List (ByteArray × Int)) t).getD 0).sum = 0 := Qdy _ fun x _ => rfl
   rw [this]; rfl
 | x :: L,h => by
   rw [List.pairwise_cons] at h
   have ih := Qu0 ht L h.2
   have h0 : Qe L x.1 = none := Qc1.2 fun y hy e => h.1 y hy e.symm
   have hs : (tags.map fun t => (Qe (x :: L) t).getD 0) = tags.map fun t => (if t = x.1 then x.2 else 0) + (Qe L t).getD 0 := by
    apply List.map_congr_left
    intro t _
    rw [Qbd]
    by_cases hx : t = x.1
    · rw [if_pos hx,if_pos hx,hx,h0]; simp
    · rw [if_neg hx,if_neg hx]; omega
   rw [hs,Q0i,Q0j _ _ _ ht,← ih,List.filter_cons]
   by_cases hx : x.1 ∈ tags
   · rw [if_pos (by simp [hx]),if_pos hx,List.map_cons,List.sum_cons]
   · rw [if_neg (by simp [hx]),if_neg hx]; omega
theorem Qoy {L:List (ByteArray × Int)} (h:L.Pairwise (fun x y => x.1 ≠ y.1)) (hp:∀ t,0 ≤ (Qe L t).getD 0) (t:ByteArray) : (Qe (L.filter fun x => decide (0 < x.2)) t).getD 0 = (Qe L t).getD 0 := by
 induction L with
 | nil => rfl
 | cons x L ih =>
   rw [List.pairwise_cons] at h
   have h0 : Qe L x.1 = none := Qc1.2 fun y hy e => h.1 y hy e.symm
   have hp' : ∀ t,0 ≤ (Qe L t).getD 0 := fun t => by
    by_cases hx : t = x.1
    · rw [hx,h0]; simp
    · have := hp t
      rw [Qbd,if_neg hx] at this
      exact this
   have ih := ih h.2 hp'
   have hx0 : 0 ≤ x.2 := by
    have := hp x.1
    rw [Qbd,if_pos rfl] at this
    exact this
   rw [List.filter_cons]
   by_cases h1 : 0 < x.2
   · rw [if_pos (by simpa using h1),Qbd,Qbd]
     split
     · rfl
     · exact ih
   · rw [if_neg (by simpa using h1),ih,Qbd]
     split
     · next hx =>
       rw [hx,h0]
       simp
       omega
     · rfl
theorem Q0u {half now:Int} {rows:List Row} (hr:∀ r ∈ rows,Xy r.1 = true ∧ r.2.Nodup) (hl:rows.length < 1000000) {tags:List ByteArray} (ht:tags.Nodup) {F:List (ByteArray × Int)} (hF:F.Perm (Q5t half now rows)) :
 ((F.filter fun x => decide (x.1 ∈ tags)).map (·.2)).sum = Qfr (Qu5 half now rows) tags := by
 rw [Qup ((hF.filter _).map _)]
 have hk := Q0z half now rows
 have hk2 : (Q5t half now rows).Pairwise (fun x y => x.1 ≠ y.1) := hk.sublist List.filter_sublist
 rw [Qu0 ht _ hk2]
 unfold Qfr
 congr 1
 apply List.map_congr_left
 intro t _
 have hg := fun t => Q00 half now t rows hr hl
 unfold Q5t
 rw [Qoy hk fun t => by rw [(hg t).1]; exact (hg t).2.1]
 exact (hg t).1
def Qwm (c:Cfg) (fresh old:Int) : Int := if fresh = 0 ∨ fresh < c.floor then 0 else min (fresh * 1048576 / (old + 1)) 1099511627776
abbrev Ct := ByteArray × Int
def Qxl (x:Ct) : List Value := [.string x.1,.int .i64 x.2]
theorem Qtt (x:Ct) : (Qxl x).length = 2 := rfl
theorem Qm9 (x:Ct) : ∀ u ∈ Qxl x,u.oneCell' = true := by simp [Qxl,Value.oneCell']
theorem Q6h : Qrb Tryz.prog 93 193 Qxl 2 24 := ⟨by kernel_rfl,⟨_,ty193_ok,rfl,rfl⟩,by193,by decide,by decide,Qtt,Qm9⟩
theorem Q3v {z:List Ev} (h:∀ e ∈ z,Xy e = true) : ∀ e ∈ z.filter wpB,Xy e = true := fun e he => h e (List.mem_filter.1 he).1
theorem Qy8 {e:Ev} (h:Xy e = true) : 0 ≤ e.at_ ∧ e.at_ ≤ 1099511627776 := by
 have := (Qb2.1 h).at_
 exact this
theorem Q50 {c:Cfg} (h:Qrk c = true) : (1 ≤ c.half ∧ c.half ≤ 1099511627776) ∧ (1 ≤ c.width ∧ c.width ≤ 1099511627776) ∧ (1 ≤ c.span ∧ c.span ≤ 1099511627776) ∧ c.span.tmod c.width = 0 ∧ (0 ≤ c.gap ∧ c.gap ≤ 1099511627776) ∧ (0 ≤ c.floor ∧ c.floor ≤ 1048576) ∧ (0 ≤ c.crowd ∧ c.crowd ≤ 1048576) := by
 unfold Qrk inB at h
 simp only [Bool.and_eq_true,decide_eq_true_eq] at h
 obtain ⟨⟨⟨⟨⟨⟨h1,h2⟩,h3⟩,h4⟩,h5⟩,h6⟩,h7⟩ := h
 exact ⟨h1,h2,h3,h4,h5,h6,h7⟩
theorem Q4o {n:Int} (h:1 ≤ n ∧ n ≤ 1099511627776) : Q7 n = n := by unfold Q7; omega
theorem Qg6 {t width:Int} (hw:1 ≤ width) (h:-4398046511104 ≤ t ∧ t ≤ 4398046511104) : -4398046511104 ≤ t / width ∧ t / width ≤ 4398046511104 := by
 constructor
 · rw [Int.le_ediv_iff_mul_le (by omega)]
   have : -4398046511104 * width ≤ -4398046511104 * 1 := Int.mul_le_mul_of_nonpos_left (by omega) (by omega)
   omega
 · rcases Int.lt_or_le t 0 with h1 | h1
   · have := Int.ediv_neg_of_neg_of_pos h1 (show 0 < width by omega)
     omega
   · have := Int.ediv_le_self width h1
     omega
theorem Qlh {w:World} {T:Nat → Prop} (person:ByteArray) : ∀ {D:List (Ev × SV)} {rs:List Row},Qd7 w T D rs → Qd7 w T (Xr D person) (rowsOf rs person)
 | [],rs,h => by
   have : rs = [] := by have := h.len; simpa using this.symm
   subst this
   exact h
 | d :: D,[],h => by have := h.len; simp at this
 | d :: D,r :: rs,h => by
   have h0 := h.ev 0 d r rfl rfl
   have hT : Qd7 w T D rs := ⟨by have := h.len; simpa using this,fun i d r hd hr => h.ev (i + 1) d r hd hr⟩
   have ih := Qlh person hT
   unfold Xr rowsOf at *
   simp only [List.filter_cons,h0.1]
   split
   · refine ⟨by simp [ih.len],fun i d' r' hd hr => ?_⟩
     cases i with
     | zero =>
       simp at hd hr
       subst hd; subst hr
       exact h0
     | succ i => exact ih.ev i d' r' (by simpa using hd) (by simpa using hr)
   · exact ih
theorem Qd7.ext {w w1:World} {T:Nat → Prop} {D:List (Ev × SV)} {rs:List Row} (h:Qd7 w T D rs) (hT:∀ k,T k → k < w.heap.size) (hx:Ext w w1) : Qd7 w1 T D rs :=
 ⟨h.len,fun i d r hd hr => by
  obtain ⟨h1,h2,h3,h4⟩ := h.ev i d r hd hr
  exact ⟨h1,h2,h3.ext hx,h4⟩⟩
theorem Qdf {w w1 w2:World} {T:Nat → Prop} (hx:Ext w w1) (hT:∀ k,T k → w.heap.size ≤ k) (hM:Mod T w1 w2) : Ext w w2 :=
 (Qn (Mod.of_ext (S := fun _ => False) hx) (hM.mono fun k _ hk => .inr (hT k hk))).ext fun _ _ h => h
def Qhr (c:Cfg) (z:List Ev) : List Sn := Qhq (Qrw c.gap) (Qgf (z.filter wpB))
def Q6z (c:Cfg) (z:List Ev) (person item:ByteArray) : Int := 1048576 * (Qh6 (Qhr c z) item (Qfc z person)).1 / (Qh6 (Qhr c z) item (Qfc z person)).2
def Qgp (z:List Ev) (item:ByteArray) (now:Int) : It := Qnl item ((Qi z).filter (thQ item now))
def Qn5 (c:Cfg) (now:Int) : Int := now - now.tmod (Q7 c.width)
end Go.Proofs.YtopncieoolkhjaaGreatDoor
