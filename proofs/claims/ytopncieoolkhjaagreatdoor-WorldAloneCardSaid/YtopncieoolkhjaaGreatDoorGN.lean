/- Several texts in one: Ct, Pl5, Pl6, Sm. -/
import Derived.Test.YtopncieoolkhjaaGreatDoorGF
import Derived.Test.YtopncieoolkhjaaGreatDoorGC
import Derived.Test.YtopncieoolkhjaaGreatDoorGH
set_option linter.unusedVariables false
set_option linter.unusedSimpArgs false
namespace Go.Proofs.YtopncieoolkhjaaGreatDoor
open Go.Se Go.RowKit
theorem Qpl (l:List Ev) (A:Option Addr) (c:Nat) (w:World) (hs:SlE w A l) (hl:l.length < 1000000) :
 Cal Tryz.prog 41 [.slice A l.length c] w fun r w' => ∃ A' c',r = .slice A' (Xc l).length c' ∧ SlE w' A' (Xc l) ∧ Ext w w' := by
 refine Fi Tryz.func41 rfl _ rfl rfl ?_;conv=>whnf
 intro b1 w1 hn1;conv=>whnf
 have o1 := Qh5.made (base := w.heap.size) hn1 (Nat.le_refl _)
 refine Qe Qa (fun (k:Nat × Option Addr × Nat × List Ev) w' => k.1 ≤ l.length ∧ Ext w w' ∧ k.2.2.2 = Xc (l.take k.1) ∧ Own evC 8 49 w.heap.size w' k.2.1 k.2.2.1 k.2.2.2)
  (fun | (k,B,d,T) => [(0,.slice A l.length c),(3,.slice B T.length d),(4,.int .i64 k)]) (fun k => l.length - k.1) (0,some ⟨b1,0,none⟩,0,[]) ⟨by simp,hn1.ext,rfl,o1⟩ ⟨rfl,rfl,rfl,trivial⟩ ?_
 rintro ⟨k,B,d,T⟩ w2 ⟨hk,hx2,hT,hown⟩
 simp only at hk hT hown
 have hTl : T.length ≤ k := by
  rw [hT]
  have := List.length_filter_le thB (l.take k)
  rw [List.length_take] at this
  unfold Xc; omega
 conv=>whnf
 constructor
 · intro hc
   have hc : k < l.length := by simpa using hc
   obtain ⟨a2,rfl,hce⟩ := (hs.ext hx2).get hc
   have htk := Xu l k hc
   generalize l[k] = e at hce htk
   have hsn : Xc (l.take (k + 1)) = T ++ if thB e then [e] else [] := by
    rw [htk,hT]; unfold Xc; rw [List.filter_append]
    cases h : thB e <;> simp [List.filter_cons,h]
   conv=>whnf
   repeat(refine Sg ?_;(conv=>whnf))
   refine ⟨a2,⟨rfl,by omega,by omega⟩,?_⟩;conv=>whnf
   refine ⟨_,cells_at hce (k := 3) rfl,?_⟩;conv=>whnf
   refine ⟨a2,fun _ => ⟨rfl,by omega,by omega⟩,?_⟩;conv=>whnf
   refine ⟨_,fun _ => cells_at hce (k := 3) rfl,?_⟩;conv=>whnf
   refine ⟨a2,fun _ => ⟨rfl,by omega,by omega⟩,?_⟩;conv=>whnf
   refine ⟨_,fun _ => cells_at hce (k := 3) rfl,?_⟩;conv=>whnf
   constructor
   · intro hq
     have hq : thB e = true := by unfold thB; simp at hq ⊢; omega
     rw [hq,if_pos rfl] at hsn
     conv=>whnf
     refine ⟨a2,⟨rfl,by omega,by omega⟩,?_⟩;conv=>whnf
     refine ⟨evC e,⟨rfl,hce⟩,?_⟩;conv=>whnf
     intro b3 w3 hn3;conv=>whnf
     refine Qn Qh5 (l := T) (news := [e]) rfl (hown.ext hn3.ext) rfl (Qh5.new1 (x := e) hn3) (by simp; omega) ((hx2.trans hn3.ext).size) fun A' c' w4 hown4 hg4 hA4 => ?_
     have hx4 := Ql (hx2.trans hn3.ext) hg4 (Qz hown)
     generalize hT1 : T ++ [e] = T1 at hown4 hsn ⊢
     conv=>whnf
     refine ⟨_,wrap_succ (by omega),?_⟩;conv=>whnf
     exact ⟨(k + 1,A',c',T1),by simp only; omega,⟨by simp only; omega,hx4,hsn.symm,hown4⟩,⟨rfl,rfl,rfl,trivial⟩⟩
   · intro hq
     have hq : thB e = false := by unfold thB; simp at hq ⊢; omega
     rw [hq] at hsn
     simp only [Bool.false_eq_true,if_false,List.append_nil] at hsn
     conv=>whnf
     refine ⟨_,wrap_succ (by omega),?_⟩;conv=>whnf
     exact ⟨(k + 1,B,d,T),by simp only; omega,⟨by simp only; omega,hx2,hsn.symm,hown⟩,⟨rfl,rfl,rfl,trivial⟩⟩
 · intro hc
   have hc : l.length ≤ k := by simpa using hc
   rw [List.take_of_length_le hc] at hT
   rw [← hT]
   conv=>whnf
   exact ⟨B,d,rfl,hown.sl Xb,hx2⟩
theorem Q3u (row:List St) (t:Int) : (stN row t = 0 ∨ ∃ s,row[stN row t - 1]? = some s ∧ s.at_ ≤ t) ∧ (stN row t = row.length ∨ ∃ s,row[stN row t]? = some s ∧ t < s.at_) ∧ stN row t ≤ row.length := by
 unfold stN
 induction row with
 | nil => simp
 | cons a row ih =>
   rw [List.takeWhile_cons]
   by_cases h : a.at_ ≤ t
   · rw [if_pos (by simpa using h)]
     obtain ⟨i1,i2,i3⟩ := ih
     simp only [List.length_cons]
     generalize (row.takeWhile fun s => decide (s.at_ ≤ t)).length = n at *
     refine ⟨.inr ?_,?_,by omega⟩
     · rcases i1 with rfl | ⟨s,hs,hle⟩
       · exact ⟨a,by simp,h⟩
       · cases n with
         | zero => exact ⟨a,by simp,h⟩
         | succ n => exact ⟨s,by simpa using hs,hle⟩
     · rcases i2 with h2 | ⟨s,hs,hlt⟩
       · exact .inl (by omega)
       · exact .inr ⟨s,by simpa using hs,hlt⟩
   · rw [if_neg (by simpa using h)]
     exact ⟨.inl rfl,.inr ⟨a,rfl,by omega⟩,by simp⟩
def thQ (name:ByteArray) (t:Int) (e:Ev) : Bool := decide (e.item = name) && decide (e.at_ ≤ t)
def Qwy (name:ByteArray) (es:List Ev) : St := es.foldl Qct (Qhc name)
theorem Qml (name:ByteArray) (es:List Ev) (e:Ev) : Qwy name (es ++ [e]) = Qct (Qwy name es) e := by simp [Qwy]
def Q5c (name:ByteArray) (es:List Ev) : It := if es.isEmpty then Qds else (Qwy name es).item
theorem Qhg {row:List St} {t:Int} (h:∀ s ∈ row,s.at_ ≤ t) : stN row t = row.length := by
 unfold stN
 have : row.takeWhile (fun s => decide (s.at_ ≤ t)) = row := by
  have := List.takeWhile_append_of_pos (l₂ := []) (p := fun s : St => decide (s.at_ ≤ t)) (l₁ := row) (fun s hs => by simpa using h s hs)
  simpa using this
 rw [this]
theorem Qzz : ∀ (cs:List Ev),Rise cs → ∀ (name:ByteArray) (t:Int),
 (stN (Q5 cs name) t = 0 ↔ cs.filter (thQ name t) = []) ∧ (stN (Q5 cs name) t ≠ 0 → (Q5 cs name)[stN (Q5 cs name) t - 1]? = some (Qwy name (cs.filter (thQ name t)))) := by
 refine Qy ?_ ?_
 · intro _ name t
   simp [Q5,stN]
 · intro cs e ih h name t
   have h1 : Rise cs := (List.pairwise_append.1 h).1
   have h2 := (List.pairwise_append.1 h).2.2
   obtain ⟨i1,i2⟩ := ih h1 name t
   obtain ⟨r1,r2⟩ := Qif cs h1 name
   rw [Qcf,List.filter_append]
   unfold Qga Qmp
   by_cases hn : name = e.item
   · rw [if_pos hn]
     subst hn
     generalize hrow : Q5 cs e.item = row at *
     have hle : ∀ s ∈ row,s.at_ ≤ e.at_ := fun s hs => by
      obtain ⟨e',he',h3,_⟩ := r2 s hs
      have := Qyl (h2 e' he' e (by simp)); omega
     by_cases ht : e.at_ ≤ t
     · have hq : thQ e.item t e = true := by simp [thQ,ht]
       have hall : ∀ s ∈ row ++ [Qfj row e],s.at_ ≤ t := fun s hs => by
        rcases List.mem_append.1 hs with hs | hs
        · have := hle s hs; omega
        · simp at hs; subst hs; unfold Qfj; rw [Qfk]; exact ht
       have hN : stN row t = row.length := Qhg fun s hs => hall s (by simp [hs])
       rw [Qhg hall]
       refine ⟨by simp [List.filter_cons,hq],fun _ => ?_⟩
       simp only [List.filter_cons,hq,if_true,List.filter_nil,Qml]
       rw [List.length_append,List.length_singleton,Nat.add_sub_cancel,List.getElem?_append_right (Nat.le_refl _),Nat.sub_self]
       unfold Qfj
       rw [hN] at i1 i2
       congr 2
       by_cases h0 : row.length = 0
       · have h3 := i1.1 h0
         rw [h3,List.length_eq_zero_iff.1 h0]
         rfl
       · rw [List.getLast?_eq_getElem?,i2 h0]; rfl
     · have hq : thQ e.item t e = false := by simp [thQ,ht]
       have hN : stN (row ++ [Qfj row e]) t = stN row t := by
        unfold stN
        rw [List.takeWhile_append]
        split
        · rw [List.takeWhile_cons_of_neg (by unfold Qfj; rw [Qfk]; simpa using ht)]
          simp; omega
        · rfl
       rw [hN]
       simp only [List.filter_cons,hq,Bool.false_eq_true,if_false,List.filter_nil,List.append_nil]
       refine ⟨i1,fun h0 => ?_⟩
       have := (Q3u row t).2.2
       rw [List.getElem?_append_left (by omega)]
       exact i2 h0
   · rw [if_neg hn]
     have hq : thQ name t e = false := by simp [thQ,Ne.symm hn]
     simp only [List.filter_cons,hq,Bool.false_eq_true,if_false,List.filter_nil,List.append_nil]
     exact ⟨i1,i2⟩
theorem Qxu {cs:List Ev} (h:Rise cs) (name:ByteArray) (t:Int) : Qbn cs name t = (Q5c name (cs.filter (thQ name t)),!(cs.filter (thQ name t)).isEmpty) := by
 obtain ⟨h1,h2⟩ := Qzz cs h name t
 unfold Qbn Q5c
 by_cases h0 : stN (Q5 cs name) t = 0
 · have h3 := h1.1 h0
   rw [h3,h0]
   cases (Q5 cs name)[0 - 1]? <;> rfl
 · have h3 : cs.filter (thQ name t) ≠ [] := fun h => h0 (h1.2 h)
   rw [h2 h0]
   simp only [if_neg h0]
   generalize cs.filter (thQ name t) = F at h3
   cases F with
   | nil => exact absurd rfl h3
   | cons a es => rfl
structure Sto {α:Type} (lt:α → α → Bool) : Prop where
 irrefl : ∀ a,lt a a = false
 trans : ∀ {a b c},lt a b = true → lt b c = true → lt a c = true
 tri : ∀ {a b},lt a b = false → lt b a = false → a = b
theorem Quq : Sto bLt := ⟨X0,Qbg,Qbm⟩
def SG {α:Type} (lt:α → α → Bool) (l:List α) : Prop := l.Pairwise fun x y => lt x y = true
theorem SG.nodup {α:Type} {lt:α → α → Bool} (O:Sto lt) {l:List α} (h:SG lt l) : l.Nodup := h.imp fun h e => by rw [e,O.irrefl] at h; cases h
theorem Qp3 {α:Type} {lt:α → α → Bool} (O:Sto lt) {a b:α} (h:lt a b = true) : lt b a = false := by
 cases hb : lt b a with
 | false => rfl
 | true => have := O.trans h hb; rw [O.irrefl] at this; cases this
theorem Qpo {α:Type} {lt:α → α → Bool} (O:Sto lt) {l m:List α} (h1:SG lt l) (h2:SG lt m) (hm:∀ x,x ∈ l ↔ x ∈ m) : l = m :=
 List.Perm.eq_of_pairwise (le := fun a b => lt b a = false) (fun a b _ _ h1 h2 => O.tri h2 h1) (h1.imp fun h => Qp3 O h) (h2.imp fun h => Qp3 O h) (Qck (h1.nodup O) (h2.nodup O) (fun x hx => (hm x).1 hx) fun x hx => (hm x).2 hx)
section
variable {α:Type} [DecidableEq α] {lt:α → α → Bool}
def Qed (lt:α → α → Bool) (l:List α) (a:α) : List α :=
 if (l.dropWhile fun x => lt x a).head? = some a then l else l.takeWhile (fun x => lt x a) ++ a :: l.dropWhile (fun x => lt x a)
theorem Qni (a:α) : Qed lt [] a = [a] := by simp [Qed]
theorem Qj2 (x:α) (l:List α) (a:α) : Qed lt (x :: l) a = if lt x a = true then x :: Qed lt l a else if x = a then x :: l else a :: x :: l := by
 unfold Qed
 rw [List.takeWhile_cons,List.dropWhile_cons]
 cases h : lt x a with
 | true =>
   simp only [if_true]
   split <;> simp
 | false =>
   simp only [Bool.false_eq_true,if_false,List.head?_cons,Option.some.injEq,List.nil_append]
theorem Qi6 {x a:α} : ∀ {l:List α},x ∈ Qed lt l a ↔ x ∈ l ∨ x = a
 | [] => by rw [Qni]; simp
 | y :: l => by
   have ih := Qi6 (x := x) (a := a) (l := l)
   rw [Qj2]
   split
   · rw [List.mem_cons,ih,List.mem_cons]; exact or_assoc.symm
   · split
     · next h =>
       subst h
       constructor
       · exact .inl
       · rintro (h | rfl)
         · exact h
         · simp
     · rw [List.mem_cons]; exact or_comm
theorem Qrj (O:Sto lt) {a:α} : ∀ {l:List α},SG lt l → SG lt (Qed lt l a)
 | [],_ => by rw [Qni]; exact List.pairwise_singleton _ _
 | y :: l,h => by
   have h' := List.pairwise_cons.1 h
   have ih := Qrj O (a := a) h'.2
   rw [Qj2]
   split
   · next hy =>
     refine List.pairwise_cons.2 ⟨fun x hx => ?_,ih⟩
     rcases Qi6.1 hx with hx | rfl
     · exact h'.1 x hx
     · exact hy
   · next hy =>
     split
     · exact h
     · next hne =>
       have hay : lt a y = true := by
        cases hq : lt a y with
        | true => rfl
        | false => exact absurd (O.tri (by simpa using hy) hq) hne
       refine List.pairwise_cons.2 ⟨fun x hx => ?_,h⟩
       rcases List.mem_cons.1 hx with rfl | hx
       · exact hay
       · exact O.trans hay (h'.1 x hx)
def Qbr (lt:α → α → Bool) (l:List α) : List α := l.foldl (Qed lt) []
theorem Qeo (l:List α) (a:α) : Qbr lt (l ++ [a]) = Qed lt (Qbr lt l) a := by unfold Qbr; rw [List.foldl_append]; rfl
theorem Ql0 {x:α} : ∀ l : List α,x ∈ Qbr lt l ↔ x ∈ l := by
 refine Qy (by simp [Qbr]) fun l a ih => ?_
 rw [Qeo,Qi6,ih,List.mem_append,List.mem_singleton]
theorem Qya (O:Sto lt) : ∀ l : List α,SG lt (Qbr lt l) := by
 refine Qy List.Pairwise.nil fun l a ih => ?_
 rw [Qeo]
 exact Qrj O ih
theorem Qi5 (a:α) : ∀ l : List α,(Qed lt l a).length ≤ l.length + 1
 | [] => by rw [Qni]; simp
 | y :: l => by
   have ih := Qi5 a l
   rw [Qj2]
   split
   · simp; omega
   · split <;> simp
theorem Qhu : ∀ l : List α,(Qbr lt l).length ≤ l.length := by
 refine Qy (by simp [Qbr]) fun l a ih => ?_
 rw [Qeo]
 have := Qi5 (lt := lt) a (Qbr lt l)
 simp; omega
end
theorem Qiq {l:List ByteArray} (h:l.Nodup) : SG bLt (Xn l) := by
 have h1 := Qha l
 have h2 : (Xn l).Pairwise (· ≠ ·) := List.nodup_iff_pairwise_ne.1 ((Qbv l).nodup_iff.2 h)
 refine (List.Pairwise.and h1 h2).imp ?_
 rintro a b ⟨h3,h4⟩
 cases hc : bLt a b with
 | true => rfl
 | false => exact absurd (Qbm hc h3) h4
theorem Qpt {l:List Int} (h:l.Nodup) : (Qdf l).Pairwise (· < ·) := by
 have h1 := Qkq l
 have h2 : (Qdf l).Pairwise (· ≠ ·) := List.nodup_iff_pairwise_ne.1 ((Qc3 l).nodup_iff.2 h)
 refine (List.Pairwise.and h1 h2).imp ?_
 rintro a b ⟨h3,h4⟩
 omega
theorem Qgk (l:List ByteArray) : SG bLt (Qe0 l) := Qiq (Qdz l)
theorem Qtq (l:List ByteArray) (s:ByteArray) : Qed bLt (Qe0 l) s = Qe0 (l ++ [s]) :=
 Qpo Quq (Qrj Quq (Qgk l)) (Qgk _) fun x => by rw [Qi6,Qeu,Qeu,List.mem_append,List.mem_singleton]
theorem Qzp (l:List ByteArray) : Qe0 (Qe0 l) = Qe0 l := Qmh fun x => Qeu
abbrev Ad3 := ByteArray × Int × ByteArray
def adE (e:Ev) : Ad3 := (e.person,e.at_,e.item)
def ahB (a b:Ad3) : Bool := if a.1 = b.1 then (if a.2.1 = b.2.1 then bLt a.2.2 b.2.2 else decide (a.2.1 < b.2.1)) else bLt a.1 b.1
theorem Qjl {a b:Ad3} : ahB a b = true ↔ bLt a.1 b.1 = true ∨ (a.1 = b.1 ∧ (a.2.1 < b.2.1 ∨ (a.2.1 = b.2.1 ∧ bLt a.2.2 b.2.2 = true))) := by
 unfold ahB
 by_cases h1 : a.1 = b.1
 · have hi : bLt a.1 b.1 = false := by rw [h1]; exact X0 _
   rw [if_pos h1]
   by_cases h2 : a.2.1 = b.2.1
   · rw [if_pos h2]
     constructor
     · intro h; exact .inr ⟨h1,.inr ⟨h2,h⟩⟩
     · rintro (h | ⟨_,h | ⟨_,h⟩⟩)
       · rw [hi] at h; cases h
       · omega
       · exact h
   · rw [if_neg h2,decide_eq_true_eq]
     constructor
     · intro h; exact .inr ⟨h1,.inl h⟩
     · rintro (h | ⟨_,h | ⟨h,_⟩⟩)
       · rw [hi] at h; cases h
       · exact h
       · exact absurd h h2
 · rw [if_neg h1]
   constructor
   · exact .inl
   · rintro (h | ⟨h,_⟩)
     · exact h
     · exact absurd h h1
theorem Q2l : Sto ahB where
 irrefl a := by unfold ahB; rw [if_pos rfl,if_pos rfl]; exact X0 _
 trans := by
  intro a b c h k
  rw [Qjl] at *
  rcases h with h | ⟨h,h'⟩ <;> rcases k with k | ⟨k,k'⟩
  · exact .inl (Qbg h k)
  · exact .inl (k ▸ h)
  · exact .inl (h ▸ k)
  · refine .inr ⟨h.trans k,?_⟩
    rcases h' with h' | ⟨h',h2⟩ <;> rcases k' with k' | ⟨k',k2⟩
    · exact .inl (by omega)
    · exact .inl (by omega)
    · exact .inl (by omega)
    · exact .inr ⟨by omega,Qbg h2 k2⟩
 tri := by
  intro a b h k
  obtain ⟨a1,a2,a3⟩ := a
  obtain ⟨b1,b2,b3⟩ := b
  rw [← Bool.not_eq_true,Qjl] at h k
  simp only at h k
  have e1 : a1 = b1 := Qbm (by rw [← Bool.not_eq_true]; exact fun x => h (.inl x)) (by rw [← Bool.not_eq_true]; exact fun x => k (.inl x))
  subst e1
  have e2 : a2 = b2 := by
   rcases Int.lt_trichotomy a2 b2 with x | x | x
   · exact absurd (.inr ⟨rfl,.inl x⟩) h
   · exact x
   · exact absurd (.inr ⟨rfl,.inl x⟩) k
  subst e2
  have e3 : a3 = b3 := Qbm (by rw [← Bool.not_eq_true]; exact fun x => h (.inr ⟨rfl,.inr ⟨rfl,x⟩⟩)) (by rw [← Bool.not_eq_true]; exact fun x => k (.inr ⟨rfl,.inr ⟨rfl,x⟩⟩))
  rw [e3]
def tks (ss:Ses) (p:ByteArray) : Qdh := (Qd ss p).getD []
theorem Qji (s:Ses) (P I:ByteArray) (T:Int) (p:ByteArray) : tks (Qqi s P T I) p = if p = P then Q7 (tks s P) T (Q7 ((Qd (tks s P) T).getD []) I true) else tks s p := by
 unfold tks Qqi
 rw [Xi]
 split <;> rfl
theorem Qe4 {κ β:Type} [DecidableEq κ] {k x:κ} {v:β} {l:List (κ × β)} : x ∈ (Q7 l k v).map (·.1) ↔ x ∈ l.map (·.1) ∨ x = k := by
 rw [Qdy]
 split
 · next h =>
   constructor
   · exact .inl
   · rintro (h1 | rfl)
     · exact h1
     · exact h
 · rw [List.mem_append,List.mem_singleton]
theorem Qso (m:Qdh) (T t:Int) (x:List (ByteArray × Bool)) : Xk (Q7 m T x) t = if t = T then x.map (·.1) else Xk m t := by
 unfold Xk
 rw [Xi]
 split <;> rfl
structure Q2s (ss:Ses) (l:List Ev) : Prop where
 keys : ss.Pairwise (fun x y => x.1 ≠ y.1)
 ticks : ∀ p,(tks ss p).Pairwise (fun x y => x.1 ≠ y.1)
 item : ∀ p t i,i ∈ Xk (tks ss p) t ↔ ∃ e ∈ l,e.person = p ∧ e.at_ = t ∧ e.item = i
 tick : ∀ p t,t ∈ (tks ss p).map (·.1) ↔ ∃ e ∈ l,e.person = p ∧ e.at_ = t
 person : ∀ p,p ∈ ss.map (·.1) ↔ ∃ e ∈ l,e.person = p
theorem Q3t : ∀ l : List Ev,Q2s (Qcc l) l := by
 refine Qy ⟨List.Pairwise.nil,fun p => List.Pairwise.nil,fun p t i => by simp [Qcc,tks,Qd,Xk],fun p t => by simp [Qcc,tks,Qd],fun p => by simp [Qcc]⟩ fun l e ih => ?_
 rw [Qse]
 refine ⟨Qa7 ih.keys,fun p => ?_,fun p t i => ?_,fun p t => ?_,fun p => ?_⟩
 · rw [Qji]
   split
   · exact Qa7 (ih.ticks _)
   · exact ih.ticks p
 · rw [Qji]
   have hx : (∃ x ∈ l ++ [e],x.person = p ∧ x.at_ = t ∧ x.item = i) ↔ (∃ x ∈ l,x.person = p ∧ x.at_ = t ∧ x.item = i) ∨ (e.person = p ∧ e.at_ = t ∧ e.item = i) := by
    constructor
    · rintro ⟨x,hx,h⟩
      rcases List.mem_append.1 hx with hx | hx
      · exact .inl ⟨x,hx,h⟩
      · rw [List.mem_singleton] at hx; subst hx; exact .inr h
    · rintro (⟨x,hx,h⟩ | h)
      · exact ⟨x,by simp [hx],h⟩
      · exact ⟨e,by simp,h⟩
   rw [hx,← ih.item]
   by_cases hp : p = e.person
   · subst hp
     rw [if_pos rfl,Qso]
     by_cases ht : t = e.at_
     · subst ht
       rw [if_pos rfl,Qe4]
       show (i ∈ Xk (tks (Qcc l) e.person) e.at_ ∨ i = e.item) ↔ _
       constructor
       · rintro (h | h)
         · exact .inl h
         · exact .inr ⟨rfl,rfl,h.symm⟩
       · rintro (h | ⟨_,_,h⟩)
         · exact .inl h
         · exact .inr h.symm
     · rw [if_neg ht]
       constructor
       · exact .inl
       · rintro (h | ⟨_,h,_⟩)
         · exact h
         · exact absurd h.symm ht
   · rw [if_neg hp]
     constructor
     · exact .inl
     · rintro (h | ⟨h,_⟩)
       · exact h
       · exact absurd h.symm hp
 · rw [Qji]
   have hx : (∃ x ∈ l ++ [e],x.person = p ∧ x.at_ = t) ↔ (∃ x ∈ l,x.person = p ∧ x.at_ = t) ∨ (e.person = p ∧ e.at_ = t) := by
    constructor
    · rintro ⟨x,hx,h⟩
      rcases List.mem_append.1 hx with hx | hx
      · exact .inl ⟨x,hx,h⟩
      · rw [List.mem_singleton] at hx; subst hx; exact .inr h
    · rintro (⟨x,hx,h⟩ | h)
      · exact ⟨x,by simp [hx],h⟩
      · exact ⟨e,by simp,h⟩
   rw [hx,← ih.tick]
   by_cases hp : p = e.person
   · subst hp
     rw [if_pos rfl,Qe4]
     constructor
     · rintro (h | h)
       · exact .inl h
       · exact .inr ⟨rfl,h.symm⟩
     · rintro (h | ⟨_,h⟩)
       · exact .inl h
       · exact .inr h.symm
   · rw [if_neg hp]
     constructor
     · exact .inl
     · rintro (h | ⟨h,_⟩)
       · exact h
       · exact absurd h.symm hp
 · show p ∈ (Q7 _ _ _).map (·.1) ↔ _
   rw [Qe4,ih.person]
   constructor
   · rintro (⟨x,hx,h⟩ | rfl)
     · exact ⟨x,by simp [hx],h⟩
     · exact ⟨e,by simp,rfl⟩
   · rintro ⟨x,hx,h⟩
     rcases List.mem_append.1 hx with hx | hx
     · exact .inl ⟨x,hx,h⟩
     · rw [List.mem_singleton] at hx; subst hx; exact .inr h.symm
def Qne (p:ByteArray) (k:Qdh) (t:Int) : List Ad3 := (Qe0 (Xk k t)).map fun i => (p,t,i)
def Qre (ss:Ses) (p:ByteArray) : List Ad3 := (Qdf ((tks ss p).map (·.1))).flatMap (Qne p (tks ss p))
def Q03 (ss:Ses) : List Ad3 := (Xn (ss.map (·.1))).flatMap (Qre ss)
theorem Qj7 {β:Type} {L:List (Int × β)} (h:L.Pairwise (fun x y => x.1 ≠ y.1)) : (L.map (·.1)).Nodup := by
 rw [List.nodup_iff_pairwise_ne,List.pairwise_map]; exact h
theorem Q05 (p:ByteArray) (k:Qdh) (t:Int) : SG ahB (Qne p k t) := by
 unfold SG Qne
 rw [List.pairwise_map]
 refine List.Pairwise.imp ?_ (Qgk (Xk k t))
 intro a b h
 exact Qjl.2 (.inr ⟨rfl,.inr ⟨rfl,h⟩⟩)
theorem Qgy {p:ByteArray} {k:Qdh} {t:Int} {x:Ad3} : x ∈ Qne p k t ↔ x.1 = p ∧ x.2.1 = t ∧ x.2.2 ∈ Xk k t := by
 unfold Qne
 rw [List.mem_map]
 constructor
 · rintro ⟨i,hi,rfl⟩; exact ⟨rfl,rfl,Qeu.1 hi⟩
 · rintro ⟨h1,h2,h3⟩; exact ⟨x.2.2,Qeu.2 h3,by rw [← h1,← h2]⟩
theorem Q02 {ss:Ses} {l:List Ev} (h:Q2s ss l) (p:ByteArray) : SG ahB (Qre ss p) := by
 unfold SG Qre
 rw [List.pairwise_flatMap]
 refine ⟨fun t _ => Q05 _ _ _,(Qpt (Qj7 (h.ticks p))).imp fun hlt x hx y hy => ?_⟩
 obtain ⟨x1,x2,_⟩ := Qgy.1 hx
 obtain ⟨y1,y2,_⟩ := Qgy.1 hy
 exact Qjl.2 (.inr ⟨x1.trans y1.symm,.inl (by omega)⟩)
theorem Qgx {ss:Ses} {l:List Ev} (h:Q2s ss l) {p:ByteArray} {x:Ad3} : x ∈ Qre ss p ↔ x.1 = p ∧ ∃ e ∈ l,adE e = x := by
 unfold Qre
 rw [List.mem_flatMap]
 constructor
 · rintro ⟨t,_,hx⟩
   obtain ⟨h1,h2,h3⟩ := Qgy.1 hx
   obtain ⟨e,he,e1,e2,e3⟩ := (h.item _ _ _).1 h3
   exact ⟨h1,e,he,by unfold adE; rw [e1,e2,e3,← h1,← h2]⟩
 · rintro ⟨h1,e,he,rfl⟩
   refine ⟨e.at_,Qkp.2 ((h.tick _ _).2 ⟨e,he,h1,rfl⟩),Qgy.2 ⟨h1,rfl,(h.item _ _ _).2 ⟨e,he,h1,rfl,rfl⟩⟩⟩
theorem Q04 (l:List Ev) : Q03 (Qcc l) = Qbr ahB (l.map adE) := by
 have h := Q3t l
 refine Qpo Q2l ?_ (Qya Q2l _) fun x => ?_
 · unfold SG Q03
   rw [List.pairwise_flatMap]
   refine ⟨fun p _ => Q02 h p,(Qiq (Qa8 h.keys)).imp fun hlt x hx y hy => ?_⟩
   have h1 := ((Qgx h).1 hx).1
   have h2 := ((Qgx h).1 hy).1
   exact Qjl.2 (.inl (by rw [h1,h2]; exact hlt))
 · rw [Ql0]
   unfold Q03
   rw [List.mem_flatMap,List.mem_map]
   constructor
   · rintro ⟨p,_,hx⟩
     exact ((Qgx h).1 hx).2
   · rintro ⟨e,he,rfl⟩
     exact ⟨e.person,Qpw.2 ((h.person _).2 ⟨e,he,rfl⟩),(Qgx h).2 ⟨rfl,e,he,rfl⟩⟩
def X8 (gap:Int) (acc:List Sn) (a:Ad3) : List Sn :=
 match acc.getLast? with
 | some g => if g.person = a.1 ∧ a.2.1 - g.to_ ≤ gap then acc.dropLast ++ [⟨a.1,g.from_,a.2.1,Qed bLt g.items a.2.2⟩] else acc ++ [⟨a.1,a.2.1,a.2.1,[a.2.2]⟩]
 | none => acc ++ [⟨a.1,a.2.1,a.2.1,[a.2.2]⟩]
theorem Qe3 (gap:Int) (acc:List Sn) (g:Sn) (a:Ad3) : X8 gap (acc ++ [g]) a = if g.person = a.1 ∧ a.2.1 - g.to_ ≤ gap then acc ++ [⟨a.1,g.from_,a.2.1,Qed bLt g.items a.2.2⟩] else (acc ++ [g]) ++ [⟨a.1,a.2.1,a.2.1,[a.2.2]⟩] := by
 unfold X8
 rw [List.getLast?_append,List.getLast?_singleton,Option.some_or,List.dropLast_concat]
def allL (gap:Int) (L:List Ad3) : List Sn := L.foldl (X8 gap) []
theorem Qmw (gap:Int) (hg:0 ≤ gap) (p:ByteArray) (t:Int) : ∀ (its:List ByteArray) (acc:List Sn) (f:Int) (X:List ByteArray),(its.map fun i => ((p,t,i) : Ad3)).foldl (X8 gap) (acc ++ [⟨p,f,t,Qe0 X⟩]) = acc ++ [⟨p,f,t,Qe0 (X ++ its)⟩]
 | [],acc,f,X => by simp
 | i :: its,acc,f,X => by
   have ih := Qmw gap hg p t its acc f (X ++ [i])
   rw [List.map_cons,List.foldl_cons,Qe3,if_pos ⟨rfl,by simp only; omega⟩,Qtq,ih]
   simp
theorem Q1u (i:ByteArray) : Qe0 [i] = [i] := by simp [Qe0,Q0w,Xn]
theorem Q0k (gap:Int) (hg:0 ≤ gap) (p:ByteArray) (k:Qdh) (t:Int) (hne:Xk k t ≠ []) :
 (∀ (acc:List Sn),(∀ g,acc.getLast? = some g → g.person ≠ p ∨ gap < t - g.to_) → (Qne p k t).foldl (X8 gap) acc = acc ++ [⟨p,t,t,Qe0 (Xk k t)⟩]) ∧
 (∀ (acc:List Sn) (f u:Int) (X:List ByteArray),t - u ≤ gap → (Qne p k t).foldl (X8 gap) (acc ++ [⟨p,f,u,Qe0 X⟩]) = acc ++ [⟨p,f,t,Qe0 (X ++ Xk k t)⟩]) := by
 have hex : Qe0 (Xk k t) ≠ [] := by
  intro h
  cases hq : Xk k t with
  | nil => exact hne hq
  | cons y l =>
    have : y ∈ Qe0 (Xk k t) := Qeu.2 (by rw [hq]; simp)
    rw [h] at this
    simp at this
 unfold Qne
 cases hs : Qe0 (Xk k t) with
 | nil => exact absurd hs hex
 | cons i its =>
   have hss : Qe0 (i :: its) = Qe0 (Xk k t) := by rw [← hs,Qzp]
   refine ⟨fun acc hacc => ?_,fun acc f u X hu => ?_⟩
   · have h1 : X8 gap acc (p,t,i) = acc ++ [⟨p,t,t,Qe0 [i]⟩] := by
      unfold X8
      rw [Q1u]
      cases hl : acc.getLast? with
      | none => rfl
      | some g =>
        simp only
        rw [if_neg]
        rintro ⟨h2,h3⟩
        rcases hacc g hl with h | h
        · exact h h2
        · have h3 : t - g.to_ ≤ gap := h3
          omega
     rw [List.map_cons,List.foldl_cons,h1,Qmw gap hg]
     rw [show [i] ++ its = i :: its from rfl,hss,hs]
   · rw [List.map_cons,List.foldl_cons,Qe3,if_pos ⟨rfl,hu⟩,Qtq,Qmw gap hg]
     have : Qe0 (X ++ [i] ++ its) = Qe0 (X ++ Xk k t) := Qmh fun x => by
      have hx : x ∈ i :: its ↔ x ∈ Xk k t := by rw [← hs]; exact Qeu
      have h4 : x ∈ X ++ [i] ++ its ↔ x ∈ X ∨ x ∈ i :: its := by simp [or_assoc]
      rw [h4,hx,List.mem_append]
     rw [this]
theorem Qu4 (gap:Int) (hg:0 ≤ gap) (p:ByteArray) (k:Qdh) (acc:List Sn) (hacc:∀ g,acc.getLast? = some g → g.person ≠ p) : ∀ ts : List Int,(∀ t ∈ ts,Xk k t ≠ []) → (ts.flatMap (Qne p k)).foldl (X8 gap) acc = acc ++ (Qem gap k ts).map (Q0f p) := by
 refine Qy (fun _ => by simp [Qem]) fun ts t ih h => ?_
 have ih := ih fun x hx => h x (by simp [hx])
 obtain ⟨hA,hB⟩ := Q0k gap hg p k t (h t (by simp))
 rw [List.flatMap_append,List.foldl_append,ih,Qft]
 simp only [List.flatMap_cons,List.flatMap_nil,List.append_nil]
 generalize Qem gap k ts = G
 clear ih
 unfold Qb7
 cases hG : G.getLast? with
 | none =>
   have : G = [] := by simpa using hG
   subst this
   simp only [List.map_nil,List.append_nil,List.map_cons]
   rw [hA acc fun g hl => .inl (hacc g hl)]
   rfl
 | some g =>
   obtain ⟨G',rfl⟩ : ∃ G',G = G' ++ [g] := by
    have := List.getLast?_eq_some_iff.1 hG
    obtain ⟨ys,h⟩ := this
    exact ⟨ys,h⟩
   simp only [List.dropLast_concat]
   by_cases hc : gap < t - g.2.1
   · rw [if_pos hc,hA _ fun g' hl => ?_]
     · simp [Q0f]
     · rw [List.map_append,← List.append_assoc,List.map_cons,List.map_nil,List.getLast?_append,List.getLast?_singleton,Option.some_or] at hl
       injection hl with hl
       subst hl
       exact .inr hc
   · rw [if_neg hc,List.map_append,← List.append_assoc,List.map_cons,List.map_nil]
     rw [show Q0f p g = ⟨p,g.1,g.2.1,Qe0 g.2.2⟩ from rfl,hB _ _ _ _ (by omega),List.map_append,List.append_assoc]
     rfl
theorem Qzs {gap:Int} {ss:Ses} {p:ByteArray} {x:Sn} (h:x ∈ Qbh gap ss p) : x.person = p := by
 unfold Qbh at h
 obtain ⟨g,_,rfl⟩ := List.mem_map.1 h
 rfl
theorem Qln (gap:Int) (hg:0 ≤ gap) (ss:Ses) (hne:∀ p t,t ∈ (tks ss p).map (·.1) → Xk (tks ss p) t ≠ []) : ∀ (ps:List ByteArray) (acc:List Sn),ps.Nodup → (∀ g,acc.getLast? = some g → g.person ∉ ps) → (ps.flatMap (Qre ss)).foldl (X8 gap) acc = acc ++ ps.flatMap (Qbh gap ss)
 | [],acc,_,_ => by simp
 | p :: ps,acc,hn,hl => by
   rw [List.nodup_cons] at hn
   rw [List.flatMap_cons,List.foldl_append,List.flatMap_cons]
   have h1 : (Qre ss p).foldl (X8 gap) acc = acc ++ Qbh gap ss p := Qu4 gap hg p (tks ss p) acc (fun g hg he => hl g hg (by rw [he]; simp)) _ fun t ht => hne p t (Qkp.1 ht)
   rw [h1,Qln gap hg ss hne ps _ hn.2 ?_,List.append_assoc]
   intro g hgl
   rw [List.getLast?_append] at hgl
   cases hq : (Qbh gap ss p).getLast? with
   | none =>
     rw [hq,Option.none_or] at hgl
     exact fun hm => hl g hgl (by simp [hm])
   | some x =>
     rw [hq,Option.some_or] at hgl
     injection hgl with hgl
     subst hgl
     rw [Qzs (List.mem_of_getLast? hq)]
     exact hn.1
theorem Qzt (gap:Int) (hg:0 ≤ gap) (l:List Ev) : allL gap (Qbr ahB (l.map adE)) = Qey gap (Qcc l) := by
 have h := Q3t l
 rw [← Q04]
 unfold allL Q03 Qey
 rw [Qln gap hg (Qcc l) (fun p t ht hne => ?_) _ [] ((Qbv _).nodup_iff.2 (Qa8 h.keys)) (by simp),List.nil_append]
 obtain ⟨e,he,e1,e2⟩ := (h.tick p t).1 ht
 have := (h.item p t e.item).2 ⟨e,he,e1,e2,rfl⟩
 rw [hne] at this
 simp at this
def Qd2 (i:Nat) : Int := ((1048576 / 2 ^ i : Nat) : Int)
theorem Qvq (i:Nat) : Qd2 (i + 1) = (Qd2 i).tdiv 2 := by
 unfold Qd2
 rw [Int.tdiv_eq_ediv_of_nonneg (Int.natCast_nonneg _),Nat.pow_succ,← Nat.div_div_eq_div_mul]
 generalize 1048576 / 2 ^ i = m
 omega
theorem Qfu {i:Nat} (h:21 ≤ i) : Qd2 i = 0 := by
 unfold Qd2
 have : 2 ^ 21 ≤ 2 ^ i := Nat.pow_le_pow_right (by omega) h
 rw [Nat.div_eq_of_lt (by omega)]
 rfl
theorem Qx7 {i:Nat} (h:i ≤ 20) : 0 < Qd2 i := by
 unfold Qd2
 have h1 : 2 ^ i ≤ 2 ^ 20 := Nat.pow_le_pow_right (by omega) h
 have h2 : 0 < 2 ^ i := Nat.pow_pos (by omega)
 have : 0 < 1048576 / 2 ^ i := Nat.div_pos (by omega) h2
 omega
theorem Qnf (i:Nat) : 0 ≤ Qd2 i ∧ Qd2 i ≤ 1048576 := by
 unfold Qd2
 have := Nat.div_le_self 1048576 (2 ^ i)
 generalize 1048576 / 2 ^ i = m at this ⊢
 omega
theorem Qss {age half:Int} (h:¬ age < 0) : Xh age half = Qd2 (age / max half 1).toNat := by
 unfold Xh
 rw [if_neg h]
 have h2 : 0 ≤ age / max half 1 := Int.ediv_nonneg (by omega) (by omega)
 split
 · rw [Qfu (by omega)]
 · unfold Qd2
   rw [Int.fdiv_eq_ediv_of_nonneg _ (Int.le_of_lt (Int.pow_pos (by omega)))]
   simp
theorem Qmr {age half:Int} (h:age < 0) : Xh age half = 0 := by unfold Xh; rw [if_pos h]
theorem Qpi (r:ByteArray) : Qax (Qn1 r) = r := by
 have hl : (Qn1 r).data.toList = 59 :: r.data.toList := by unfold Qn1; simp
 have hp : X5 (Qn1 r) = some 0 := by unfold X5; rw [hl]; rfl
 unfold Qax
 rw [hp]
 simp only
 apply Qxr
 have h2 : ∀ s : ByteArray,s.toList = s.data.toList := fun s => by rw [ByteArray.toList_eq]
 rw [h2,h2,Qdj,hl]
 have : (Qn1 r).size = r.size + 1 := by
  have := congrArg List.length hl
  simpa using this
 rw [this]
 simp
 exact List.take_of_length_le (by simp)
theorem Qz3 (s:ByteArray) : Qw (Qn1 (Qax s)) = Qw s := by rw [Qdd,Qpi,Qdd s]
theorem Qmo : Qw (Qn1 ⟨#[]⟩) = [] := by rw [Qdd,Qpi,if_pos rfl]
def Q39 (l:List ByteArray) : Prop := (∀ t ∈ l,Qm t = true) ∧ SG bLt l ∧ l.length ≤ 8
theorem Q3x {l:List ByteArray} (h:Qez l = true) (h8:l.length ≤ 8) : Q39 l := by
 unfold Qez at h
 rw [List.all_eq_true] at h
 have hk : ∀ i (hi:i < l.length),Qm l[i] = true ∧ (i = 0 ∨ bLt (l.getD (i - 1) .empty) l[i] = true) := fun i hi => by
  have := h i (List.mem_range.2 hi)
  unfold Qk0 at this
  rw [getD_lt hi] at this
  simpa using this
 refine ⟨fun t ht => ?_,?_,h8⟩
 · obtain ⟨i,hi,rfl⟩ := List.getElem_of_mem ht
   exact (hk i hi).1
 · have hs : ∀ d i (hi:i + d + 1 < l.length),bLt (l[i]'(by omega)) (l[i + d + 1]'hi) = true := by
    intro d
    induction d with
    | zero =>
      intro i hi
      have := (hk (i + 1) hi).2
      rw [Nat.add_sub_cancel,getD_lt (by omega)] at this
      rcases this with h | h
      · omega
      · exact h
    | succ d ih =>
      intro i hi
      have h1 := ih i (by omega)
      have := (hk (i + (d + 1) + 1) hi).2
      rw [show i + (d + 1) + 1 - 1 = i + d + 1 by omega,getD_lt (by omega)] at this
      rcases this with h | h
      · omega
      · exact Qbg h1 h
   unfold SG
   rw [List.pairwise_iff_getElem]
   intro i j hi hj hij
   have := hs (j - i - 1) i (by omega)
   have e : i + (j - i - 1) + 1 = j := by omega
   simp only [e] at this
   exact this
theorem Q3v (name:ByteArray) : ∀ es : List Ev,(∀ e ∈ es,Xo e = true) → Q39 (Qw (Qn1 (Qwy name es).item.tags)) := by
 refine Qy (fun _ => ?_) fun es e ih h => ?_
 · show Q39 (Qw (Qn1 ⟨#[]⟩))
   rw [Qmo]
   exact ⟨by simp,List.Pairwise.nil,by simp⟩
 · have ih := ih fun x hx => h x (by simp [hx])
   have he := h e (by simp)
   rw [Qml]
   unfold Qct
   split
   · next hk =>
     show Q39 (Qw (Qn1 (Qax e.text)))
     rw [Qz3]
     have hl : Qbd e.text = true := by
      rcases Qbs (Qcq.1 he).kind with hq | hq | hq | hq | hq | hq | hq
      all_goals first | (exfalso; omega) | exact hq.2.2.2.1
     unfold Qbd at hl
     simp only [Bool.and_eq_true] at hl
     exact Q3x hl.2.1 (by simpa using hl.2.2)
   · split
     · exact ih
     · exact ih
theorem Q3c (name:ByteArray) (es:List Ev) (h:∀ e ∈ es,Xo e = true) : Q39 (Qw (Qn1 (Q5c name es).tags)) := by
 unfold Q5c
 split
 · show Q39 (Qw (Qn1 ⟨#[]⟩))
   rw [Qmo]
   exact ⟨by simp,List.Pairwise.nil,by simp⟩
 · exact Q3v name es h
theorem Qsj (tg:List ByteArray) : (Qbc tg).Nodup := by
 have : ∀ (tg l:List ByteArray),l.Nodup → (tg.foldl Qb3 l).Nodup := by
  intro tg
  induction tg with
  | nil => intro l h; exact h
  | cons t tg ih =>
    intro l h
    rw [List.foldl_cons]
    refine ih _ ?_
    unfold Qb3
    split
    · next hc =>
      have hn : t ∉ l := by
       intro hm
       have := (Lib.containsS_iff _ _).2 hm
       rw [this] at hc
       simp at hc
      rw [List.nodup_append]
      refine ⟨h,by simp,?_⟩
      intro a ha b hb
      rw [List.mem_singleton] at hb
      subst hb
      exact fun e => hn (e ▸ ha)
    · exact h
 exact this tg [] List.nodup_nil
theorem Qk4 {z:List Ev} (h:∀ e ∈ z,Xo e = true) : ∀ e ∈ Xc z,Xo e = true := fun e he => h e (List.mem_filter.1 he).1
theorem Qw4 {z:List Ev} (h:Rise z) : Rise (Xc z) := h.sublist List.filter_sublist
theorem Qm6 (width:Int) (z:List Ev) (e:Ev) : (Qq width (z ++ [e])).rs = (Qq width z).rs ++ if peB e = true then [(e,Qbc (Qa1 (Xc z) e))] else [] := by
 have hc := (Qat width z).1
 rw [Qas]
 unfold Qch peB thB
 by_cases h1 : e.kind = 11 ∨ e.kind = 12 ∨ e.kind = 13
 · simp [h1]
 · rw [if_neg h1]
   by_cases h2 : e.kind = 14
   · simp [h2]
   · rw [if_neg h2,← hc]
     simp only [h1,h2,decide_false,Bool.not_false,Bool.and_self,if_true]
     split <;> rfl
theorem Qgb (width:Int) : ∀ z : List Ev,Rise z → (∀ e ∈ z,Xo e = true) → ∀ r ∈ (Qq width z).rs,Xo r.1 = true ∧ r.2.Nodup ∧ r.2.length ≤ 8 := by
 refine Qy (fun _ _ r hr => by simp [Qq,Qxe] at hr) fun z e ih hR hm => ?_
 have hr1 : Rise z := (List.pairwise_append.1 hR).1
 have hm1 : ∀ x ∈ z,Xo x = true := fun x hx => hm x (by simp [hx])
 have ih := ih hr1 hm1
 rw [Qm6]
 intro r hr
 rcases List.mem_append.1 hr with hr | hr
 · exact ih r hr
 · split at hr
   · rw [List.mem_singleton] at hr
     subst hr
     refine ⟨hm e (by simp),Qsj _,Nat.le_trans (Qp6 _) ?_⟩
     unfold Qa1
     split
     · rw [Qxu (Qw4 hr1)]
       exact (Q3c e.item _ fun y hy => Qk4 hm1 y (List.mem_filter.1 hy).1).2.2
     · simp
   · simp at hr
theorem Q16 {e:Ev} (h:peB e = false) : Qo e = 0 := by
 unfold peB thB at h
 unfold Qo
 have : (e.kind = 11 ∨ e.kind = 12 ∨ e.kind = 13) ∨ e.kind = 14 := by
  by_cases h1 : e.kind = 11 ∨ e.kind = 12 ∨ e.kind = 13
  · exact .inl h1
  · simp [h1] at h
    exact .inr h
 rw [if_neg (by omega),if_neg (by omega),if_neg (by omega),if_neg (by omega)]
abbrev Ct := ByteArray × Int
def Qlf (x:Ct) : List Value := [.string x.1,.int .i64 x.2]
theorem Qtd (x:Ct) : (Qlf x).length = 2 := rfl
theorem Qte (x:Ct) : ∀ u ∈ Qlf x,u.oneCell' = true := by simp [Qlf,Value.oneCell']
theorem Q4z : Qqf Tryz.prog 93 193 Qlf 2 24 := ⟨by kernel_rfl,⟨_,ty193_ok,rfl,rfl⟩,by193,by decide,by decide,Qtd,Qte⟩
theorem Q49 {z:List Ev} (h:∀ e ∈ z,Xo e = true) : ∀ e ∈ z.filter wpB,Xo e = true := fun e he => h e (List.mem_filter.1 he).1
theorem Ql7 {e:Ev} (h:Xo e = true) : 0 ≤ e.at_ ∧ e.at_ ≤ 1099511627776 := by
 have := (Qcq.1 h).at_
 exact this
theorem Qon {c:Cfg} (h:Qlb c = true) : (1 ≤ c.half ∧ c.half ≤ 1099511627776) ∧ (1 ≤ c.width ∧ c.width ≤ 1099511627776) ∧ (1 ≤ c.span ∧ c.span ≤ 1099511627776) ∧ c.span.tmod c.width = 0 ∧ (0 ≤ c.gap ∧ c.gap ≤ 1099511627776) ∧ (0 ≤ c.floor ∧ c.floor ≤ 1048576) ∧ (0 ≤ c.crowd ∧ c.crowd ≤ 1048576) := by
 unfold Qlb inB at h
 simp only [Bool.and_eq_true,decide_eq_true_eq] at h
 obtain ⟨⟨⟨⟨⟨⟨h1,h2⟩,h3⟩,h4⟩,h5⟩,h6⟩,h7⟩ := h
 exact ⟨h1,h2,h3,h4,h5,h6,h7⟩
theorem Qj1 {n:Int} (h:1 ≤ n ∧ n ≤ 1099511627776) : Xq n = n := by unfold Xq; omega
theorem Qjs {t width:Int} (hw:1 ≤ width) (h:-4398046511104 ≤ t ∧ t ≤ 4398046511104) : -4398046511104 ≤ t / width ∧ t / width ≤ 4398046511104 := by
 constructor
 · rw [Int.le_ediv_iff_mul_le (by omega)]
   have : -4398046511104 * width ≤ -4398046511104 * 1 := Int.mul_le_mul_of_nonpos_left (by omega) (by omega)
   omega
 · rcases Int.lt_or_le t 0 with h1 | h1
   · have := Int.ediv_neg_of_neg_of_pos h1 (show 0 < width by omega)
     omega
   · have := Int.ediv_le_self width h1
     omega
theorem Qk2 {w:World} {T:Nat → Prop} (person:ByteArray) : ∀ {D:List (Ev × SV)} {rs:List Row},Qf3 w T D rs → Qf3 w T (Xx D person) (rowsOf rs person)
 | [],rs,h => by
   have : rs = [] := by have := h.len; simpa using this.symm
   subst this
   exact h
 | d :: D,[],h => by have := h.len; simp at this
 | d :: D,r :: rs,h => by
   have h0 := h.ev 0 d r rfl rfl
   have hT : Qf3 w T D rs := ⟨by have := h.len; simpa using this,fun i d r hd hr => h.ev (i + 1) d r hd hr⟩
   have ih := Qk2 person hT
   unfold Xx rowsOf at *
   simp only [List.filter_cons,h0.1]
   split
   · refine ⟨by simp [ih.len],fun i d' r' hd hr => ?_⟩
     cases i with
     | zero =>
       simp at hd hr
       subst hd; subst hr
       exact h0
     | succ i => exact ih.ev i d' r' (by simpa using hd) (by simpa using hr)
   · exact ih
theorem Qf3.ext {w w1:World} {T:Nat → Prop} {D:List (Ev × SV)} {rs:List Row} (h:Qf3 w T D rs) (hT:∀ k,T k → k < w.heap.size) (hx:Ext w w1) : Qf3 w1 T D rs :=
 ⟨h.len,fun i d r hd hr => by
  obtain ⟨h1,h2,h3,h4⟩ := h.ev i d r hd hr
  exact ⟨h1,h2,h3.ext hx,h4⟩⟩
theorem Qnc {w w1 w2:World} {T:Nat → Prop} (hx:Ext w w1) (hT:∀ k,T k → w.heap.size ≤ k) (hM:Mod T w1 w2) : Ext w w2 :=
 (Qs (Mod.of_ext (S := fun _ => False) hx) (hM.mono fun k _ hk => .inr (hT k hk))).ext fun _ _ h => h
theorem Qdn (e:Ev) (w:World) : Cal Tryz.prog 18 [evV e] w fun r w' => r = .int .i64 (Qo e) ∧ Ext w w' := by
 refine Fi Tryz.func18 rfl _ rfl rfl ?_;conv=>whnf
 intro b w1 hn
 have hb := hn.At
 conv=>whnf
 refine ⟨_,hb.one rfl,?_⟩;conv=>whnf
 refine ⟨fun h1 => ?_,fun h1 => ?_⟩
 · have h1 : e.kind = 1 := by simpa using h1
   conv=>whnf
   exact ⟨by unfold Qo; rw [if_pos h1],hn.ext⟩
 have h1 : ¬ e.kind = 1 := by simpa using h1
 conv=>whnf
 refine ⟨fun h2 => ?_,fun h2 => ?_⟩
 · have h2 : e.kind = 2 := by simpa using h2
   conv=>whnf
   exact ⟨by unfold Qo; rw [if_neg h1,if_pos h2],hn.ext⟩
 have h2 : ¬ e.kind = 2 := by simpa using h2
 conv=>whnf
 refine ⟨fun h3 => ?_,fun h3 => ?_⟩
 · have h3 : e.kind = 3 := by simpa using h3
   conv=>whnf
   exact ⟨by unfold Qo; rw [if_neg h1,if_neg h2,if_pos h3],hn.ext⟩
 have h3 : ¬ e.kind = 3 := by simpa using h3
 conv=>whnf
 refine ⟨fun h4 => ?_,fun h4 => ?_⟩
 · have h4 : e.kind = 4 := by simpa using h4
   conv=>whnf
   refine ⟨_,hb.one rfl,?_⟩;conv=>whnf
   exact ⟨by unfold Qo; rw [if_neg h1,if_neg h2,if_neg h3,if_pos h4],hn.ext⟩
 have h4 : ¬ e.kind = 4 := by simpa using h4
 conv=>whnf
 exact ⟨by unfold Qo; rw [if_neg h1,if_neg h2,if_neg h3,if_neg h4],hn.ext⟩
def Qip (c:Cfg) (z:List Ev) : List Sn := Qey (Qih c.gap) (Qcc (z.filter wpB))
end Go.Proofs.YtopncieoolkhjaaGreatDoor
