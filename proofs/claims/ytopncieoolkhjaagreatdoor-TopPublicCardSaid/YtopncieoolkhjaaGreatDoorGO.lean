/- Several texts in one: Rs1, Rs3, Ra1. -/
import Derived.Test.YtopncieoolkhjaaGreatDoorGM
import Derived.Test.YtopncieoolkhjaaGreatDoorGL
import Derived.Test.YtopncieoolkhjaaGreatDoorHPl8
set_option linter.unusedVariables false
set_option linter.unusedSimpArgs false
namespace Go.Proofs.YtopncieoolkhjaaGreatDoor
open Go.Se Go.RowKit
def Qdj (z:List Ev) (e:Ev) : List Ev := z.takeWhile fun x => Qu x e
theorem Q12 (e:Ev) : Qu e e = false := by
 rw [← Bool.not_eq_true,Qds]
 rintro (h | ⟨_,h | ⟨_,h⟩⟩)
 · omega
 · rw [Xm] at h; cases h
 · omega
theorem Qg1 {l1 l2:List Ev} {e:Ev} (h:Rise (l1 ++ e :: l2)) : Qdj (l1 ++ e :: l2) e = l1 := by
 unfold Qdj
 rw [List.takeWhile_append_of_pos fun x hx => (List.pairwise_append.1 h).2.2 x hx e (by simp),List.takeWhile_cons,Q12]
 simp
theorem Q1i {z:List Ev} {a e:Ev} (h:Rise (z ++ [a])) (he:e ∈ z) : Qdj (z ++ [a]) e = Qdj z e := by
 obtain ⟨l1,l2,rfl⟩ := List.append_of_mem he
 have h1 : Rise (l1 ++ e :: l2) := (List.pairwise_append.1 h).1
 rw [Qg1 h1]
 have e1 : (l1 ++ e :: l2) ++ [a] = l1 ++ e :: (l2 ++ [a]) := by simp
 rw [e1] at h ⊢
 exact Qg1 h
theorem Q1h {z:List Ev} {a:Ev} (h:Rise (z ++ [a])) : Qdj (z ++ [a]) a = z := Qg1 (l2 := []) h
theorem Qm5 {z:List Ev} {e x:Ev} (h:x ∈ Qdj z e) : x ∈ z := (List.takeWhile_sublist _).mem h
theorem Q2j : ∀ z : List Ev,Rise z → Qk1 z = (Xn z).map fun e => (e,Qom (Qi (Qdj z e)) e) := by
 refine Qv (fun _ => rfl) fun z a ih h => ?_
 have h1 : Rise z := (List.pairwise_append.1 h).1
 have ih := ih h1
 have hc : ((Xn z).map fun e => (e,Qom (Qi (Qdj (z ++ [a]) e)) e)) = (Xn z).map fun e => (e,Qom (Qi (Qdj z e)) e) := by
  refine List.map_congr_left fun e he => ?_
  rw [Q1i h (List.mem_filter.1 he).1]
 rw [Qmo,ih]
 unfold Xn at *
 rw [List.filter_append,List.map_append,hc]
 congr 1
 cases hp : peB a with
 | true => simp [hp,Q1h h]
 | false => simp [hp]
def Qlf (z:List Ev) (e:Ev) : List ByteArray := Qw (Qex (Qnl e.item ((Qi (Qdj z e)).filter (thQ e.item e.at_))).tags)
theorem Quo {e:Ev} (h:peB e = true) : thB e = false := by
 unfold peB at h
 cases hq : thB e with
 | false => rfl
 | true => rw [hq] at h; simp at h
theorem Qs9 {z:List Ev} (h:Rise z) {e:Ev} (he:e ∈ z) (hp:thB e = false) (hno:∀ x ∈ Qi z,x.item = e.item → x.at_ ≠ e.at_) : (Qi z).filter (thQ e.item e.at_) = (Qi (Qdj z e)).filter (thQ e.item e.at_) := by
 obtain ⟨l1,l2,rfl⟩ := List.append_of_mem he
 rw [Qg1 h]
 unfold Qi at *
 rw [List.filter_append,List.filter_append]
 have : ((e :: l2).filter thB).filter (thQ e.item e.at_) = [] := by
  rw [List.filter_eq_nil_iff]
  intro x hx hq
  obtain ⟨hx1,hx2⟩ := List.mem_filter.1 hx
  have hq : x.item = e.item ∧ x.at_ ≤ e.at_ := by simpa [thQ] using hq
  rcases List.mem_cons.1 hx1 with rfl | hx1
  · rw [hp] at hx2; cases hx2
  · have hl := (List.pairwise_cons.1 (List.pairwise_append.1 h).2.1).1 x hx1
    have := Qr3 hl
    exact hno x (List.mem_filter.2 ⟨by simp [hx1],hx2⟩) hq.1 (by omega)
 rw [this,List.append_nil]
theorem Qx6 (name:ByteArray) (t:Int) : ∀ cs : List Ev,t ∈ (Qz cs name).map (·.at_) ↔ ∃ x ∈ cs,x.item = name ∧ x.at_ = t := by
 refine Qv (by simp [Qz]) fun cs e ih => ?_
 have hx : (∃ x ∈ cs ++ [e],x.item = name ∧ x.at_ = t) ↔ (∃ x ∈ cs,x.item = name ∧ x.at_ = t) ∨ (e.item = name ∧ e.at_ = t) := by
  constructor
  · rintro ⟨x,hx,h⟩
    rcases List.mem_append.1 hx with hx | hx
    · exact .inl ⟨x,hx,h⟩
    · rw [List.mem_singleton] at hx; subst hx; exact .inr h
  · rintro (⟨x,hx,h⟩ | h)
    · exact ⟨x,by simp [hx],h⟩
    · exact ⟨e,by simp,h⟩
 rw [Qcb,hx,← ih]
 unfold Qgk Qmy
 by_cases hn : name = e.item
 · subst hn
   rw [if_pos rfl,List.map_append,List.mem_append,List.map_cons,List.map_nil,List.mem_singleton]
   have : (Qfo (Qz cs e.item) e).at_ = e.at_ := Qfp _ _
   rw [this]
   constructor
   · rintro (h | h)
     · exact .inl h
     · exact .inr ⟨rfl,h.symm⟩
   · rintro (h | ⟨_,h⟩)
     · exact .inl h
     · exact .inr h.symm
 · rw [if_neg hn]
   constructor
   · exact .inl
   · rintro (h | ⟨h,_⟩)
     · exact h
     · exact absurd h.symm hn
def Qlu (c:Cfg) (z:List Ev) (item:ByteArray) (tags:List ByteArray) (e:Ev) : Bool := decide (0 < Qr e) && ((!decide (e.item = item) && decide (0 < (Qes (Qhr c z) e.item item).1)) || (Qlf z e).any fun t => decide (t ∈ tags))
def Qkg (z:List Ev) (item:ByteArray) (now:Int) : Bool := !((Qi z).filter (thQ item now)).isEmpty
def Qlg (z:List Ev) (item:ByteArray) (now:Int) : List ByteArray := Qw (Qex (Qgp z item now).tags)
def Qdl (c:Cfg) (z:List Ev) (item:ByteArray) (now:Int) (e:Ev) : Bool := if e.kind = 7 ∨ e.kind = 8 then Qkg z item now && decide (e.text = (Qgp z item now).maker) else Qlu c z item (Qlg z item now) e
def Qn2 (c:Cfg) (z:List Ev) (person item:ByteArray) (now:Int) : List Ev := (Qfc z person).filter (Qdl c z item now)
theorem Q4u (c:Cfg) (z:List Ev) (person item:ByteArray) (now:Int) : (Qn2 c z person item now).length ≤ z.length := by
 have h1 := List.length_filter_le (Qdl c z item now) (Qfc z person)
 have h2 := Qt2 z person
 unfold Qn2
 omega
def Qxn (q' q:Sn) : Prop := q'.person = q.person ∧ ∀ x ∈ q'.items,x ∈ q.items
theorem Qpo (q:Sn) : Qxn q q := ⟨rfl,fun _ h => h⟩
theorem Qie {a b c:Sn} (h:Qxn a b) (k:Qxn b c) : Qxn a c := ⟨h.1.trans k.1,fun x hx => k.2 x (h.2 x hx)⟩
theorem Qmu (gap:Int) (acc:List Sn) (a:Ad3) : (∀ q ∈ acc,∃ q2 ∈ Xl gap acc a,Qxn q q2) ∧ ∃ q,(Xl gap acc a).getLast? = some q ∧ q.person = a.1 ∧ q.to_ = a.2.1 ∧ a.2.2 ∈ q.items := by
 by_cases hj : ∃ g,acc.getLast? = some g ∧ g.person = a.1 ∧ a.2.1 - g.to_ ≤ gap
 · obtain ⟨g,hg,hj⟩ := hj
   obtain ⟨acc0,rfl⟩ := Qf0 hg
   rw [Qhv hj]
   refine ⟨fun q hq => ?_,_,List.getLast?_concat,rfl,rfl,Qcu.2 (.inr rfl)⟩
   rcases List.mem_append.1 hq with hq | hq
   · exact ⟨q,by simp [hq],Qpo q⟩
   · rw [List.mem_singleton] at hq
     subst hq
     exact ⟨_,List.mem_append.2 (.inr (List.mem_singleton.2 rfl)),hj.1,fun x hx => Qcu.2 (.inl hx)⟩
 · rw [Quu fun g hg h => hj ⟨g,hg,h⟩]
   exact ⟨fun q hq => ⟨q,by simp [hq],Qpo q⟩,_,List.getLast?_concat,rfl,rfl,by simp⟩
structure Q5x (gap:Int) (P:List Ad3) (acc' acc:List Sn) : Prop where
 all : ∀ q' ∈ acc',∃ q ∈ acc,Qxn q' q
 last : ∀ g',acc'.getLast? = some g' → (∃ g,acc.getLast? = some g ∧ Qxn g' g ∧ g'.to_ ≤ g.to_) ∨ ∀ a,(∀ b ∈ P,ahB b a = true) → a.1 = g'.person → gap < a.2.1 - g'.to_
 from_ : ∀ g,acc.getLast? = some g → ∃ b ∈ P,b.1 = g.person ∧ b.2.1 = g.to_
theorem Q5y {a b:Ad3} (h:ahB a b = true) (e:a.1 = b.1) : a.2.1 ≤ b.2.1 := by
 rcases Qgj.1 h with h | ⟨_,h | ⟨h,_⟩⟩
 · rw [e,Xm] at h; cases h
 · omega
 · omega
theorem Qox {a b:Ad3} (h:ahB a b = true) : a.1 = b.1 ∨ bLt a.1 b.1 = true := by
 rcases Qgj.1 h with h | ⟨h,_⟩
 · exact .inr h
 · exact .inl h
theorem Q2q {gap:Int} {P:List Ad3} {acc' acc:List Sn} (h:Q5x gap P acc' acc) {b:Ad3} (hb:∀ x ∈ P,ahB x b = true) : Q5x gap (P ++ [b]) acc' (Xl gap acc b) := by
 obtain ⟨k1,q,k2,k3,k4,k5⟩ := Qmu gap acc b
 refine ⟨fun q' hq' => ?_,fun g' hg' => ?_,fun g hg => ?_⟩
 · obtain ⟨q1,h1,h2⟩ := h.all q' hq'
   obtain ⟨q2,h3,h4⟩ := k1 q1 h1
   exact ⟨q2,h3,Qie h2 h4⟩
 · rcases h.last g' hg' with ⟨g,h1,h2,h3⟩ | h1
   · obtain ⟨b0,m0,e1,e2⟩ := h.from_ g h1
     have hb0 := hb b0 m0
     by_cases hj : g.person = b.1 ∧ b.2.1 - g.to_ ≤ gap
     · left
       obtain ⟨acc0,rfl⟩ := Qf0 h1
       rw [Qhv hj]
       refine ⟨_,List.getLast?_concat,Qie h2 ⟨hj.1,fun x hx => Qcu.2 (.inl hx)⟩,?_⟩
       have := Q5y hb0 (e1.trans hj.1)
       show g'.to_ ≤ b.2.1
       omega
     · right
       intro a ha hap
       have hba := ha b (by simp)
       have hg : g'.person = g.person := h2.1
       by_cases hp : g.person = b.1
       · have hne : gap < b.2.1 - g.to_ := by
          rcases Int.lt_or_le gap (b.2.1 - g.to_) with h | h
          · exact h
          · exact absurd ⟨hp,h⟩ hj
         have := Q5y hba (by rw [hap,hg,hp])
         omega
       · exfalso
         have l1 : bLt b0.1 b.1 = true := (Qox hb0).resolve_left fun e => hp (by rw [← e1,e])
         have l2 : bLt b0.1 a.1 = true := by
          rcases Qox hba with e | e
          · rw [← e]; exact l1
          · exact Qa6 l1 e
         rw [e1,hap,hg,Xm] at l2
         cases l2
   · exact .inr fun a ha hap => h1 a (fun x hx => ha x (by simp [hx])) hap
 · rw [k2] at hg
   injection hg with hg
   subst hg
   exact ⟨b,by simp,k3.symm,k4.symm⟩
theorem Q2p {gap:Int} {P:List Ad3} {acc' acc:List Sn} (h:Q5x gap P acc' acc) {b:Ad3} (hb:∀ x ∈ P,ahB x b = true) : Q5x gap (P ++ [b]) (Xl gap acc' b) (Xl gap acc b) := by
 obtain ⟨k1,q,k2,k3,k4,k5⟩ := Qmu gap acc b
 have hfrom : ∀ g,(Xl gap acc b).getLast? = some g → ∃ x ∈ P ++ [b],x.1 = g.person ∧ x.2.1 = g.to_ := fun g hg => by
  rw [k2] at hg
  injection hg with hg
  subst hg
  exact ⟨b,by simp,k3.symm,k4.symm⟩
 have hold : ∀ q' ∈ acc',∃ q ∈ Xl gap acc b,Qxn q' q := fun q' hq' => by
  obtain ⟨q1,h1,h2⟩ := h.all q' hq'
  obtain ⟨q2,h3,h4⟩ := k1 q1 h1
  exact ⟨q2,h3,Qie h2 h4⟩
 by_cases hj : ∃ g',acc'.getLast? = some g' ∧ g'.person = b.1 ∧ b.2.1 - g'.to_ ≤ gap
 · obtain ⟨g',hg',hj⟩ := hj
   have hfirst : ∃ g,acc.getLast? = some g ∧ Qxn g' g ∧ g'.to_ ≤ g.to_ := by
    rcases h.last g' hg' with h1 | h1
    · exact h1
    · have := h1 b hb hj.1.symm
      omega
   obtain ⟨g,h1,h2,h3⟩ := hfirst
   obtain ⟨acc0',rfl⟩ := Qf0 hg'
   obtain ⟨acc0,rfl⟩ := Qf0 h1
   have hj2 : g.person = b.1 ∧ b.2.1 - g.to_ ≤ gap := ⟨h2.1.symm.trans hj.1,by omega⟩
   rw [Qhv hj2] at hfrom hold ⊢
   rw [Qhv hj]
   have hnew : Qxn ⟨b.1,g'.from_,b.2.1,Qq7 bLt g'.items b.2.2⟩ ⟨b.1,g.from_,b.2.1,Qq7 bLt g.items b.2.2⟩ := ⟨rfl,fun x hx => Qcu.2 ((Qcu.1 hx).imp (h2.2 x) id)⟩
   refine ⟨fun q' hq' => ?_,fun x hx => ?_,hfrom⟩
   · rcases List.mem_append.1 hq' with hq' | hq'
     · exact hold q' (by simp [hq'])
     · rw [List.mem_singleton] at hq'
       subst hq'
       exact ⟨_,List.mem_append.2 (.inr (List.mem_singleton.2 rfl)),hnew⟩
   · rw [List.getLast?_concat] at hx
     injection hx with hx
     subst hx
     exact .inl ⟨_,List.getLast?_concat,hnew,Int.le_refl _⟩
 · rw [Quu (acc := acc') fun g hg h => hj ⟨g,hg,h⟩]
   have hnew : Qxn ⟨b.1,b.2.1,b.2.1,[b.2.2]⟩ q := ⟨k3.symm,fun x hx => by rw [List.mem_singleton] at hx; rw [hx]; exact k5⟩
   refine ⟨fun q' hq' => ?_,fun x hx => ?_,hfrom⟩
   · rcases List.mem_append.1 hq' with hq' | hq'
     · exact hold q' hq'
     · rw [List.mem_singleton] at hq'
       subst hq'
       exact ⟨q,List.mem_of_getLast? k2,hnew⟩
   · rw [List.getLast?_concat] at hx
     injection hx with hx
     subst hx
     exact .inl ⟨q,k2,hnew,by rw [k4]; exact Int.le_refl _⟩
theorem Q49 (gap:Int) : ∀ (L L':List Ad3),SG ahB L → L'.Sublist L → Q5x gap L (allL gap L') (allL gap L) := by
 intro L
 induction L using Qv with
 | h0 =>
   intro L' _ hs
   obtain rfl := List.sublist_nil.1 hs
   exact ⟨by simp [allL],by simp [allL],by simp [allL]⟩
 | h1 L b ih =>
   intro L' hsg hs
   have hp := List.pairwise_append.1 hsg
   have hb : ∀ x ∈ L,ahB x b = true := fun x hx => hp.2.2 x hx b (by simp)
   obtain ⟨L1,L2,rfl,h1,h2⟩ := List.sublist_append_iff.1 hs
   have ih := ih L1 hp.1 h1
   rw [Qe3]
   have h3 : L2 = [] ∨ L2 = [b] := by
    cases h2 with
    | cons _ h => exact .inl (List.sublist_nil.1 h)
    | cons_cons _ h => rw [List.sublist_nil.1 h]; exact .inr rfl
   rcases h3 with rfl | rfl
   · rw [List.append_nil]
     exact Q2q ih hb
   · rw [Qe3]
     exact Q2p ih hb
theorem Qwu {L' L:List Ad3} (h':SG ahB L') (h:SG ahB L) (hm:∀ x ∈ L',x ∈ L) : L'.Sublist L := by
 classical
 have : L' = L.filter fun x => decide (x ∈ L') := Qk3 Qmv h' (List.Pairwise.sublist List.filter_sublist h) fun x => by
  rw [List.mem_filter]
  simp only [decide_eq_true_eq]
  exact ⟨fun hx => ⟨hm x hx,hx⟩,fun hx => hx.2⟩
 rw [this]
 exact List.filter_sublist
theorem Q42 (c:Cfg) (hg:0 ≤ Qrw c.gap) {z' z:List Ev} (h:∀ e ∈ z',e ∈ z) : ∀ q' ∈ Qhr c z',∃ q ∈ Qhr c z,Qxn q' q := by
 unfold Qhr
 rw [← Qsq _ hg,← Qsq _ hg]
 refine (Q49 _ _ _ (Qhd Qmv _) (Qwu (Qhd Qmv _) (Qhd Qmv _) fun x hx => ?_)).all
 rw [Qmc,List.mem_map] at hx ⊢
 obtain ⟨e,he,rfl⟩ := hx
 obtain ⟨h1,h2⟩ := List.mem_filter.1 he
 exact ⟨e,List.mem_filter.2 ⟨h e h1,h2⟩,rfl⟩
theorem Q2c (c:Cfg) (hg:0 ≤ Qrw c.gap) {z' z:List Ev} (h:∀ e ∈ z',e ∈ z) {a b:ByteArray} (hp:0 < Qcq (Qhr c z') a b) : 0 < Qcq (Qhr c z) a b := by
 unfold Qcq at *
 obtain ⟨q',hq'⟩ := List.exists_mem_of_length_pos hp
 obtain ⟨h1,h2⟩ := List.mem_filter.1 hq'
 obtain ⟨q,h3,_,h5⟩ := Q42 c hg h q' h1
 refine List.length_pos_of_mem (a := q) (List.mem_filter.2 ⟨h3,?_⟩)
 unfold hasB at *
 simp only [Bool.and_eq_true,decide_eq_true_eq] at h2 ⊢
 exact ⟨h5 _ h2.1,h5 _ h2.2⟩
theorem Qua {S:List Sn} {a b:ByteArray} (h:a ≠ b) : 0 < (Qes S a b).1 ↔ 0 < Qcq S a b := by
 have h1 := Qp4 S a b
 have h2 : Qcq S a b ≤ X3 S b := by rw [Qp3]; exact Qp4 S b a
 unfold Qes
 split
 · simp only; omega
 · simp only
   constructor
   · intro hp
     rcases Nat.eq_zero_or_pos (Qcq S a b) with h0 | h0
     · rw [h0] at hp; simp at hp
     · exact h0
   · intro hp
     exact Int.mul_pos (by omega) (by omega)
theorem Qxz {S:List Sn} {item:ByteArray} : ∀ h : List Ev,(∀ e ∈ h,0 < Qr e → e.item ≠ item → (Qes S item e.item).1 ≤ 0) → Qh6 S item h = (0,1) := by
 refine Qv (fun _ => rfl) fun h e ih hz => ?_
 rw [Qh7,ih fun x hx => hz x (by simp [hx])]
 unfold Qct
 split
 · rfl
 · next hn =>
   rw [if_neg]
   have := hz e (by simp) (by omega) (fun e1 => hn (.inr e1))
   unfold Qzq
   simp only [decide_eq_true_eq]
   omega
section
variable {z1 z2:List Ev} {o:Ev}
end
section
variable {z z':List Ev} {o:Ev}
end
end Go.Proofs.YtopncieoolkhjaaGreatDoor
