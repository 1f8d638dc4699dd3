import Derived.Test.YtnnnbjjenknpeaaGreatDoorHRs1
import Derived.Test.YtnnnbjjenknpeaaGreatDoorHPl8
/- Sessions of fewer events lie within sessions of more. -/
set_option linter.unusedVariables false
set_option linter.unusedSimpArgs false
namespace Go.Proofs.YtnnnbjjenknpeaaGreatDoor
open Go.Se Go.RowKit
def Qzb (q' q:Sn) : Prop := q'.person = q.person ∧ ∀ x ∈ q'.items,x ∈ q.items
theorem Qqs (q:Sn) : Qzb q q := ⟨rfl,fun _ h => h⟩
theorem Qiu {a b c:Sn} (h:Qzb a b) (k:Qzb b c) : Qzb a c := ⟨h.1.trans k.1,fun x hx => k.2 x (h.2 x hx)⟩
theorem Qnp (gap:Int) (acc:List Sn) (a:Ad3) : (∀ q ∈ acc,∃ q2 ∈ Xr gap acc a,Qzb q q2) ∧ ∃ q,(Xr gap acc a).getLast? = some q ∧ q.person = a.1 ∧ q.to_ = a.2.1 ∧ a.2.2 ∈ q.items := by
 by_cases hj : ∃ g,acc.getLast? = some g ∧ g.person = a.1 ∧ a.2.1 - g.to_ ≤ gap
 · obtain ⟨g,hg,hj⟩ := hj
   obtain ⟨acc0,rfl⟩ := Qgc hg
   rw [Qie hj]
   refine ⟨fun q hq => ?_,_,List.getLast?_concat,rfl,rfl,Qc2.2 (.inr rfl)⟩
   rcases List.mem_append.1 hq with hq | hq
   · exact ⟨q,by simp [hq],Qqs q⟩
   · rw [List.mem_singleton] at hq
     subst hq
     exact ⟨_,List.mem_append.2 (.inr (List.mem_singleton.2 rfl)),hj.1,fun x hx => Qc2.2 (.inl hx)⟩
 · rw [Qwh fun g hg h => hj ⟨g,hg,h⟩]
   exact ⟨fun q hq => ⟨q,by simp [hq],Qqs q⟩,_,List.getLast?_concat,rfl,rfl,by simp⟩
structure Q7q (gap:Int) (P:List Ad3) (acc' acc:List Sn) : Prop where
 all : ∀ q' ∈ acc',∃ q ∈ acc,Qzb q' q
 last : ∀ g',acc'.getLast? = some g' → (∃ g,acc.getLast? = some g ∧ Qzb g' g ∧ g'.to_ ≤ g.to_) ∨ ∀ a,(∀ b ∈ P,ahB b a = true) → a.1 = g'.person → gap < a.2.1 - g'.to_
 from_ : ∀ g,acc.getLast? = some g → ∃ b ∈ P,b.1 = g.person ∧ b.2.1 = g.to_
theorem Q7r {a b:Ad3} (h:ahB a b = true) (e:a.1 = b.1) : a.2.1 ≤ b.2.1 := by
 rcases Qg1.1 h with h | ⟨_,h | ⟨h,_⟩⟩
 · rw [e,Xt] at h; cases h
 · omega
 · omega
theorem Qp0 {a b:Ad3} (h:ahB a b = true) : a.1 = b.1 ∨ bLt a.1 b.1 = true := by
 rcases Qg1.1 h with h | ⟨h,_⟩
 · exact .inr h
 · exact .inl h
theorem Q4f {gap:Int} {P:List Ad3} {acc' acc:List Sn} (h:Q7q gap P acc' acc) {b:Ad3} (hb:∀ x ∈ P,ahB x b = true) : Q7q gap (P ++ [b]) acc' (Xr gap acc b) := by
 obtain ⟨k1,q,k2,k3,k4,k5⟩ := Qnp gap acc b
 refine ⟨fun q' hq' => ?_,fun g' hg' => ?_,fun g hg => ?_⟩
 · obtain ⟨q1,h1,h2⟩ := h.all q' hq'
   obtain ⟨q2,h3,h4⟩ := k1 q1 h1
   exact ⟨q2,h3,Qiu h2 h4⟩
 · rcases h.last g' hg' with ⟨g,h1,h2,h3⟩ | h1
   · obtain ⟨b0,m0,e1,e2⟩ := h.from_ g h1
     have hb0 := hb b0 m0
     by_cases hj : g.person = b.1 ∧ b.2.1 - g.to_ ≤ gap
     · left
       obtain ⟨acc0,rfl⟩ := Qgc h1
       rw [Qie hj]
       refine ⟨_,List.getLast?_concat,Qiu h2 ⟨hj.1,fun x hx => Qc2.2 (.inl hx)⟩,?_⟩
       have := Q7r hb0 (e1.trans hj.1)
       show g'.to_ ≤ b.2.1
       omega
     · right
       intro a ha hap
       have hba := ha b (by simp)
       have hg : g'.person = g.person := h2.1
       by_cases hp : g.person = b.1
       · have hne : gap < b.2.1 - g.to_ := by
          rcases Int.lt_or_le gap (b.2.1 - g.to_) with h | h
          · exact h
          · exact absurd ⟨hp,h⟩ hj
         have := Q7r hba (by rw [hap,hg,hp])
         omega
       · exfalso
         have l1 : bLt b0.1 b.1 = true := (Qp0 hb0).resolve_left fun e => hp (by rw [← e1,e])
         have l2 : bLt b0.1 a.1 = true := by
          rcases Qp0 hba with e | e
          · rw [← e]; exact l1
          · exact Qbk l1 e
         rw [e1,hap,hg,Xt] at l2
         cases l2
   · exact .inr fun a ha hap => h1 a (fun x hx => ha x (by simp [hx])) hap
 · rw [k2] at hg
   injection hg with hg
   subst hg
   exact ⟨b,by simp,k3.symm,k4.symm⟩
theorem Q4e {gap:Int} {P:List Ad3} {acc' acc:List Sn} (h:Q7q gap P acc' acc) {b:Ad3} (hb:∀ x ∈ P,ahB x b = true) : Q7q gap (P ++ [b]) (Xr gap acc' b) (Xr gap acc b) := by
 obtain ⟨k1,q,k2,k3,k4,k5⟩ := Qnp gap acc b
 have hfrom : ∀ g,(Xr gap acc b).getLast? = some g → ∃ x ∈ P ++ [b],x.1 = g.person ∧ x.2.1 = g.to_ := fun g hg => by
  rw [k2] at hg
  injection hg with hg
  subst hg
  exact ⟨b,by simp,k3.symm,k4.symm⟩
 have hold : ∀ q' ∈ acc',∃ q ∈ Xr gap acc b,Qzb q' q := fun q' hq' => by
  obtain ⟨q1,h1,h2⟩ := h.all q' hq'
  obtain ⟨q2,h3,h4⟩ := k1 q1 h1
  exact ⟨q2,h3,Qiu h2 h4⟩
 by_cases hj : ∃ g',acc'.getLast? = some g' ∧ g'.person = b.1 ∧ b.2.1 - g'.to_ ≤ gap
 · obtain ⟨g',hg',hj⟩ := hj
   have hfirst : ∃ g,acc.getLast? = some g ∧ Qzb g' g ∧ g'.to_ ≤ g.to_ := by
    rcases h.last g' hg' with h1 | h1
    · exact h1
    · have := h1 b hb hj.1.symm
      omega
   obtain ⟨g,h1,h2,h3⟩ := hfirst
   obtain ⟨acc0',rfl⟩ := Qgc hg'
   obtain ⟨acc0,rfl⟩ := Qgc h1
   have hj2 : g.person = b.1 ∧ b.2.1 - g.to_ ≤ gap := ⟨h2.1.symm.trans hj.1,by omega⟩
   rw [Qie hj2] at hfrom hold ⊢
   rw [Qie hj]
   have hnew : Qzb ⟨b.1,g'.from_,b.2.1,Qsg bLt g'.items b.2.2⟩ ⟨b.1,g.from_,b.2.1,Qsg bLt g.items b.2.2⟩ := ⟨rfl,fun x hx => Qc2.2 ((Qc2.1 hx).imp (h2.2 x) id)⟩
   refine ⟨fun q' hq' => ?_,fun x hx => ?_,hfrom⟩
   · rcases List.mem_append.1 hq' with hq' | hq'
     · exact hold q' (by simp [hq'])
     · rw [List.mem_singleton] at hq'
       subst hq'
       exact ⟨_,List.mem_append.2 (.inr (List.mem_singleton.2 rfl)),hnew⟩
   · rw [List.getLast?_concat] at hx
     injection hx with hx
     subst hx
     exact .inl ⟨_,List.getLast?_concat,hnew,Int.le_refl _⟩
 · rw [Qwh (acc := acc') fun g hg h => hj ⟨g,hg,h⟩]
   have hnew : Qzb ⟨b.1,b.2.1,b.2.1,[b.2.2]⟩ q := ⟨k3.symm,fun x hx => by rw [List.mem_singleton] at hx; rw [hx]; exact k5⟩
   refine ⟨fun q' hq' => ?_,fun x hx => ?_,hfrom⟩
   · rcases List.mem_append.1 hq' with hq' | hq'
     · exact hold q' hq'
     · rw [List.mem_singleton] at hq'
       subst hq'
       exact ⟨q,List.mem_of_getLast? k2,hnew⟩
   · rw [List.getLast?_concat] at hx
     injection hx with hx
     subst hx
     exact .inl ⟨q,k2,hnew,by rw [k4]; exact Int.le_refl _⟩
theorem Q62 (gap:Int) : ∀ (L L':List Ad3),SG ahB L → L'.Sublist L → Q7q gap L (allL gap L') (allL gap L) := by
 intro L
 induction L using Qu with
 | h0 =>
   intro L' _ hs
   obtain rfl := List.sublist_nil.1 hs
   exact ⟨by simp [allL],by simp [allL],by simp [allL]⟩
 | h1 L b ih =>
   intro L' hsg hs
   have hp := List.pairwise_append.1 hsg
   have hb : ∀ x ∈ L,ahB x b = true := fun x hx => hp.2.2 x hx b (by simp)
   obtain ⟨L1,L2,rfl,h1,h2⟩ := List.sublist_append_iff.1 hs
   have ih := ih L1 hp.1 h1
   rw [Qff]
   have h3 : L2 = [] ∨ L2 = [b] := by
    cases h2 with
    | cons _ h => exact .inl (List.sublist_nil.1 h)
    | cons_cons _ h => rw [List.sublist_nil.1 h]; exact .inr rfl
   rcases h3 with rfl | rfl
   · rw [List.append_nil]
     exact Q4f ih hb
   · rw [Qff]
     exact Q4e ih hb
theorem Qyl {L' L:List Ad3} (h':SG ahB L') (h:SG ahB L) (hm:∀ x ∈ L',x ∈ L) : L'.Sublist L := by
 classical
 have : L' = L.filter fun x => decide (x ∈ L') := Qlv Qnq h' (List.Pairwise.sublist List.filter_sublist h) fun x => by
  rw [List.mem_filter]
  simp only [decide_eq_true_eq]
  exact ⟨fun hx => ⟨hm x hx,hx⟩,fun hx => hx.2⟩
 rw [this]
 exact List.filter_sublist
theorem Q6w (c:Cfg) (hg:0 ≤ Qs7 c.gap) {z' z:List Ev} (h:∀ e ∈ z',e ∈ z) : ∀ q' ∈ Qib c z',∃ q ∈ Qib c z,Qzb q' q := by
 unfold Qib
 rw [← Quc _ hg,← Quc _ hg]
 refine (Q62 _ _ _ (Qhv Qnq _) (Qyl (Qhv Qnq _) (Qhv Qnq _) fun x hx => ?_)).all
 rw [Qm7,List.mem_map] at hx ⊢
 obtain ⟨e,he,rfl⟩ := hx
 obtain ⟨h1,h2⟩ := List.mem_filter.1 he
 exact ⟨e,List.mem_filter.2 ⟨h e h1,h2⟩,rfl⟩
theorem Q32 (c:Cfg) (hg:0 ≤ Qs7 c.gap) {z' z:List Ev} (h:∀ e ∈ z',e ∈ z) {a b:ByteArray} (hp:0 < Qcy (Qib c z') a b) : 0 < Qcy (Qib c z) a b := by
 unfold Qcy at *
 obtain ⟨q',hq'⟩ := List.exists_mem_of_length_pos hp
 obtain ⟨h1,h2⟩ := List.mem_filter.1 hq'
 obtain ⟨q,h3,_,h5⟩ := Q6w c hg h q' h1
 refine List.length_pos_of_mem (a := q) (List.mem_filter.2 ⟨h3,?_⟩)
 unfold hasB at *
 simp only [Bool.and_eq_true,decide_eq_true_eq] at h2 ⊢
 exact ⟨h5 _ h2.1,h5 _ h2.2⟩
theorem Qvw {S:List Sn} {a b:ByteArray} (h:a ≠ b) : 0 < (Qe2 S a b).1 ↔ 0 < Qcy S a b := by
 have h1 := Qq7 S a b
 have h2 : Qcy S a b ≤ Qaa S b := by rw [Qq6]; exact Qq7 S b a
 unfold Qe2
 split
 · simp only; omega
 · simp only
   constructor
   · intro hp
     rcases Nat.eq_zero_or_pos (Qcy S a b) with h0 | h0
     · rw [h0] at hp; simp at hp
     · exact h0
   · intro hp
     exact Int.mul_pos (by omega) (by omega)
theorem Qzs {S:List Sn} {item:ByteArray} : ∀ h : List Ev,(∀ e ∈ h,0 < Qs e → e.item ≠ item → (Qe2 S item e.item).1 ≤ 0) → Qim S item h = (0,1) := by
 refine Qu (fun _ => rfl) fun h e ih hz => ?_
 rw [Qin,ih fun x hx => hz x (by simp [hx])]
 unfold Qc0
 split
 · rfl
 · next hn =>
   rw [if_neg]
   have := hz e (by simp) (by omega) (fun e1 => hn (.inr e1))
   unfold Q1i
   simp only [decide_eq_true_eq]
   omega
end Go.Proofs.YtnnnbjjenknpeaaGreatDoor
