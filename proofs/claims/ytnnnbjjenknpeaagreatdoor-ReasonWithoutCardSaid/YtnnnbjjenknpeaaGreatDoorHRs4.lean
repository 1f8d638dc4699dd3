import Derived.Test.YtnnnbjjenknpeaaGreatDoorHRs3
/- A world without a reason's own events: what it tells (ReasonWithout),in plain words. -/
set_option linter.unusedVariables false
set_option linter.unusedSimpArgs false
namespace Go.Proofs.YtnnnbjjenknpeaaGreatDoor
open Go.Se Go.RowKit
theorem Qzk {l:List Ev} (hl:∀ e ∈ l,Xp e = true) (q:Ev → Bool) : Qbn ((Qbn l).filter q) = (Qbn l).filter q := by
 have hz : ∀ e ∈ (Qbn l).filter q,e ∈ Qbn l := fun e he => (List.mem_filter.1 he).1
 have hm : ∀ e ∈ (Qbn l).filter q,Xp e = true := fun e he => hl e (Qjy (hz e he))
 have hids : ((Qbn l).filter q).Pairwise (fun a b => idE a ≠ idE b) := (Qvb hl).sublist List.filter_sublist
 have o := Qtl hm
 have hon : ∀ x,x ∈ Qb1 ((Qbn l).filter q) ↔ x ∈ (Qbn l).filter q := fun x => by
  rw [o.mem]
  refine ⟨fun h => h.1,fun h => ⟨h,fun y hy he => ?_⟩⟩
  obtain rfl := Qqq hids hy h he
  have h1 := (Qhy _).subset ((Qdg l).subset (hz y h))
  exact (((Qtl hl).mem y).1 h1).2 y (Qo1 h1) rfl
 have hkeep : ∀ x ∈ Qb1 ((Qbn l).filter q),Qhw (Qb1 ((Qbn l).filter q)) x = true := fun x hx => by
  have h1 := (Qdg l).subset (hz x ((hon x).1 hx))
  have h2 := (List.mem_filter.1 h1).2
  unfold Qhw at h2 ⊢
  rw [Bool.or_eq_true] at h2 ⊢
  refine h2.imp (fun h => ?_) id
  rw [Bool.not_eq_true'] at h ⊢
  unfold Qky at h ⊢
  rw [List.any_eq_false] at h ⊢
  intro y hy
  exact h y ((Qhy _).subset ((Qdg l).subset (hz y ((hon y).1 hy))))
 have hleft : Qoq (Qb1 ((Qbn l).filter q)) = Qb1 ((Qbn l).filter q) := List.filter_eq_self.2 hkeep
 refine (Qsm hm ?_ (List.Pairwise.sublist List.filter_sublist (Qn2 l))).symm
 rw [hleft]
 exact Qd7 (Qqr hids) (Qqr o.ids) (fun x hx => (hon x).2 hx) fun x hx => (hon x).1 hx
theorem Qzr : ∀ {z:List Ev},Rise z → ∀ e : Ev,Qdv z e = z.filter fun x => Qv x e
 | [],_,_ => rfl
 | x :: z,h,e => by
   have h' := List.pairwise_cons.1 h
   have ih := Qzr h'.2 e
   unfold Qdv at *
   rw [List.takeWhile_cons,List.filter_cons]
   cases hx : Qv x e with
   | true => simp only [if_true]; rw [ih]
   | false =>
     simp only [Bool.false_eq_true,if_false]
     symm
     rw [List.filter_eq_nil_iff]
     intro y hy hq
     have := Qnc (h'.1 y hy) hq
     rw [hx] at this; cases this
section
variable {c:Cfg} {z:List Ev} {person item:ByteArray} {now:Int}
def Qgp (c:Cfg) (z:List Ev) (person item:ByteArray) (now:Int) : List Ev := z.filter fun e => !decide (e ∈ Qj8 c z person item now)
theorem Qj5 {e:Ev} : e ∈ Qgp c z person item now ↔ e ∈ z ∧ e ∉ Qj8 c z person item now := by
 unfold Qgp
 rw [List.mem_filter]
 simp
theorem Q8d {e:Ev} (h:e ∈ Qj8 c z person item now) : e ∈ z ∧ peB e = true ∧ e.person = person ∧ Qdi c z item now e = true := by
 unfold Qj8 Qcb hist Q7 at h
 obtain ⟨h1,h2⟩ := List.mem_filter.1 h
 obtain ⟨h3,h4⟩ := List.mem_filter.1 h1
 obtain ⟨h5,h6⟩ := List.mem_filter.1 h3
 exact ⟨h5,h6,by simpa using h4,h2⟩
theorem Qlc : Ql (Qgp c z person item now) = Ql z := by
 unfold Ql Qgp
 rw [List.filter_filter]
 apply List.filter_congr
 intro e _
 cases ht : thB e with
 | false => rfl
 | true =>
   have : e ∉ Qj8 c z person item now := fun h => by
    have := Qwc (Q8d h).2.1
    rw [ht] at this; cases this
   simp [this]
theorem Q3p (hr:Rise z) (e:Ev) : Ql (Qdv (Qgp c z person item now) e) = Ql (Qdv z e) := by
 have hr' : Rise (Qgp c z person item now) := hr.sublist List.filter_sublist
 have ht := Qlc (c := c) (z := z) (person := person) (item := item) (now := now)
 rw [Qzr hr',Qzr hr]
 unfold Ql at *
 rw [List.filter_filter,List.filter_filter]
 have h1 : ∀ l : List Ev,(l.filter fun a => thB a && Qv a e) = (l.filter thB).filter fun a => Qv a e := fun l => by
  rw [List.filter_filter]
  apply List.filter_congr
  intro a _
  rw [Bool.and_comm]
 rw [h1,h1,ht]
theorem Qq0 {e:Ev} (h:e ∈ Qcb (Qgp c z person item now) person) : e ∈ Qcb z person ∧ Qdi c z item now e = false := by
 unfold Qcb hist Q7 at h
 obtain ⟨h1,h2⟩ := List.mem_filter.1 h
 obtain ⟨h3,h4⟩ := List.mem_filter.1 h1
 obtain ⟨h5,h6⟩ := Qj5.1 h3
 have hin : e ∈ Qcb z person := List.mem_filter.2 ⟨List.mem_filter.2 ⟨h5,h4⟩,h2⟩
 refine ⟨hin,?_⟩
 cases hc : Qdi c z item now e with
 | false => rfl
 | true => exact absurd (List.mem_filter.2 ⟨hin,hc⟩) h6
theorem Qm0 {e:Ev} (h:0 < Qs e) : Qdi c z item now e = Qmn c z item (Qma z item now) e := by
 unfold Qdi
 rw [if_neg]
 intro hk
 unfold Qs at h
 rw [if_neg (by omega),if_neg (by omega),if_neg (by omega),if_neg (by omega)] at h
 omega
theorem Q37 (hr:Rise z) (hm:∀ e ∈ z,Xp e = true) (hg:0 ≤ Qs7 c.gap) (k:Nat) (hk:k = 1 ∨ k = 2 ∨ k = 4) : Qre c (Qgp c z person item now) person item now k = 0 := by
 have hr' : Rise (Qgp c z person item now) := hr.sublist List.filter_sublist
 have hit : Qgo (Qgp c z person item now) item now = Qgo z item now := by unfold Qgo; rw [Qlc]
 unfold Qre
 rcases hk with rfl | rfl | rfl
 · rw [if_neg (by decide),if_pos rfl,hit]
   have h0 : Qe8 (Qze (Q8 c.half) now (rowsOf (Qi3 (Qgp c z person item now)) person)) (Qma z item now) = 0 := by
    unfold Qe8
    refine Qcr _ fun t ht => ?_
    unfold Qze
    refine Qcr _ fun r hrow => ?_
    obtain ⟨h1,h2⟩ := List.mem_filter.1 hrow
    have h2 : t ∈ r.2 := by simpa using h2
    unfold rowsOf at h1
    obtain ⟨h3,h4⟩ := List.mem_filter.1 h1
    have h4 : r.1.person = person := by simpa using h4
    rw [Q39 _ hr'] at h3
    obtain ⟨e,he,rfl⟩ := List.mem_map.1 h3
    simp only at h2 h4
    have hh := Qq0 (c := c) (z := z) (item := item) (now := now) (List.mem_filter.2 ⟨he,by simpa using h4⟩)
    unfold Qr6
    simp only
    have hw : ¬ 0 < Qs e := fun hw => by
     have h5 := hh.2
     rw [Qm0 hw] at h5
     unfold Qmn at h5
     have h6 : (Ql9 z e).any (fun t => decide (t ∈ Qma z item now)) = true := by
      rw [List.any_eq_true]
      refine ⟨t,?_,by simpa using ht⟩
      unfold Qpn at h2
      split at h2
      · simp at h2
      · rw [Q3p hr] at h2
        exact h2
     rw [h6] at h5
     simp at h5
     omega
    have hw0 := (Qgk (hm e (Qj5.1 (List.mem_filter.1 he).1).1)).1
    have : Qs e = 0 := by omega
    rw [this,Int.zero_mul]
   show (if (Qgo z item now).listed = true then min (Qe8 (Qze (Q8 c.half) now (rowsOf (Qi3 (Qgp c z person item now)) person)) (Qma z item now)) 1099511627776 else 0) = 0
   rw [h0]
   split <;> rfl
 · rw [if_neg (by decide),if_neg (by decide),if_pos rfl]
   unfold Q75
   rw [Qzs]
   · rfl
   · intro e he hw hi
     have hh := (Qq0 he).2
     rw [Qm0 hw] at hh
     unfold Qmn at hh
     have h1 : ¬ 0 < (Qe2 (Qib c z) e.item item).1 := fun h1 => by
      have h2 : decide (0 < Qs e) = true := decide_eq_true hw
      have h3 : decide (e.item = item) = false := decide_eq_false hi
      have h4 : decide (0 < (Qe2 (Qib c z) e.item item).1) = true := decide_eq_true h1
      rw [h2,h3,h4] at hh
      simp at hh
     rw [Qvw hi] at h1
     have h2 : ¬ 0 < Qcy (Qib c (Qgp c z person item now)) e.item item := fun h2 => h1 (Q32 c hg (fun x hx => (Qj5.1 hx).1) h2)
     have h3 : ¬ 0 < (Qe2 (Qib c (Qgp c z person item now)) item e.item).1 := by
      rw [Qvw (fun h => hi h.symm),Qq6]
      exact h2
     omega
 · rw [if_neg (by decide),if_neg (by decide),if_neg (by decide),if_neg (by decide),if_pos rfl,hit,if_neg]
   rintro ⟨hl,hf⟩
   have hth : Qk4 z item now = true := by
    unfold Qk4
    cases hq : (Ql z).filter (thQ item now) with
    | cons x xs => rfl
    | nil =>
      unfold Qgo at hl
      rw [hq] at hl
      simp [Qon,Qcv] at hl
   unfold Qs6 at hf
   have hnil : (Qgp c z person item now).filter (flB person (Qgo z item now).maker) = [] := by
    rw [List.filter_eq_nil_iff]
    intro e he hfl
    unfold flB at hfl
    simp only [Bool.and_eq_true,Bool.or_eq_true,decide_eq_true_eq] at hfl
    obtain ⟨f1,f2,f3⟩ := hfl
    obtain ⟨he1,he2⟩ := Qj5.1 he
    refine he2 (List.mem_filter.2 ⟨List.mem_filter.2 ⟨List.mem_filter.2 ⟨he1,?_⟩,by simpa using f1⟩,?_⟩)
    · unfold peB thB
      rcases f3 with f3 | f3 <;> simp [f3]
    · unfold Qdi
      rw [if_pos f3,hth,f2]
      simp
   rw [hnil] at hf
   cases hf
end
end Go.Proofs.YtnnnbjjenknpeaaGreatDoor
