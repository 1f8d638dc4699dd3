import Derived.Test.YtopncieoolkhjaaGreatDoorGO
/- A world without a reason's own events: what it tells (ReasonWithout),in plain words. -/
set_option linter.unusedVariables false
set_option linter.unusedSimpArgs false
namespace Go.Proofs.YtopncieoolkhjaaGreatDoor
open Go.Se Go.RowKit
theorem Qxy : ∀ {z:List Ev},Rise z → ∀ e : Ev,Qdj z e = z.filter fun x => Qu x e
 | [],_,_ => rfl
 | x :: z,h,e => by
   have h' := List.pairwise_cons.1 h
   have ih := Qxy h'.2 e
   unfold Qdj at *
   rw [List.takeWhile_cons,List.filter_cons]
   cases hx : Qu x e with
   | true => simp only [if_true]; rw [ih]
   | false =>
     simp only [Bool.false_eq_true,if_false]
     symm
     rw [List.filter_eq_nil_iff]
     intro y hy hq
     have := Qmh (h'.1 y hy) hq
     rw [hx] at this; cases this
section
variable {c:Cfg} {z:List Ev} {person item:ByteArray} {now:Int}
def Qga (c:Cfg) (z:List Ev) (person item:ByteArray) (now:Int) : List Ev := z.filter fun e => !decide (e ∈ Qn2 c z person item now)
theorem Qjj {e:Ev} : e ∈ Qga c z person item now ↔ e ∈ z ∧ e ∉ Qn2 c z person item now := by
 unfold Qga
 rw [List.mem_filter]
 simp
theorem Q6f {e:Ev} (h:e ∈ Qn2 c z person item now) : e ∈ z ∧ peB e = true ∧ e.person = person ∧ Qdl c z item now e = true := by
 unfold Qn2 Qfc hist Xn at h
 obtain ⟨h1,h2⟩ := List.mem_filter.1 h
 obtain ⟨h3,h4⟩ := List.mem_filter.1 h1
 obtain ⟨h5,h6⟩ := List.mem_filter.1 h3
 exact ⟨h5,h6,by simpa using h4,h2⟩
theorem Qkm : Qi (Qga c z person item now) = Qi z := by
 unfold Qi Qga
 rw [List.filter_filter]
 apply List.filter_congr
 intro e _
 cases ht : thB e with
 | false => rfl
 | true =>
   have : e ∉ Qn2 c z person item now := fun h => by
    have := Quo (Q6f h).2.1
    rw [ht] at this; cases this
   simp [this]
theorem Q11 (hr:Rise z) (e:Ev) : Qi (Qdj (Qga c z person item now) e) = Qi (Qdj z e) := by
 have hr' : Rise (Qga c z person item now) := hr.sublist List.filter_sublist
 have ht := Qkm (c := c) (z := z) (person := person) (item := item) (now := now)
 rw [Qxy hr',Qxy hr]
 unfold Qi at *
 rw [List.filter_filter,List.filter_filter]
 have h1 : ∀ l : List Ev,(l.filter fun a => thB a && Qu a e) = (l.filter thB).filter fun a => Qu a e := fun l => by
  rw [List.filter_filter]
  apply List.filter_congr
  intro a _
  rw [Bool.and_comm]
 rw [h1,h1,ht]
theorem Qpw {e:Ev} (h:e ∈ Qfc (Qga c z person item now) person) : e ∈ Qfc z person ∧ Qdl c z item now e = false := by
 unfold Qfc hist Xn at h
 obtain ⟨h1,h2⟩ := List.mem_filter.1 h
 obtain ⟨h3,h4⟩ := List.mem_filter.1 h1
 obtain ⟨h5,h6⟩ := Qjj.1 h3
 have hin : e ∈ Qfc z person := List.mem_filter.2 ⟨List.mem_filter.2 ⟨h5,h4⟩,h2⟩
 refine ⟨hin,?_⟩
 cases hc : Qdl c z item now e with
 | false => rfl
 | true => exact absurd (List.mem_filter.2 ⟨hin,hc⟩) h6
theorem Ql6 {e:Ev} (h:0 < Qr e) : Qdl c z item now e = Qlu c z item (Qlg z item now) e := by
 unfold Qdl
 rw [if_neg]
 intro hk
 unfold Qr at h
 rw [if_neg (by omega),if_neg (by omega),if_neg (by omega),if_neg (by omega)] at h
 omega
theorem Q2h (hr:Rise z) (hm:∀ e ∈ z,Xy e = true) (hg:0 ≤ Qrw c.gap) (k:Nat) (hk:k = 1 ∨ k = 2 ∨ k = 4) : Qsf c (Qga c z person item now) person item now k = 0 := by
 have hr' : Rise (Qga c z person item now) := hr.sublist List.filter_sublist
 have hit : Qgp (Qga c z person item now) item now = Qgp z item now := by unfold Qgp; rw [Qkm]
 unfold Qsf
 rcases hk with rfl | rfl | rfl
 · rw [if_neg (by decide),if_pos rfl,hit]
   have h0 : Qfr (Q0x (Q7 c.half) now (rowsOf (Qk1 (Qga c z person item now)) person)) (Qlg z item now) = 0 := by
    unfold Qfr
    refine Qdy _ fun t ht => ?_
    unfold Q0x
    refine Qdy _ fun r hrow => ?_
    obtain ⟨h1,h2⟩ := List.mem_filter.1 hrow
    have h2 : t ∈ r.2 := by simpa using h2
    unfold rowsOf at h1
    obtain ⟨h3,h4⟩ := List.mem_filter.1 h1
    have h4 : r.1.person = person := by simpa using h4
    rw [Q2j _ hr'] at h3
    obtain ⟨e,he,rfl⟩ := List.mem_map.1 h3
    simp only at h2 h4
    have hh := Qpw (c := c) (z := z) (item := item) (now := now) (List.mem_filter.2 ⟨he,by simpa using h4⟩)
    unfold Qqy
    simp only
    have hw : ¬ 0 < Qr e := fun hw => by
     have h5 := hh.2
     rw [Ql6 hw] at h5
     unfold Qlu at h5
     have h6 : (Qlf z e).any (fun t => decide (t ∈ Qlg z item now)) = true := by
      rw [List.any_eq_true]
      refine ⟨t,?_,by simpa using ht⟩
      unfold Qom at h2
      split at h2
      · simp at h2
      · rw [Q11 hr] at h2
        exact h2
     rw [h6] at h5
     simp at h5
     omega
    have hw0 := (Qf7 (hm e (Qjj.1 (List.mem_filter.1 he).1).1)).1
    have : Qr e = 0 := by omega
    rw [this,Int.zero_mul]
   show (if (Qgp z item now).listed = true then min (Qfr (Q0x (Q7 c.half) now (rowsOf (Qk1 (Qga c z person item now)) person)) (Qlg z item now)) 1099511627776 else 0) = 0
   rw [h0]
   split <;> rfl
 · rw [if_neg (by decide),if_neg (by decide),if_pos rfl]
   unfold Q6z
   rw [Qxz]
   · rfl
   · intro e he hw hi
     have hh := (Qpw he).2
     rw [Ql6 hw] at hh
     unfold Qlu at hh
     have h1 : ¬ 0 < (Qes (Qhr c z) e.item item).1 := fun h1 => by
      have h2 : decide (0 < Qr e) = true := decide_eq_true hw
      have h3 : decide (e.item = item) = false := decide_eq_false hi
      have h4 : decide (0 < (Qes (Qhr c z) e.item item).1) = true := decide_eq_true h1
      rw [h2,h3,h4] at hh
      simp at hh
     rw [Qua hi] at h1
     have h2 : ¬ 0 < Qcq (Qhr c (Qga c z person item now)) e.item item := fun h2 => h1 (Q2c c hg (fun x hx => (Qjj.1 hx).1) h2)
     have h3 : ¬ 0 < (Qes (Qhr c (Qga c z person item now)) item e.item).1 := by
      rw [Qua (fun h => hi h.symm),Qp3]
      exact h2
     omega
 · rw [if_neg (by decide),if_neg (by decide),if_neg (by decide),if_neg (by decide),if_pos rfl,hit,if_neg]
   rintro ⟨hl,hf⟩
   have hth : Qkg z item now = true := by
    unfold Qkg
    cases hq : (Qi z).filter (thQ item now) with
    | cons x xs => rfl
    | nil =>
      unfold Qgp at hl
      rw [hq] at hl
      simp [Qnl,Qcn] at hl
   unfold Qt1 at hf
   have hnil : (Qga c z person item now).filter (flB person (Qgp z item now).maker) = [] := by
    rw [List.filter_eq_nil_iff]
    intro e he hfl
    unfold flB at hfl
    simp only [Bool.and_eq_true,Bool.or_eq_true,decide_eq_true_eq] at hfl
    obtain ⟨f1,f2,f3⟩ := hfl
    obtain ⟨he1,he2⟩ := Qjj.1 he
    refine he2 (List.mem_filter.2 ⟨List.mem_filter.2 ⟨List.mem_filter.2 ⟨he1,?_⟩,by simpa using f1⟩,?_⟩)
    · unfold peB thB
      rcases f3 with f3 | f3 <;> simp [f3]
    · unfold Qdl
      rw [if_pos f3,hth,f2]
      simp
   rw [hnil] at hf
   cases hf
end
end Go.Proofs.YtopncieoolkhjaaGreatDoor
