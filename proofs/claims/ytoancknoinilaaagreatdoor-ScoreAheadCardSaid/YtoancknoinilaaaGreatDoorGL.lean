/- Several texts in one: Pl7, Cu. -/
import Derived.Test.YtoancknoinilaaaGreatDoorGN
import Derived.Test.YtoancknoinilaaaGreatDoorGJ
set_option linter.unusedVariables false
set_option linter.unusedSimpArgs false

/- The raw points of a score, in plain words; somebody new; what comes. -/
namespace Go.Proofs.YtoancknoinilaaaGreatDoor
open Go.Se Go.RowKit

def rawG (c : Cfg) (z : List Ev) (person item : ByteArray) (now : Int) (k : Nat) : Int :=
  if k = 0 then min (popE (z.filter wpB) (halfN c.half) item now) 1099511627776
  else if k = 1 then (if (itAt z item now).listed = true then min (tasteV (tstE (halfN c.half) now (rowsOf (rowsR z) person)) (tagsOf (semi (itAt z item now).tags))) 1099511627776 else 0)
  else if k = 2 then kinF c z person item
  else if k = 3 then riseV c (paE (z.filter wpB) c.width item ((paneB c now - c.span) / halfN c.width) (paneB c now / halfN c.width)) (paE (z.filter wpB) c.width item ((paneB c now - 2 * c.span) / halfN c.width) ((paneB c now - c.span) / halfN c.width))
  else if k = 4 then (if (itAt z item now).listed = true ∧ folB z person (itAt z item now).maker = true then 1048576 else 0)
  else if k = 5 then (if (itAt z item now).listed = true then weightF (now - (itAt z item now).born) c.half else 0)
  else 0
theorem filter_split {α : Type} (q : α → Bool) : ∀ l : List α, l.Pairwise (fun a b => q b = true → q a = true) → l = l.filter q ++ l.filter (fun x => !q x)
  | [], _ => rfl
  | x :: l, h => by
    rw [List.pairwise_cons] at h
    have ih := filter_split q l h.2
    cases hx : q x with
    | true => rw [List.filter_cons_of_pos hx, List.filter_cons_of_neg (by simp [hx]), List.cons_append, ← ih]
    | false =>
      have h0 : l.filter q = [] := by
        rw [List.filter_eq_nil_iff]
        intro y hy hq
        have := h.1 y hy hq
        rw [hx] at this; cases this
      rw [h0, List.nil_append] at ih
      rw [List.filter_cons_of_neg (by simp [hx]), h0, List.filter_cons_of_pos (by simp [hx]), List.nil_append, ← ih]
structure Behind (now : Int) (person : ByteArray) (M : List Ev) : Prop where
  at_ : ∀ e ∈ M, now < e.at_
  worth : ∀ e ∈ M, worthE e ≤ 0
  person : ∀ e ∈ M, e.person ≠ person
theorem behind_wp {now : Int} {person : ByteArray} {M : List Ev} (h : Behind now person M) : M.filter wpB = [] := by
  rw [List.filter_eq_nil_iff]
  intro e he
  have := h.worth e he
  simp [wpB]
  omega
theorem rowsR_behind {now : Int} {person : ByteArray} (z : List Ev) : ∀ M : List Ev, Behind now person M → rowsOf (rowsR (z ++ M)) person = rowsOf (rowsR z) person := by
  refine snoc_ind (fun _ => by rw [List.append_nil]) fun M e ih h => ?_
  have ih := ih ⟨fun x hx => h.at_ x (by simp [hx]), fun x hx => h.worth x (by simp [hx]), fun x hx => h.person x (by simp [hx])⟩
  rw [← List.append_assoc, rowsR_snoc]
  split
  · rw [rowsOf_snoc, if_neg (h.person e (by simp)), List.append_nil, ih]
  · rw [List.append_nil, ih]
theorem raw_behind (c : Cfg) {z M : List Ev} {person : ByteArray} {now : Int} (h : Behind now person M) (item : ByteArray) (k : Nat) : rawG c (z ++ M) person item now k = rawG c z person item now k := by
  have h1 : (z ++ M).filter wpB = z.filter wpB := by rw [List.filter_append, behind_wp h, List.append_nil]
  have h2 : itAt (z ++ M) item now = itAt z item now := by
    unfold itAt thingsE
    rw [List.filter_append, List.filter_append]
    have : (M.filter thB).filter (thQ item now) = [] := by
      rw [List.filter_eq_nil_iff]
      intro e he
      have := h.at_ e (List.mem_filter.1 he).1
      simp [thQ]
      omega
    rw [this, List.append_nil]
  have h3 : histE (z ++ M) person = histE z person := by
    unfold histE hist peopleE
    rw [List.filter_append, List.filter_append]
    have : (M.filter peB).filter (fun e => decide (e.person = person)) = [] := by
      rw [List.filter_eq_nil_iff]
      intro e he
      simpa using h.person e (List.mem_filter.1 he).1
    rw [this, List.append_nil]
  have h4 : ∀ maker, folB (z ++ M) person maker = folB z person maker := fun maker => by
    unfold folB
    rw [List.filter_append]
    have : M.filter (flB person maker) = [] := by
      rw [List.filter_eq_nil_iff]
      intro e he
      simp [flB, h.person e he]
    rw [this, List.append_nil]
  have h5 : snsE c (z ++ M) = snsE c z := by unfold snsE; rw [h1]
  unfold rawG kinF
  rw [h1, h2, h3, h4, h5, rowsR_behind z M h]
theorem anew_filter' {l l' : List Ev} (hm : ∀ x ∈ l, mayB x = true) {q : Ev → Bool} (hp : ((leftL (onceL l)).filter q).Perm ((leftL (onceL l')).filter q)) : (anewL l).filter q = (anewL l').filter q :=
  sorted_ids (((anew_perm l).filter q).trans (hp.trans ((anew_perm l').filter q).symm)) ((anew_ids hm).sublist List.filter_sublist) (List.Pairwise.sublist List.filter_sublist (anew_srt l)) (List.Pairwise.sublist List.filter_sublist (anew_srt l'))
theorem ahead_split {l more : List Ev} {now : Int} {person : ByteArray} {nw : ByteArray} (hl : ∀ e ∈ l, mayB e = true) (hm : ∀ e ∈ more, mayB e = true) (h1 : ∀ e ∈ l, e.src ≠ nw ∧ e.at_ ≤ now) (h2 : ∀ e ∈ more, now < e.at_ ∧ e.src = nw ∧ e.person ≠ person ∧ worthE e ≤ 0 ∧ e.kind ≠ 14) :
    ∃ M, anewL (l ++ more) = anewL l ++ M ∧ Behind now person M := by
  have hall : ∀ e ∈ l ++ more, mayB e = true := fun e he => (List.mem_append.1 he).elim (hl e) (hm e)
  have o1 := once_is hl
  have o2 := once_is hall
  have hon : ∀ x, x.at_ ≤ now → (x ∈ onceL (l ++ more) ↔ x ∈ onceL l) := fun x hx => by
    rw [o1.mem, o2.mem]
    constructor
    · rintro ⟨h3, h4⟩
      have hxl : x ∈ l := by
        rcases List.mem_append.1 h3 with h | h
        · exact h
        · have := (h2 x h).1; omega
      exact ⟨hxl, fun y hy he => h4 y (by simp [hy]) he⟩
    · rintro ⟨h3, h4⟩
      refine ⟨by simp [h3], fun y hy he => ?_⟩
      rcases List.mem_append.1 hy with h | h
      · exact h4 y h he
      · exfalso
        have e1 : y.src = x.src := by
          have := congrArg Prod.fst he
          exact this
        exact (h1 x h3).1 (e1 ▸ (h2 y h).2.1)
  have hgone : ∀ p, goneB (onceL (l ++ more)) p = goneB (onceL l) p := fun p => by
    unfold goneB
    rw [Bool.eq_iff_iff, List.any_eq_true, List.any_eq_true]
    constructor
    · rintro ⟨x, hx, hk⟩
      have hk1 : x.kind = 14 := by simp at hk; exact hk.1
      have hxl : x ∈ l := by
        rcases List.mem_append.1 (once_mem hx) with h | h
        · exact h
        · exact absurd hk1 (h2 x h).2.2.2.2
      exact ⟨x, (hon x (h1 x hxl).2).1 hx, hk⟩
    · rintro ⟨x, hx, hk⟩
      exact ⟨x, (hon x (h1 x (once_mem hx)).2).2 hx, hk⟩
  have hkeep : ∀ x, keepB (onceL (l ++ more)) x = keepB (onceL l) x := fun x => by unfold keepB; rw [hgone]
  have hperm : ((leftL (onceL (l ++ more))).filter fun e => decide (e.at_ ≤ now)).Perm ((leftL (onceL l)).filter fun e => decide (e.at_ ≤ now)) := by
    refine perm_of_subs ((ids_nodup (left_ids hall)).sublist List.filter_sublist) ((ids_nodup (left_ids hl)).sublist List.filter_sublist) (fun x hx => ?_) (fun x hx => ?_)
    · obtain ⟨h3, h4⟩ := List.mem_filter.1 hx
      obtain ⟨h5, h6⟩ := List.mem_filter.1 h3
      have h4' : x.at_ ≤ now := by simpa using h4
      exact List.mem_filter.2 ⟨List.mem_filter.2 ⟨(hon x h4').1 h5, by rw [← hkeep]; exact h6⟩, h4⟩
    · obtain ⟨h3, h4⟩ := List.mem_filter.1 hx
      obtain ⟨h5, h6⟩ := List.mem_filter.1 h3
      have h4' : x.at_ ≤ now := by simpa using h4
      exact List.mem_filter.2 ⟨List.mem_filter.2 ⟨(hon x h4').2 h5, by rw [hkeep]; exact h6⟩, h4⟩
  have hf := anew_filter' hall hperm
  have hfl : (anewL l).filter (fun e => decide (e.at_ ≤ now)) = anewL l := by
    rw [List.filter_eq_self]
    intro x hx
    simpa using (h1 x (anew_mem hx)).2
  rw [hfl] at hf
  have hsp := filter_split (fun e : Ev => decide (e.at_ ≤ now)) (anewL (l ++ more)) ((anew_rise hall).imp fun h => by
    have := less_at h
    simp only [decide_eq_true_eq]
    omega)
  rw [hf] at hsp
  refine ⟨_, hsp, ?_⟩
  have hin : ∀ e ∈ (anewL (l ++ more)).filter (fun x => !decide (x.at_ ≤ now)), e ∈ more := fun e he => by
    obtain ⟨h3, h4⟩ := List.mem_filter.1 he
    rcases List.mem_append.1 (anew_mem h3) with h | h
    · have := (h1 e h).2
      simp at h4
      omega
    · exact h
  exact ⟨fun e he => (h2 e (hin e he)).1, fun e he => (h2 e (hin e he)).2.2.2.1, fun e he => (h2 e (hin e he)).2.2.1⟩
end Go.Proofs.YtoancknoinilaaaGreatDoor


/- The document's events that are counted anew. -/
namespace Go.Proofs.YtoancknoinilaaaGreatDoor
open Go.Se Go.RowKit

end Go.Proofs.YtoancknoinilaaaGreatDoor
