import Derived.Test.YtbfjlpoeglcmfaaGreatDoorHPr9

/- The document's Falls. -/
set_option linter.unusedVariables false
set_option linter.unusedSimpArgs false
namespace Go.Proofs.YtbfjlpoeglcmfaaGreatDoor
open Go.Se Go.RowKit

theorem ltFa_swo : Swo ltFa where
  asymm x y h := by
    cases hy : ltFa y x with
    | false => rfl
    | true => have := ltFa_SWO.trans x y x h hy; rw [ltFa_SWO.irrefl] at this; cases this
  trans x y z h k := ltFa_SWO.ntrans z y x k h
theorem srt_insG {α : Type} {lt : α → α → Bool} (hlt : Swo lt) {e : α} {out : List α} {k : Nat} (hs : Srt lt out) (h1 : ∀ v ∈ out.drop k, lt e v = true) (h2 : ∀ u ∈ out.take k, lt e u = false) :
    Srt lt (out.take k ++ e :: out.drop k) := by
  have hs' : Srt lt (out.take k ++ out.drop k) := by rw [List.take_append_drop]; exact hs
  refine Srt.append hs'.left (List.pairwise_cons.2 ⟨fun v hv => hlt.asymm _ _ (h1 v hv), hs'.right⟩) fun u hu v hv => ?_
  rcases List.mem_cons.1 hv with rfl | hv
  · exact h2 u hu
  · exact hs'.across u hu v hv
theorem perm_insG {α : Type} {e : α} {out l : List α} (k : Nat) (h : out.Perm l) : (out.take k ++ e :: out.drop k).Perm (l ++ [e]) := by
  have h1 : (out.take k ++ e :: out.drop k).Perm (e :: (out.take k ++ out.drop k)) := List.perm_middle
  rw [List.take_append_drop] at h1
  exact h1.trans ((h.cons e).trans (List.perm_append_comm (l₁ := [e]) (l₂ := l)))
/-- A thing's fall, for a person. -/
def fallR (z : List Ev) (person : ByteArray) (now : Int) (item : ByteArray) : Option Fa := (lookAt z person item now).bind fun t => fallOf z now (item, t)
theorem fallOf_item {z : List Ev} {now : Int} {x : ByteArray × Int} {f : Fa} (h : fallOf z now x = some f) : f.item = x.1 ∧ f.looked = x.2 ∧ priceAt z x.1 x.2 = some f.was ∧ priceAt z x.1 now = some f.is_ ∧ f.is_ < f.was := by
  unfold fallOf at h
  cases h1 : priceAt z x.1 x.2 with
  | none => rw [h1] at h; simp at h
  | some a =>
    cases h2 : priceAt z x.1 now with
    | none => rw [h1, h2] at h; simp at h
    | some b =>
      rw [h1, h2] at h
      simp only at h
      split at h
      · rename_i hlt
        have h := (Option.some.inj h).symm
        subst h
        exact ⟨rfl, rfl, rfl, rfl, hlt⟩
      · cases h
theorem fallR_if {z : List Ev} {person : ByteArray} {now : Int} (ht : tickB now = true) (item : ByteArray) : fallR z person now item = if (!(thenAt z person item now).isSome || !(priceAt z item now).isSome || decide ((thenAt z person item now).getD 0 ≤ (priceAt z item now).getD 0)) = true then none else some ⟨item, (thenAt z person item now).getD 0, (priceAt z item now).getD 0, (lookAt z person item now).getD (-1)⟩ := by
  unfold fallR thenAt
  rw [if_pos ht]
  cases lookAt z person item now with
  | none => simp
  | some t =>
    simp only [Option.bind_some, Option.getD_some]
    rw [fallOf_if]
    simp only
    have key : ∀ a b : Option Int, (if (a.isSome && b.isSome && decide (b.getD 0 < a.getD 0)) = true then some (Fa.mk item (a.getD 0) (b.getD 0) t) else none) = if (!a.isSome || !b.isSome || decide (a.getD 0 ≤ b.getD 0)) = true then none else some (Fa.mk item (a.getD 0) (b.getD 0) t) := by
      intro a b
      cases a with
      | none => simp
      | some a =>
        cases b with
        | none => simp
        | some b =>
          by_cases h : b < a
          · have h' : ¬ a ≤ b := by omega
            simp [h, h']
          · have h' : a ≤ b := by omega
            simp [h, h']
    exact key _ _
theorem fallR_item {z : List Ev} {person : ByteArray} {now : Int} {item : ByteArray} {f : Fa} (h : fallR z person now item = some f) : f.item = item := by
  unfold fallR at h
  cases hl : lookAt z person item now with
  | none => rw [hl] at h; simp at h
  | some t => rw [hl] at h; exact (fallOf_item (x := (item, t)) h).1
/-- The things that a person has to do with, rising. -/
def ItemsOf (z : List Ev) (person : ByteArray) (T : List ByteArray) : Prop := RiseT T ∧ ∀ x, x ∈ T ↔ x ≠ ⟨#[]⟩ ∧ ∃ e ∈ z, e.person = person ∧ e.item = x
theorem lookM_keys (l : List Ev) : (lookM l).Pairwise (fun x y => x.1 ≠ y.1) := by
  induction l using snoc_ind with
  | h0 => simp [lookM]
  | h1 l a ih => rw [lookM_snoc]; exact aset_pairwise ih
theorem nodup_item {l : List Fa} (h : l.Pairwise (fun a b => a.item ≠ b.item)) : l.Nodup := by
  rw [List.nodup_iff_pairwise_ne]
  exact h.imp fun h e => h (by rw [e])
theorem falls_items (z : List Ev) (person : ByteArray) (now : Int) : (fallsS z person now).Pairwise (fun a b => a.item ≠ b.item) := by
  unfold fallsS
  split
  · rw [List.pairwise_filterMap]
    refine (lookM_keys _).imp fun {x y} h a ha b hb => ?_
    have h1 := (fallOf_item ha).1
    have h2 := (fallOf_item hb).1
    rw [h1, h2]; exact h
  · exact List.Pairwise.nil
theorem falls_alike {z : List Ev} {person : ByteArray} {now : Int} (hm : ∀ e ∈ z, mayB e = true) (ht : tickB now = true) {T : List ByteArray} (hT : ItemsOf z person T) : (T.filterMap (fallR z person now)).Perm (fallsS z person now) := by
  have hi := falls_items z person now
  have h1 : (T.filterMap (fallR z person now)).Pairwise (fun a b => a.item ≠ b.item) := by
    rw [List.pairwise_filterMap]
    refine hT.1.imp fun {x y} h a ha b hb => ?_
    rw [fallR_item ha, fallR_item hb]
    rintro rfl
    rw [bLt_irrefl] at h; cases h
  refine perm_of_subs (nodup_item h1) (nodup_item hi) (fun f hf => ?_) (fun f hf => ?_)
  · obtain ⟨x, hx, hf⟩ := List.mem_filterMap.1 hf
    unfold fallR at hf
    cases hl : lookAt z person x now with
    | none => rw [hl] at hf; simp at hf
    | some t =>
      rw [hl] at hf
      unfold fallsS
      rw [if_pos ht]
      exact List.mem_filterMap.2 ⟨(x, t), alook_mem hl, hf⟩
  · unfold fallsS at hf
    rw [if_pos ht] at hf
    obtain ⟨⟨x, t⟩, hx, hf⟩ := List.mem_filterMap.1 hf
    have hl : lookAt z person x now = some t := mem_alook (lookM_keys _) hx
    refine List.mem_filterMap.2 ⟨x, ?_, by unfold fallR; rw [hl]; exact hf⟩
    rw [look_def, Option.map_eq_some_iff] at hl
    obtain ⟨e, he, _⟩ := hl
    have hme := List.mem_filter.1 (List.mem_of_getLast? he)
    have hq := hme.2
    unfold lookF at hq
    simp at hq
    refine (hT.2 x).2 ⟨?_, e, hme.1, hq.1.1.1, hq.1.1.2⟩
    rintro rfl
    have hk := kind_cases (may_iff.1 (hm e hme.1)).kind
    have hn : isName e.item = true := by
      rcases hk with h | h | h | h | h | h
      · exact h.2.2.1
      · exact h.2.2.1
      all_goals omega
    rw [hq.1.1.2] at hn
    exact absurd hn (by decide)
theorem ltFa_total {a b : Fa} (h : ltFa a b = false) (k : ltFa b a = false) : a.item = b.item := by
  rw [ltFa_not] at h k
  have e : drop64 a = drop64 b := by have := h.1; have := k.1; omega
  exact bLt_tri (h.2 e) (k.2 e.symm)
theorem item_inj {l : List Fa} (h : l.Pairwise (fun a b => a.item ≠ b.item)) {x y : Fa} (hx : x ∈ l) (hy : y ∈ l) (e : x.item = y.item) : x = y := by
  induction l with
  | nil => simp at hx
  | cons a l ih =>
    rw [List.pairwise_cons] at h
    rcases List.mem_cons.1 hx with h1 | h1 <;> rcases List.mem_cons.1 hy with h2 | h2
    · rw [h1, h2]
    · rw [h1] at e; exact absurd e (h.1 y h2)
    · rw [h2] at e; exact absurd e.symm (h.1 x h1)
    · exact ih h.2 h1 h2
theorem falls_unique {S F G : List Fa} (hS : S.Pairwise (fun a b => a.item ≠ b.item)) (hF : F.Perm S) (hG : G.Perm S) (hs : Srt ltFa F) (hs' : Srt ltFa G) : F = G :=
  srt_unique (hF.trans hG.symm) hs hs' fun x hx y hy h1 h2 => item_inj hS (hF.mem_iff.1 hx) (hF.mem_iff.1 hy) (ltFa_total h1 h2)
end Go.Proofs.YtbfjlpoeglcmfaaGreatDoor
