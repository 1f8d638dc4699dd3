import Derived.Test.YtbfjlpoeglcmfaaGreatDoorHPr12

/- The law PriceOthers. -/
set_option linter.unusedVariables false
set_option linter.unusedSimpArgs false
namespace Go.Proofs.YtbfjlpoeglcmfaaGreatDoor
open Go.Se Go.RowKit

def newS : ByteArray := ⟨#[110, 101, 119]⟩
theorem left_mem {l : List Ev} (hm : ∀ e ∈ l, mayB e = true) {x : Ev} : x ∈ anewL l ↔ (x ∈ l ∧ ∀ y ∈ l, idE y = idE x → betterB y x = false) ∧ keepB (onceL l) x = true := by
  rw [(anew_perm l).mem_iff]
  unfold leftL
  rw [List.mem_filter, (once_is hm).mem]
theorem name_ne {s : ByteArray} (h : isName s = true) : s ≠ ⟨#[]⟩ := by
  rintro rfl
  exact absurd h (by decide)
theorem others_filter {l more : List Ev} (hm : ∀ e ∈ l, mayB e = true) {person : ByteArray} (hy : ∀ e ∈ anewL l ++ more, mayB e = true)
    (h1 : ∀ e ∈ more, e.person ≠ person ∧ e.person ≠ ⟨#[]⟩ ∧ e.src = newS) (h2 : ∀ e ∈ anewL l, e.src ≠ newS) {q : Ev → Bool}
    (hq : ∀ e, mayB e = true → q e = true → e.kind ≠ 14 ∧ (e.person = ⟨#[]⟩ ∨ e.person = person)) :
    (anewL (anewL l ++ more)).filter q = (anewL l).filter q := by
  have hz : ∀ x ∈ anewL l, mayB x = true := fun x hx => hm x (anew_mem hx)
  refine sorted_ids (perm_of_subs (ids_nodup (ids_filter (anew_ids hy) q)) (ids_nodup (ids_filter (anew_ids hm) q)) (fun x hx => ?_) (fun x hx => ?_)) (ids_filter (anew_ids hy) q) (srt_filter (anew_srt _) q) (srt_filter (anew_srt _) q)
  · obtain ⟨hx1, hx2⟩ := List.mem_filter.1 hx
    refine List.mem_filter.2 ⟨?_, hx2⟩
    have hxy := anew_mem hx1
    rcases List.mem_append.1 hxy with h | h
    · exact h
    · have h3 := h1 x h
      rcases (hq x (hy x hxy) hx2).2 with h4 | h4
      · exact absurd h4 h3.2.1
      · exact absurd h4 h3.1
  · obtain ⟨hx1, hx2⟩ := List.mem_filter.1 hx
    refine List.mem_filter.2 ⟨?_, hx2⟩
    obtain ⟨hk14, hper⟩ := hq x (hz x hx1) hx2
    rw [left_mem hy]
    refine ⟨⟨List.mem_append.2 (.inl hx1), fun y hyy he => ?_⟩, ?_⟩
    · rcases List.mem_append.1 hyy with h | h
      · rw [ids_eq (anew_ids hm) h hx1 he]; exact better_irrefl x
      · exfalso
        have h3 := (h1 y h).2.2
        have h4 : y.src = x.src := by unfold idE at he; exact (Prod.mk.inj he).1
        exact h2 x hx1 (by rw [← h4]; exact h3)
    · have hx3 := (left_mem hm).1 hx1
      have hkeep := hx3.2
      unfold keepB at hkeep ⊢
      rw [decide_eq_false hk14, Bool.or_false] at hkeep ⊢
      rw [Bool.not_eq_true'] at hkeep ⊢
      rw [← Bool.not_eq_true]
      intro hg
      unfold goneB at hg
      rw [List.any_eq_true] at hg
      obtain ⟨u, hu, hu2⟩ := hg
      simp only [Bool.and_eq_true, decide_eq_true_eq] at hu2
      have huy := once_mem hu
      have hun : u.person ≠ ⟨#[]⟩ := by
        have hk := kind_cases (may_iff.1 (hy u huy)).kind
        have : isName u.person = true := by
          have h14 := hu2.1
          rcases hk with h | h | h | h | h | h
          · exact h.2.1
          · exact h.2.1
          · exact h.2.1
          · omega
          · omega
          · rcases h with h | h
            · omega
            · exact h.2.1
        exact name_ne this
      rcases List.mem_append.1 huy with h | h
      · have hul : u ∈ onceL l := (left_sub _).subset ((anew_perm l).mem_iff.1 h)
        have : goneB (onceL l) x.person = true := by
          unfold goneB
          rw [List.any_eq_true]
          exact ⟨u, hul, by simp [hu2.1, hu2.2]⟩
        rw [hkeep] at this; cases this
      · have h3 := h1 u h
        rcases hper with h4 | h4
        · exact hun (hu2.2.trans h4)
        · exact h3.1 (hu2.2.trans h4)
def lkQ (person : ByteArray) (now : Int) (e : Ev) : Bool := peB e && decide (e.person = person) && lookQ now e
theorem looks_filter (z : List Ev) (person : ByteArray) (now : Int) : looksM z person now = lookM (z.filter (lkQ person now)) := by
  unfold looksM histE hist peopleE
  rw [List.filter_filter, List.filter_filter]
  congr 1
  apply List.filter_congr
  intro e _
  unfold lkQ
  cases peB e <;> cases decide (e.person = person) <;> cases lookQ now e <;> rfl
theorem price_cong {z z' : List Ev} (h : z.filter thB = z'.filter thB) (item : ByteArray) (t : Int) : priceAt z item t = priceAt z' item t := by
  unfold priceAt itemIs itemAt thingsE
  rw [h]
theorem falls_cong {z z' : List Ev} {person : ByteArray} {now : Int} (h : z.filter thB = z'.filter thB) (h2 : z.filter (lkQ person now) = z'.filter (lkQ person now)) : fallsS z person now = fallsS z' person now := by
  unfold fallsS
  rw [looks_filter, looks_filter, h2]
  have : fallOf z now = fallOf z' now := by
    funext x
    unfold fallOf
    rw [price_cong h, price_cong h]
  rw [this]
theorem falls_others {l more : List Ev} (hm : ∀ e ∈ l, mayB e = true) {person : ByteArray} (now : Int) (hy : ∀ e ∈ anewL l ++ more, mayB e = true)
    (h1 : ∀ e ∈ more, e.person ≠ person ∧ e.person ≠ ⟨#[]⟩ ∧ e.src = newS) (h2 : ∀ e ∈ anewL l, e.src ≠ newS) : fallsS (anewL (anewL l ++ more)) person now = fallsS (anewL l) person now := by
  refine falls_cong (others_filter hm hy h1 h2 fun e he hq => ?_) (others_filter hm hy h1 h2 fun e he hq => ?_)
  · unfold thB at hq
    have hq : e.kind = 11 ∨ e.kind = 12 ∨ e.kind = 13 := by simpa using hq
    have hk := kind_cases (may_iff.1 he).kind
    refine ⟨by omega, .inl ?_⟩
    rcases hk with h | h | h | h | h | h
    · omega
    · omega
    · omega
    · exact h.2.1
    · exact h.2.1
    · rcases h with h | h
      · exact h.2.1
      · omega
  · unfold lkQ lookQ at hq
    simp only [Bool.and_eq_true, Bool.or_eq_true, decide_eq_true_eq] at hq
    exact ⟨by omega, .inr hq.1.2⟩
end Go.Proofs.YtbfjlpoeglcmfaaGreatDoor
