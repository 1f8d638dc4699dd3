import Derived.Test.YtbfjlpoeglcmfaaGreatDoorHBu9

/- The law BudgetKeeps: the plain law. -/
set_option linter.unusedVariables false
set_option linter.unusedSimpArgs false
namespace Go.Proofs.YtbfjlpoeglcmfaaGreatDoor
open Go.Se Go.RowKit

theorem cnt_app (a b : List ByteArray) (x : ByteArray) : cntB (a ++ b) x = cntB a x + cntB b x := by
  unfold cntB
  rw [List.filter_append, List.length_append]
  omega
theorem cnt_perm {a b : List ByteArray} (h : a.Perm b) (x : ByteArray) : cntB a x = cntB b x := by
  unfold cntB
  rw [(h.filter _).length_eq]
/-- What holds of all that passed. -/
structure Kept1 (b : Bd) (z : List Ev) (now : Int) (l0 : List ByteArray) (st : List ByteArray × List ByteArray) : Prop where
  eq : st.1 = l0 ++ st.2
  all : ∀ x ∈ st.2, cntB st.1 x ≤ b.item ∧ cntB l0 x < b.item ∧ (mkAt z now x ≠ ⟨#[]⟩ → cntB (st.1.map (mkAt z now)) (mkAt z now x) ≤ b.maker)
  len : (st.1.length : Int) ≤ b.all
theorem pass_kept (b : Bd) (z : List Ev) (now : Int) (l0 items : List ByteArray) (hl : (l0.length : Int) ≤ b.all) : Kept1 b z now l0 (passS b z now l0 items) := by
  induction items using snoc_ind with
  | h0 => exact ⟨by simp [passS], by simp [passS], by simpa [passS] using hl⟩
  | h1 xs x ih =>
    rw [passS_snoc]
    unfold passStep
    by_cases hq : 0 < leftN b z now (passS b z now l0 xs).1 x
    · rw [if_pos hq]
      generalize passS b z now l0 xs = st at ih hq
      have hm := left_min3 b z now st.1 x
      have hm3 : 0 < min3 b z now st.1 x := by omega
      have h1 : 0 < b.item - cntB st.1 x := by unfold min3 at hm3; split at hm3 <;> omega
      have h2 : 0 < b.all - st.1.length := by unfold min3 at hm3; split at hm3 <;> omega
      have h3 : mkAt z now x ≠ ⟨#[]⟩ → 0 < b.maker - cntB (st.1.map (mkAt z now)) (mkAt z now x) := fun h => by
        unfold min3 at hm3
        rw [if_neg h] at hm3
        omega
      refine ⟨by simp [ih.eq], fun y hy => ?_, by simp; omega⟩
      simp only at hy ⊢
      rw [List.map_append, List.map_cons, List.map_nil, cnt_snoc, cnt_snoc]
      rcases List.mem_append.1 hy with hy | hy
      · obtain ⟨g1, g2, g3⟩ := ih.all y hy
        refine ⟨?_, g2, fun h => ?_⟩
        · by_cases e : y = x
          · subst e; rw [if_pos rfl]; omega
          · rw [if_neg e]; omega
        · by_cases e : mkAt z now y = mkAt z now x
          · rw [if_pos e, e]
            have := h3 (by rw [← e]; exact h)
            omega
          · rw [if_neg e]
            have := g3 h
            omega
      · rw [List.mem_singleton.1 hy, if_pos rfl, if_pos rfl]
        refine ⟨by omega, ?_, fun h => by have := h3 h; omega⟩
        have h4 := cnt_app l0 st.2 x
        rw [← ih.eq] at h4
        have h5 := cnt_le st.2 x
        omega
    · rw [if_neg hq]; exact ih

def zzB : ByteArray := ⟨#[122, 122]⟩
/-- What is shown anew. -/
def newE (person : ByteArray) (now : Int) (pass : List ByteArray) (i : Nat) : Ev := ⟨zzB, ((i + 1 : Nat) : Int), now, 0, person, pass.getD i .empty, 0, ⟨#[]⟩⟩
def newL (person : ByteArray) (now : Int) (pass : List ByteArray) (n : Nat) : List Ev := (List.range n).map (newE person now pass)
theorem newL_succ (person : ByteArray) (now : Int) (pass : List ByteArray) (n : Nat) : newL person now pass (n + 1) = newL person now pass n ++ [newE person now pass n] := by
  unfold newL
  rw [List.range_succ, List.map_append]; rfl
theorem newL_len (person : ByteArray) (now : Int) (pass : List ByteArray) (n : Nat) : (newL person now pass n).length = n := by simp [newL]
theorem newL_item (person : ByteArray) (now : Int) (pass : List ByteArray) : (newL person now pass pass.length).map (·.item) = pass := by
  unfold newL
  rw [List.map_map]
  apply List.ext_getElem
  · simp
  · intro i h1 h2
    rw [List.getElem_map, List.getElem_range]
    exact getD_lt h2
theorem newL_mem {person : ByteArray} {now : Int} {pass : List ByteArray} {n : Nat} {e : Ev} (h : e ∈ newL person now pass n) : ∃ i, i < n ∧ e = newE person now pass i := by
  unfold newL at h
  obtain ⟨i, hi, rfl⟩ := List.mem_map.1 h
  exact ⟨i, by simpa using hi, rfl⟩
theorem once_new {l : List Ev} (hl : ∀ e ∈ l, e.src ≠ zzB) (person : ByteArray) (now : Int) (pass : List ByteArray) : ∀ n, onceL (l ++ newL person now pass n) = onceL l ++ newL person now pass n
  | 0 => by simp [newL]
  | n + 1 => by
    rw [newL_succ, ← List.append_assoc, once_app, once_new hl person now pass n]
    unfold onceStep
    have : (onceL l ++ newL person now pass n).findIdx? (sameId (newE person now pass n)) = none := by
      rw [List.findIdx?_eq_none_iff]
      intro x hx
      rw [← Bool.not_eq_true, sameId_iff]
      intro he
      unfold idE at he
      simp only [Prod.mk.injEq] at he
      rcases List.mem_append.1 hx with hx | hx
      · exact hl x (once_mem hx) he.1
      · obtain ⟨i, hi, rfl⟩ := newL_mem hx
        have := he.2
        simp only [newE] at this
        omega
    rw [this]
    simp
theorem left_new {l : List Ev} (hl : ∀ e ∈ l, e.src ≠ zzB) {person : ByteArray} (hf : ∀ e ∈ l, ¬ (e.kind = 14 ∧ e.person = person)) (now : Int) (pass : List ByteArray) (n : Nat) :
    leftL (onceL (l ++ newL person now pass n)) = leftL (onceL l) ++ newL person now pass n := by
  rw [once_new hl]
  have hg : ∀ p, goneB (onceL l ++ newL person now pass n) p = goneB (onceL l) p := gone_mem fun x hx => by
    rw [List.mem_append]
    refine ⟨fun h => ?_, fun h => .inl h⟩
    rcases h with h | h
    · exact h
    · obtain ⟨i, _, rfl⟩ := newL_mem h
      simp [newE] at hx
  have hk : keepB (onceL l ++ newL person now pass n) = keepB (onceL l) := by
    funext e
    unfold keepB
    rw [hg]
  unfold leftL
  rw [hk, List.filter_append]
  congr 1
  rw [List.filter_eq_self]
  intro e he
  obtain ⟨i, _, rfl⟩ := newL_mem he
  unfold keepB
  have : goneB (onceL l) person = false := by
    unfold goneB
    rw [List.any_eq_false]
    intro x hx h
    simp only [Bool.and_eq_true, decide_eq_true_eq] at h
    exact hf x (once_mem hx) h
  simp [newE, this]
theorem new_may {person : ByteArray} {now : Int} {pass : List ByteArray} {n : Nat} (hp : isName person = true) (ht : tickB now = true) (hn : n ≤ 100000) (hi : ∀ i, i < n → isName (pass.getD i .empty) = true) : ∀ e ∈ newL person now pass n, mayB e = true := by
  intro e he
  obtain ⟨i, h, rfl⟩ := newL_mem he
  rw [may_iff]
  have h0 := in_iff.1 ht
  refine ⟨show isName zzB = true by decide +kernel, ?_, h0, ?_⟩
  · simp only [newE]; omega
  · have hh := hi i h
    unfold kindB k6 newE
    simp only [hp, hh]
    rfl
section
variable {l : List Ev} {person : ByteArray} {now : Int} {pass : List ByteArray}
theorem anew_new (hl : ∀ e ∈ l, e.src ≠ zzB) (hf : ∀ e ∈ l, ¬ (e.kind = 14 ∧ e.person = person)) (n : Nat) : (anewL (l ++ newL person now pass n)).Perm (anewL l ++ newL person now pass n) := by
  refine (anew_perm _).trans ?_
  rw [left_new hl hf]
  exact (anew_perm l).symm.append_right _
theorem things_new (hm : ∀ e ∈ l ++ newL person now pass pass.length, mayB e = true) (hl : ∀ e ∈ l, e.src ≠ zzB) (hf : ∀ e ∈ l, ¬ (e.kind = 14 ∧ e.person = person)) : mkAt (anewL (l ++ newL person now pass pass.length)) now = mkAt (anewL l) now := by
  refine mk_things (anew_filter hm ?_) now
  rw [left_new hl hf, List.filter_append]
  have : (newL person now pass pass.length).filter thB = [] := by
    rw [List.filter_eq_nil_iff]
    intro e he
    obtain ⟨i, _, rfl⟩ := newL_mem he
    simp [thB, newE]
  rw [this, List.append_nil]
theorem shown_new (hl : ∀ e ∈ l, e.src ≠ zzB) (hf : ∀ e ∈ l, ¬ (e.kind = 14 ∧ e.person = person)) : (shownL (anewL (l ++ newL person now pass pass.length)) person now).Perm (shownL (anewL l) person now ++ pass) := by
  rw [shown_filter, shown_filter]
  have h1 := ((anew_new (now := now) (pass := pass) hl hf pass.length).filter (shQ person now)).map (·.item)
  rw [List.filter_append, List.map_append] at h1
  have : (newL person now pass pass.length).filter (shQ person now) = newL person now pass pass.length := by
    rw [List.filter_eq_self]
    intro e he
    obtain ⟨i, _, rfl⟩ := newL_mem he
    simp [shQ, peB, thB, seenQ, newE]
  rw [this, newL_item] at h1
  exact h1
end
end Go.Proofs.YtbfjlpoeglcmfaaGreatDoor
