
/- Plain bounds on texts. -/
import Derived.Test.YtbfjlpoeglcmfaaDoorEw3
set_option linter.unusedVariables false
set_option linter.unusedSimpArgs false
namespace Go.Proofs.YtbfjlpoeglcmfaaDoor
open Go.Se Go.RowKit

theorem parts_sum (c : UInt8) : ∀ l : List UInt8, ((partsOf c l).map (fun p => p.length + 1)).sum = l.length + 1
  | [] => by simp [partsOf]
  | x :: r => by
    have ih := parts_sum c r
    unfold partsOf
    by_cases hx : x = c
    · rw [if_pos hx]; simp at ih ⊢; omega
    · rw [if_neg hx]
      cases hp : partsOf c r with
      | nil => exact absurd hp (parts_ne c r)
      | cons q t => rw [hp] at ih; simp at ih ⊢; omega
theorem sum_le {α : Type} (f : α → Nat) (n : Nat) : ∀ l : List α, (∀ x ∈ l, f x ≤ n) → (l.map f).sum ≤ l.length * n
  | [], _ => by simp
  | a :: l, h => by
    have h1 := h a (by simp)
    have h2 := sum_le f n l fun x hx => h x (by simp [hx])
    simp [Nat.add_mul]; omega
theorem name_le {s : ByteArray} (h : isName s = true) : s.size ≤ 24 := (name_size h).2
theorem tagOk_name {l : List ByteArray} (h : tagsOk l = true) : ∀ x ∈ l, isName x = true := by
  intro x hx
  obtain ⟨i, hi, rfl⟩ := List.getElem_of_mem hx
  unfold tagsOk at h
  rw [List.all_eq_true] at h
  have h1 := h i (List.mem_range.2 hi)
  unfold tagOk at h1
  rw [getD_lt hi] at h1
  simp at h1
  exact h1.1
theorem label_size {s : ByteArray} (h : labelB s = true) : s.size < 1000 := by
  unfold labelB at h
  simp only [Bool.and_eq_true, decide_eq_true_eq] at h
  obtain ⟨⟨h1, h2⟩, h3, h4⟩ := h
  obtain ⟨i, hi⟩ := Option.isSome_iff_exists.1 h1
  have hlt := placeN_lt hi
  have hm := name_le h2
  unfold makerOf at hm
  rw [hi] at hm
  simp at hm
  by_cases hz : i + 1 = s.size
  · omega
  · rw [tagsOf_some hi hz] at h3 h4
    have hs := parts_sum 44 (s.extract (i + 1) s.size).data.toList
    have hb := sum_le (fun p : List UInt8 => p.length + 1) 25 (partsOf 44 (s.extract (i + 1) s.size).data.toList) fun p hp => by
      have := name_le (tagOk_name h3 (bytesOf p) (List.mem_map.2 ⟨p, hp, rfl⟩))
      have e : (bytesOf p).size = p.length := by simp [bytesOf, ByteArray.size]
      omega
    unfold partsB at h4
    rw [List.length_map] at h4
    have he : (s.extract (i + 1) s.size).data.toList.length = s.size - (i + 1) := by simp
    rw [he] at hs
    have : (partsOf 44 (s.extract (i + 1) s.size).data.toList).length * 25 ≤ 8 * 25 := Nat.mul_le_mul_right _ h4
    omega
theorem may_text {e : Ev} (h : mayB e = true) : e.text.size < 1000 := by
  have hk := kind_cases (may_iff.1 h).kind
  have h0 : (⟨#[]⟩ : ByteArray).size = 0 := rfl
  rcases hk with ⟨_, _, _, h, _⟩ | ⟨_, _, _, h, _⟩ | ⟨_, _, _, h, _⟩ | ⟨_, _, _, h, _⟩ | ⟨_, _, _, h, _⟩ | ⟨_, _, _, h, _⟩ | ⟨_, _, _, h, _⟩
  · rw [h, h0]; omega
  · rw [h, h0]; omega
  · have := name_le h; omega
  · exact label_size h
  · rw [h, h0]; omega
  · rw [h, h0]; omega
  · rw [h, h0]; omega
theorem may_kind {e : Ev} (h : mayB e = true) : 0 ≤ e.kind ∧ e.kind ≤ 14 := by
  have hk := kind_cases (may_iff.1 h).kind
  omega
theorem worth_le {e : Ev} (h : mayB e = true) : 0 ≤ worthE e ∧ worthE e ≤ 5 := by
  have hk := kind_cases (may_iff.1 h).kind
  unfold worthE
  repeat' split
  all_goals omega
theorem worth_names {e : Ev} (h : mayB e = true) (hw : 0 < worthE e) : isName e.person = true ∧ isName e.item = true := by
  have hk := kind_cases (may_iff.1 h).kind
  have : e.kind = 1 ∨ e.kind = 2 ∨ e.kind = 3 ∨ e.kind = 4 := by
    unfold worthE at hw
    by_cases h1 : e.kind = 1
    · omega
    by_cases h2 : e.kind = 2
    · omega
    by_cases h3 : e.kind = 3
    · omega
    by_cases h4 : e.kind = 4
    · omega
    rw [if_neg h1, if_neg h2, if_neg h3, if_neg h4] at hw; omega
  rcases hk with hk | hk | hk | hk | hk | hk | hk
  · exact ⟨hk.2.1, hk.2.2.1⟩
  · exact ⟨hk.2.1, hk.2.2.1⟩
  all_goals exfalso; omega
theorem rest_size (s : ByteArray) : (restOf s).size ≤ s.size := by
  unfold restOf
  split
  · rw [ByteArray.size_extract]; omega
  · exact Nat.zero_le _
end Go.Proofs.YtbfjlpoeglcmfaaDoor
