
/- Sorted lists, with no program in sight. -/
import Derived.Test.YtbfjlpoeglcmfaaDoorLib4
set_option linter.unusedVariables false
set_option linter.unusedSimpArgs false
namespace Go.Proofs.YtbfjlpoeglcmfaaDoor
section
variable {α : Type} {lt : α → α → Bool}
/-- 'lt' is a strict weak order. -/
structure Swo (lt : α → α → Bool) : Prop where
  asymm : ∀ x y, lt x y = true → lt y x = false
  trans : ∀ x y z, lt y x = false → lt z y = false → lt z x = false
def Srt (lt : α → α → Bool) (l : List α) : Prop := l.Pairwise (fun x y => lt y x = false)
theorem Swo.irrefl (h : Swo lt) (x : α) : lt x x = false := by
  cases hx : lt x x with
  | false => rfl
  | true => rw [h.asymm x x hx] at hx; cases hx
theorem Srt.nil : Srt lt ([] : List α) := List.Pairwise.nil
theorem Srt.one (x : α) : Srt lt [x] := by simp [Srt]
theorem Srt.append {x y : List α} (hx : Srt lt x) (hy : Srt lt y) (h : ∀ u ∈ x, ∀ v ∈ y, lt v u = false) : Srt lt (x ++ y) := List.pairwise_append.2 ⟨hx, hy, h⟩
theorem Srt.left {x y : List α} (h : Srt lt (x ++ y)) : Srt lt x := (List.pairwise_append.1 h).1
theorem Srt.right {x y : List α} (h : Srt lt (x ++ y)) : Srt lt y := (List.pairwise_append.1 h).2.1
theorem Srt.across {x y : List α} (h : Srt lt (x ++ y)) : ∀ u ∈ x, ∀ v ∈ y, lt v u = false := (List.pairwise_append.1 h).2.2
/-- What is ahead of the last, and behind the first. -/
theorem le_ends (O : Swo lt) {x y : List α} (hx : Srt lt x) (hy : Srt lt y) (h : ∀ u v, x.getLast? = some u → y.head? = some v → lt v u = false) : ∀ u ∈ x, ∀ v ∈ y, lt v u = false := by
  intro u hu v hv
  obtain ⟨x', l, rfl⟩ : ∃ x' l, x = x' ++ [l] := by
    rcases List.eq_nil_or_concat x with rfl | ⟨x', l, hh⟩
    · simp at hu
    · exact ⟨x', l, by simpa using hh⟩
  cases y with
  | nil => simp at hv
  | cons f y' =>
    have h1 : lt f l = false := h l f (by simp) (by simp)
    have h2 : lt l u = false := by
      rcases List.mem_append.1 hu with hu | hu
      · exact hx.across u hu l (by simp)
      · simp at hu; subst hu; exact O.irrefl _
    have h3 : lt v f = false := by
      rcases List.mem_cons.1 hv with rfl | hv
      · exact O.irrefl _
      · exact (List.pairwise_cons.1 hy).1 v hv
    exact O.trans u l v h2 (O.trans l f v h1 h3)
theorem srt_merge (O : Swo lt) {x1 x2 y1 y2 z1 z2 : List α} (hx : Srt lt (x1 ++ x2)) (hy : Srt lt (y1 ++ y2))
    (h1 : ∀ u v, x1.getLast? = some u → y2.head? = some v → lt v u = false) (h2 : ∀ u v, y1.getLast? = some u → x2.head? = some v → lt v u = false)
    (p1 : z1.Perm (x1 ++ y1)) (p2 : z2.Perm (x2 ++ y2)) (s1 : Srt lt z1) (s2 : Srt lt z2) : Srt lt (z1 ++ z2) ∧ (z1 ++ z2).Perm ((x1 ++ x2) ++ (y1 ++ y2)) := by
  constructor
  · refine s1.append s2 fun u hu v hv => ?_
    have hu := p1.mem_iff.1 hu
    have hv := p2.mem_iff.1 hv
    rcases List.mem_append.1 hu with hu | hu <;> rcases List.mem_append.1 hv with hv | hv
    · exact hx.across u hu v hv
    · exact le_ends O hx.left hy.right h1 u hu v hv
    · exact le_ends O hy.left hx.right h2 u hu v hv
    · exact hy.across u hu v hv
  · refine (p1.append p2).trans ?_
    rw [List.append_assoc, List.append_assoc]
    refine List.Perm.append_left x1 ?_
    rw [← List.append_assoc, ← List.append_assoc]
    exact List.Perm.append_right y2 List.perm_append_comm
/-- A list that is sorted by a total order is the only one. -/
theorem srt_unique {l l' : List α} (hp : l.Perm l') (hs : Srt lt l) (hs' : Srt lt l') (ht : ∀ x ∈ l, ∀ y ∈ l, lt x y = false → lt y x = false → x = y) : l = l' :=
  List.Perm.eq_of_pairwise (fun x y hx hy h1 h2 => ht x hx y (hp.mem_iff.2 hy) h2 h1) hs hs' hp
end
end Go.Proofs.YtbfjlpoeglcmfaaDoor
