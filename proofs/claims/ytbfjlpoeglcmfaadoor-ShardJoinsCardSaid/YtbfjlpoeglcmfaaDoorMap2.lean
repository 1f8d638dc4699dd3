
/- Ranging over a map: the next entry, and what it holds. -/
import Derived.Test.YtbfjlpoeglcmfaaDoorMap1
set_option linter.unusedVariables false
set_option linter.unusedSimpArgs false
namespace Go.Proofs.YtbfjlpoeglcmfaaDoor
open Go.Se Go.RowKit
open Go.ChangeMaps (setBlock)

section
variable {κ : Type} {enc : κ → Value} {P : Program} {w w' : World} {b : Nat} {L : List (κ × Value)}
theorem map_step {r : Nat} {vs : List (κ × Value)} {ty : TypeId} (hi : Iter w r b enc L vs) {R : Value → World → Prop}
    (hdone : vs.Perm L → R (.tuple #[.bool false]) w)
    (hstep : ∀ x w', x ∈ L → (∀ y ∈ vs, y.1 ≠ x.1) → vs.length < L.length → Iter w' r b enc L (vs ++ [x]) → Only w w' r → (∀ w2, w2.heap[r]? = w'.heap[r]? → w2.heap[b]? = w'.heap[b]? → (Instr.entry (.pointer (some ⟨r, 0, none⟩))).run P w2 = .ok (.tuple #[enc x.1, x.2]) w2) → R (.tuple #[.bool true, enc x.1, x.2]) w') :
    RunE P (Instr.next (.pointer (some ⟨r, 0, none⟩)) false ty) w R := by
  have hrb := hi.ne
  obtain ⟨E, c, V, si, c0, hE, rfl, hr, hold, hsc, hsk, rfl, hnd, hsub⟩ := hi
  have hold' : ∀ x ∈ (E.map (mkE enc)).toArray.toList, x.born < si := by
    intro x hx
    simp only [List.mem_map] at hx
    obtain ⟨y, hy, rfl⟩ := hx
    exact hold y hy
  have hstamp : ∀ x ∈ E, ∀ y ∈ E, x.2.2 = y.2.2 → x = y := by
    have : ∀ E : List (Ent κ), E.Pairwise (fun x y => x.2.2 < y.2.2) → ∀ x ∈ E, ∀ y ∈ E, x.2.2 = y.2.2 → x = y := by
      intro E
      induction E with
      | nil => intro _ x hx; simp at hx
      | cons z E ih =>
        intro hp x hx y hy he
        rw [List.pairwise_cons] at hp
        rcases List.mem_cons.1 hx with h1 | h1 <;> rcases List.mem_cons.1 hy with h2 | h2
        · rw [h1, h2]
        · subst h1; have := hp.1 _ h2; omega
        · subst h2; have := hp.1 _ h1; omega
        · exact ih hp.2 x h1 y h2 he
    exact this E hE.rising
  rcases run_next_at (P := P) w ty r b si c0 _ _ c hr hE.block hold' hsc with ⟨h0, hrun⟩ | ⟨e, he, w1, hw1, hrun⟩
  · refine ⟨_, _, hrun, hdone ?_⟩
    have hall : ∀ x ∈ E, x ∈ V := by
      intro x hx
      have hl : leftOf (E.map (mkE enc)).toArray (V.map fun x : Ent κ => x.2.2).toArray = #[] := Array.eq_empty_of_size_eq_zero h0
      unfold leftOf at hl
      rw [Array.filter_eq_empty_iff] at hl
      have := hl (mkE enc x) (by simp; exact ⟨_, _, _, hx, rfl⟩)
      simp [mkE] at this
      obtain ⟨a, a', hv⟩ := this
      have h1 := hsub _ hv
      have h2 := hstamp _ hx _ h1 rfl
      rw [h2]; exact hv
    have hp : V.Perm E := by
      have hEn : E.Nodup := by
        rw [List.nodup_iff_pairwise_ne]
        exact hE.rising.imp (fun h e => by subst e; omega)
      exact perm_of_subs hnd hEn hsub hall
    exact hp.map _
  · unfold leftOf at he
    simp only [Array.mem_toList_iff, Array.mem_filter, List.mem_toArray, List.mem_map] at he
    obtain ⟨⟨x, hx, rfl⟩, hns⟩ := he
    have hxV : x ∉ V := by
      intro hv
      simp [mkE] at hns
      exact hns x.1 x.2.1 hv
    have hr1 : w1.heap = w.heap := by rcases hw1 with rfl | rfl <;> rfl
    have hon : Only w (setBlock w1 r (.mapIter (some b) si ((V.map fun x : Ent κ => x.2.2).toArray.push (mkE enc x).born) c)) r := by
      rcases hw1 with rfl | rfl
      · exact only_setBlock _ _ _
      · have h2 := only_setBlock w.drew r (.mapIter (some b) si ((V.map fun x : Ent κ => x.2.2).toArray.push (mkE enc x).born) c)
        exact ⟨h2.os, h2.tape, h2.output, h2.size, h2.block⟩
    refine ⟨_, _, hrun, hstep (x.1, x.2.1) _ ?_ ?_ ?_ ?_ hon ?_⟩
    · exact List.mem_map.2 ⟨x, hx, rfl⟩
    · intro y hy he
      obtain ⟨z, hz, rfl⟩ := List.mem_map.1 hy
      have := strip_mem_keys hE.keys (hsub z hz) hx he
      exact hxV (this ▸ hz)
    · have : (x :: V).length ≤ E.length := sub_perm (List.nodup_cons.2 ⟨hxV, hnd⟩) (fun y hy => by
        rcases List.mem_cons.1 hy with rfl | hy
        · exact hx
        · exact hsub y hy)
      simp [strip] at this ⊢
      omega
    · refine ⟨E, c, V ++ [x], si, c, ⟨(hon.block b (Ne.symm hrb)).trans hE.block, hE.rising, hE.below, hE.keys⟩, rfl, ?_, hold, hsk, hsk, by simp [strip], ?_, ?_⟩
      · rw [set_block_at (o := .mapIter (some b) si (V.map fun x : Ent κ => x.2.2).toArray c0) (by rw [hr1]; exact hr)]
        simp [mkE]
      · rw [List.nodup_append]
        exact ⟨hnd, by simp, fun a ha y hy => by simp at hy; subst hy; rintro rfl; exact hxV ha⟩
      · intro y hy
        rcases List.mem_append.1 hy with hy | hy
        · exact hsub y hy
        · simp at hy; subst hy; exact hx
    · intro w2 h1 h2
      have hrr : w2.heap[r]? = some (.mapIter (some b) si ((V.map fun x : Ent κ => x.2.2).toArray.push (mkE enc x).born) c) := by
        rw [h1, set_block_at (o := .mapIter (some b) si (V.map fun x : Ent κ => x.2.2).toArray c0) (by rw [hr1]; exact hr)]
      have hbb : w2.heap[b]? = some (.map (E.map (mkE enc)).toArray c) := by rw [h2, (hon.block b (Ne.symm hrb))]; exact hE.block
      refine run_entry_at w2 r b si _ _ c (mkE enc x) hrr hbb (by simp; exact ⟨_, _, _, hx, rfl⟩) ?_
      simp only [List.map_map]
      rw [List.nodup_iff_pairwise_ne, List.pairwise_map]
      exact hE.rising.imp (fun h e => by simp [mkE] at e; omega)
/-- The round's key and value. -/
theorem map_entryRun {r : Nat} {R : Value → World → Prop} {x : Value} (h : (Instr.entry (.pointer (some ⟨r, 0, none⟩))).run P w = .ok x w) (hR : R x w) : RunE P (Instr.entry (.pointer (some ⟨r, 0, none⟩))) w R := ⟨_, _, h, hR⟩
end
end Go.Proofs.YtbfjlpoeglcmfaaDoor
