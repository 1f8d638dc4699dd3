
/- Maps of the heap: look up, update, entry and store, range and next. -/
import Derived.Test.YtbfjlpoeglcmfaaDoorLib4
import Derived.Maps.RangeRun
import Derived.WideKeyRuns
set_option linter.unusedVariables false
set_option linter.unusedSimpArgs false
namespace Go.Proofs.YtbfjlpoeglcmfaaDoor
open Go.Se Go.RowKit
open Go.ChangeMaps (setBlock)
open Go.MapKept (run_checkKey run_findKey IsKey bytes_beq)
theorem run_gobj {P : Program} {w : World} {r : Nat} {es : Array MapEntry} {clock : Nat} (hb : w.heap[r]? = some (.map es clock)) : (getObj r).run P w = .ok (.map es clock) w := Go.MapKept.run_getObj_map hb
theorem run_sobj {P : Program} {w : World} {r : Nat} {es : Array MapEntry} {clock : Nat} (o : Obj) (hb : w.heap[r]? = some (.map es clock)) : (setObj r o).run P w = .ok () { w with heap := w.heap.setIfInBounds r o } := Go.MapKept.run_setObj_map o hb

theorem only_setBlock (w : World) (b : Nat) (o : Obj) : Only w (setBlock w b o) b :=
  ⟨rfl, rfl, rfl, by simp [setBlock], fun i hi => by simp [setBlock, Ne.symm hi]⟩

section
variable {κ : Type} [DecidableEq κ] {β : Type}
def alook : List (κ × β) → κ → Option β
  | [], _ => none
  | x :: l, k => if k = x.1 then some x.2 else alook l k
def aset : List (κ × β) → κ → β → List (κ × β)
  | [], k, v => [(k, v)]
  | x :: l, k, v => if k = x.1 then (x.1, v) :: l else x :: aset l k v
theorem alook_aset (k k' : κ) (v : β) : ∀ l : List (κ × β), alook (aset l k v) k' = if k' = k then some v else alook l k'
  | [] => by simp [aset, alook]
  | x :: l => by
    simp only [aset]
    by_cases h : k = x.1
    · subst h
      simp only [if_true, alook]
      split <;> rfl
    · simp only [if_neg h, alook, alook_aset k k' v l]
      by_cases h2 : k' = x.1
      · subst h2; simp [Ne.symm h]
      · simp [h2]
theorem alook_aset_self (k : κ) (v : β) (l : List (κ × β)) : alook (aset l k v) k = some v := by rw [alook_aset, if_pos rfl]
theorem aset_aset (k : κ) (v v' : β) : ∀ l : List (κ × β), aset (aset l k v) k v' = aset l k v'
  | [] => by simp [aset]
  | x :: l => by
    simp only [aset]
    by_cases h : k = x.1
    · simp [h, aset]
    · simp [h, aset, aset_aset k v v' l]
theorem alook_none {k : κ} : ∀ {l : List (κ × β)}, alook l k = none ↔ ∀ x ∈ l, x.1 ≠ k
  | [] => by simp [alook]
  | x :: l => by
    simp only [alook]
    by_cases h : k = x.1
    · simp [h]
    · simp only [if_neg h, alook_none (l := l), List.mem_cons, forall_eq_or_imp]
      exact ⟨fun hh => ⟨fun e => h e.symm, hh⟩, fun hh => hh.2⟩
theorem alook_mem {k : κ} {v : β} : ∀ {l : List (κ × β)}, alook l k = some v → (k, v) ∈ l
  | [], h => by simp [alook] at h
  | x :: l, h => by
    simp only [alook] at h
    by_cases e : k = x.1
    · rw [if_pos e] at h
      obtain rfl : x.2 = v := by simpa using h
      rw [e]; simp
    · rw [if_neg e] at h; exact List.mem_cons_of_mem _ (alook_mem h)
theorem mem_alook {k : κ} {v : β} : ∀ {l : List (κ × β)}, l.Pairwise (fun x y => x.1 ≠ y.1) → (k, v) ∈ l → alook l k = some v
  | [], _, h => by simp at h
  | x :: l, hp, h => by
    rw [List.pairwise_cons] at hp
    simp only [alook]
    rcases List.mem_cons.1 h with rfl | h
    · simp
    · rw [if_neg (fun e => hp.1 _ h e.symm)]; exact mem_alook hp.2 h
theorem aset_mem {k : κ} {v : β} {y : κ × β} : ∀ {l : List (κ × β)}, y ∈ aset l k v → y = (k, v) ∨ (y ∈ l)
  | [], h => by simpa [aset] using h
  | x :: l, h => by
    simp only [aset] at h
    by_cases e : k = x.1
    · rw [if_pos e] at h
      rcases List.mem_cons.1 h with rfl | h
      · exact .inl (by rw [e])
      · exact .inr (by simp [h])
    · rw [if_neg e] at h
      rcases List.mem_cons.1 h with rfl | h
      · exact .inr (by simp)
      · rcases aset_mem h with h | h
        · exact .inl h
        · exact .inr (by simp [h])
theorem aset_keys (k : κ) (v : β) : ∀ l : List (κ × β), (aset l k v).map (·.1) = if k ∈ l.map (·.1) then l.map (·.1) else l.map (·.1) ++ [k]
  | [] => by simp [aset]
  | x :: l => by
    simp only [aset]
    by_cases e : k = x.1
    · simp [e]
    · rw [if_neg e, List.map_cons, aset_keys k v l]
      by_cases h : k ∈ l.map (·.1)
      · simp only [if_pos h, List.map_cons, List.mem_cons]; rw [if_pos (.inr h)]
      · simp only [if_neg h, List.map_cons, List.mem_cons]; rw [if_neg (by rintro (h1 | h1); exact e h1; exact h h1)]; rfl
theorem aset_pairwise {k : κ} {v : β} {l : List (κ × β)} (hp : l.Pairwise (fun x y => x.1 ≠ y.1)) : (aset l k v).Pairwise (fun x y => x.1 ≠ y.1) := by
  have h1 : (l.map (·.1)).Nodup := by rw [List.nodup_iff_pairwise_ne, List.pairwise_map]; exact hp
  have : ((aset l k v).map (·.1)).Nodup := by
    rw [aset_keys]
    split
    · exact h1
    · rename_i h
      rw [List.nodup_append]
      exact ⟨h1, by simp, fun a ha b hb => by simp at hb; subst hb; intro e; exact h (e ▸ ha)⟩
  rw [List.nodup_iff_pairwise_ne, List.pairwise_map] at this
  exact this
end

/-- An entry: its key, its value, its stamp. -/
abbrev Ent (κ : Type) := κ × Value × Nat
section
variable {κ : Type} {enc : κ → Value} {P : Program} {mt kt et : TypeId} {w w' : World} {b : Nat} {L : List (κ × Value)} {E : List (Ent κ)} {clock : Nat}
def strip (E : List (Ent κ)) : List (κ × Value) := E.map fun x => (x.1, x.2.1)
def mkE (enc : κ → Value) (x : Ent κ) : MapEntry := ⟨enc x.1, x.2.1, x.2.2⟩
structure MapE (w : World) (b : Nat) (enc : κ → Value) (E : List (Ent κ)) (clock : Nat) : Prop where
  block : w.heap[b]? = some (.map (E.map (mkE enc)).toArray clock)
  rising : E.Pairwise (fun x y => x.2.2 < y.2.2)
  below : ∀ x ∈ E, x.2.2 < clock
  keys : E.Pairwise (fun x y => x.1 ≠ y.1)
/-- Block b is a map with the entries L. -/
def MapAt (w : World) (b : Nat) (enc : κ → Value) (L : List (κ × Value)) : Prop := ∃ E clock, MapE w b enc E clock ∧ strip E = L
theorem lt_of_block {w : World} {b : Nat} {o : Obj} (h : w.heap[b]? = some o) : b < w.heap.size := by
  rcases Nat.lt_or_ge b w.heap.size with hlt | hge
  · exact hlt
  · rw [Array.getElem?_eq_none hge] at h; cases h
theorem MapAt.lt (h : MapAt w b enc L) : b < w.heap.size := by
  obtain ⟨E, c, hE, _⟩ := h
  exact lt_of_block hE.block
theorem MapAt.keep (h : MapAt w b enc L) (hk : w'.heap[b]? = w.heap[b]?) : MapAt w' b enc L := by
  obtain ⟨E, c, hE, hs⟩ := h
  exact ⟨E, c, ⟨hk.trans hE.block, hE.rising, hE.below, hE.keys⟩, hs⟩
theorem MapAt.ext (h : MapAt w b enc L) (hx : Ext w w') : MapAt w' b enc L := h.keep (hx.block b h.lt)
theorem MapAt.only (h : MapAt w b enc L) {c : Nat} (hx : Only w w' c) (hc : b ≠ c) : MapAt w' b enc L := h.keep (hx.block b hc)
theorem MapAt.mod (h : MapAt w b enc L) {S : Nat → Prop} (hx : Mod S w w') (hc : ¬ S b) : MapAt w' b enc L := h.keep (hx.block b h.lt hc)
theorem MapAt.new {w1 : World} (h : New w w1 b (.map #[] 0)) : MapAt w1 b enc [] := ⟨[], 0, ⟨h.at_, by simp, by simp, by simp⟩, rfl⟩
theorem MapAt.keys (h : MapAt w b enc L) : L.Pairwise (fun x y => x.1 ≠ y.1) := by
  obtain ⟨E, c, hE, rfl⟩ := h
  unfold strip
  rw [List.pairwise_map]
  exact hE.keys

/-- What a class of worlds does to a block: nothing. -/
def Kept (cl : Cl) (w : World) (b : Nat) : Prop := ∀ w', cl.rel w w' → w'.heap[b]? = w.heap[b]?
theorem kept_same {w : World} {b : Nat} : Kept .same w b := fun w' h => by cases h; rfl
theorem kept_ext {w : World} {b : Nat} (h : b < w.heap.size) : Kept .ext w b := fun w' hx => (show Ext w w' from hx).block b h
theorem kept_mods {S : Nat → Prop} {w : World} {b : Nat} (h : b < w.heap.size) (hs : ¬ S b) : Kept (.mods S) w b := fun w' hx => (show Mod S w w' from hx).block b h hs
theorem set_block_at {w : World} {b : Nat} {o o' : Obj} (h : w.heap[b]? = some o) : (setBlock w b o').heap[b]? = some o' := by
  simp [setBlock, lt_of_block h]

/-- The entry of k, with its stamp. -/
def MapS (w : World) (b : Nat) (enc : κ → Value) (L : List (κ × Value)) (k : κ) (s : Nat) : Prop := ∃ E clock, MapE w b enc E clock ∧ strip E = L ∧ ∃ v, (k, v, s) ∈ E
theorem MapS.keep {k : κ} {s : Nat} (h : MapS w b enc L k s) (hk : w'.heap[b]? = w.heap[b]?) : MapS w' b enc L k s := by
  obtain ⟨E, c, hE, hs⟩ := h
  exact ⟨E, c, ⟨hk.trans hE.block, hE.rising, hE.below, hE.keys⟩, hs⟩
theorem MapS.at_ {k : κ} {s : Nat} (h : MapS w b enc L k s) : MapAt w b enc L := by
  obtain ⟨E, c, hE, hs, _⟩ := h
  exact ⟨E, c, hE, hs⟩
/-- An iterator over a map, that has told vs. -/
def Iter (w : World) (r b : Nat) (enc : κ → Value) (L vs : List (κ × Value)) : Prop :=
  ∃ E clock V since c0, MapE w b enc E clock ∧ strip E = L ∧ w.heap[r]? = some (.mapIter (some b) since (V.map fun x : Ent κ => x.2.2).toArray c0) ∧ (∀ x ∈ E, x.2.2 < since) ∧ since ≤ c0 ∧ since ≤ clock ∧ strip V = vs ∧ V.Nodup ∧ ∀ x ∈ V, x ∈ E
theorem Iter.map {r : Nat} {vs : List (κ × Value)} (h : Iter w r b enc L vs) : MapAt w b enc L := by
  obtain ⟨E, c, V, si, c0, hE, hs, _⟩ := h
  exact ⟨E, c, hE, hs⟩
theorem Iter.lt {r : Nat} {vs : List (κ × Value)} (h : Iter w r b enc L vs) : r < w.heap.size := by
  obtain ⟨E, c, V, si, c0, hE, hs, hr, _⟩ := h
  exact lt_of_block hr
theorem Iter.ne {r : Nat} {vs : List (κ × Value)} (h : Iter w r b enc L vs) : r ≠ b := by
  obtain ⟨E, c, V, si, c0, hE, hs, hr, _⟩ := h
  rintro rfl
  rw [hE.block] at hr
  simp at hr
theorem Iter.keep {r : Nat} {vs : List (κ × Value)} (h : Iter w r b enc L vs) (h1 : w'.heap[b]? = w.heap[b]?) (h2 : w'.heap[r]? = w.heap[r]?) : Iter w' r b enc L vs := by
  obtain ⟨E, c, V, si, c0, hE, hs, hr, hh⟩ := h
  exact ⟨E, c, V, si, c0, ⟨h1.trans hE.block, hE.rising, hE.below, hE.keys⟩, hs, h2.trans hr, hh⟩
theorem Iter.ext {r : Nat} {vs : List (κ × Value)} (h : Iter w r b enc L vs) (hx : Ext w w') : Iter w' r b enc L vs := h.keep (hx.block _ h.map.lt) (hx.block _ h.lt)
theorem sub_perm_ex {α : Type} : ∀ {V E : List α}, V.Nodup → (∀ x ∈ V, x ∈ E) → ∃ R, E.Perm (V ++ R)
  | [], E, _, _ => ⟨E, List.Perm.refl _⟩
  | x :: V, E, hn, hs => by
    obtain ⟨E1, E2, rfl⟩ := List.append_of_mem (hs x (by simp))
    rw [List.nodup_cons] at hn
    obtain ⟨R, hR⟩ := sub_perm_ex (E := E1 ++ E2) hn.2 (fun y hy => by
      have h1 := hs y (by simp [hy])
      have hne : y ≠ x := fun e => hn.1 (e ▸ hy)
      simp [hne] at h1 ⊢
      exact h1)
    exact ⟨R, List.perm_middle.trans (by simpa using hR.cons x)⟩
theorem sub_perm {α : Type} {V E : List α} (hn : V.Nodup) (hs : ∀ x ∈ V, x ∈ E) : V.length ≤ E.length := by
  obtain ⟨R, hR⟩ := sub_perm_ex hn hs
  have := hR.length_eq
  simp at this
  omega
theorem perm_of_subs {α : Type} {V E : List α} (hn : V.Nodup) (hE : E.Nodup) (hs : ∀ x ∈ V, x ∈ E) (hs' : ∀ x ∈ E, x ∈ V) : V.Perm E := by
  obtain ⟨R, hR⟩ := sub_perm_ex hn hs
  have h1 := hR.nodup_iff.1 hE
  have : R = [] := by
    rcases R with _ | ⟨y, R⟩
    · rfl
    · have hy := hs' y (hR.mem_iff.2 (by simp))
      exact absurd rfl ((List.nodup_append.1 h1).2.2 y hy y (by simp))
  subst this
  simpa using hR.symm
theorem strip_mem_keys {E : List (Ent κ)} (hp : E.Pairwise (fun x y => x.1 ≠ y.1)) {x y : Ent κ} (hx : x ∈ E) (hy : y ∈ E) (h : x.1 = y.1) : x = y := by
  induction E with
  | nil => simp at hx
  | cons z E ih =>
    rw [List.pairwise_cons] at hp
    rcases List.mem_cons.1 hx with h1 | h1 <;> rcases List.mem_cons.1 hy with h2 | h2
    · rw [h1, h2]
    · subst h1; exact absurd h (hp.1 _ h2)
    · subst h2; exact absurd h.symm (hp.1 _ h1)
    · exact ih hp.2 h1 h2
theorem map_range (ht : P.underlying mt = some (.map kt et)) (hm : MapAt w b enc L) {R : Value → World → Prop}
    (h : ∀ w', Iter w' w.heap.size b enc L [] → Ext w w' → R (.pointer (some ⟨w.heap.size, 0, none⟩)) w') : RunE P (Instr.range mt (.map (some b))) w R := by
  obtain ⟨E, c, hE, rfl⟩ := hm
  have hx : Ext w (w.alloc (.mapIter (some b) c #[] c)) := (Below.refl _ _).alloc (Nat.le_refl _) _
  refine ⟨_, w.alloc (.mapIter (some b) c #[] c), ?_, h _ ?_ hx⟩
  · simp [Instr.range, run_underlying ht, run_gobj hE.block]
  · refine ⟨E, c, [], c, c, ⟨(hx.block b (lt_of_block hE.block)).trans hE.block, hE.rising, hE.below, hE.keys⟩, rfl, heap_alloc_new w _, hE.below, Nat.le_refl _, Nat.le_refl _, rfl, by simp, by simp⟩
theorem map_next {r : Nat} {vs : List (κ × Value)} {ty : TypeId} (hi : Iter w r b enc L vs) {R : Value → World → Prop}
    (hdone : vs.Perm L → R (.tuple #[.bool false]) w)
    (hstep : ∀ x w', x ∈ L → (∀ y ∈ vs, y.1 ≠ x.1) → vs.length < L.length → Iter w' r b enc L (vs ++ [x]) → Only w w' r → R (.tuple #[.bool true, enc x.1, x.2]) w') :
    RunE P (Instr.next (.pointer (some ⟨r, 0, none⟩)) false ty) w R := by
  have hrb := hi.ne
  obtain ⟨E, c, V, si, c0, hE, rfl, hr, hold, hsc, hsk, rfl, hnd, hsub⟩ := hi
  have hold' : ∀ x ∈ (E.map (mkE enc)).toArray.toList, x.born < si := by
    intro x hx
    simp only [List.mem_map] at hx
    obtain ⟨y, hy, rfl⟩ := hx
    exact hold y hy
  have hstamp : ∀ x ∈ E, ∀ y ∈ E, x.2.2 = y.2.2 → x = y := by
    have : ∀ E : List (Ent κ), E.Pairwise (fun x y => x.2.2 < y.2.2) → ∀ x ∈ E, ∀ y ∈ E, x.2.2 = y.2.2 → x = y := by
      intro E
      induction E with
      | nil => intro _ x hx; simp at hx
      | cons z E ih =>
        intro hp x hx y hy he
        rw [List.pairwise_cons] at hp
        rcases List.mem_cons.1 hx with h1 | h1 <;> rcases List.mem_cons.1 hy with h2 | h2
        · rw [h1, h2]
        · subst h1; have := hp.1 _ h2; omega
        · subst h2; have := hp.1 _ h1; omega
        · exact ih hp.2 x h1 y h2 he
    exact this E hE.rising
  rcases run_next_at (P := P) w ty r b si c0 _ _ c hr hE.block hold' hsc with ⟨h0, hrun⟩ | ⟨e, he, w1, hw1, hrun⟩
  · refine ⟨_, _, hrun, hdone ?_⟩
    have hall : ∀ x ∈ E, x ∈ V := by
      intro x hx
      have hl : leftOf (E.map (mkE enc)).toArray (V.map fun x : Ent κ => x.2.2).toArray = #[] := Array.eq_empty_of_size_eq_zero h0
      unfold leftOf at hl
      rw [Array.filter_eq_empty_iff] at hl
      have := hl (mkE enc x) (by simp; exact ⟨_, _, _, hx, rfl⟩)
      simp [mkE] at this
      obtain ⟨a, a', hv⟩ := this
      have h1 := hsub _ hv
      have h2 := hstamp _ hx _ h1 rfl
      rw [h2]; exact hv
    have hp : V.Perm E := by
      have hEn : E.Nodup := by
        rw [List.nodup_iff_pairwise_ne]
        exact hE.rising.imp (fun h e => by subst e; omega)
      exact perm_of_subs hnd hEn hsub hall
    exact hp.map _
  · unfold leftOf at he
    simp only [Array.mem_toList_iff, Array.mem_filter, List.mem_toArray, List.mem_map] at he
    obtain ⟨⟨x, hx, rfl⟩, hns⟩ := he
    have hxV : x ∉ V := by
      intro hv
      simp [mkE] at hns
      exact hns x.1 x.2.1 hv
    have hr1 : w1.heap = w.heap := by rcases hw1 with rfl | rfl <;> rfl
    have hon : Only w (setBlock w1 r (.mapIter (some b) si ((V.map fun x : Ent κ => x.2.2).toArray.push (mkE enc x).born) c)) r := by
      rcases hw1 with rfl | rfl
      · exact only_setBlock _ _ _
      · have h2 := only_setBlock w.drew r (.mapIter (some b) si ((V.map fun x : Ent κ => x.2.2).toArray.push (mkE enc x).born) c)
        exact ⟨h2.os, h2.tape, h2.output, h2.size, h2.block⟩
    refine ⟨_, _, hrun, hstep (x.1, x.2.1) _ ?_ ?_ ?_ ?_ hon⟩
    · exact List.mem_map.2 ⟨x, hx, rfl⟩
    · intro y hy he
      obtain ⟨z, hz, rfl⟩ := List.mem_map.1 hy
      have := strip_mem_keys hE.keys (hsub z hz) hx he
      exact hxV (this ▸ hz)
    · have : (x :: V).length ≤ E.length := sub_perm (List.nodup_cons.2 ⟨hxV, hnd⟩) (fun y hy => by
        rcases List.mem_cons.1 hy with rfl | hy
        · exact hx
        · exact hsub y hy)
      simp [strip] at this ⊢
      omega
    · refine ⟨E, c, V ++ [x], si, c, ⟨(hon.block b (Ne.symm hrb)).trans hE.block, hE.rising, hE.below, hE.keys⟩, rfl, ?_, hold, hsk, hsk, by simp [strip], ?_, ?_⟩
      · rw [set_block_at (o := .mapIter (some b) si (V.map fun x : Ent κ => x.2.2).toArray c0) (by rw [hr1]; exact hr)]
        simp [mkE]
      · rw [List.nodup_append]
        exact ⟨hnd, by simp, fun a ha y hy => by simp at hy; subst hy; rintro rfl; exact hxV ha⟩
      · intro y hy
        rcases List.mem_append.1 hy with hy | hy
        · exact hsub y hy
        · simp at hy; subst hy; exact hx
theorem modify_set {E : List (Ent κ)} {n : Nat} {x y : Ent κ} {f : MapEntry → MapEntry} (h : E[n]? = some x) (hf : f (mkE enc x) = mkE enc y) :
    ((E.map (mkE enc)).toArray.modify n f) = ((E.set n y).map (mkE enc)).toArray := by
  apply Array.ext'
  apply List.ext_getElem?
  intro i
  simp only [Array.toList_modify, List.getElem?_modify, List.getElem?_map, List.getElem?_set]
  by_cases e : n = i
  · subst e
    have hlt : n < E.length := (List.getElem?_eq_some_iff.1 h).1
    have hx : E[n] = x := by rw [List.getElem?_eq_getElem hlt] at h; simpa using h
    simp [hx, hf, hlt]
  · simp [e]
theorem set_rising {E : List (Ent κ)} {n : Nat} {k : κ} {v v' : Value} {s : Nat} (h : E[n]? = some (k, v, s)) (hE : MapE w b enc E clock) (hb : w'.heap[b]? = some (.map ((E.set n (k, v', s)).map (mkE enc)).toArray clock)) : MapE w' b enc (E.set n (k, v', s)) clock := by
  have hlt : n < E.length := (List.getElem?_eq_some_iff.1 h).1
  have hst : (E.set n (k, v', s)).map (fun x => (x.1, x.2.2)) = E.map (fun x => (x.1, x.2.2)) := by
    apply List.ext_getElem?
    intro i
    simp only [List.getElem?_map, List.getElem?_set]
    by_cases e : n = i
    · subst e
      have hx : E[n] = (k, v, s) := by rw [List.getElem?_eq_getElem hlt] at h; simpa using h
      simp [hx, hlt]
    · simp [e]
  have key : ∀ (R : (κ × Nat) → (κ × Nat) → Prop), E.Pairwise (fun x y => R (x.1, x.2.2) (y.1, y.2.2)) → (E.set n (k, v', s)).Pairwise (fun x y => R (x.1, x.2.2) (y.1, y.2.2)) := by
    intro R hp
    have h1 : (E.map (fun x => (x.1, x.2.2))).Pairwise R := by rw [List.pairwise_map]; exact hp
    rw [← hst, List.pairwise_map] at h1
    exact h1
  refine ⟨hb, key (fun x y => x.2 < y.2) hE.rising, fun x hx => ?_, key (fun x y => x.1 ≠ y.1) hE.keys⟩
  rcases List.mem_or_eq_of_mem_set hx with h1 | h1
  · exact hE.below x h1
  · rw [h1]; exact hE.below (k, v, s) (List.mem_of_getElem? h)
theorem push_rising {E : List (Ent κ)} {k : κ} {v : Value} (h : ∀ x ∈ E, x.1 ≠ k) (hE : MapE w b enc E clock) (hb : w'.heap[b]? = some (.map ((E ++ [(k, v, clock)]).map (mkE enc)).toArray (clock + 1))) : MapE w' b enc (E ++ [(k, v, clock)]) (clock + 1) := by
  refine ⟨hb, ?_, ?_, ?_⟩
  · rw [List.pairwise_append]
    exact ⟨hE.rising, by simp, fun x hx y hy => by simp at hy; subst hy; exact hE.below x hx⟩
  · intro x hx
    rcases List.mem_append.1 hx with hx | hx
    · exact Nat.lt_succ_of_lt (hE.below x hx)
    · simp at hx; subst hx; exact Nat.lt_succ_self _
  · rw [List.pairwise_append]
    exact ⟨hE.keys, by simp, fun x hx y hy => by simp at hy; subst hy; exact h x hx⟩
variable [DecidableEq κ]
def efind : List (Ent κ) → κ → Nat → Option (Nat × Value)
  | [], _, _ => none
  | x :: E, k, i => if k = x.1 then some (i, x.2.1) else efind E k (i + 1)
def eset : List (Ent κ) → κ → Value → Nat → List (Ent κ)
  | [], k, v, c => [(k, v, c)]
  | x :: E, k, v, c => if k = x.1 then (x.1, v, x.2.2) :: E else x :: eset E k v c
theorem strip_eset (k : κ) (v : Value) (c : Nat) : ∀ E : List (Ent κ), strip (eset E k v c) = aset (strip E) k v
  | [] => rfl
  | x :: E => by
    simp only [eset, strip, List.map_cons, aset]
    split
    · rfl
    · simp only [List.map_cons]; congr 1; exact strip_eset k v c E
theorem efind_look (k : κ) : ∀ (E : List (Ent κ)) (i : Nat), (efind E k i).map (·.2) = alook (strip E) k
  | [], _ => rfl
  | x :: E, i => by
    simp only [efind, strip, List.map_cons, alook]
    split
    · rfl
    · exact efind_look k E (i + 1)
theorem efind_some {k : κ} {v : Value} : ∀ {E : List (Ent κ)} {i j : Nat}, efind E k i = some (j, v) → ∃ n s, j = i + n ∧ E[n]? = some (k, v, s) ∧ ∀ v' c, eset E k v' c = E.set n (k, v', s)
  | [], i, j, h => by simp [efind] at h
  | x :: E, i, j, h => by
    simp only [efind] at h
    by_cases e : k = x.1
    · rw [if_pos e] at h
      obtain ⟨rfl, rfl⟩ : i = j ∧ x.2.1 = v := by simpa using h
      exact ⟨0, x.2.2, rfl, by simp [e], fun v' c => by simp [eset, e]⟩
    · rw [if_neg e] at h
      obtain ⟨n, s, h1, h2, h3⟩ := efind_some h
      exact ⟨n + 1, s, by omega, by simpa using h2, fun v' c => by simp [eset, e, h3]⟩
theorem efind_none {k : κ} : ∀ {E : List (Ent κ)} {i : Nat}, efind E k i = none → (∀ x ∈ E, x.1 ≠ k) ∧ ∀ v c, eset E k v c = E ++ [(k, v, c)]
  | [], i, h => ⟨by simp, fun v c => rfl⟩
  | x :: E, i, h => by
    simp only [efind] at h
    by_cases e : k = x.1
    · rw [if_pos e] at h; cases h
    · rw [if_neg e] at h
      obtain ⟨h1, h2⟩ := efind_none h
      exact ⟨by simp only [List.mem_cons, forall_eq_or_imp]; exact ⟨fun q => e q.symm, h1⟩, fun v c => by simp [eset, e, h2]⟩

/-- A type of keys. -/
structure KeyT (P : Program) (kt : TypeId) (enc : κ → Value) : Prop where
  check : ∀ (w : World) (k : κ) (e : Bool), (Instr.checkKey e 10000 kt (enc k)).run P w = .ok () w
  bits : ∀ k, Instr.sameBits 10000 (enc k) (enc k) = true
  find : ∀ (w : World) (k : κ) (E : List (Ent κ)), (Instr.findKey kt (enc k) (E.map (mkE enc))).run P w = .ok (efind E k 0) w

theorem key_string (h : P.underlying kt = some .string) : KeyT P kt Value.string where
  check w k e := by
    rw [show (10000 : Nat) = 9999 + 1 from rfl]
    exact run_checkKey h (by simp [IsKey]) e 9999
  bits k := by simp [Instr.sameBits, bytes_beq]
  find w k E := by
    refine run_findKey h ?_
    suffices ∀ i, Instr.findNow .string (.string k) (E.map (mkE Value.string)) i = some (efind E k i) from this 0
    induction E with
    | nil => intro i; rfl
    | cons x E ih =>
      intro i
      simp only [List.map_cons, Instr.findNow, efind, mkE, Instr.sameNow]
      by_cases e : k = x.1
      · subst e
        have : (x.1 == x.1) = true := (bytes_beq _ _).2 rfl
        simp [this]
      · have : (k == x.1) = false := by rw [← Bool.not_eq_true, bytes_beq]; exact e
        simp only [this, if_neg e]; exact ih (i + 1)
theorem key_int (h : P.underlying kt = some (.int .i64)) : KeyT P kt (Value.int .i64) where
  check w k e := by
    rw [show (10000 : Nat) = 9999 + 1 from rfl]
    exact run_checkKey h (by simp [IsKey]) e 9999
  bits k := by simp [Instr.sameBits]
  find w k E := by
    refine run_findKey h ?_
    suffices ∀ i, Instr.findNow (.int .i64) (.int .i64 k) (E.map (mkE (Value.int .i64))) i = some (efind E k i) from this 0
    induction E with
    | nil => intro i; rfl
    | cons x E ih =>
      intro i
      simp only [List.map_cons, Instr.findNow, efind, mkE, Instr.sameNow, if_true]
      by_cases e : k = x.1
      · subst e; simp
      · have : (k == x.1) = false := by simpa using e
        simp only [this, if_neg e]; exact ih (i + 1)

def plainL (T : Tab) : List (String × Nat × Nat) → List Value → Bool
  | [], _ => true
  | (nm, t, off) :: fs, xs => !(nm == "_") && (match tget T t with
    | some ⟨.int k, _, _, _⟩ => (match nth xs off with | some (.int k' _) => decide (k' = k) | _ => false)
    | some ⟨.str, _, _, _⟩ => (match nth xs off with | some (.string _) => true | _ => false)
    | some ⟨.bool, _, _, _⟩ => (match nth xs off with | some (.bool _) => true | _ => false)
    | _ => false) && plainL T fs xs
theorem plainL_check {T : Tab} (hT : TabOk P T) (w : World) (em : Bool) (n : Nat) : ∀ {gs : List Field} {fs : List (String × Nat × Nat)} {xs : List Value}, gs.map (fun f => (f.name, f.type, f.offset)) = fs → plainL T fs xs = true →
    ∀ f ∈ gs, f.name ≠ "_" ∧ ∃ v, (part f.type xs.toArray f.offset).run P w = .ok v w ∧ (Instr.checkKey em (n + 1) f.type v).run P w = .ok () w
  | [], _, _, _, _, f, hf => by simp at hf
  | g :: gs, [], xs, hg, _, f, hf => by simp at hg
  | g :: gs, (nm, t, off) :: fs, xs, hg, h, f, hf => by
    simp only [List.map_cons, List.cons.injEq, Prod.mk.injEq] at hg
    obtain ⟨⟨rfl, rfl, rfl⟩, hg'⟩ := hg
    simp only [plainL, Bool.and_eq_true] at h
    obtain ⟨⟨h1, h2⟩, h3⟩ := h
    rcases List.mem_cons.1 hf with rfl | hf
    · refine ⟨by simpa using h1, ?_⟩
      split at h2
      · rename_i k s1 s2 s3 ht
        obtain ⟨_, d0, _, hd, _, hsh, _⟩ := ty_parts (hT.get ht)
        obtain rfl := sh_int hsh
        split at h2
        · rename_i k' a ha
          exact ⟨_, part_plain hd rfl ha w, run_checkKey hd (by simpa [IsKey] using h2) em n⟩
        · cases h2
      · rename_i s1 s2 s3 ht
        obtain ⟨_, d0, _, hd, _, hsh, _⟩ := ty_parts (hT.get ht)
        obtain rfl := sh_str hsh
        split at h2
        · rename_i a ha
          exact ⟨_, part_plain hd rfl ha w, run_checkKey hd (by simp [IsKey]) em n⟩
        · cases h2
      · rename_i s1 s2 s3 ht
        obtain ⟨_, d0, _, hd, _, hsh, _⟩ := ty_parts (hT.get ht)
        obtain rfl := sh_bool hsh
        split at h2
        · rename_i a ha
          exact ⟨_, part_plain hd rfl ha w, run_checkKey hd (by simp [IsKey]) em n⟩
        · cases h2
      · cases h2
    · exact plainL_check hT w em n hg' h3 f hf
theorem key_struct {T : Tab} (hT : TabOk P T) {fs : List (String × Nat × Nat)} (hs : StOk P kt fs) {encl : κ → List Value} (hp : ∀ k, plainL T fs (encl k) = true) (he : ∀ a b, eqL T fs (encl a) (encl b) = some (decide (a = b)))
    (hb : ∀ k, Instr.sameBits 10000 (.agg (encl k).toArray) (.agg (encl k).toArray) = true) : KeyT P kt (fun k => .agg (encl k).toArray) where
  check w k e := by
    rw [show (10000 : Nat) = 9999 + 1 from rfl, Instr.checkKey]
    simp only [Sem.run_bind, run_underlying hs.und, Result.andThen_ok]
    rw [← Array.forIn_toList]
    have deep := plainL_check hT w e 9998 hs.fields (hp k)
    generalize (P.fieldsOf kt).toList = L at deep
    induction L with
    | nil => simp
    | cons f L ih =>
      obtain ⟨hn, v, p1, p2⟩ := deep f (by simp)
      simp only [List.forIn_cons, Sem.run_bind, hn, ne_eq, not_false_eq_true, if_true, Result.andThen_ok, p1, p2, Sem.run_pure]
      exact ih (fun y hy => deep y (by simp [hy]))
  bits := hb
  find w k E := by
    rw [run_findKey_eq w (by rw [hs.und])]
    suffices ∀ i, (Instr.findAsking kt (.agg (encl k).toArray) (E.map (mkE fun k => .agg (encl k).toArray)) i).run P w = .ok (efind E k i) w from this 0
    induction E with
    | nil => intro i; simp [Instr.findAsking, efind]
    | cons x E ih =>
      intro i
      have h1 := equal_struct hT hs (he k x.1) w
      simp only [List.map_cons, Instr.findAsking, efind, mkE, Sem.run_bind, h1, Result.andThen_ok]
      by_cases e : k = x.1
      · simp [e]
      · simp only [e, decide_false, Bool.false_eq_true, if_false]; exact ih (i + 1)

theorem map_look_run (ht : P.underlying mt = some (.map kt et)) (K : KeyT P kt enc) {z : Value} (hz : (zeroValue et).run P w = .ok z w) (hm : MapAt w b enc L) (k : κ) (ok : Bool) :
    (Instr.lookup mt (.map (some b)) (enc k) ok).run P w = .ok (if ok then .tuple #[(alook L k).getD z, .bool (alook L k).isSome] else (alook L k).getD z) w := by
  obtain ⟨E, c, hE, rfl⟩ := hm
  have hf := K.find w k E
  rw [← efind_look k E 0]
  simp only [Instr.lookup, Sem.run_bind, run_underlying ht, Result.andThen_ok, run_gobj hE.block, K.check, Sem.run_pure, hf]
  cases hfe : efind E k 0 with
  | none => simp [hz]
  | some p => simp
theorem map_look_nil_run (ht : P.underlying mt = some (.map kt et)) (K : KeyT P kt enc) {z : Value} (hz : (zeroValue et).run P w = .ok z w) (k : κ) (ok : Bool) :
    (Instr.lookup mt (.map none) (enc k) ok).run P w = .ok (if ok then .tuple #[z, .bool false] else z) w := by
  have hf := K.find w k []
  simp only [Instr.lookup, Sem.run_bind, run_underlying ht, Result.andThen_ok, K.check, Sem.run_pure]
  simp only [List.map_nil, efind] at hf
  simp [hf, hz]
theorem map_look (ht : P.underlying mt = some (.map kt et)) (K : KeyT P kt enc) {e : TyE} (he : tyOf P et = some e) {cl : Cl} (hk : Kept cl w b) (hm : MapAt w b enc L) (k : κ) :
    RdS P cl w (Instr.lookup mt (.map (some b)) (enc k) false) ((alook L k).getD e.zero) := fun w' hw => by
  have := map_look_run ht K (ty_zero he w') (hm.keep (hk w' hw)) k false
  simpa using this
theorem map_look2 (ht : P.underlying mt = some (.map kt et)) (K : KeyT P kt enc) {e : TyE} (he : tyOf P et = some e) {cl : Cl} (hk : Kept cl w b) (hm : MapAt w b enc L) (k : κ) :
    RdS P cl w (Instr.lookup mt (.map (some b)) (enc k) true) (.tuple #[(alook L k).getD e.zero, .bool (alook L k).isSome]) := fun w' hw => by
  have := map_look_run ht K (ty_zero he w') (hm.keep (hk w' hw)) k true
  simpa using this

theorem map_update (ht : P.underlying mt = some (.map kt et)) (K : KeyT P kt enc) (hm : MapAt w b enc L) (k : κ) (v : Value) {R : Value → World → Prop}
    (h : ∀ w', MapAt w' b enc (aset L k v) → Only w w' b → R undef w') : RunU P (Instr.mapUpdate mt (.map (some b)) (enc k) v) w R := by
  obtain ⟨E, c, hE, rfl⟩ := hm
  have hf := K.find w k E
  have hrun : ∃ o, (Instr.mapUpdate mt (.map (some b)) (enc k) v).run P w = .ok () (setBlock w b o) ∧ MapAt (setBlock w b o) b enc (aset (strip E) k v) := by
    cases hfe : efind E k 0 with
    | none =>
      obtain ⟨h1, h2⟩ := efind_none hfe
      refine ⟨.map ((E ++ [(k, v, c)]).map (mkE enc)).toArray (c + 1), ?_, ?_⟩
      · rw [hfe] at hf
        simp only [Instr.mapUpdate, Sem.run_bind, run_underlying ht, Result.andThen_ok, run_gobj hE.block, K.check, hf, run_sobj _ hE.block]
        simp [setBlock, mkE]
      · refine ⟨_, _, push_rising h1 hE (set_block_at hE.block), ?_⟩
        rw [← h2 v c, strip_eset]
    | some p =>
      obtain ⟨j, v0⟩ := p
      obtain ⟨n, s, hj, hn, hs⟩ := efind_some hfe
      obtain rfl : j = n := by omega
      refine ⟨.map ((E.set j (k, v, s)).map (mkE enc)).toArray c, ?_, ?_⟩
      · rw [hfe] at hf
        have hkey : (((E.map (mkE enc)).toArray[j]?).map (·.key)).getD (enc k) = enc k := by simp [hn, mkE]
        simp only [Instr.mapUpdate, Sem.run_bind, run_underlying ht, Result.andThen_ok, run_gobj hE.block, K.check, hf, hkey, Instr.keyThatStays, K.bits, if_true, Sem.run_pure, run_sobj _ hE.block]
        rw [modify_set (y := (k, v, s)) hn rfl]
        rfl
      · refine ⟨_, _, set_rising hn hE (set_block_at hE.block), ?_⟩
        rw [← hs v c, strip_eset]
  obtain ⟨o, h1, h2⟩ := hrun
  exact ⟨_, h1, h _ h2 (only_setBlock w b o)⟩

theorem map_entry (ht : P.underlying mt = some (.map kt et)) (K : KeyT P kt enc) {e : TyE} (he : tyOf P et = some e) (hm : MapAt w b enc L) (k : κ) {R : Value → World → Prop}
    (h : ∀ w' s, MapS w' b enc (aset L k ((alook L k).getD e.zero)) k s → Only w w' b → R (.tuple #[(alook L k).getD e.zero, .int .i64 (s : Nat)]) w') : RunE P (Instr.mapEntry mt (.map (some b)) (enc k)) w R := by
  obtain ⟨E, c, hE, rfl⟩ := hm
  have hf := K.find w k E
  have hlk := efind_look k E 0
  have hz := ty_zero he w
  have hrun : ∃ o s, (Instr.mapEntry mt (.map (some b)) (enc k)).run P w = .ok (.tuple #[(alook (strip E) k).getD e.zero, .int .i64 (s : Nat)]) (setBlock w b o) ∧ MapS (setBlock w b o) b enc (aset (strip E) k ((alook (strip E) k).getD e.zero)) k s := by
    cases hfe : efind E k 0 with
    | none =>
      obtain ⟨h1, h2⟩ := efind_none hfe
      rw [hfe] at hlk
      rw [← hlk]
      refine ⟨.map ((E ++ [(k, e.zero, c)]).map (mkE enc)).toArray (c + 1), c, ?_, ?_⟩
      · rw [hfe] at hf
        simp only [Instr.mapEntry, Sem.run_bind, run_underlying ht, Result.andThen_ok, run_gobj hE.block, K.check, hf, hz, run_sobj _ hE.block, Sem.run_pure]
        simp [setBlock, mkE, goInt]
      · refine ⟨_, _, push_rising h1 hE (set_block_at hE.block), ?_, e.zero, by simp⟩
        rw [← h2 e.zero c, strip_eset]; rfl
    | some p =>
      obtain ⟨j, v0⟩ := p
      obtain ⟨n, s, hj, hn, hs⟩ := efind_some hfe
      obtain rfl : j = n := by omega
      rw [hfe] at hlk
      rw [← hlk]
      have hn' : (E.map (mkE enc)).toArray[j]? = some (mkE enc (k, v0, s)) := by simp [hn]
      refine ⟨.map ((E.set j (k, v0, s)).map (mkE enc)).toArray c, s, ?_, ?_⟩
      · rw [hfe] at hf
        simp only [Instr.mapEntry, Sem.run_bind, run_underlying ht, Result.andThen_ok, run_gobj hE.block, K.check, hf, hn', Option.map_some, Option.getD_some, mkE, Instr.keyThatStays, K.bits, if_true, Sem.run_pure, run_sobj _ hE.block]
        have := modify_set (enc := enc) (f := fun e => { e with key := enc k }) (y := (k, v0, s)) hn rfl
        rw [this]
        rfl
      · refine ⟨_, _, set_rising hn hE (set_block_at hE.block), ?_, v0, ?_⟩
        · rw [← hs v0 c, strip_eset]; rfl
        · have hlt : j < E.length := (List.getElem?_eq_some_iff.1 hn).1
          exact List.mem_of_getElem? (i := j) (by simp [List.getElem?_set, hlt])
  obtain ⟨o, s, h1, h2⟩ := hrun
  exact ⟨_, _, h1, h _ s h2 (only_setBlock w b o)⟩
theorem map_store {k : κ} {s : Nat} (hm : MapS w b enc L k s) (v : Value) {R : Value → World → Prop}
    (h : ∀ w', MapAt w' b enc (aset L k v) → Only w w' b → R undef w') : RunU P (Instr.entryStore mt (.map (some b)) (.int .i64 (s : Nat)) v) w R := by
  obtain ⟨E, c, hE, rfl, v0, hin⟩ := hm
  obtain ⟨n, hn⟩ := List.getElem?_of_mem hin
  have hlt : n < E.length := (List.getElem?_eq_some_iff.1 hn).1
  have hidx : ((E.map (mkE enc)).toArray.findIdx? (fun e => (e.born : Int) == (s : Int))) = some n := by
    rw [List.findIdx?_toArray, List.findIdx?_eq_some_iff_getElem]
    refine ⟨by simpa using hlt, ?_, fun j hj => ?_⟩
    · have : E[n] = (k, v0, s) := by rw [List.getElem?_eq_getElem hlt] at hn; simpa using hn
      simp [mkE, this]
    · have hp := List.pairwise_iff_getElem.1 hE.rising j n (by omega) hlt hj
      have : E[n] = (k, v0, s) := by rw [List.getElem?_eq_getElem hlt] at hn; simpa using hn
      rw [this] at hp
      simp [mkE]
      simp at hp
      omega
  have hset : eset E k v c = E.set n (k, v, s) := by
    have : ∀ (E : List (Ent κ)) (n : Nat), E.Pairwise (fun x y => x.1 ≠ y.1) → E[n]? = some (k, v0, s) → eset E k v c = E.set n (k, v, s) := by
      intro E
      induction E with
      | nil => intro n _ h; simp at h
      | cons x E ih =>
        intro n hp h
        rw [List.pairwise_cons] at hp
        cases n with
        | zero =>
          obtain rfl : x = (k, v0, s) := by simpa using h
          simp [eset]
        | succ n =>
          have hm : (k, v0, s) ∈ E := List.mem_of_getElem? (i := n) (by simpa using h)
          simp only [eset, if_neg (fun e : k = x.1 => hp.1 _ hm e.symm), List.set_cons_succ]
          rw [ih n hp.2 (by simpa using h)]
    exact this E n hE.keys hn
  refine ⟨setBlock w b (.map ((E.set n (k, v, s)).map (mkE enc)).toArray c), ?_, h _ ⟨_, _, set_rising hn hE (set_block_at hE.block), ?_⟩ (only_setBlock _ _ _)⟩
  · have hm := modify_set (enc := enc) (f := fun e => { e with val := v }) (y := (k, v, s)) hn rfl
    have ha : (asInt (.int .i64 (s : Int))).run P w = .ok (s : Int) w := by simp [asInt, asIntOf]
    simp only [Instr.entryStore, Sem.run_bind, run_gobj hE.block, Result.andThen_ok, ha, hidx, run_sobj _ hE.block]
    rw [hm]
    rfl
  · rw [← hset, strip_eset]

end
end Go.Proofs.YtbfjlpoeglcmfaaDoor
