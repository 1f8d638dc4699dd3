
/- Slices of the call's own: append. -/
import Derived.Test.YtbfjlpoeglcmfaaDoorLib1
import Derived.Maps.AppendAt
import Derived.Deep.AppendLies
set_option linter.unusedVariables false
set_option linter.unusedSimpArgs false
namespace Go.Proofs.YtbfjlpoeglcmfaaDoor
open Go.Se Go.RowKit

/-- The slice value of a row of the call's own (in a block from 'base' on), which holds l, and may be appended to. -/
def Own {α : Type} (enc : α → List Value) (sz : Nat) (te : TypeId) (base : Nat) (w : World) (A : Option Addr) (c : Nat) (l : List α) : Prop :=
  w.ownsRow base te sz (.slice A l.length c) l.length (l.flatMap enc)

section
variable {α : Type} {enc : α → List Value} {sz : Nat} {te : TypeId} {base : Nat} {w w' : World} {A : Option Addr} {c : Nat} {l : List α}

theorem flat_get (hsz : ∀ x, (enc x).length = sz) : ∀ (l : List α) (i j : Nat) (x : α), l[i]? = some x → j < sz → (l.flatMap enc)[i * sz + j]? = (enc x)[j]?
  | [], i, j, x, h, _ => by simp at h
  | y :: l, 0, j, x, h, hj => by
    obtain rfl : y = x := by simpa using h
    rw [List.flatMap_cons, List.getElem?_append_left (by rw [hsz]; omega)]; simp
  | y :: l, i + 1, j, x, h, hj => by
    rw [List.flatMap_cons, List.getElem?_append_right (by rw [hsz, Nat.succ_mul]; omega), hsz]
    rw [show (i + 1) * sz + j - sz = i * sz + j by rw [Nat.succ_mul]; omega]
    exact flat_get hsz l i j x (by simpa using h) hj
theorem flat_len (hsz : ∀ x, (enc x).length = sz) : ∀ l : List α, (l.flatMap enc).length = l.length * sz
  | [] => by simp
  | y :: l => by rw [List.flatMap_cons, List.length_append, hsz, flat_len hsz l, List.length_cons, Nat.succ_mul]; omega

theorem Own.sl (hsz : ∀ x, (enc x).length = sz) (h : Own enc sz te base w A c l) : Sl enc sz w A l := by
  intro i x hi
  have hlt : i < l.length := (List.getElem?_eq_some_iff.1 hi).1
  rcases h.2 with ⟨hv, h0⟩ | ⟨g, cap, cur, hv, hb, hg, h1, h2, h3, h4⟩
  · omega
  · have hA : A = some ⟨g, 0, none⟩ := by injection hv
    refine ⟨_, hA, fun j v hj => ?_⟩
    have hjl : j < sz := by rw [← hsz x]; exact (List.getElem?_eq_some_iff.1 hj).1
    rw [add_add_addr]
    exact h.cells (g := g) (by rw [hA]; rfl) _ _ (by rw [flat_get hsz l i j x hi hjl]; exact hj)
theorem Own.le (h : Own enc sz te base w A c l) : l.length ≤ c := by
  rcases h.2 with ⟨hv, h0⟩ | ⟨g, cap, cur, hv, hb, hg, h1, h2, h3, h4⟩
  · omega
  · injection hv with _ _ hc; omega
theorem Own.nil : Own enc sz te base w none 0 [] := ⟨by simp, .inl ⟨rfl, rfl⟩⟩
/-- A new row of no places. -/
theorem Own.made {w1 : World} {b : Nat} (h : New w w1 b (.cells ([] : List Value).toArray te)) (hb : base ≤ w.heap.size) : Own enc sz te base w1 (some ⟨b, 0, none⟩) 0 [] := by
  refine ⟨by simp, .inr ⟨b, 0, #[], rfl, by rw [h.block]; exact hb, h.at_, by simp, by simp [maxLen], by simp, by simp⟩⟩
theorem Own.block (h : Own enc sz te base w A c l) {a : Addr} (hA : A = some a) : base ≤ a.block ∧ a.block < w.heap.size := h.lt a.block (by rw [hA]; rfl)
/-- What is not touched stays owned. -/
theorem Own.keep (h : Own enc sz te base w A c l) (hk : ∀ a, A = some a → w'.heap[a.block]? = w.heap[a.block]?) : Own enc sz te base w' A c l := by
  refine ⟨h.1, ?_⟩
  rcases h.2 with ⟨hv, h0⟩ | ⟨g, cap, cur, hv, hb, hg, h1⟩
  · exact .inl ⟨hv, h0⟩
  · refine .inr ⟨g, cap, cur, hv, hb, ?_, h1⟩
    have hA : A = some ⟨g, 0, none⟩ := by injection hv
    rw [hk _ hA]; exact hg
theorem Own.ext (h : Own enc sz te base w A c l) (hx : Ext w w') : Own enc sz te base w' A c l :=
  h.keep fun a ha => hx.block _ (h.block ha).2

theorem ext_grown {w0 : World} {row : Option Nat} (h : Ext w0 w) (hg : w.grownBy w' row) (hr : ∀ k, row = some k → w0.heap.size ≤ k) : Ext w0 w' := by
  unfold Ext at h ⊢
  exact h.grown hg h.size hr

theorem run_append_of_nil {P : Program} (t ty e : TypeId) (i : TypeInfo) (size : Nat) (ht : P.underlying t = some (.slice e)) (hi : P.info? e = some i)
    (v : Value) (n : Nat) (xs : List Value) (hown : w.ownsRow base e size v n xs) (c : Nat) : (Builtin.append_ #[t, t] ty #[v, .slice none 0 c]).run P w = .ok v w := by
  rcases hown.2 with ⟨rfl, rfl⟩ | ⟨g, cap, cur, rfl, _, _, hnc, _⟩
  · simp [Builtin.append_, run_underlying ht, sizeOf, typeInfo, hi, Builtin.lenOf, Builtin.firstCells]
  · simp [Builtin.append_, run_underlying ht, sizeOf, typeInfo, hi, Builtin.lenOf, Builtin.firstCells, hnc, storeCells]

/-- 'append(out, xs...)' onto a row of the call's own. -/
theorem append_own {P : Program} {t ty : TypeId} {bytes : Nat} {ety : TyE} (htt : tyOf P te = some ety) (hsh : P.underlying t = some (.slice te)) (hby : (P.info? te).map (·.bytes) = some bytes) (hsize : ety.size = sz) (hzs : (cellsL ety.zero).length = sz) (hsz0 : 0 < sz)
    (hsz : ∀ x, (enc x).length = sz) (hone : ∀ x, ∀ u ∈ enc x, u.oneCell' = true) {R : Value → World → Prop}
    (hown : Own enc sz te base w A c l) {B : Option Addr} {cB : Nat} {news : List α} (hs : Sl enc sz w B news)
    (hbytes : (l.length + news.length) * bytes ≤ 140737488355328) (hlen : l.length + news.length ≤ 9223372036854775807) (hbase : base ≤ w.heap.size)
    (h : ∀ A' c' w', Own enc sz te base w' A' c' (l ++ news) → w.grownBy w' (A.map (·.block)) → (A' = A ∨ A'.map (·.block) = A.map (·.block) ∨ A'.map (·.block) = some w.heap.size) → R (.slice A' (l ++ news).length c') w') :
    RunE P (Builtin.append_ #[t, t] ty [.slice A l.length c, .slice B news.length cB].toArray) w R := by
  obtain ⟨i, _, hi, _, hz, _, hs1, _⟩ := ty_parts htt
  have hby' : i.bytes = bytes := by rw [hi] at hby; simpa using hby
  have hzc : ety.zero.cells.size = sz := by rw [← hzs, ← cellsL_eq]; simp
  have hob : (Value.slice A l.length c).ownBlock = A.map (·.block) := by cases A <;> rfl
  by_cases hn0 : news = []
  · subst hn0
    cases B with
    | none =>
      refine ⟨_, _, run_append_of_nil t ty te i sz hsh hi _ _ _ hown cB, ?_⟩
      have := h A c w (by simpa using hown) (World.grownBy.refl w _) (.inl rfl)
      simpa using this
    | some b =>
      obtain ⟨v', w', hr, h2, h3, h4, h5⟩ := run_append_own_at (P := P) w base t ty te i ety.zero sz bytes hsh hi hz (hs1.trans hsize) hby' hzc hsz0 _ _ _ hown b 0 cB [] (by simp) (by simp) (by simp) (by unfold maxLen; simpa using hlen) (by simpa using hbytes) hbase
      have hv' : ∃ A' c', v' = .slice A' l.length c' := by
        rcases h2.2 with ⟨hv, h0⟩ | ⟨g, cap, cur, hv, _⟩
        · exact ⟨none, 0, by rw [hv]; congr 1; omega⟩
        · exact ⟨_, _, by simpa using hv⟩
      obtain ⟨A', c', rfl⟩ := hv'
      refine ⟨_, _, hr, ?_⟩
      have hob' : (Value.slice A' l.length c').ownBlock = A'.map (·.block) := by cases A' <;> rfl
      rw [hob, hob'] at h5
      have := h A' c' w' (by simpa [Own] using h2) (by rw [← hob]; exact h3) (.inr h5)
      simpa using this
  · obtain ⟨b, hB⟩ : ∃ b, B = some b := by
      obtain ⟨x, xs, rfl⟩ := List.exists_cons_of_ne_nil hn0
      obtain ⟨a, ha, _⟩ := hs 0 x rfl
      exact ⟨a, ha⟩
    subst hB
    have hnews : ∀ j u, (news.flatMap enc)[j]? = some u → w.cell? (b.add j) = some u := by
      intro j u hj
      have hjl : j < news.length * sz := by rw [← flat_len hsz]; exact (List.getElem?_eq_some_iff.1 hj).1
      have hdiv : j / sz < news.length := by rw [Nat.div_lt_iff_lt_mul hsz0]; exact hjl
      have hmod : j % sz < sz := Nat.mod_lt _ hsz0
      have hj' : j = j / sz * sz + j % sz := by rw [Nat.mul_comm]; exact (Nat.div_add_mod j sz).symm
      obtain ⟨a, ha, hc⟩ := hs (j / sz) news[j / sz] (List.getElem?_eq_getElem hdiv)
      obtain rfl : b = a := by simpa using ha
      have e1 : (news.flatMap enc)[j]? = (enc news[j / sz])[j % sz]? := by
        conv => lhs; rw [hj']
        exact flat_get hsz news (j / sz) (j % sz) news[j / sz] (List.getElem?_eq_getElem hdiv) hmod
      rw [e1] at hj
      have := hc (j % sz) u hj
      rw [add_add_addr, ← hj'] at this
      exact this
    obtain ⟨v', w', hr, h2, h3, h4, h5⟩ := run_append_own_at (P := P) w base t ty te i ety.zero sz bytes hsh hi hz (hs1.trans hsize) hby' hzc hsz0 _ _ _ hown b news.length cB (news.flatMap enc) (flat_len hsz _) hnews
      (fun u hu => by obtain ⟨x, _, hx⟩ := List.mem_flatMap.1 hu; exact hone x u hx) (by unfold maxLen; exact hlen) hbytes hbase
    have hv' : ∃ A' c', v' = .slice A' (l ++ news).length c' := by
      rcases h2.2 with ⟨hv, h0⟩ | ⟨g, cap, cur, hv, _⟩
      · exact ⟨none, 0, by rw [hv]; congr 1; simp; omega⟩
      · exact ⟨_, _, by simpa using hv⟩
    obtain ⟨A', c', rfl⟩ := hv'
    refine ⟨_, _, hr, ?_⟩
    have hob' : (Value.slice A' (l ++ news).length c').ownBlock = A'.map (·.block) := by cases A' <;> rfl
    rw [hob, hob'] at h5
    exact h A' c' w' (by simpa [Own] using h2) (by rw [← hob]; exact h3) (.inr h5)
end

theorem evC_len (e : Ev) : (evC e).length = 8 := rfl
theorem evC_one (e : Ev) : ∀ u ∈ evC e, u.oneCell' = true := by simp [evC, Value.oneCell']
end Go.Proofs.YtbfjlpoeglcmfaaDoor
