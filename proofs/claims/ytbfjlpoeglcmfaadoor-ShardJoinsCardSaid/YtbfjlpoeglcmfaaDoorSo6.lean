
/- '== nil'; slices.Clone, Clip; event.Sort. -/
import Derived.Test.YtbfjlpoeglcmfaaDoorSo5
import Derived.Laws.Cover3
import Derived.Laws.Pointers
set_option linter.unusedVariables false
set_option linter.unusedSimpArgs false
namespace Go.Proofs.YtbfjlpoeglcmfaaDoor
open Go.Se Go.RowKit

section
variable {P : Program}
theorem eqRun_slice_nil {t e : TypeId} (h : P.underlying t = some (.slice e)) (A : Option Addr) (n c : Nat) (ox oy : Operand) : EqRun P t ox oy (.slice A n c) (.slice none 0 0) A.isNone := by
  intro w
  have h1 := run_equal_slice_nil (P := P) w t e A n c h
  constructor
  · simp [eqGuard, binOp, h1]
  · simp [eqGuard, binOp, h1]
theorem eqRun_map_nil {t k e : TypeId} (h : P.underlying t = some (.map k e)) (m : Option Nat) (ox oy : Operand) : EqRun P t ox oy (.map m) (.map none) m.isNone := by
  intro w
  have h1 := run_equal_map_nil (P := P) w t k e m h
  constructor
  · simp [eqGuard, binOp, h1]
  · simp [eqGuard, binOp, h1]
end
theorem undSlE : Tryd.prog.underlying 22 = some (.slice 34) := by kernel_rfl
/-- 'append' of events onto a row of the call's own. -/
theorem append_evs {w : World} {A : Option Addr} {c base : Nat} {l : List Ev} {R : Value → World → Prop} {ty : TypeId} (hown : Own evC 8 34 base w A c l) {B : Option Addr} {cB : Nat} {news : List Ev} (hs : SlE w B news) (hl : l.length + news.length < 1000000000000) (hbase : base ≤ w.heap.size)
    (h : ∀ A' c' w', Own evC 8 34 base w' A' c' (l ++ news) → w.grownBy w' (A.map (·.block)) → (A' = A ∨ A'.map (·.block) = A.map (·.block) ∨ A'.map (·.block) = some w.heap.size) → R (.slice A' (l ++ news).length c') w') :
    RunE Tryd.prog (Builtin.append_ #[22, 22] ty [.slice A l.length c, .slice B news.length cB].toArray) w R :=
  append_own (bytes := 96) ty34_ok undSlE by34 rfl rfl (by decide) evC_len evC_one hown hs (by omega) (by omega) hbase h
theorem row_ge {w : World} {A : Option Addr} {c base : Nat} {l : List Ev} (h : Own evC 8 34 base w A c l) : ∀ k, A.map (·.block) = some k → base ≤ k := by
  intro k hk
  cases A with
  | none => simp at hk
  | some a => have := h.block (a := a) rfl; simp at hk; omega

theorem clone_spec (x : List Ev) (A : Option Addr) (c : Nat) (w : World) (hs : SlE w A x) (hl : x.length < 1000000000000) :
    Cal Tryd.prog 27 [.slice A x.length c] w fun r w' => ∃ A' c', r = .slice A' x.length c' ∧ Own evC 8 34 w.heap.size w' A' c' x ∧ Ext w w' := by
  refine fn_intro Tt_ok Tryd.func27 (by rfl) rfl _ rfl rfl (by rfl) ?_; (conv => whnf)
  refine ⟨_, eqRun_slice_nil undSlE A _ _ _ _, ?_⟩; (conv => whnf)
  constructor
  · intro h
    obtain rfl : A = none := by simpa using h
    have hx : x = [] := by
      cases x with
      | nil => rfl
      | cons e x => obtain ⟨a, ha, _⟩ := hs 0 e rfl; cases ha
    subst hx
    (conv => whnf)
    exact ⟨none, 0, rfl, Own.nil, Ext.refl _⟩
  · intro h
    (conv => whnf)
    intro b1 w1 hn1; (conv => whnf)
    refine append_evs (l := []) (base := w.heap.size) (Own.made hn1 (Nat.le_refl _)) (hs.ext hn1.ext) (by simpa using hl) hn1.ext.size ?_
    intro A' c' w' hown hg hA
    (conv => whnf)
    refine ⟨A', c', by simp, by simpa using hown, ext_grown hn1.ext hg fun k hk => ?_⟩
    have : k = b1 := by simpa using hk.symm
    rw [this, hn1.block]; exact Nat.le_refl _
theorem clip_spec (A : Option Addr) (n c : Nat) (w : World) (h : n ≤ c) :
    Cal Tryd.prog 29 [.slice A n c] w fun r w' => r = .slice A n n ∧ w' = w := by
  refine fn_intro Tt_ok Tryd.func29 (by rfl) rfl _ rfl rfl (by rfl) ?_; (conv => whnf)
  refine ⟨⟨by simp, by omega, by omega, by omega⟩, ?_⟩; (conv => whnf)
  refine ⟨?_, rfl⟩
  cases A <;> simp [Addr.add]
theorem ext_of_mod {w w1 w2 : World} {A : Option Addr} (hx : Ext w w1) (hm : Mod (Blk A) w1 w2) (h : ∀ a, A = some a → w.heap.size ≤ a.block) : Ext w w2 :=
  ext_trans_mod hx hm fun k hk => by obtain ⟨a, ha, rfl⟩ := hk; exact h a ha
/-- Of events: a slice of its own, in the order. -/
theorem esort_spec (x : List Ev) (A : Option Addr) (c : Nat) (w : World) (hs : SlE w A x) (hl : x.length < 100000000000) :
    Cal Tryd.prog 17 [.slice A x.length c] w fun r w' => ∃ A' z, r = .slice A' z.length z.length ∧ z.Perm x ∧ Srt lessB z ∧ SlE w' A' z ∧ Ext w w' := by
  refine fn_intro Tt_ok Tryd.func17 (by rfl) rfl _ rfl rfl (by rfl) ?_; (conv => whnf)
  refine (clone_spec x A c w hs (by omega)).mono ?_
  rintro _ w1 ⟨A1, c1, rfl, hown1, hx1⟩; (conv => whnf)
  refine (sortStable_spec x A1 c1 w.heap.size w1 x.length rfl hl hown1).mono ?_
  rintro _ w2 ⟨rfl, z, hp, hz, hown2, hm2⟩; (conv => whnf)
  have hzl := hp.length_eq
  have hle := hown1.le
  refine (clip_spec A1 x.length c1 w2 hle).mono ?_
  rintro _ _ ⟨rfl, rfl⟩; (conv => whnf)
  refine ⟨A1, z, by rw [hzl], hp, hz, hown2.sl evC_len, ext_of_mod hx1 hm2 fun a ha => (hown1.block ha).1⟩
end Go.Proofs.YtbfjlpoeglcmfaaDoor
