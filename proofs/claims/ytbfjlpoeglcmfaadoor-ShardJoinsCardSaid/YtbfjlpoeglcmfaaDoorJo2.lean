
/- shard.before, shard.Join. -/
import Derived.Test.YtbfjlpoeglcmfaaDoorJo1
import Derived.Test.YtbfjlpoeglcmfaaDoorOnc
set_option linter.unusedVariables false
set_option linter.unusedSimpArgs false
namespace Go.Proofs.YtbfjlpoeglcmfaaDoor
open Go.Se Go.RowKit

theorem better_cmp (a b : Ev) : betterB a b = bif decide (cmpE a b = 0) then bLt (fmtB a) (fmtB b) else decide (cmpE a b < 0) := by
  rw [cmpE_neg]
  unfold betterB
  by_cases h0 : cmpE a b = 0
  · have hz := (cmpE_zero a b).1 h0
    have h1 : lessB a b = false := by rw [← cmpE_neg, h0]; rfl
    have h2 : lessB b a = false := by rw [← cmpE_neg, (cmpE_zero b a).2 ⟨hz.1.symm, hz.2.1.symm, hz.2.2.symm⟩]; rfl
    simp [h0, h1, h2]
  · simp only [h0, decide_false, cond_false]
    cases h1 : lessB a b
    · cases h2 : lessB b a
      · obtain hz := less_total h1 h2
        exact absurd ((cmpE_zero a b).2 hz) h0
      · rfl
    · rfl
theorem before_spec (a b : Ev) (w : World) (hg : Gl w) (ha : mayB a = true) (hb : mayB b = true) (fa : FOk a) (fb : FOk b) :
    Cal Tryd.prog 16 [evV a, evV b] w fun r w' => r = .bool (betterB a b) ∧ Ext w w' := by
  refine fn_intro Tt_ok Tryd.func16 (by rfl) rfl _ rfl rfl (by rfl) ?_; (conv => whnf)
  intro b1 w1 hn1; (conv => whnf)
  intro b2 w2 hn2; (conv => whnf)
  have h1 := hn1.At.ext hn2.ext
  have h2 := hn2.At
  refine ⟨evC a, ⟨rfl, h1.all⟩, ?_⟩; (conv => whnf)
  refine ⟨evC b, ⟨rfl, h2.all⟩, ?_⟩; (conv => whnf)
  refine (compare_spec a b w2).mono ?_; rintro _ w3 ⟨rfl, hx3⟩; (conv => whnf)
  have hx := (hn1.ext.trans hn2.ext).trans hx3
  rw [better_cmp]
  constructor
  · intro hc; (conv => whnf)
    have hc : ¬ cmpE a b = 0 := by simpa using hc
    refine ⟨?_, hx⟩
    simp [hc]
  · intro hc; (conv => whnf)
    have hc : cmpE a b = 0 := by simpa using hc
    refine draw_rule .ext [0, 2, 1] [3, 4, 5] Tt_ok mixed (by kernel_rfl) (by first | (intro h; cases h; done) | (intro _; rfl)) ?_; (conv => whnf)
    replace h1 := (h1.ext hx3).ext (Ext.refl w3).drew
    replace h2 := (h2.ext hx3).ext (Ext.refl w3).drew
    replace hx := hx.drew
    generalize w3.drew = w4 at h1 h2 hx ⊢
    refine ⟨evC a, ⟨rfl, h1.all⟩, ?_⟩; (conv => whnf)
    refine ⟨evC b, ⟨rfl, h2.all⟩, ?_⟩; (conv => whnf)
    refine (format_spec a w4 (hg.ext hx) ha fa).mono ?_; rintro _ w5 ⟨rfl, hx5⟩
    refine ⟨hx5, ?_⟩; (conv => whnf)
    refine (format_spec b w5 (hg.ext (hx.trans hx5)) hb fb).mono ?_; rintro _ w6 ⟨rfl, hx6⟩; (conv => whnf)
    refine ⟨?_, (hx.trans hx5).trans hx6⟩
    simp [hc]
    rfl

abbrev IdS := ByteArray × Int
def idsC (k : IdS) : List Value := [.string k.1, .int .i64 k.2]
def idsV (k : IdS) : Value := .agg (idsC k).toArray
theorem ids_key : KeyT Tryd.prog 40 idsV :=
  key_struct (encl := idsC) Tt_ok st40 (fun k => rfl)
    (fun a b => by
      show some (decide (a.1 = b.1) && (decide (a.2 = b.2) && true)) = some (decide (a = b))
      rw [Bool.and_true]
      congr 1
      by_cases h1 : a.1 = b.1 <;> by_cases h2 : a.2 = b.2 <;> simp [Prod.ext_iff, h1, h2])
    (fun k => by simp [Instr.sameBits, idsC, Go.MapKept.bytes_beq])
/-- What the map of the least holds. -/
def leastL (out : List Ev) : List (IdS × Value) := out.map fun e => (idE e, evV e)
theorem least_look (out : List Ev) (e : Ev) : alook (leastL out) (idE e) = (out.find? (sameId e)).map evV := by
  induction out with
  | nil => rfl
  | cons x out ih =>
    simp only [leastL, List.map_cons, alook, List.find?_cons]
    by_cases h : idE e = idE x
    · rw [if_pos h, sameId_iff.2 h.symm]; rfl
    · rw [if_neg h]
      have : sameId e x = false := by rw [← Bool.not_eq_true, sameId_iff]; exact fun h' => h h'.symm
      rw [this]; exact ih
theorem least_set (e : Ev) : ∀ out : List Ev, aset (leastL out) (idE e) (evV e) = leastL (match out.findIdx? (sameId e) with | none => out ++ [e] | some k => out.set k e)
  | [] => rfl
  | x :: out => by
    have ih := least_set e out
    simp only [leastL, List.map_cons, aset, List.findIdx?_cons] at ih ⊢
    by_cases h : idE e = idE x
    · rw [if_pos h, sameId_iff.2 h.symm]
      simp [h]
    · rw [if_neg h]
      have : sameId e x = false := by rw [← Bool.not_eq_true, sameId_iff]; exact fun h' => h h'.symm
      rw [this, ih]
      cases out.findIdx? (sameId e) <;> simp
/-- One event more. -/
theorem least_step {out : List Ev} {e : Ev} :
    (out.find? (sameId e) = none → aset (leastL out) (idE e) (evV e) = leastL (onceStep out e)) ∧
    (∀ old, out.find? (sameId e) = some old → betterB e old = true → aset (leastL out) (idE e) (evV e) = leastL (onceStep out e)) ∧
    (∀ old, out.find? (sameId e) = some old → betterB e old = false → leastL out = leastL (onceStep out e)) := by
  have hf : ∀ (l : List Ev), l.find? (sameId e) = (l.findIdx? (sameId e)).map fun k => l.getD k e := by
    intro l
    induction l with
    | nil => rfl
    | cons x l ih =>
      rw [List.find?_cons, List.findIdx?_cons]
      cases h : sameId e x
      · simp only [cond_false, ih]
        cases l.findIdx? (sameId e) <;> simp
      · simp
  rw [least_set, hf out]
  unfold onceStep
  cases hk : out.findIdx? (sameId e) with
  | none => simp
  | some k =>
    refine ⟨by simp, fun old h1 h2 => ?_, fun old h1 h2 => ?_⟩
    · have h1 : out.getD k e = old := by simpa using h1
      simp only [h1, h2, cond_true]
    · have h1 : out.getD k e = old := by simpa using h1
      simp only [h1, h2, cond_false]
theorem undLeast : Tryd.prog.underlying 38 = some (.map 40 34) := by kernel_rfl

/-- Slices of slices of events. -/
structure SlParts (w : World) (A : Option Addr) (ps : List (List Ev)) : Prop where
  get : ∀ (i : Nat) (l : List Ev), ps[i]? = some l → ∃ a B c, A = some a ∧ w.cell? (a.add (i * 1)) = some (.slice B l.length c) ∧ SlE w B l
theorem SlParts.ext {w w' : World} {A : Option Addr} {ps : List (List Ev)} (h : SlParts w A ps) (hx : Ext w w') : SlParts w' A ps := ⟨fun i l hi => by
  obtain ⟨a, B, c, h1, h2, h3⟩ := h.get i l hi
  exact ⟨a, B, c, h1, hx.cell h2, h3.ext hx⟩⟩
theorem flat_take_succ {α : Type} (ps : List (List α)) (k : Nat) (h : k < ps.length) : (ps.take (k + 1)).flatten = (ps.take k).flatten ++ ps[k] := by
  rw [List.take_succ_eq_append_getElem h, List.flatten_append]; simp
theorem once_app (l : List Ev) (e : Ev) : onceL (l ++ [e]) = onceStep (onceL l) e := by simp [onceL]
end Go.Proofs.YtbfjlpoeglcmfaaDoor
