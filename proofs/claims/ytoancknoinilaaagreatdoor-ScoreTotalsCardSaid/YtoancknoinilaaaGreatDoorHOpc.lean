import Derived.Test.YtoancknoinilaaaGreatDoorHSc5
import Derived.Test.YtoancknoinilaaaGreatDoorGR

/- Opening configs, and slices of parts. -/
set_option linter.unusedVariables false
set_option linter.unusedSimpArgs false
namespace Go.Proofs.YtoancknoinilaaaGreatDoor
open Go.ChangeShapes Go.WideShapes Go.ChangeAt Go.RowKit Go.Deep Go.Se

set_option maxRecDepth 100000 in
theorem open_cfg {H : Type} {enc : TypeId × Value → H} {W : World} {b0 : Nat} {r : Reach} {v : Value} {d : DataW H} {p : List MemPlace} (hval : Value.okWide Tryz.prog W r b0 23 v)
    (h : DataW.Trod enc Tryz.prog W 0 (fun _ => true) true 23 v d p) : ∃ c : Cfg, v = cfgV c := by
  have hs := st23
  have hsize : (Tryz.prog.fieldsOf 23).size = 6 := by
    have := congrArg List.length hs.fields
    simpa [flOf] using this
  obtain ⟨ns, hl, rfl, _⟩ := open_ints hs.und (by kernel_rfl) (by rw [hsize]; kernel_rfl) (by kernel_rfl) hval h
  rw [hsize] at hl
  match ns, hl with
  | [a, b, c, d, e, f], _ => exact ⟨⟨a, b, c, d, e, f⟩, rfl⟩
set_option maxRecDepth 100000 in
theorem open_parts {H : Type} {enc : TypeId × Value → H} {W : World} {b0 : Nat} {r : Reach} {v : Value} {d : DataW H} {p : List MemPlace} (hval : Value.okWide Tryz.prog W r b0 38 v)
    (h : DataW.Trod enc Tryz.prog W 0 (fun _ => true) true 38 v d p) : ∃ (A : Option Addr) (c : Nat) (l : List Pt), v = .slice A l.length c ∧ l.length ≤ c ∧ c ≤ maxLen ∧ Sl ptC 3 W A l ∧ ∀ x ∈ l, i64ok x.1 ∧ i64ok x.2.1 ∧ i64ok x.2.2 := by
  have ht : Tryz.prog.underlying 38 = some (.slice 42) := by kernel_rfl
  have hs := st42
  obtain ⟨A0, n0, c0, rfl⟩ : ∃ A n c, v = .slice A n c := okWide_slice ht hval
  obtain ⟨fuel, hf⟩ := h
  have hsize : (Tryz.prog.fieldsOf 42).size = 3 := by
    have := congrArg List.length hs.fields
    simpa [flOf] using this
  rcases open_slice_fields ht hs.und (by kernel_rfl) (by rw [hsize]; kernel_rfl) hf with ⟨h0, _⟩ | ⟨a, len, cap, m, D, Pl, hcs, _, hlc, hcm, hm, _, hi⟩
  · have e1 : Value.slice A0 n0 c0 = .slice none 0 0 := by simpa [Value.cells] using h0
    injection e1 with e1 e2 e3
    subst e1; subst e2; subst e3
    exact ⟨none, 0, [], rfl, by simp, by simp [maxLen], Sl.nil, by simp⟩
  · have e1 : Value.slice A0 n0 c0 = .slice (some a) len cap := by simpa [Value.cells] using hcs
    injection e1 with e1 e2 e3
    subst e1; subst e2; subst e3
    have hlm : n0 ≤ m := by rw [hm]; split <;> omega
    rw [hsize] at hi
    have hfield : ∀ j nm t off, nth (flOf Tryz.prog 42) j = some (nm, t, off) → ∃ f, (Tryz.prog.fieldsOf 42)[j]? = some f ∧ f.type = t := by
      intro j nm t off hj
      rw [nth_eq] at hj
      unfold flOf at hj
      rw [List.getElem?_map, Array.getElem?_toList] at hj
      cases hg : (Tryz.prog.fieldsOf 42)[j]? with
      | none => rw [hg] at hj; simp at hj
      | some f => rw [hg] at hj; simp at hj; exact ⟨f, rfl, hj.2.1⟩
    have hs3 : Tryz.prog.underlying 2 = some (.int .i64) := by kernel_rfl
    have hs31 : Tryz.prog.underlying 32 = some (.int .i64) := by kernel_rfl
    obtain ⟨l, hl, hp⟩ := list_of (Φ := fun i (e : Pt) => CellsAt W (a.add (i * 3)) (ptC e) ∧ i64ok e.1 ∧ i64ok e.2.1 ∧ i64ok e.2.2) (n := n0) (fun i hin => by
      obtain ⟨ys, n, _, _, hyl, hc⟩ := hi i (by omega)
      have int : ∀ j nm t off, Tryz.prog.underlying t = some (.int .i64) → nth (flOf Tryz.prog 42) j = some (nm, t, off) → ∃ q : Int, W.cell? (a.add (i * 3 + j)) = some (.int .i64 q) ∧ i64ok q := by
        intro j nm t off ht hj
        obtain ⟨f, hf1, hf2⟩ := hfield j nm _ off hj
        obtain ⟨v, y, hcell, _, hy⟩ := hc j f hf1
        rw [hf2] at hy
        obtain ⟨q, hv, _, hwf⟩ := DataW.trod_int ht hy
        obtain rfl : v = .int .i64 q := by simpa using hv
        exact ⟨q, hcell, wf_i64ok hwf⟩
      obtain ⟨s0, c0, o0⟩ := int 0 "What" _ 0 hs31 (by rw [hs.fields]; rfl)
      obtain ⟨s1, c1, o1⟩ := int 1 "Raw" _ 1 hs3 (by rw [hs.fields]; rfl)
      obtain ⟨s2, c2, o2⟩ := int 2 "Points" _ 2 hs3 (by rw [hs.fields]; rfl)
      refine ⟨(s0, s1, s2), fun j v hj => ?_, ⟨o0, o1, o2⟩⟩
      rw [add_add_addr]
      match j, hj with
      | 0, hj => simp [ptC] at hj; rw [← hj]; exact c0
      | 1, hj => simp [ptC] at hj; rw [← hj]; exact c1
      | 2, hj => simp [ptC] at hj; rw [← hj]; exact c2
      | j + 3, hj => simp [ptC] at hj)
    refine ⟨some a, c0, l, by rw [hl], by omega, hcm, fun i x hix => ⟨a, rfl, (hp i x hix).1⟩, fun e he => ?_⟩
    obtain ⟨i, hi', rfl⟩ := List.getElem_of_mem he
    exact (hp i _ (List.getElem?_eq_getElem hi')).2
end Go.Proofs.YtoancknoinilaaaGreatDoor
