import Derived.Sort.Grow
import Derived.Deep.Draws
import Derived.Test.YtoancknoinilaaaGreatDoorGF

/- Worlds by draws and new blocks alone. -/
set_option linter.unusedVariables false
set_option linter.unusedSimpArgs false
namespace Go.Proofs.YtoancknoinilaaaGreatDoor
open Go.Se Go.RowKit Go.Sort

/-- A world that a call makes by draws and new blocks alone. -/
def Gr (w w' : World) : Prop := ∃ q os, w' = grow (w.drewN q) os
theorem Gr.refl (w : World) : Gr w w := ⟨0, #[], by simp [grow, World.drewN]⟩
theorem Gr.trans {a b c : World} (h : Gr a b) (k : Gr b c) : Gr a c := by
  obtain ⟨q, os, rfl⟩ := h
  obtain ⟨q', os', rfl⟩ := k
  exact ⟨q + q', os ++ os', by simp [grow, World.drewN, Nat.add_assoc, Array.append_assoc]⟩
theorem Gr.drew (w : World) : Gr w w.drew := ⟨1, #[], by rw [grow_empty]; rfl⟩
theorem new_gr {w w1 : World} {b : Nat} {o : Obj} (h : New w w1 b o) : Gr w w1 := ⟨0, #[o], by rw [h.world]; unfold grow; rw [← Array.push_eq_append]; rfl⟩
theorem Gr.ext {w w' : World} (h : Gr w w') : Ext w w' := by
  obtain ⟨q, os, rfl⟩ := h
  have h1 : Ext w (w.drewN q) := ⟨rfl, rfl, rfl, Nat.le_refl _, fun _ _ => rfl⟩
  exact h1.trans (ext_grow _ os)
theorem arr_index1 {P : Program} {cl : Cl} {w : World} {t e len : Nat} {cs : Array Value} {k : IntKind} {j : Nat} {v : Value} (ht : P.underlying t = some (.array len e)) (ha : ∀ w, (isAgg e).run P w = .ok false w) (hz : ∀ w, (Go.sizeOf e).run P w = .ok 1 w) (hj : j < len) (hv : cs[j]? = some v) : RdS P cl w (Instr.index t (.agg cs) (.int k (j : Nat))) v := fun w' _ => by
  have h1 : (j : Int) < len := by omega
  simp [Instr.index, asIntOf, run_underlying ht, hz, part, ha, hv, h1]
  intro h2
  omega
end Go.Proofs.YtoancknoinilaaaGreatDoor
