
/- Stores into a block. -/
import Derived.Test.YtbfjlpoeglcmfaaDoorLib2
import Derived.Laws.CopyRow
set_option linter.unusedVariables false
set_option linter.unusedSimpArgs false
namespace Go.Proofs.YtbfjlpoeglcmfaaDoor
open Go.Se Go.RowKit

/-- Just the block b has changed. -/
structure Only (w w' : World) (b : Nat) : Prop where
  os : w'.os = w.os
  tape : w'.tape = w.tape
  output : w'.output = w.output
  size : w'.heap.size = w.heap.size
  block : ∀ i, i ≠ b → w'.heap[i]? = w.heap[i]?
theorem Only.mod {w w' : World} {b : Nat} (h : Only w w' b) : Mod (fun k => k = b) w w' := ⟨h.os, h.tape, h.output, by rw [h.size]; exact Nat.le_refl _, fun i _ hn => h.block i hn⟩
theorem Only.ext {w0 w w' : World} {b : Nat} (h : Only w w' b) (hx : Ext w0 w) (hb : w0.heap.size ≤ b) : Ext w0 w' :=
  ⟨h.os.trans hx.os, h.tape.trans hx.tape, h.output.trans hx.output, by rw [h.size]; exact hx.size, fun i hi => (h.block i (by omega)).trans (hx.block i hi)⟩
theorem Only.cells {w w' : World} {b : Nat} (h : Only w w' b) {a : Addr} {cs : List Value} (hc : CellsAt w a cs) (hb : a.block ≠ b) : CellsAt w' a cs := fun j v hj => by
  rw [World.cell?_of_block (w := w) (h.block _ (by rw [add_block]; exact hb))]; exact hc j v hj
theorem Only.at_ {w w' : World} {b : Nat} (h : Only w w' b) {g t : Nat} {l : List Value} (hc : At w g t l) (hb : g ≠ b) : At w' g t l := (h.block g hb).trans hc
theorem Only.sl {α : Type} {enc : α → List Value} {sz : Nat} {w w' : World} {b : Nat} (h : Only w w' b) {A : Option Addr} {l : List α} (hs : Sl enc sz w A l) (hb : ∀ a, A = some a → a.block ≠ b) : Sl enc sz w' A l := fun i x hi => by
  obtain ⟨a, ha, hc⟩ := hs i x hi
  exact ⟨a, ha, h.cells hc (by rw [add_block]; exact hb a ha)⟩

def spl (l : List Value) (off : Nat) (cs : List Value) : List Value := l.take off ++ cs ++ l.drop (off + cs.length)

theorem only_setRow (w : World) (b : Nat) (cs : Array Value) : Only w (w.setRow b cs) b :=
  ⟨rfl, rfl, rfl, by simp [World.setRow], fun i hi => by simp [World.setRow, Array.getElem?_modify, Ne.symm hi]⟩

theorem store_at {P : Program} {T : Tab} (hT : TabOk P T) {t : TypeId} {e : TyE} (ht : tget T t = some e) {w : World} {R : Value → World → Prop} {b tb off : Nat} {l : List Value} {v : Value}
    (h : At w b tb l) (hn : (cellsL v).length = e.size) (hle : off + e.size ≤ l.length) (hone : ∀ u ∈ cellsL v, u.oneCell' = true)
    (hk : ∀ w', At w' b tb (spl l off (cellsL v)) → Only w w' b → R undef w') : RunU P (Instr.storeAt t (.pointer (some ⟨b, off, none⟩)) v) w R := by
  have hst := run_storeCells_at P b off tb (cellsL v) 0 l.toArray w h (by simp; omega) hone
  have hvs : v.cells.size = e.size := by rw [← hn, ← cellsL_eq]; simp
  refine ⟨w.setRow b (spl l off (cellsL v)).toArray, ?_, hk _ ?_ (only_setRow w b _)⟩
  · simp [Instr.storeAt, Instr.sureAddr, storeVar, ty_sizeOf (hT.get ht), hvs, cellsL_eq]
    simpa [spl] using hst
  · have := setRow_heap w b l.toArray (spl l off (cellsL v)).toArray tb (0, 0) h
    simpa [At, spl] using this

theorem sl_new {α : Type} {enc : α → List Value} {sz : Nat} (hsz : ∀ x, (enc x).length = sz) {w w1 : World} {b t : Nat} {l : List α} (h : New w w1 b (.cells (l.flatMap enc).toArray t)) : Sl enc sz w1 (some ⟨b, 0, none⟩) l := by
  intro i x hi
  refine ⟨_, rfl, fun j v hj => ?_⟩
  have hjl : j < sz := by rw [← hsz x]; exact (List.getElem?_eq_some_iff.1 hj).1
  rw [add_add_addr, add_zero_addr, h.At.cell, flat_get hsz l i j x hi hjl, hj]
end Go.Proofs.YtbfjlpoeglcmfaaDoor
