import Derived.Test.YtopncieoolkhjaaGreatDoorHLr1
import Derived.Test.YtopncieoolkhjaaGreatDoorHRs4
/- The law ReasonWithout. -/
set_option linter.unusedVariables false
set_option linter.unusedSimpArgs false
namespace Go.Proofs.YtopncieoolkhjaaGreatDoor
open Go.Se Go.RowKit
theorem Q6r : Tryz.prog.underlying 42 = some (.map 49 4) := by kernel_rfl
theorem Q3d : Qq5 Tryz.prog 49 evV :=
 Qfz (encl := evC) Qa st49 (fun k => rfl)
  (fun a b => by
   show some (decide (a.src = b.src) && (decide (a.num = b.num) && (decide (a.at_ = b.at_) && (decide (a.kind = b.kind) && (decide (a.person = b.person) && (decide (a.item = b.item) && (decide (a.val = b.val) && (decide (a.text = b.text) && true)))))))) = some (decide (a = b))
   congr 1
   rw [Bool.eq_iff_iff]
   simp only [Bool.and_eq_true,decide_eq_true_eq,Ev.ext_iff,and_true])
  (fun k => by simp [Instr.sameBits,evC,Go.MapKept.bytes_beq])
def Qjr (w:World) (b:Nat) (O:List Ev) : Prop := ∃ L,MapAt w b evV L ∧ ∀ x,Qe L x = if x ∈ O then some (.bool true) else none
theorem Qjr.keep {w w1:World} {b:Nat} {O:List Ev} (h:Qjr w b O) (hk:w1.heap[b]? = w.heap[b]?) : Qjr w1 b O := by
 obtain ⟨L,h1,h2⟩ := h
 exact ⟨L,h1.keep hk,h2⟩
theorem Qjr.lt {w:World} {b:Nat} {O:List Ev} (h:Qjr w b O) : b < w.heap.size := by
 obtain ⟨L,h1,h2⟩ := h
 exact h1.lt
theorem Qjr.ext {w w1:World} {b:Nat} {O:List Ev} (h:Qjr w b O) (hx:Ext w w1) : Qjr w1 b O := h.keep (hx.block b h.lt)
theorem Qvv {w:World} {b:Nat} {O:List Ev} (h:Qjr w b O) (x:Ev) : RdS Tryz.prog .same w (Instr.lookup 42 (.map (some b)) (evV x) false) (.bool (decide (x ∈ O))) := by
 obtain ⟨L,h1,h2⟩ := h
 have := Qac Q6r Q3d (e := ty4) ty4_ok (cl := .same) Qo h1 x
 rw [h2 x] at this
 by_cases hx : x ∈ O
 · rw [if_pos hx] at this
   rw [decide_eq_true hx]
   exact this
 · rw [if_neg hx] at this
   rw [decide_eq_false hx]
   exact this
theorem Qzs {c:Cfg} {z:List Ev} (person item:ByteArray) (now:Int) (hr:Rise z) (hm:∀ e ∈ z,Xy e = true) (k:Nat) (hk:k = 1 ∨ k = 2 ∨ k = 4) : Q4x c (z.filter fun e => !decide (e ∈ Qn2 c z person item now)) person item now k = 0 := by
 have h := Q2h (c := c) (person := person) (item := item) (now := now) hr hm (by unfold Qrw; omega) k hk
 unfold Qga at h
 unfold Q4x
 rw [Int.toNat_natCast,h]
 split <;> rfl
end Go.Proofs.YtopncieoolkhjaaGreatDoor
