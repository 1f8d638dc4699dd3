import Derived.Test.YtopncieoolkhjaaGreatDoorHRs6
import Derived.Test.YtopncieoolkhjaaGreatDoorHSl3
import Derived.Test.YtopncieoolkhjaaGreatDoorGT
/- The walk of reason.Of; the laws' beginnings. -/
set_option linter.unusedVariables false
set_option linter.unusedSimpArgs false
namespace Go.Proofs.YtopncieoolkhjaaGreatDoor
open Go.Se Go.RowKit
def Q01 (rs:List Row) (item:ByteArray) : Int := (Qd (Xg rs).fans item).getD 0
theorem Q46 : Tryz.prog.underlying 135 = some (.map 9 3) := by kernel_rfl
theorem Qx3 (w:World) (S:Nat → Prop) (p:Nat) (half:Int) (rs:List Row) (h:Qbk w S p half rs) (item:ByteArray) :
 Cal Tryz.prog 23 [.pointer (some ⟨p,0,none⟩),.string item] w fun r w' => r = .int .i64 (Q01 rs item) ∧ w' = w := by
 obtain ⟨bp,b,D,L,R,Tg,h⟩ := h
 have hl := Qai Q46 (Qu Xm) (e := ty3) ty3_ok (cl := .same) Qr h.maps.fans item
 have hl : RdS Tryz.prog .same w (Instr.lookup 135 (.map (some b.fans)) (.string item) false) (.int .i64 (Q01 rs item)) := by
  rw [show ty3.zero = vi 0 from rfl,Qac] at hl
  exact hl
 refine Fi Tryz.func23 rfl _ rfl rfl ?_;conv=>whnf
 refine ⟨.map (some b.fans),h.head.one rfl,?_⟩;conv=>whnf
 refine ⟨_,hl,?_⟩;conv=>whnf
 exact ⟨rfl,rfl⟩
end Go.Proofs.YtopncieoolkhjaaGreatDoor
