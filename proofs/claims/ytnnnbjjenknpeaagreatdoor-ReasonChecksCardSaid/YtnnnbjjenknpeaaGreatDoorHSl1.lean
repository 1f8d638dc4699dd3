import Derived.Test.YtnnnbjjenknpeaaGreatDoorGN
import Derived.Test.YtnnnbjjenknpeaaGreatDoorGM
import Derived.Test.YtnnnbjjenknpeaaGreatDoorGK
import Derived.Test.YtnnnbjjenknpeaaGreatDoorGL
/- The laws of the score: what is gone through; somebody new (ScoreStrangers). -/
set_option linter.unusedVariables false
set_option linter.unusedSimpArgs false
namespace Go.Proofs.YtnnnbjjenknpeaaGreatDoor
open Go.Se Go.RowKit
theorem Qtx (c:Cfg) (z:List Ev) (p item:ByteArray) (now:Int) (hp:∀ e ∈ z,peB e = true → e.person ≠ p) (k:Nat) (h:k = 1 ∨ k = 2 ∨ k = 4) : Q36 c z p item now k = 0 := by
 unfold Q36
 rw [Int.toNat_natCast,Qx9 c z p item now hp k h]
 split <;> rfl
end Go.Proofs.YtnnnbjjenknpeaaGreatDoor
