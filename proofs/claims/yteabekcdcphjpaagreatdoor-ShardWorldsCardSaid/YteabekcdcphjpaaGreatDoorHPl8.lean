import Derived.Test.YteabekcdcphjpaaGreatDoorGN
import Derived.Test.YteabekcdcphjpaaGreatDoorGJ
/- What the score's reference adds up,in plain words. -/
set_option linter.unusedVariables false
set_option linter.unusedSimpArgs false
namespace Go.Proofs.YteabekcdcphjpaaGreatDoor
open Go.Se Go.RowKit
structure Q7p (f:ByteArray → Int) (L:List Ct) : Prop where
 nodup : (L.map (·.1)).Nodup
 mem : ∀ x ∈ L,x.2 = f x.1 ∧ 0 < x.2
 all : ∀ t,0 < f t → t ∈ L.map (·.1)
theorem Qfl (gap:Int) (L:List Ad3) (a:Ad3) : allL gap (L ++ [a]) = Qaw gap (allL gap L) a := by unfold allL; rw [List.foldl_append]; rfl
end Go.Proofs.YteabekcdcphjpaaGreatDoor
