/- Several texts in one: Pl7. -/
import Derived.Test.YtagijlhciclafaaGreatDoorGN
import Derived.Test.YtagijlhciclafaaGreatDoorGJ
set_option linter.unusedVariables false
set_option linter.unusedSimpArgs false
namespace Go.Proofs.YtagijlhciclafaaGreatDoor
open Go.Se Go.RowKit
structure Behind (now:Int) (person:ByteArray) (M:List Ev):Prop where
 at_:∀ e∈M,now<e.at_
 worth:∀ e∈M,worthE e≤0
 person:∀ e∈M,e.person≠person
end Go.Proofs.YtagijlhciclafaaGreatDoor
