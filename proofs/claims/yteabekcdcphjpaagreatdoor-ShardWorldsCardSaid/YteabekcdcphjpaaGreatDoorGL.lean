/- Several texts in one: Pl7, Cu. -/
import Derived.Test.YteabekcdcphjpaaGreatDoorGN
import Derived.Test.YteabekcdcphjpaaGreatDoorGJ
set_option linter.unusedVariables false
set_option linter.unusedSimpArgs false
namespace Go.Proofs.YteabekcdcphjpaaGreatDoor
open Go.Se Go.RowKit
structure Behind (now:Int) (person:ByteArray) (M:List Ev) : Prop where
 at_ : ∀ e ∈ M,now < e.at_
 worth : ∀ e ∈ M,Qw e ≤ 0
 person : ∀ e ∈ M,e.person ≠ person
end Go.Proofs.YteabekcdcphjpaaGreatDoor
