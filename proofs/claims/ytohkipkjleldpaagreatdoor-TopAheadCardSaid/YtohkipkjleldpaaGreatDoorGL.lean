/- Several texts in one: Pl7, Cu. -/
import Derived.Test.YtohkipkjleldpaaGreatDoorGN
import Derived.Test.YtohkipkjleldpaaGreatDoorGJ
set_option linter.unusedVariables false
set_option linter.unusedSimpArgs false
namespace Go.Proofs.YtohkipkjleldpaaGreatDoor
open Go.Se Go.RowKit
structure Behind (now:Int) (person:ByteArray) (M:List Ev):Prop where
 at_:∀ e∈M,now<e.at_
 worth:∀ e∈M,Qy e≤0
 person:∀ e∈M,e.person≠person
end Go.Proofs.YtohkipkjleldpaaGreatDoor
