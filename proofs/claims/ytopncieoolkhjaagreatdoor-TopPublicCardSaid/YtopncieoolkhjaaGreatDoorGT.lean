/- Several texts in one: Tx1. -/
import Derived.Test.YtopncieoolkhjaaGreatDoorGI
set_option linter.unusedVariables false
set_option linter.unusedSimpArgs false
namespace Go.Proofs.YtopncieoolkhjaaGreatDoor
open Go.Se Go.RowKit
def rsC (item:ByteArray) (A1:Option Addr) (n1 c1:Nat) (total:Int) (A2:Option Addr) (n2 c2:Nat) (fans:Int) : List Value := [.string item,.slice A1 n1 c1,.int .i64 total,.slice A2 n2 c2,.int .i64 fans]
end Go.Proofs.YtopncieoolkhjaaGreatDoor
