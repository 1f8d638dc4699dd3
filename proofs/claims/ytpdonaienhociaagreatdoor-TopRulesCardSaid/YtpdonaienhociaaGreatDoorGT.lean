import Derived.Test.YtpdonaienhociaaGreatDoorGI
set_option linter.all false
namespace Go.Proofs.YtpdonaienhociaaGreatDoor
open Go.Se Go.RowKit
def rsC (item:Bj) (A1:Option Addr) (n1 c1:Nat) (total:Int) (A2:Option Addr) (n2 c2:Nat) (fans:Int):List Value := [.string item,.slice A1 n1 c1,Vj total,.slice A2 n2 c2,Vj fans]
