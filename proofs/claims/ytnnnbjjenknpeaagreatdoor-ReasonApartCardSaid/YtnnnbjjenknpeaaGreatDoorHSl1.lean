import Derived.Test.YtnnnbjjenknpeaaGreatDoorGN
import Derived.Test.YtnnnbjjenknpeaaGreatDoorGM
import Derived.Test.YtnnnbjjenknpeaaGreatDoorGK
import Derived.Test.YtnnnbjjenknpeaaGreatDoorGL
/- The laws of the score: what is gone through; somebody new (ScoreStrangers). -/
set_option linter.unusedVariables false
set_option linter.unusedSimpArgs false
namespace Go.Proofs.YtnnnbjjenknpeaaGreatDoor
open Go.Se Go.RowKit
end Go.Proofs.YtnnnbjjenknpeaaGreatDoor
