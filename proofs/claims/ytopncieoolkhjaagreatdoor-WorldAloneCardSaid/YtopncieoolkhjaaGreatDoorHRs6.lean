import Derived.Test.YtopncieoolkhjaaGreatDoorHRs5
import Derived.Test.YtopncieoolkhjaaGreatDoorHPl8
import Derived.Test.YtopncieoolkhjaaGreatDoorGW
/- The walk of reason.own. -/
set_option linter.unusedVariables false
set_option linter.unusedSimpArgs false
namespace Go.Proofs.YtopncieoolkhjaaGreatDoor
open Go.Se Go.RowKit
end Go.Proofs.YtopncieoolkhjaaGreatDoor
