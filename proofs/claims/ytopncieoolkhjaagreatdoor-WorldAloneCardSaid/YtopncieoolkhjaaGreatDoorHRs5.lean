import Derived.Test.YtopncieoolkhjaaGreatDoorHRs2
import Derived.Test.YtopncieoolkhjaaGreatDoorGM
/- The walk of reason.own: liked,maker,own. -/
set_option linter.unusedVariables false
set_option linter.unusedSimpArgs false
namespace Go.Proofs.YtopncieoolkhjaaGreatDoor
open Go.Se Go.RowKit
end Go.Proofs.YtopncieoolkhjaaGreatDoor
