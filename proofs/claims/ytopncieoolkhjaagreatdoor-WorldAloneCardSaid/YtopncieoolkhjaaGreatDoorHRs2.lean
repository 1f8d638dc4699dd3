import Derived.Test.YtopncieoolkhjaaGreatDoorGO
import Derived.Test.YtopncieoolkhjaaGreatDoorHSe8
import Derived.Test.YtopncieoolkhjaaGreatDoorHRsC
import Derived.Test.YtopncieoolkhjaaGreatDoorGL
import Derived.Test.YtopncieoolkhjaaGreatDoorHPl8
/- The walk of reason.own: Events,applied,liked,maker. -/
set_option linter.unusedVariables false
set_option linter.unusedSimpArgs false
namespace Go.Proofs.YtopncieoolkhjaaGreatDoor
open Go.Se Go.RowKit
end Go.Proofs.YtopncieoolkhjaaGreatDoor
