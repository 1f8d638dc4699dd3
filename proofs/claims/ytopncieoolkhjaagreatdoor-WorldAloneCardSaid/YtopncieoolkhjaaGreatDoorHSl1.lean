import Derived.Test.YtopncieoolkhjaaGreatDoorGN
import Derived.Test.YtopncieoolkhjaaGreatDoorGM
import Derived.Test.YtopncieoolkhjaaGreatDoorGK
import Derived.Test.YtopncieoolkhjaaGreatDoorGL
/- The laws of the score: what is gone through; somebody new (ScoreStrangers). -/
set_option linter.unusedVariables false
set_option linter.unusedSimpArgs false
namespace Go.Proofs.YtopncieoolkhjaaGreatDoor
open Go.Se Go.RowKit
end Go.Proofs.YtopncieoolkhjaaGreatDoor
