/- Several texts in one: Rf1, Rf2, Rf3. -/
import Derived.Test.YtopncieoolkhjaaGreatDoorGN
import Derived.Test.YtopncieoolkhjaaGreatDoorHSe7
import Derived.Test.YtopncieoolkhjaaGreatDoorHPl8
import Derived.Test.YtopncieoolkhjaaGreatDoorGL
set_option linter.unusedVariables false
set_option linter.unusedSimpArgs false
namespace Go.Proofs.YtopncieoolkhjaaGreatDoor
open Go.Se Go.RowKit
theorem Q6g {e:Ev} (hm:Xy e = true) : peB e = true ↔ e.kind < 11 := by
 have hk := Qns hm
 unfold peB thB
 simp only [Bool.and_eq_true,Bool.not_eq_true',decide_eq_false_iff_not]
 omega
end Go.Proofs.YtopncieoolkhjaaGreatDoor
