import Derived.Test.YtnnnbjjenknpeaaGreatDoorHRf2
/- The reference's crowd: in,Put,Worth,Weight,Own,Taste; its rows. -/
set_option linter.unusedVariables false
set_option linter.unusedSimpArgs false
namespace Go.Proofs.YtnnnbjjenknpeaaGreatDoor
open Go.Se Go.RowKit
theorem Q7a {e:Ev} (hm:Xm e = true) : peB e = true ↔ e.kind < 11 := by
 have hk := Qn2 hm
 unfold peB thB
 simp only [Bool.and_eq_true,Bool.not_eq_true',decide_eq_false_iff_not]
 omega
end Go.Proofs.YtnnnbjjenknpeaaGreatDoor
