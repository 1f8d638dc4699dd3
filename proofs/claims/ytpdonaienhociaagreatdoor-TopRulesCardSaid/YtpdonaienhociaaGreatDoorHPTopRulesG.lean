import Derived.Test.YtpdonaienhociaaGreatDoorGSE
set_option linter.all false
namespace Go.Proofs.YtpdonaienhociaaGreatDoor
open Go.ChangeShapes Go.WideShapes Go.ChangeAt Go.RowKit Go.Se
theorem topRules_main:Tryz.pinned.checked.prog.mainIs=some (Rows.topRulesCard.stood.harness.1,Rows.topRulesCard.stood.harness.2.toList):=by kernel_rfl
theorem topRules_text:Rows.topRulesRow.wfByText (OpenSpec.ofChange Rows.topRulesSpec)=true:=by kernel_rfl
theorem topRules_goes:false=Rows.topRulesRow.goesBy Tryz.pinned.checked.prog:=Qqi (Q0u Kr) _
