import Derived.Test.YtpdonaienhociaaGreatDoorGSE
set_option linter.all false
namespace Go.Proofs.YtpdonaienhociaaGreatDoor
open Go.ChangeShapes Go.WideShapes Go.ChangeAt Go.RowKit Go.Se
theorem topReasons_main:Tryz.pinned.checked.prog.mainIs=some (Rows.topReasonsCard.stood.harness.1,Rows.topReasonsCard.stood.harness.2.toList):=by kernel_rfl
theorem topReasons_text:Rows.topReasonsRow.wfByText (OpenSpec.ofChange Rows.topReasonsSpec)=true:=by kernel_rfl
theorem topReasons_goes:false=Rows.topReasonsRow.goesBy Tryz.pinned.checked.prog:=Qqi (Q0u Kr) _
