import Derived.Test.YtohkipkjleldpaaGreatDoorGR
import Derived.Test.YtohkipkjleldpaaGreatDoorCards
import Derived.Test.YtohkipkjleldpaaGreatDoorHNoGo
/- The law TopAhead: a part of its card. -/
set_option linter.unusedVariables false
set_option linter.unusedSimpArgs false
namespace Go.Proofs.YtohkipkjleldpaaGreatDoor
open Go.ChangeShapes Go.WideShapes Go.ChangeAt Go.RowKit Go.Se
theorem topAhead_main:Tryz.pinned.checked.prog.mainIs=some (Rows.topAheadCard.stood.harness.1,Rows.topAheadCard.stood.harness.2.toList):=by kernel_rfl
theorem topAhead_text:Rows.topAheadRow.wfByText (OpenSpec.ofChange Rows.topAheadSpec)=true:=by kernel_rfl
theorem topAhead_goes:false=Rows.topAheadRow.goesBy Tryz.pinned.checked.prog:=Qzw (Q7q (by kernel_rfl)) _
end Go.Proofs.YtohkipkjleldpaaGreatDoor
