import Derived.Test.YtagijlhciclafaaGreatDoorHJf
/- The facts of the law RoadOne's row,each by itself. -/
set_option linter.unusedVariables false
set_option linter.unusedSimpArgs false
namespace Go.Proofs.YtagijlhciclafaaGreatDoor
open Go.ChangeShapes Go.WideShapes Go.ChangeAt Go.RowKit Go.Se
theorem roadOne_j1:Rows.roadOneRow.wf (OpenSpec.ofChange (OpenSpec.ofChange Rows.roadOneSpec).bare)=true:=by kernel_rfl
theorem roadOne_j4:Tryz.f3.params.all (Tryz.pinned.checked.prog.readableRec ·)=true:=by kernel_rfl
theorem roadOne_j5:namedTie Tryz.pinned.checked.prog Rows.roadOneRow.named (OpenSpec.ofChange Rows.roadOneSpec).bare.vars=true:=by kernel_rfl
theorem roadOne_j6:(Rows.roadOneRow.stops == [])=true:=by kernel_rfl
theorem roadOne_j8:(Rows.roadOneRow.knobs == [])=true:=by kernel_rfl
theorem roadOne_j10:(Rows.roadOneRow.inPlace == Tryz.pinned.checked.prog.inPlace 3)=true:=by kernel_rfl
theorem roadOne_j11:(Rows.roadOneRow.unfollowed == Tryz.pinned.checked.prog.unfollowed 3)=true:=by kernel_rfl
theorem roadOne_j12:(Rows.roadOneRow.recurses == Tryz.pinned.checked.prog.recurses 3)=true:=by kernel_rfl
theorem roadOne_j13:(Rows.roadOneRow.named == Tryz.pinned.checked.prog.varsNamed 3)=true:=by kernel_rfl
theorem roadOne_j14:(Rows.roadOneRow.maps == (Tryz.f3.params.toList++(OpenSpec.ofChange Rows.roadOneSpec).bare.plain.varTypes Tryz.pinned.checked.prog).any (Tryz.pinned.checked.prog.mapsRec ·))=true:=by kernel_rfl
theorem roadOne_j15:(Rows.roadOneRow.ifaces == (Tryz.f3.params.toList++(OpenSpec.ofChange Rows.roadOneSpec).bare.plain.varTypes Tryz.pinned.checked.prog).any (Tryz.pinned.checked.prog.ifacesRec ·))=true:=by kernel_rfl
theorem roadOne_j16:(Rows.roadOneRow.mapsOut == Tryz.pinned.checked.prog.mapsAmong Tryz.f3.resultTypes.toList)=true:=by kernel_rfl
theorem roadOne_j17:(Rows.roadOneRow.loops == (Tryz.f3.params.toList++(OpenSpec.ofChange Rows.roadOneSpec).bare.plain.varTypes Tryz.pinned.checked.prog).any (Tryz.pinned.checked.prog.loopsFrom ·))=true:=by kernel_rfl
theorem roadOne_j18:(Rows.roadOneRow.wideKeys == (Tryz.f3.params.toList++(OpenSpec.ofChange Rows.roadOneSpec).bare.plain.varTypes Tryz.pinned.checked.prog++Tryz.f3.resultTypes.toList).any (Tryz.pinned.checked.prog.wideKeysFrom ·))=true:=by kernel_rfl
theorem roadOne_j19:(OpenSpec.ofChange Rows.roadOneSpec).bare.vars.all (Tryz.pinned.checked.prog.varReadable ·)=true:=by kernel_rfl
theorem roadOne_j20:Tryz.f3.resultTypes.all (fun t=>Tryz.pinned.checked.prog.readableRec t&&decide (t<Tryz.pinned.checked.prog.types.size))=true:=by kernel_rfl
theorem roadOne_j21:(Rows.roadOneRow.ifacesOut == Tryz.f3.resultTypes.toList.any (Tryz.pinned.checked.prog.ifacesRec ·))=true:=by kernel_rfl
theorem roadOne_j22:(Rows.roadOneRow.loopsOut == Tryz.f3.resultTypes.toList.any (Tryz.pinned.checked.prog.loopsFrom ·))=true:=by kernel_rfl
theorem roadOne_j23:(Rows.roadOneRow.plainKeys == Tryz.pinned.checked.prog.plainKeys)=true:=by kernel_rfl
theorem roadOne_j24:Rows.roadOneRow.shortTexts.isNone=true:=by kernel_rfl
theorem roadOne_j27:(Rows.roadOneRow.lifted == Tryz.pinned.checked.prog.liftsFinal)=true:=by kernel_rfl
theorem roadOne_j28:(Tryz.pinned.checked.prog.make == some Rows.roadOneRow.make)=true:=by kernel_rfl
theorem roadOne_j29:(Rows.roadOneRow.kinds == (if Rows.roadOneRow.domain.isEmpty then [] else Tryz.f3.params.toList.map fun t=>match Tryz.pinned.checked.prog.underlying t with | some (.int k)=>some k | _=>none))=true:=by kernel_rfl
theorem roadOne_j30:(Rows.roadOneRow.pinned == Rows.roadOneRow.pinnedBy)=true:=by kernel_rfl
theorem roadOne_j31:(Rows.roadOneRow.veiled == (Tryz.f3.params.toList++(OpenSpec.ofChange Rows.roadOneSpec).bare.plain.varTypes Tryz.pinned.checked.prog++Tryz.f3.resultTypes.toList).any (Tryz.pinned.checked.prog.veiledRec ·))=true:=by kernel_rfl
theorem roadOne_j32:Rows.roadOneRow.veiledFits Tryz.pinned.checked.prog Tryz.f3.params.toList (Tryz.f3.params.toList++(OpenSpec.ofChange Rows.roadOneSpec).bare.plain.varTypes Tryz.pinned.checked.prog++Tryz.f3.resultTypes.toList)=true:=by kernel_rfl
end Go.Proofs.YtagijlhciclafaaGreatDoor
