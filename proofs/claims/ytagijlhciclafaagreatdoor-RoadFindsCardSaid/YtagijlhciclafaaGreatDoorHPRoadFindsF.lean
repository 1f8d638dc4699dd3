import Derived.Test.YtagijlhciclafaaGreatDoorHJf
/- The facts of the law RoadFinds's row,each by itself. -/
set_option linter.unusedVariables false
set_option linter.unusedSimpArgs false
namespace Go.Proofs.YtagijlhciclafaaGreatDoor
open Go.ChangeShapes Go.WideShapes Go.ChangeAt Go.RowKit Go.Se
theorem roadFinds_j1:Rows.roadFindsRow.wf (OpenSpec.ofChange (OpenSpec.ofChange Rows.roadFindsSpec).bare)=true:=by kernel_rfl
theorem roadFinds_j4:Tryz.f4.params.all (Tryz.pinned.checked.prog.readableRec ·)=true:=by kernel_rfl
theorem roadFinds_j5:namedTie Tryz.pinned.checked.prog Rows.roadFindsRow.named (OpenSpec.ofChange Rows.roadFindsSpec).bare.vars=true:=by kernel_rfl
theorem roadFinds_j6:(Rows.roadFindsRow.stops == [])=true:=by kernel_rfl
theorem roadFinds_j8:(Rows.roadFindsRow.knobs == [])=true:=by kernel_rfl
theorem roadFinds_j10:(Rows.roadFindsRow.inPlace == Tryz.pinned.checked.prog.inPlace 4)=true:=by kernel_rfl
theorem roadFinds_j11:(Rows.roadFindsRow.unfollowed == Tryz.pinned.checked.prog.unfollowed 4)=true:=by kernel_rfl
theorem roadFinds_j12:(Rows.roadFindsRow.recurses == Tryz.pinned.checked.prog.recurses 4)=true:=by kernel_rfl
theorem roadFinds_j13:(Rows.roadFindsRow.named == Tryz.pinned.checked.prog.varsNamed 4)=true:=by kernel_rfl
theorem roadFinds_j14:(Rows.roadFindsRow.maps == (Tryz.f4.params.toList++(OpenSpec.ofChange Rows.roadFindsSpec).bare.plain.varTypes Tryz.pinned.checked.prog).any (Tryz.pinned.checked.prog.mapsRec ·))=true:=by kernel_rfl
theorem roadFinds_j15:(Rows.roadFindsRow.ifaces == (Tryz.f4.params.toList++(OpenSpec.ofChange Rows.roadFindsSpec).bare.plain.varTypes Tryz.pinned.checked.prog).any (Tryz.pinned.checked.prog.ifacesRec ·))=true:=by kernel_rfl
theorem roadFinds_j16:(Rows.roadFindsRow.mapsOut == Tryz.pinned.checked.prog.mapsAmong Tryz.f4.resultTypes.toList)=true:=by kernel_rfl
theorem roadFinds_j17:(Rows.roadFindsRow.loops == (Tryz.f4.params.toList++(OpenSpec.ofChange Rows.roadFindsSpec).bare.plain.varTypes Tryz.pinned.checked.prog).any (Tryz.pinned.checked.prog.loopsFrom ·))=true:=by kernel_rfl
theorem roadFinds_j18:(Rows.roadFindsRow.wideKeys == (Tryz.f4.params.toList++(OpenSpec.ofChange Rows.roadFindsSpec).bare.plain.varTypes Tryz.pinned.checked.prog++Tryz.f4.resultTypes.toList).any (Tryz.pinned.checked.prog.wideKeysFrom ·))=true:=by kernel_rfl
theorem roadFinds_j19:(OpenSpec.ofChange Rows.roadFindsSpec).bare.vars.all (Tryz.pinned.checked.prog.varReadable ·)=true:=by kernel_rfl
theorem roadFinds_j20:Tryz.f4.resultTypes.all (fun t=>Tryz.pinned.checked.prog.readableRec t&&decide (t<Tryz.pinned.checked.prog.types.size))=true:=by kernel_rfl
theorem roadFinds_j21:(Rows.roadFindsRow.ifacesOut == Tryz.f4.resultTypes.toList.any (Tryz.pinned.checked.prog.ifacesRec ·))=true:=by kernel_rfl
theorem roadFinds_j22:(Rows.roadFindsRow.loopsOut == Tryz.f4.resultTypes.toList.any (Tryz.pinned.checked.prog.loopsFrom ·))=true:=by kernel_rfl
theorem roadFinds_j23:(Rows.roadFindsRow.plainKeys == Tryz.pinned.checked.prog.plainKeys)=true:=by kernel_rfl
theorem roadFinds_j24:Rows.roadFindsRow.shortTexts.isNone=true:=by kernel_rfl
theorem roadFinds_j27:(Rows.roadFindsRow.lifted == Tryz.pinned.checked.prog.liftsFinal)=true:=by kernel_rfl
theorem roadFinds_j28:(Tryz.pinned.checked.prog.make == some Rows.roadFindsRow.make)=true:=by kernel_rfl
theorem roadFinds_j29:(Rows.roadFindsRow.kinds == (if Rows.roadFindsRow.domain.isEmpty then [] else Tryz.f4.params.toList.map fun t=>match Tryz.pinned.checked.prog.underlying t with | some (.int k)=>some k | _=>none))=true:=by kernel_rfl
theorem roadFinds_j30:(Rows.roadFindsRow.pinned == Rows.roadFindsRow.pinnedBy)=true:=by kernel_rfl
theorem roadFinds_j31:(Rows.roadFindsRow.veiled == (Tryz.f4.params.toList++(OpenSpec.ofChange Rows.roadFindsSpec).bare.plain.varTypes Tryz.pinned.checked.prog++Tryz.f4.resultTypes.toList).any (Tryz.pinned.checked.prog.veiledRec ·))=true:=by kernel_rfl
theorem roadFinds_j32:Rows.roadFindsRow.veiledFits Tryz.pinned.checked.prog Tryz.f4.params.toList (Tryz.f4.params.toList++(OpenSpec.ofChange Rows.roadFindsSpec).bare.plain.varTypes Tryz.pinned.checked.prog++Tryz.f4.resultTypes.toList)=true:=by kernel_rfl
end Go.Proofs.YtagijlhciclafaaGreatDoor
