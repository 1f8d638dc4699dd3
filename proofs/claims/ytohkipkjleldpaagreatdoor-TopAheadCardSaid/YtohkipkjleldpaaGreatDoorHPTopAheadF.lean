import Derived.Test.YtohkipkjleldpaaGreatDoorHJf
/- The facts of the law TopAhead's row,each by itself. -/
set_option linter.unusedVariables false
set_option linter.unusedSimpArgs false
namespace Go.Proofs.YtohkipkjleldpaaGreatDoor
open Go.ChangeShapes Go.WideShapes Go.ChangeAt Go.RowKit Go.Se
theorem topAhead_j1:Rows.topAheadRow.wf (OpenSpec.ofChange (OpenSpec.ofChange Rows.topAheadSpec).bare)=true:=by kernel_rfl
theorem topAhead_j4:Tryz.f3.params.all (Tryz.pinned.checked.prog.readableRec ·)=true:=by kernel_rfl
theorem topAhead_j5:namedTie Tryz.pinned.checked.prog Rows.topAheadRow.named (OpenSpec.ofChange Rows.topAheadSpec).bare.vars=true:=by kernel_rfl
theorem topAhead_j6:(Rows.topAheadRow.stops == [])=true:=by kernel_rfl
theorem topAhead_j8:(Rows.topAheadRow.knobs == [])=true:=by kernel_rfl
theorem topAhead_j10:(Rows.topAheadRow.inPlace == Tryz.pinned.checked.prog.inPlace 3)=true:=by kernel_rfl
theorem topAhead_j11:(Rows.topAheadRow.unfollowed == Tryz.pinned.checked.prog.unfollowed 3)=true:=by kernel_rfl
theorem topAhead_j12:(Rows.topAheadRow.recurses == Tryz.pinned.checked.prog.recurses 3)=true:=by kernel_rfl
theorem topAhead_j13:(Rows.topAheadRow.named == Tryz.pinned.checked.prog.varsNamed 3)=true:=by kernel_rfl
theorem topAhead_j14:(Rows.topAheadRow.maps == (Tryz.f3.params.toList++(OpenSpec.ofChange Rows.topAheadSpec).bare.plain.varTypes Tryz.pinned.checked.prog).any (Tryz.pinned.checked.prog.mapsRec ·))=true:=by kernel_rfl
theorem topAhead_j15:(Rows.topAheadRow.ifaces == (Tryz.f3.params.toList++(OpenSpec.ofChange Rows.topAheadSpec).bare.plain.varTypes Tryz.pinned.checked.prog).any (Tryz.pinned.checked.prog.ifacesRec ·))=true:=by kernel_rfl
theorem topAhead_j16:(Rows.topAheadRow.mapsOut == Tryz.pinned.checked.prog.mapsAmong Tryz.f3.resultTypes.toList)=true:=by kernel_rfl
theorem topAhead_j17:(Rows.topAheadRow.loops == (Tryz.f3.params.toList++(OpenSpec.ofChange Rows.topAheadSpec).bare.plain.varTypes Tryz.pinned.checked.prog).any (Tryz.pinned.checked.prog.loopsFrom ·))=true:=by kernel_rfl
theorem topAhead_j18:(Rows.topAheadRow.wideKeys == (Tryz.f3.params.toList++(OpenSpec.ofChange Rows.topAheadSpec).bare.plain.varTypes Tryz.pinned.checked.prog++Tryz.f3.resultTypes.toList).any (Tryz.pinned.checked.prog.wideKeysFrom ·))=true:=by kernel_rfl
theorem topAhead_j19:(OpenSpec.ofChange Rows.topAheadSpec).bare.vars.all (Tryz.pinned.checked.prog.varReadable ·)=true:=by kernel_rfl
theorem topAhead_j20:Tryz.f3.resultTypes.all (fun t=>Tryz.pinned.checked.prog.readableRec t&&decide (t<Tryz.pinned.checked.prog.types.size))=true:=by kernel_rfl
theorem topAhead_j21:(Rows.topAheadRow.ifacesOut == Tryz.f3.resultTypes.toList.any (Tryz.pinned.checked.prog.ifacesRec ·))=true:=by kernel_rfl
theorem topAhead_j22:(Rows.topAheadRow.loopsOut == Tryz.f3.resultTypes.toList.any (Tryz.pinned.checked.prog.loopsFrom ·))=true:=by kernel_rfl
theorem topAhead_j23:(Rows.topAheadRow.plainKeys == Tryz.pinned.checked.prog.plainKeys)=true:=by kernel_rfl
theorem topAhead_j24:Rows.topAheadRow.shortTexts.isNone=true:=by kernel_rfl
theorem topAhead_j27:(Rows.topAheadRow.lifted == Tryz.pinned.checked.prog.liftsFinal)=true:=by kernel_rfl
theorem topAhead_j28:(Tryz.pinned.checked.prog.make == some Rows.topAheadRow.make)=true:=by kernel_rfl
theorem topAhead_j29:(Rows.topAheadRow.kinds == (if Rows.topAheadRow.domain.isEmpty then [] else Tryz.f3.params.toList.map fun t=>match Tryz.pinned.checked.prog.underlying t with | some (.int k)=>some k | _=>none))=true:=by kernel_rfl
theorem topAhead_j30:(Rows.topAheadRow.pinned == Rows.topAheadRow.pinnedBy)=true:=by kernel_rfl
theorem topAhead_j31:(Rows.topAheadRow.veiled == (Tryz.f3.params.toList++(OpenSpec.ofChange Rows.topAheadSpec).bare.plain.varTypes Tryz.pinned.checked.prog++Tryz.f3.resultTypes.toList).any (Tryz.pinned.checked.prog.veiledRec ·))=true:=by kernel_rfl
theorem topAhead_j32:Rows.topAheadRow.veiledFits Tryz.pinned.checked.prog Tryz.f3.params.toList (Tryz.f3.params.toList++(OpenSpec.ofChange Rows.topAheadSpec).bare.plain.varTypes Tryz.pinned.checked.prog++Tryz.f3.resultTypes.toList)=true:=by kernel_rfl
end Go.Proofs.YtohkipkjleldpaaGreatDoor
