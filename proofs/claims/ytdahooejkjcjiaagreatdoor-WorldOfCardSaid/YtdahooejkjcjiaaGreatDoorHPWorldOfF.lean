import Derived.Test.YtdahooejkjcjiaaGreatDoorHJf
/- The facts of the law WorldOf's row,each by itself. -/
set_option linter.unusedVariables false
set_option linter.unusedSimpArgs false
namespace Go.Proofs.YtdahooejkjcjiaaGreatDoor
open Go.ChangeShapes Go.WideShapes Go.ChangeAt Go.RowKit Go.Se
theorem worldOf_j1:Rows.worldOfRow.wf (OpenSpec.ofChange (OpenSpec.ofChange Rows.worldOfSpec).bare)=true:=by kernel_rfl
theorem worldOf_j4:Tryz.f6.params.all (Tryz.pinned.checked.prog.readableRec ·)=true:=by kernel_rfl
theorem worldOf_j5:namedTie Tryz.pinned.checked.prog Rows.worldOfRow.named (OpenSpec.ofChange Rows.worldOfSpec).bare.vars=true:=by kernel_rfl
theorem worldOf_j6:(Rows.worldOfRow.stops == [])=true:=by kernel_rfl
theorem worldOf_j8:(Rows.worldOfRow.knobs == [])=true:=by kernel_rfl
theorem worldOf_j10:(Rows.worldOfRow.inPlace == Tryz.pinned.checked.prog.inPlace 6)=true:=by kernel_rfl
theorem worldOf_j11:(Rows.worldOfRow.unfollowed == Tryz.pinned.checked.prog.unfollowed 6)=true:=by kernel_rfl
theorem worldOf_j12:(Rows.worldOfRow.recurses == Tryz.pinned.checked.prog.recurses 6)=true:=by kernel_rfl
theorem worldOf_j13:(Rows.worldOfRow.named == Tryz.pinned.checked.prog.varsNamed 6)=true:=by kernel_rfl
theorem worldOf_j14:(Rows.worldOfRow.maps == (Tryz.f6.params.toList++(OpenSpec.ofChange Rows.worldOfSpec).bare.plain.varTypes Tryz.pinned.checked.prog).any (Tryz.pinned.checked.prog.mapsRec ·))=true:=by kernel_rfl
theorem worldOf_j15:(Rows.worldOfRow.ifaces == (Tryz.f6.params.toList++(OpenSpec.ofChange Rows.worldOfSpec).bare.plain.varTypes Tryz.pinned.checked.prog).any (Tryz.pinned.checked.prog.ifacesRec ·))=true:=by kernel_rfl
theorem worldOf_j16:(Rows.worldOfRow.mapsOut == Tryz.pinned.checked.prog.mapsAmong Tryz.f6.resultTypes.toList)=true:=by kernel_rfl
theorem worldOf_j17:(Rows.worldOfRow.loops == (Tryz.f6.params.toList++(OpenSpec.ofChange Rows.worldOfSpec).bare.plain.varTypes Tryz.pinned.checked.prog).any (Tryz.pinned.checked.prog.loopsFrom ·))=true:=by kernel_rfl
theorem worldOf_j18:(Rows.worldOfRow.wideKeys == (Tryz.f6.params.toList++(OpenSpec.ofChange Rows.worldOfSpec).bare.plain.varTypes Tryz.pinned.checked.prog++Tryz.f6.resultTypes.toList).any (Tryz.pinned.checked.prog.wideKeysFrom ·))=true:=by kernel_rfl
theorem worldOf_j19:(OpenSpec.ofChange Rows.worldOfSpec).bare.vars.all (Tryz.pinned.checked.prog.varReadable ·)=true:=by kernel_rfl
theorem worldOf_j20:Tryz.f6.resultTypes.all (fun t=>Tryz.pinned.checked.prog.readableRec t&&decide (t<Tryz.pinned.checked.prog.types.size))=true:=by kernel_rfl
theorem worldOf_j21:(Rows.worldOfRow.ifacesOut == Tryz.f6.resultTypes.toList.any (Tryz.pinned.checked.prog.ifacesRec ·))=true:=by kernel_rfl
theorem worldOf_j22:(Rows.worldOfRow.loopsOut == Tryz.f6.resultTypes.toList.any (Tryz.pinned.checked.prog.loopsFrom ·))=true:=by kernel_rfl
theorem worldOf_j23:(Rows.worldOfRow.plainKeys == Tryz.pinned.checked.prog.plainKeys)=true:=by kernel_rfl
theorem worldOf_j24:Rows.worldOfRow.shortTexts.isNone=true:=by kernel_rfl
theorem worldOf_j27:(Rows.worldOfRow.lifted == Tryz.pinned.checked.prog.liftsFinal)=true:=by kernel_rfl
theorem worldOf_j28:(Tryz.pinned.checked.prog.make == some Rows.worldOfRow.make)=true:=by kernel_rfl
theorem worldOf_j29:(Rows.worldOfRow.kinds == (if Rows.worldOfRow.domain.isEmpty then [] else Tryz.f6.params.toList.map fun t=>match Tryz.pinned.checked.prog.underlying t with | some (.int k)=>some k | _=>none))=true:=by kernel_rfl
theorem worldOf_j30:(Rows.worldOfRow.pinned == Rows.worldOfRow.pinnedBy)=true:=by kernel_rfl
theorem worldOf_j31:(Rows.worldOfRow.veiled == (Tryz.f6.params.toList++(OpenSpec.ofChange Rows.worldOfSpec).bare.plain.varTypes Tryz.pinned.checked.prog++Tryz.f6.resultTypes.toList).any (Tryz.pinned.checked.prog.veiledRec ·))=true:=by kernel_rfl
theorem worldOf_j32:Rows.worldOfRow.veiledFits Tryz.pinned.checked.prog Tryz.f6.params.toList (Tryz.f6.params.toList++(OpenSpec.ofChange Rows.worldOfSpec).bare.plain.varTypes Tryz.pinned.checked.prog++Tryz.f6.resultTypes.toList)=true:=by kernel_rfl
end Go.Proofs.YtdahooejkjcjiaaGreatDoor
