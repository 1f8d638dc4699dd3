import Derived.Test.YtdahooejkjcjiaaGreatDoorHJf
/- The facts of the law WorldAdds's row,each by itself. -/
set_option linter.unusedVariables false
set_option linter.unusedSimpArgs false
namespace Go.Proofs.YtdahooejkjcjiaaGreatDoor
open Go.ChangeShapes Go.WideShapes Go.ChangeAt Go.RowKit Go.Se
theorem worldAdds_j1:Rows.worldAddsRow.wf (OpenSpec.ofChange (OpenSpec.ofChange Rows.worldAddsSpec).bare)=true:=by kernel_rfl
theorem worldAdds_j4:Tryz.f3.params.all (Tryz.pinned.checked.prog.readableRec ·)=true:=by kernel_rfl
theorem worldAdds_j5:namedTie Tryz.pinned.checked.prog Rows.worldAddsRow.named (OpenSpec.ofChange Rows.worldAddsSpec).bare.vars=true:=by kernel_rfl
theorem worldAdds_j6:(Rows.worldAddsRow.stops == [])=true:=by kernel_rfl
theorem worldAdds_j8:(Rows.worldAddsRow.knobs == [])=true:=by kernel_rfl
theorem worldAdds_j10:(Rows.worldAddsRow.inPlace == Tryz.pinned.checked.prog.inPlace 3)=true:=by kernel_rfl
theorem worldAdds_j11:(Rows.worldAddsRow.unfollowed == Tryz.pinned.checked.prog.unfollowed 3)=true:=by kernel_rfl
theorem worldAdds_j12:(Rows.worldAddsRow.recurses == Tryz.pinned.checked.prog.recurses 3)=true:=by kernel_rfl
theorem worldAdds_j13:(Rows.worldAddsRow.named == Tryz.pinned.checked.prog.varsNamed 3)=true:=by kernel_rfl
theorem worldAdds_j14:(Rows.worldAddsRow.maps == (Tryz.f3.params.toList++(OpenSpec.ofChange Rows.worldAddsSpec).bare.plain.varTypes Tryz.pinned.checked.prog).any (Tryz.pinned.checked.prog.mapsRec ·))=true:=by kernel_rfl
theorem worldAdds_j15:(Rows.worldAddsRow.ifaces == (Tryz.f3.params.toList++(OpenSpec.ofChange Rows.worldAddsSpec).bare.plain.varTypes Tryz.pinned.checked.prog).any (Tryz.pinned.checked.prog.ifacesRec ·))=true:=by kernel_rfl
theorem worldAdds_j16:(Rows.worldAddsRow.mapsOut == Tryz.pinned.checked.prog.mapsAmong Tryz.f3.resultTypes.toList)=true:=by kernel_rfl
theorem worldAdds_j17:(Rows.worldAddsRow.loops == (Tryz.f3.params.toList++(OpenSpec.ofChange Rows.worldAddsSpec).bare.plain.varTypes Tryz.pinned.checked.prog).any (Tryz.pinned.checked.prog.loopsFrom ·))=true:=by kernel_rfl
theorem worldAdds_j18:(Rows.worldAddsRow.wideKeys == (Tryz.f3.params.toList++(OpenSpec.ofChange Rows.worldAddsSpec).bare.plain.varTypes Tryz.pinned.checked.prog++Tryz.f3.resultTypes.toList).any (Tryz.pinned.checked.prog.wideKeysFrom ·))=true:=by kernel_rfl
theorem worldAdds_j19:(OpenSpec.ofChange Rows.worldAddsSpec).bare.vars.all (Tryz.pinned.checked.prog.varReadable ·)=true:=by kernel_rfl
theorem worldAdds_j20:Tryz.f3.resultTypes.all (fun t=>Tryz.pinned.checked.prog.readableRec t&&decide (t<Tryz.pinned.checked.prog.types.size))=true:=by kernel_rfl
theorem worldAdds_j21:(Rows.worldAddsRow.ifacesOut == Tryz.f3.resultTypes.toList.any (Tryz.pinned.checked.prog.ifacesRec ·))=true:=by kernel_rfl
theorem worldAdds_j22:(Rows.worldAddsRow.loopsOut == Tryz.f3.resultTypes.toList.any (Tryz.pinned.checked.prog.loopsFrom ·))=true:=by kernel_rfl
theorem worldAdds_j23:(Rows.worldAddsRow.plainKeys == Tryz.pinned.checked.prog.plainKeys)=true:=by kernel_rfl
theorem worldAdds_j24:Rows.worldAddsRow.shortTexts.isNone=true:=by kernel_rfl
theorem worldAdds_j27:(Rows.worldAddsRow.lifted == Tryz.pinned.checked.prog.liftsFinal)=true:=by kernel_rfl
theorem worldAdds_j28:(Tryz.pinned.checked.prog.make == some Rows.worldAddsRow.make)=true:=by kernel_rfl
theorem worldAdds_j29:(Rows.worldAddsRow.kinds == (if Rows.worldAddsRow.domain.isEmpty then [] else Tryz.f3.params.toList.map fun t=>match Tryz.pinned.checked.prog.underlying t with | some (.int k)=>some k | _=>none))=true:=by kernel_rfl
theorem worldAdds_j30:(Rows.worldAddsRow.pinned == Rows.worldAddsRow.pinnedBy)=true:=by kernel_rfl
theorem worldAdds_j31:(Rows.worldAddsRow.veiled == (Tryz.f3.params.toList++(OpenSpec.ofChange Rows.worldAddsSpec).bare.plain.varTypes Tryz.pinned.checked.prog++Tryz.f3.resultTypes.toList).any (Tryz.pinned.checked.prog.veiledRec ·))=true:=by kernel_rfl
theorem worldAdds_j32:Rows.worldAddsRow.veiledFits Tryz.pinned.checked.prog Tryz.f3.params.toList (Tryz.f3.params.toList++(OpenSpec.ofChange Rows.worldAddsSpec).bare.plain.varTypes Tryz.pinned.checked.prog++Tryz.f3.resultTypes.toList)=true:=by kernel_rfl
end Go.Proofs.YtdahooejkjcjiaaGreatDoor
