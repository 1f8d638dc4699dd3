import Derived.Test.YteabekcdcphjpaaGreatDoorHJf
/- The facts of the law ShardFails's row,each by itself. -/
set_option linter.unusedVariables false
set_option linter.unusedSimpArgs false
namespace Go.Proofs.YteabekcdcphjpaaGreatDoor
open Go.ChangeShapes Go.WideShapes Go.ChangeAt Go.RowKit Go.Se
theorem shardFails_j1:Rows.shardFailsRow.wf (OpenSpec.ofChange (OpenSpec.ofChange Rows.shardFailsSpec).bare)=true:=by kernel_rfl
theorem shardFails_j4:Tryz.f3.params.all (Tryz.pinned.checked.prog.readableRec ·)=true:=by kernel_rfl
theorem shardFails_j5:namedTie Tryz.pinned.checked.prog Rows.shardFailsRow.named (OpenSpec.ofChange Rows.shardFailsSpec).bare.vars=true:=by kernel_rfl
theorem shardFails_j6:(Rows.shardFailsRow.stops == [])=true:=by kernel_rfl
theorem shardFails_j8:(Rows.shardFailsRow.knobs == [])=true:=by kernel_rfl
theorem shardFails_j10:(Rows.shardFailsRow.inPlace == Tryz.pinned.checked.prog.inPlace 3)=true:=by kernel_rfl
theorem shardFails_j11:(Rows.shardFailsRow.unfollowed == Tryz.pinned.checked.prog.unfollowed 3)=true:=by kernel_rfl
theorem shardFails_j12:(Rows.shardFailsRow.recurses == Tryz.pinned.checked.prog.recurses 3)=true:=by kernel_rfl
theorem shardFails_j13:(Rows.shardFailsRow.named == Tryz.pinned.checked.prog.varsNamed 3)=true:=by kernel_rfl
theorem shardFails_j14:(Rows.shardFailsRow.maps == (Tryz.f3.params.toList++(OpenSpec.ofChange Rows.shardFailsSpec).bare.plain.varTypes Tryz.pinned.checked.prog).any (Tryz.pinned.checked.prog.mapsRec ·))=true:=by kernel_rfl
theorem shardFails_j15:(Rows.shardFailsRow.ifaces == (Tryz.f3.params.toList++(OpenSpec.ofChange Rows.shardFailsSpec).bare.plain.varTypes Tryz.pinned.checked.prog).any (Tryz.pinned.checked.prog.ifacesRec ·))=true:=by kernel_rfl
theorem shardFails_j16:(Rows.shardFailsRow.mapsOut == Tryz.pinned.checked.prog.mapsAmong Tryz.f3.resultTypes.toList)=true:=by kernel_rfl
theorem shardFails_j17:(Rows.shardFailsRow.loops == (Tryz.f3.params.toList++(OpenSpec.ofChange Rows.shardFailsSpec).bare.plain.varTypes Tryz.pinned.checked.prog).any (Tryz.pinned.checked.prog.loopsFrom ·))=true:=by kernel_rfl
theorem shardFails_j18:(Rows.shardFailsRow.wideKeys == (Tryz.f3.params.toList++(OpenSpec.ofChange Rows.shardFailsSpec).bare.plain.varTypes Tryz.pinned.checked.prog++Tryz.f3.resultTypes.toList).any (Tryz.pinned.checked.prog.wideKeysFrom ·))=true:=by kernel_rfl
theorem shardFails_j19:(OpenSpec.ofChange Rows.shardFailsSpec).bare.vars.all (Tryz.pinned.checked.prog.varReadable ·)=true:=by kernel_rfl
theorem shardFails_j20:Tryz.f3.resultTypes.all (fun t=>Tryz.pinned.checked.prog.readableRec t&&decide (t<Tryz.pinned.checked.prog.types.size))=true:=by kernel_rfl
theorem shardFails_j21:(Rows.shardFailsRow.ifacesOut == Tryz.f3.resultTypes.toList.any (Tryz.pinned.checked.prog.ifacesRec ·))=true:=by kernel_rfl
theorem shardFails_j22:(Rows.shardFailsRow.loopsOut == Tryz.f3.resultTypes.toList.any (Tryz.pinned.checked.prog.loopsFrom ·))=true:=by kernel_rfl
theorem shardFails_j23:(Rows.shardFailsRow.plainKeys == Tryz.pinned.checked.prog.plainKeys)=true:=by kernel_rfl
theorem shardFails_j24:Rows.shardFailsRow.shortTexts.isNone=true:=by kernel_rfl
theorem shardFails_j27:(Rows.shardFailsRow.lifted == Tryz.pinned.checked.prog.liftsFinal)=true:=by kernel_rfl
theorem shardFails_j28:(Tryz.pinned.checked.prog.make == some Rows.shardFailsRow.make)=true:=by kernel_rfl
theorem shardFails_j29:(Rows.shardFailsRow.kinds == (if Rows.shardFailsRow.domain.isEmpty then [] else Tryz.f3.params.toList.map fun t=>match Tryz.pinned.checked.prog.underlying t with | some (.int k)=>some k | _=>none))=true:=by kernel_rfl
theorem shardFails_j30:(Rows.shardFailsRow.pinned == Rows.shardFailsRow.pinnedBy)=true:=by kernel_rfl
theorem shardFails_j31:(Rows.shardFailsRow.veiled == (Tryz.f3.params.toList++(OpenSpec.ofChange Rows.shardFailsSpec).bare.plain.varTypes Tryz.pinned.checked.prog++Tryz.f3.resultTypes.toList).any (Tryz.pinned.checked.prog.veiledRec ·))=true:=by kernel_rfl
theorem shardFails_j32:Rows.shardFailsRow.veiledFits Tryz.pinned.checked.prog Tryz.f3.params.toList (Tryz.f3.params.toList++(OpenSpec.ofChange Rows.shardFailsSpec).bare.plain.varTypes Tryz.pinned.checked.prog++Tryz.f3.resultTypes.toList)=true:=by kernel_rfl
end Go.Proofs.YteabekcdcphjpaaGreatDoor
