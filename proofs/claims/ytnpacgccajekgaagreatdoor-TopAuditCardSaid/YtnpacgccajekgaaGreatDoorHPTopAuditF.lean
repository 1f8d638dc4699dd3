import Derived.Test.YtnpacgccajekgaaGreatDoorGSE
set_option linter.all false
namespace Go.Proofs.YtnpacgccajekgaaGreatDoor
open Go.ChangeShapes Go.WideShapes Go.ChangeAt Go.RowKit Go.Se
theorem topAudit_j1:Rows.topAuditRow.wf (OpenSpec.ofChange (OpenSpec.ofChange Rows.topAuditSpec).bare)=true:=by kernel_rfl
theorem topAudit_j4:Tryz.f3.params.all (Tryz.pinned.checked.prog.readableRec ·)=true:=by kernel_rfl
theorem topAudit_j5:namedTie Tryz.pinned.checked.prog Rows.topAuditRow.named (OpenSpec.ofChange Rows.topAuditSpec).bare.vars=true:=by kernel_rfl
theorem topAudit_j6:(Rows.topAuditRow.stops == [])=true:=by kernel_rfl
theorem topAudit_j8:(Rows.topAuditRow.knobs == [])=true:=by kernel_rfl
theorem topAudit_j10:(Rows.topAuditRow.inPlace == Tryz.pinned.checked.prog.inPlace 3)=true:=by kernel_rfl
theorem topAudit_j11:(Rows.topAuditRow.unfollowed == Tryz.pinned.checked.prog.unfollowed 3)=true:=by kernel_rfl
theorem topAudit_j12:(Rows.topAuditRow.recurses == Tryz.pinned.checked.prog.recurses 3)=true:=by kernel_rfl
theorem topAudit_j13:(Rows.topAuditRow.named == Tryz.pinned.checked.prog.varsNamed 3)=true:=by kernel_rfl
theorem topAudit_j14:(Rows.topAuditRow.maps == (Tryz.f3.params.toList++(OpenSpec.ofChange Rows.topAuditSpec).bare.plain.varTypes Tryz.pinned.checked.prog).any (Tryz.pinned.checked.prog.mapsRec ·))=true:=by kernel_rfl
theorem topAudit_j15:(Rows.topAuditRow.ifaces == (Tryz.f3.params.toList++(OpenSpec.ofChange Rows.topAuditSpec).bare.plain.varTypes Tryz.pinned.checked.prog).any (Tryz.pinned.checked.prog.ifacesRec ·))=true:=by kernel_rfl
theorem topAudit_j16:(Rows.topAuditRow.mapsOut == Tryz.pinned.checked.prog.mapsAmong Tryz.f3.resultTypes.toList)=true:=by kernel_rfl
theorem topAudit_j17:(Rows.topAuditRow.loops == (Tryz.f3.params.toList++(OpenSpec.ofChange Rows.topAuditSpec).bare.plain.varTypes Tryz.pinned.checked.prog).any (Tryz.pinned.checked.prog.loopsFrom ·))=true:=by kernel_rfl
theorem topAudit_j18:(Rows.topAuditRow.wideKeys == (Tryz.f3.params.toList++(OpenSpec.ofChange Rows.topAuditSpec).bare.plain.varTypes Tryz.pinned.checked.prog++Tryz.f3.resultTypes.toList).any (Tryz.pinned.checked.prog.wideKeysFrom ·))=true:=by kernel_rfl
theorem topAudit_j19:(OpenSpec.ofChange Rows.topAuditSpec).bare.vars.all (Tryz.pinned.checked.prog.varReadable ·)=true:=by kernel_rfl
theorem topAudit_j20:Tryz.f3.resultTypes.all (fun t=>Tryz.pinned.checked.prog.readableRec t&&decide (t<Tryz.pinned.checked.prog.types.size))=true:=by kernel_rfl
theorem topAudit_j21:(Rows.topAuditRow.ifacesOut == Tryz.f3.resultTypes.toList.any (Tryz.pinned.checked.prog.ifacesRec ·))=true:=by kernel_rfl
theorem topAudit_j22:(Rows.topAuditRow.loopsOut == Tryz.f3.resultTypes.toList.any (Tryz.pinned.checked.prog.loopsFrom ·))=true:=by kernel_rfl
theorem topAudit_j23:(Rows.topAuditRow.plainKeys == Tryz.pinned.checked.prog.plainKeys)=true:=by kernel_rfl
theorem topAudit_j24:Rows.topAuditRow.shortTexts.isNone=true:=by kernel_rfl
theorem topAudit_j27:(Rows.topAuditRow.lifted == Tryz.pinned.checked.prog.liftsFinal)=true:=by kernel_rfl
theorem topAudit_j28:(Tryz.pinned.checked.prog.make == some Rows.topAuditRow.make)=true:=by kernel_rfl
theorem topAudit_j29:(Rows.topAuditRow.kinds == (if Rows.topAuditRow.domain.isEmpty then [] else Tryz.f3.params.toList.map fun t=>match Tryz.pinned.checked.prog.underlying t with | some (.int k)=>some k | _=>none))=true:=by kernel_rfl
theorem topAudit_j30:(Rows.topAuditRow.pinned == Rows.topAuditRow.pinnedBy)=true:=by kernel_rfl
theorem topAudit_j31:(Rows.topAuditRow.veiled == (Tryz.f3.params.toList++(OpenSpec.ofChange Rows.topAuditSpec).bare.plain.varTypes Tryz.pinned.checked.prog++Tryz.f3.resultTypes.toList).any (Tryz.pinned.checked.prog.veiledRec ·))=true:=by kernel_rfl
theorem topAudit_j32:Rows.topAuditRow.veiledFits Tryz.pinned.checked.prog Tryz.f3.params.toList (Tryz.f3.params.toList++(OpenSpec.ofChange Rows.topAuditSpec).bare.plain.varTypes Tryz.pinned.checked.prog++Tryz.f3.resultTypes.toList)=true:=by kernel_rfl
