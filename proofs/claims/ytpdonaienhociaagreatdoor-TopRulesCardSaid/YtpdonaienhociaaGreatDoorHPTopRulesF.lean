import Derived.Test.YtpdonaienhociaaGreatDoorGSE
set_option linter.all false
namespace Go.Proofs.YtpdonaienhociaaGreatDoor
open Go.ChangeShapes Go.WideShapes Go.ChangeAt Go.RowKit Go.Se
theorem topRules_j1:Rows.topRulesRow.wf (OpenSpec.ofChange (OpenSpec.ofChange Rows.topRulesSpec).bare)=true:=by kernel_rfl
theorem topRules_j4:Tryz.f3.params.all (Tryz.pinned.checked.prog.readableRec ·)=true:=by kernel_rfl
theorem topRules_j5:namedTie Tryz.pinned.checked.prog Rows.topRulesRow.named (OpenSpec.ofChange Rows.topRulesSpec).bare.vars=true:=by kernel_rfl
theorem topRules_j6:(Rows.topRulesRow.stops == [])=true:=by kernel_rfl
theorem topRules_j8:(Rows.topRulesRow.knobs == [])=true:=by kernel_rfl
theorem topRules_j10:(Rows.topRulesRow.inPlace == Tryz.pinned.checked.prog.inPlace 3)=true:=by kernel_rfl
theorem topRules_j11:(Rows.topRulesRow.unfollowed == Tryz.pinned.checked.prog.unfollowed 3)=true:=by kernel_rfl
theorem topRules_j12:(Rows.topRulesRow.recurses == Tryz.pinned.checked.prog.recurses 3)=true:=by kernel_rfl
theorem topRules_j13:(Rows.topRulesRow.named == Tryz.pinned.checked.prog.varsNamed 3)=true:=by kernel_rfl
theorem topRules_j14:(Rows.topRulesRow.maps == (Tryz.f3.params.toList++(OpenSpec.ofChange Rows.topRulesSpec).bare.plain.varTypes Tryz.pinned.checked.prog).any (Tryz.pinned.checked.prog.mapsRec ·))=true:=by kernel_rfl
theorem topRules_j15:(Rows.topRulesRow.ifaces == (Tryz.f3.params.toList++(OpenSpec.ofChange Rows.topRulesSpec).bare.plain.varTypes Tryz.pinned.checked.prog).any (Tryz.pinned.checked.prog.ifacesRec ·))=true:=by kernel_rfl
theorem topRules_j16:(Rows.topRulesRow.mapsOut == Tryz.pinned.checked.prog.mapsAmong Tryz.f3.resultTypes.toList)=true:=by kernel_rfl
theorem topRules_j17:(Rows.topRulesRow.loops == (Tryz.f3.params.toList++(OpenSpec.ofChange Rows.topRulesSpec).bare.plain.varTypes Tryz.pinned.checked.prog).any (Tryz.pinned.checked.prog.loopsFrom ·))=true:=by kernel_rfl
theorem topRules_j18:(Rows.topRulesRow.wideKeys == (Tryz.f3.params.toList++(OpenSpec.ofChange Rows.topRulesSpec).bare.plain.varTypes Tryz.pinned.checked.prog++Tryz.f3.resultTypes.toList).any (Tryz.pinned.checked.prog.wideKeysFrom ·))=true:=by kernel_rfl
theorem topRules_j19:(OpenSpec.ofChange Rows.topRulesSpec).bare.vars.all (Tryz.pinned.checked.prog.varReadable ·)=true:=by kernel_rfl
theorem topRules_j20:Tryz.f3.resultTypes.all (fun t=>Tryz.pinned.checked.prog.readableRec t&&decide (t<Tryz.pinned.checked.prog.types.size))=true:=by kernel_rfl
theorem topRules_j21:(Rows.topRulesRow.ifacesOut == Tryz.f3.resultTypes.toList.any (Tryz.pinned.checked.prog.ifacesRec ·))=true:=by kernel_rfl
theorem topRules_j22:(Rows.topRulesRow.loopsOut == Tryz.f3.resultTypes.toList.any (Tryz.pinned.checked.prog.loopsFrom ·))=true:=by kernel_rfl
theorem topRules_j23:(Rows.topRulesRow.plainKeys == Tryz.pinned.checked.prog.plainKeys)=true:=by kernel_rfl
theorem topRules_j24:Rows.topRulesRow.shortTexts.isNone=true:=by kernel_rfl
theorem topRules_j27:(Rows.topRulesRow.lifted == Tryz.pinned.checked.prog.liftsFinal)=true:=by kernel_rfl
theorem topRules_j28:(Tryz.pinned.checked.prog.make == some Rows.topRulesRow.make)=true:=by kernel_rfl
theorem topRules_j29:(Rows.topRulesRow.kinds == (if Rows.topRulesRow.domain.isEmpty then [] else Tryz.f3.params.toList.map fun t=>match Tryz.pinned.checked.prog.underlying t with | some (.int k)=>some k | _=>none))=true:=by kernel_rfl
theorem topRules_j30:(Rows.topRulesRow.pinned == Rows.topRulesRow.pinnedBy)=true:=by kernel_rfl
theorem topRules_j31:(Rows.topRulesRow.veiled == (Tryz.f3.params.toList++(OpenSpec.ofChange Rows.topRulesSpec).bare.plain.varTypes Tryz.pinned.checked.prog++Tryz.f3.resultTypes.toList).any (Tryz.pinned.checked.prog.veiledRec ·))=true:=by kernel_rfl
theorem topRules_j32:Rows.topRulesRow.veiledFits Tryz.pinned.checked.prog Tryz.f3.params.toList (Tryz.f3.params.toList++(OpenSpec.ofChange Rows.topRulesSpec).bare.plain.varTypes Tryz.pinned.checked.prog++Tryz.f3.resultTypes.toList)=true:=by kernel_rfl
