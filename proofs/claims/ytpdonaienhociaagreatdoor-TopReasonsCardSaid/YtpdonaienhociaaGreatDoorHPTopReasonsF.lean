import Derived.Test.YtpdonaienhociaaGreatDoorGSE
set_option linter.all false
namespace Go.Proofs.YtpdonaienhociaaGreatDoor
open Go.ChangeShapes Go.WideShapes Go.ChangeAt Go.RowKit Go.Se
theorem topReasons_j1:Rows.topReasonsRow.wf (OpenSpec.ofChange (OpenSpec.ofChange Rows.topReasonsSpec).bare)=true:=by kernel_rfl
theorem topReasons_j4:Tryz.f4.params.all (Tryz.pinned.checked.prog.readableRec ·)=true:=by kernel_rfl
theorem topReasons_j5:namedTie Tryz.pinned.checked.prog Rows.topReasonsRow.named (OpenSpec.ofChange Rows.topReasonsSpec).bare.vars=true:=by kernel_rfl
theorem topReasons_j6:(Rows.topReasonsRow.stops == [])=true:=by kernel_rfl
theorem topReasons_j8:(Rows.topReasonsRow.knobs == [])=true:=by kernel_rfl
theorem topReasons_j10:(Rows.topReasonsRow.inPlace == Tryz.pinned.checked.prog.inPlace 4)=true:=by kernel_rfl
theorem topReasons_j11:(Rows.topReasonsRow.unfollowed == Tryz.pinned.checked.prog.unfollowed 4)=true:=by kernel_rfl
theorem topReasons_j12:(Rows.topReasonsRow.recurses == Tryz.pinned.checked.prog.recurses 4)=true:=by kernel_rfl
theorem topReasons_j13:(Rows.topReasonsRow.named == Tryz.pinned.checked.prog.varsNamed 4)=true:=by kernel_rfl
theorem topReasons_j14:(Rows.topReasonsRow.maps == (Tryz.f4.params.toList++(OpenSpec.ofChange Rows.topReasonsSpec).bare.plain.varTypes Tryz.pinned.checked.prog).any (Tryz.pinned.checked.prog.mapsRec ·))=true:=by kernel_rfl
theorem topReasons_j15:(Rows.topReasonsRow.ifaces == (Tryz.f4.params.toList++(OpenSpec.ofChange Rows.topReasonsSpec).bare.plain.varTypes Tryz.pinned.checked.prog).any (Tryz.pinned.checked.prog.ifacesRec ·))=true:=by kernel_rfl
theorem topReasons_j16:(Rows.topReasonsRow.mapsOut == Tryz.pinned.checked.prog.mapsAmong Tryz.f4.resultTypes.toList)=true:=by kernel_rfl
theorem topReasons_j17:(Rows.topReasonsRow.loops == (Tryz.f4.params.toList++(OpenSpec.ofChange Rows.topReasonsSpec).bare.plain.varTypes Tryz.pinned.checked.prog).any (Tryz.pinned.checked.prog.loopsFrom ·))=true:=by kernel_rfl
theorem topReasons_j18:(Rows.topReasonsRow.wideKeys == (Tryz.f4.params.toList++(OpenSpec.ofChange Rows.topReasonsSpec).bare.plain.varTypes Tryz.pinned.checked.prog++Tryz.f4.resultTypes.toList).any (Tryz.pinned.checked.prog.wideKeysFrom ·))=true:=by kernel_rfl
theorem topReasons_j19:(OpenSpec.ofChange Rows.topReasonsSpec).bare.vars.all (Tryz.pinned.checked.prog.varReadable ·)=true:=by kernel_rfl
theorem topReasons_j20:Tryz.f4.resultTypes.all (fun t=>Tryz.pinned.checked.prog.readableRec t&&decide (t<Tryz.pinned.checked.prog.types.size))=true:=by kernel_rfl
theorem topReasons_j21:(Rows.topReasonsRow.ifacesOut == Tryz.f4.resultTypes.toList.any (Tryz.pinned.checked.prog.ifacesRec ·))=true:=by kernel_rfl
theorem topReasons_j22:(Rows.topReasonsRow.loopsOut == Tryz.f4.resultTypes.toList.any (Tryz.pinned.checked.prog.loopsFrom ·))=true:=by kernel_rfl
theorem topReasons_j23:(Rows.topReasonsRow.plainKeys == Tryz.pinned.checked.prog.plainKeys)=true:=by kernel_rfl
theorem topReasons_j24:Rows.topReasonsRow.shortTexts.isNone=true:=by kernel_rfl
theorem topReasons_j27:(Rows.topReasonsRow.lifted == Tryz.pinned.checked.prog.liftsFinal)=true:=by kernel_rfl
theorem topReasons_j28:(Tryz.pinned.checked.prog.make == some Rows.topReasonsRow.make)=true:=by kernel_rfl
theorem topReasons_j29:(Rows.topReasonsRow.kinds == (if Rows.topReasonsRow.domain.isEmpty then [] else Tryz.f4.params.toList.map fun t=>match Tryz.pinned.checked.prog.underlying t with | some (.int k)=>some k | _=>none))=true:=by kernel_rfl
theorem topReasons_j30:(Rows.topReasonsRow.pinned == Rows.topReasonsRow.pinnedBy)=true:=by kernel_rfl
theorem topReasons_j31:(Rows.topReasonsRow.veiled == (Tryz.f4.params.toList++(OpenSpec.ofChange Rows.topReasonsSpec).bare.plain.varTypes Tryz.pinned.checked.prog++Tryz.f4.resultTypes.toList).any (Tryz.pinned.checked.prog.veiledRec ·))=true:=by kernel_rfl
theorem topReasons_j32:Rows.topReasonsRow.veiledFits Tryz.pinned.checked.prog Tryz.f4.params.toList (Tryz.f4.params.toList++(OpenSpec.ofChange Rows.topReasonsSpec).bare.plain.varTypes Tryz.pinned.checked.prog++Tryz.f4.resultTypes.toList)=true:=by kernel_rfl
