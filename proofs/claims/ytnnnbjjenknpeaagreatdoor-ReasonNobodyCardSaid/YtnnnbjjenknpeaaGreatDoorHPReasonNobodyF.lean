import Derived.Test.YtnnnbjjenknpeaaGreatDoorHJf
/- The facts of the law ReasonNobody's row,each by itself. -/
set_option linter.unusedVariables false
set_option linter.unusedSimpArgs false
namespace Go.Proofs.YtnnnbjjenknpeaaGreatDoor
open Go.ChangeShapes Go.WideShapes Go.ChangeAt Go.RowKit Go.Se
theorem reasonNobody_j1 : Rows.reasonNobodyRow.wf (OpenSpec.ofChange (OpenSpec.ofChange Rows.reasonNobodySpec).bare) = true := by kernel_rfl
theorem reasonNobody_j4 : Tryz.f6.params.all (Tryz.pinned.checked.prog.readableRec ·) = true := by kernel_rfl
theorem reasonNobody_j5 : namedTie Tryz.pinned.checked.prog Rows.reasonNobodyRow.named (OpenSpec.ofChange Rows.reasonNobodySpec).bare.vars = true := by kernel_rfl
theorem reasonNobody_j6 : (Rows.reasonNobodyRow.stops == []) = true := by kernel_rfl
theorem reasonNobody_j8 : (Rows.reasonNobodyRow.knobs == []) = true := by kernel_rfl
theorem reasonNobody_j10 : (Rows.reasonNobodyRow.inPlace == Tryz.pinned.checked.prog.inPlace 6) = true := by kernel_rfl
theorem reasonNobody_j11 : (Rows.reasonNobodyRow.unfollowed == Tryz.pinned.checked.prog.unfollowed 6) = true := by kernel_rfl
theorem reasonNobody_j12 : (Rows.reasonNobodyRow.recurses == Tryz.pinned.checked.prog.recurses 6) = true := by kernel_rfl
theorem reasonNobody_j13 : (Rows.reasonNobodyRow.named == Tryz.pinned.checked.prog.varsNamed 6) = true := by kernel_rfl
theorem reasonNobody_j14 : (Rows.reasonNobodyRow.maps == (Tryz.f6.params.toList ++ (OpenSpec.ofChange Rows.reasonNobodySpec).bare.plain.varTypes Tryz.pinned.checked.prog).any (Tryz.pinned.checked.prog.mapsRec ·)) = true := by kernel_rfl
theorem reasonNobody_j15 : (Rows.reasonNobodyRow.ifaces == (Tryz.f6.params.toList ++ (OpenSpec.ofChange Rows.reasonNobodySpec).bare.plain.varTypes Tryz.pinned.checked.prog).any (Tryz.pinned.checked.prog.ifacesRec ·)) = true := by kernel_rfl
theorem reasonNobody_j16 : (Rows.reasonNobodyRow.mapsOut == Tryz.pinned.checked.prog.mapsAmong Tryz.f6.resultTypes.toList) = true := by kernel_rfl
theorem reasonNobody_j17 : (Rows.reasonNobodyRow.loops == (Tryz.f6.params.toList ++ (OpenSpec.ofChange Rows.reasonNobodySpec).bare.plain.varTypes Tryz.pinned.checked.prog).any (Tryz.pinned.checked.prog.loopsFrom ·)) = true := by kernel_rfl
theorem reasonNobody_j18 : (Rows.reasonNobodyRow.wideKeys == (Tryz.f6.params.toList ++ (OpenSpec.ofChange Rows.reasonNobodySpec).bare.plain.varTypes Tryz.pinned.checked.prog ++ Tryz.f6.resultTypes.toList).any (Tryz.pinned.checked.prog.wideKeysFrom ·)) = true := by kernel_rfl
theorem reasonNobody_j19 : (OpenSpec.ofChange Rows.reasonNobodySpec).bare.vars.all (Tryz.pinned.checked.prog.varReadable ·) = true := by kernel_rfl
theorem reasonNobody_j20 : Tryz.f6.resultTypes.all (fun t => Tryz.pinned.checked.prog.readableRec t && decide (t < Tryz.pinned.checked.prog.types.size)) = true := by kernel_rfl
theorem reasonNobody_j21 : (Rows.reasonNobodyRow.ifacesOut == Tryz.f6.resultTypes.toList.any (Tryz.pinned.checked.prog.ifacesRec ·)) = true := by kernel_rfl
theorem reasonNobody_j22 : (Rows.reasonNobodyRow.loopsOut == Tryz.f6.resultTypes.toList.any (Tryz.pinned.checked.prog.loopsFrom ·)) = true := by kernel_rfl
theorem reasonNobody_j23 : (Rows.reasonNobodyRow.plainKeys == Tryz.pinned.checked.prog.plainKeys) = true := by kernel_rfl
theorem reasonNobody_j24 : Rows.reasonNobodyRow.shortTexts.isNone = true := by kernel_rfl
theorem reasonNobody_j27 : (Rows.reasonNobodyRow.lifted == Tryz.pinned.checked.prog.liftsFinal) = true := by kernel_rfl
theorem reasonNobody_j28 : (Tryz.pinned.checked.prog.make == some Rows.reasonNobodyRow.make) = true := by kernel_rfl
theorem reasonNobody_j29 : (Rows.reasonNobodyRow.kinds == (if Rows.reasonNobodyRow.domain.isEmpty then [] else Tryz.f6.params.toList.map fun t => match Tryz.pinned.checked.prog.underlying t with | some (.int k) => some k | _ => none)) = true := by kernel_rfl
theorem reasonNobody_j30 : (Rows.reasonNobodyRow.pinned == Rows.reasonNobodyRow.pinnedBy) = true := by kernel_rfl
theorem reasonNobody_j31 : (Rows.reasonNobodyRow.veiled == (Tryz.f6.params.toList ++ (OpenSpec.ofChange Rows.reasonNobodySpec).bare.plain.varTypes Tryz.pinned.checked.prog ++ Tryz.f6.resultTypes.toList).any (Tryz.pinned.checked.prog.veiledRec ·)) = true := by kernel_rfl
theorem reasonNobody_j32 : Rows.reasonNobodyRow.veiledFits Tryz.pinned.checked.prog Tryz.f6.params.toList (Tryz.f6.params.toList ++ (OpenSpec.ofChange Rows.reasonNobodySpec).bare.plain.varTypes Tryz.pinned.checked.prog ++ Tryz.f6.resultTypes.toList) = true := by kernel_rfl
end Go.Proofs.YtnnnbjjenknpeaaGreatDoor
