import Derived.Test.YtnnnbjjenknpeaaGreatDoorHJf
/- The facts of the law ReasonWithout's row,each by itself. -/
set_option linter.unusedVariables false
set_option linter.unusedSimpArgs false
namespace Go.Proofs.YtnnnbjjenknpeaaGreatDoor
open Go.ChangeShapes Go.WideShapes Go.ChangeAt Go.RowKit Go.Se
theorem reasonWithout_j1 : Rows.reasonWithoutRow.wf (OpenSpec.ofChange (OpenSpec.ofChange Rows.reasonWithoutSpec).bare) = true := by kernel_rfl
theorem reasonWithout_j4 : Tryz.f5.params.all (Tryz.pinned.checked.prog.readableRec ·) = true := by kernel_rfl
theorem reasonWithout_j5 : namedTie Tryz.pinned.checked.prog Rows.reasonWithoutRow.named (OpenSpec.ofChange Rows.reasonWithoutSpec).bare.vars = true := by kernel_rfl
theorem reasonWithout_j6 : (Rows.reasonWithoutRow.stops == []) = true := by kernel_rfl
theorem reasonWithout_j8 : (Rows.reasonWithoutRow.knobs == []) = true := by kernel_rfl
theorem reasonWithout_j10 : (Rows.reasonWithoutRow.inPlace == Tryz.pinned.checked.prog.inPlace 5) = true := by kernel_rfl
theorem reasonWithout_j11 : (Rows.reasonWithoutRow.unfollowed == Tryz.pinned.checked.prog.unfollowed 5) = true := by kernel_rfl
theorem reasonWithout_j12 : (Rows.reasonWithoutRow.recurses == Tryz.pinned.checked.prog.recurses 5) = true := by kernel_rfl
theorem reasonWithout_j13 : (Rows.reasonWithoutRow.named == Tryz.pinned.checked.prog.varsNamed 5) = true := by kernel_rfl
theorem reasonWithout_j14 : (Rows.reasonWithoutRow.maps == (Tryz.f5.params.toList ++ (OpenSpec.ofChange Rows.reasonWithoutSpec).bare.plain.varTypes Tryz.pinned.checked.prog).any (Tryz.pinned.checked.prog.mapsRec ·)) = true := by kernel_rfl
theorem reasonWithout_j15 : (Rows.reasonWithoutRow.ifaces == (Tryz.f5.params.toList ++ (OpenSpec.ofChange Rows.reasonWithoutSpec).bare.plain.varTypes Tryz.pinned.checked.prog).any (Tryz.pinned.checked.prog.ifacesRec ·)) = true := by kernel_rfl
theorem reasonWithout_j16 : (Rows.reasonWithoutRow.mapsOut == Tryz.pinned.checked.prog.mapsAmong Tryz.f5.resultTypes.toList) = true := by kernel_rfl
theorem reasonWithout_j17 : (Rows.reasonWithoutRow.loops == (Tryz.f5.params.toList ++ (OpenSpec.ofChange Rows.reasonWithoutSpec).bare.plain.varTypes Tryz.pinned.checked.prog).any (Tryz.pinned.checked.prog.loopsFrom ·)) = true := by kernel_rfl
theorem reasonWithout_j18 : (Rows.reasonWithoutRow.wideKeys == (Tryz.f5.params.toList ++ (OpenSpec.ofChange Rows.reasonWithoutSpec).bare.plain.varTypes Tryz.pinned.checked.prog ++ Tryz.f5.resultTypes.toList).any (Tryz.pinned.checked.prog.wideKeysFrom ·)) = true := by kernel_rfl
theorem reasonWithout_j19 : (OpenSpec.ofChange Rows.reasonWithoutSpec).bare.vars.all (Tryz.pinned.checked.prog.varReadable ·) = true := by kernel_rfl
theorem reasonWithout_j20 : Tryz.f5.resultTypes.all (fun t => Tryz.pinned.checked.prog.readableRec t && decide (t < Tryz.pinned.checked.prog.types.size)) = true := by kernel_rfl
theorem reasonWithout_j21 : (Rows.reasonWithoutRow.ifacesOut == Tryz.f5.resultTypes.toList.any (Tryz.pinned.checked.prog.ifacesRec ·)) = true := by kernel_rfl
theorem reasonWithout_j22 : (Rows.reasonWithoutRow.loopsOut == Tryz.f5.resultTypes.toList.any (Tryz.pinned.checked.prog.loopsFrom ·)) = true := by kernel_rfl
theorem reasonWithout_j23 : (Rows.reasonWithoutRow.plainKeys == Tryz.pinned.checked.prog.plainKeys) = true := by kernel_rfl
theorem reasonWithout_j24 : Rows.reasonWithoutRow.shortTexts.isNone = true := by kernel_rfl
theorem reasonWithout_j27 : (Rows.reasonWithoutRow.lifted == Tryz.pinned.checked.prog.liftsFinal) = true := by kernel_rfl
theorem reasonWithout_j28 : (Tryz.pinned.checked.prog.make == some Rows.reasonWithoutRow.make) = true := by kernel_rfl
theorem reasonWithout_j29 : (Rows.reasonWithoutRow.kinds == (if Rows.reasonWithoutRow.domain.isEmpty then [] else Tryz.f5.params.toList.map fun t => match Tryz.pinned.checked.prog.underlying t with | some (.int k) => some k | _ => none)) = true := by kernel_rfl
theorem reasonWithout_j30 : (Rows.reasonWithoutRow.pinned == Rows.reasonWithoutRow.pinnedBy) = true := by kernel_rfl
theorem reasonWithout_j31 : (Rows.reasonWithoutRow.veiled == (Tryz.f5.params.toList ++ (OpenSpec.ofChange Rows.reasonWithoutSpec).bare.plain.varTypes Tryz.pinned.checked.prog ++ Tryz.f5.resultTypes.toList).any (Tryz.pinned.checked.prog.veiledRec ·)) = true := by kernel_rfl
theorem reasonWithout_j32 : Rows.reasonWithoutRow.veiledFits Tryz.pinned.checked.prog Tryz.f5.params.toList (Tryz.f5.params.toList ++ (OpenSpec.ofChange Rows.reasonWithoutSpec).bare.plain.varTypes Tryz.pinned.checked.prog ++ Tryz.f5.resultTypes.toList) = true := by kernel_rfl
end Go.Proofs.YtnnnbjjenknpeaaGreatDoor
