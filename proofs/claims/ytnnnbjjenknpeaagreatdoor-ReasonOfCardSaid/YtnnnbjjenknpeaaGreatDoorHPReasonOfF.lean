import Derived.Test.YtnnnbjjenknpeaaGreatDoorHJf
/- The facts of the law ReasonOf's row,each by itself. -/
set_option linter.unusedVariables false
set_option linter.unusedSimpArgs false
namespace Go.Proofs.YtnnnbjjenknpeaaGreatDoor
open Go.ChangeShapes Go.WideShapes Go.ChangeAt Go.RowKit Go.Se
theorem reasonOf_j1 : Rows.reasonOfRow.wf (OpenSpec.ofChange (OpenSpec.ofChange Rows.reasonOfSpec).bare) = true := by kernel_rfl
theorem reasonOf_j4 : Tryz.f3.params.all (Tryz.pinned.checked.prog.readableRec ·) = true := by kernel_rfl
theorem reasonOf_j5 : namedTie Tryz.pinned.checked.prog Rows.reasonOfRow.named (OpenSpec.ofChange Rows.reasonOfSpec).bare.vars = true := by kernel_rfl
theorem reasonOf_j6 : (Rows.reasonOfRow.stops == []) = true := by kernel_rfl
theorem reasonOf_j8 : (Rows.reasonOfRow.knobs == []) = true := by kernel_rfl
theorem reasonOf_j10 : (Rows.reasonOfRow.inPlace == Tryz.pinned.checked.prog.inPlace 3) = true := by kernel_rfl
theorem reasonOf_j11 : (Rows.reasonOfRow.unfollowed == Tryz.pinned.checked.prog.unfollowed 3) = true := by kernel_rfl
theorem reasonOf_j12 : (Rows.reasonOfRow.recurses == Tryz.pinned.checked.prog.recurses 3) = true := by kernel_rfl
theorem reasonOf_j13 : (Rows.reasonOfRow.named == Tryz.pinned.checked.prog.varsNamed 3) = true := by kernel_rfl
theorem reasonOf_j14 : (Rows.reasonOfRow.maps == (Tryz.f3.params.toList ++ (OpenSpec.ofChange Rows.reasonOfSpec).bare.plain.varTypes Tryz.pinned.checked.prog).any (Tryz.pinned.checked.prog.mapsRec ·)) = true := by kernel_rfl
theorem reasonOf_j15 : (Rows.reasonOfRow.ifaces == (Tryz.f3.params.toList ++ (OpenSpec.ofChange Rows.reasonOfSpec).bare.plain.varTypes Tryz.pinned.checked.prog).any (Tryz.pinned.checked.prog.ifacesRec ·)) = true := by kernel_rfl
theorem reasonOf_j16 : (Rows.reasonOfRow.mapsOut == Tryz.pinned.checked.prog.mapsAmong Tryz.f3.resultTypes.toList) = true := by kernel_rfl
theorem reasonOf_j17 : (Rows.reasonOfRow.loops == (Tryz.f3.params.toList ++ (OpenSpec.ofChange Rows.reasonOfSpec).bare.plain.varTypes Tryz.pinned.checked.prog).any (Tryz.pinned.checked.prog.loopsFrom ·)) = true := by kernel_rfl
theorem reasonOf_j18 : (Rows.reasonOfRow.wideKeys == (Tryz.f3.params.toList ++ (OpenSpec.ofChange Rows.reasonOfSpec).bare.plain.varTypes Tryz.pinned.checked.prog ++ Tryz.f3.resultTypes.toList).any (Tryz.pinned.checked.prog.wideKeysFrom ·)) = true := by kernel_rfl
theorem reasonOf_j19 : (OpenSpec.ofChange Rows.reasonOfSpec).bare.vars.all (Tryz.pinned.checked.prog.varReadable ·) = true := by kernel_rfl
theorem reasonOf_j20 : Tryz.f3.resultTypes.all (fun t => Tryz.pinned.checked.prog.readableRec t && decide (t < Tryz.pinned.checked.prog.types.size)) = true := by kernel_rfl
theorem reasonOf_j21 : (Rows.reasonOfRow.ifacesOut == Tryz.f3.resultTypes.toList.any (Tryz.pinned.checked.prog.ifacesRec ·)) = true := by kernel_rfl
theorem reasonOf_j22 : (Rows.reasonOfRow.loopsOut == Tryz.f3.resultTypes.toList.any (Tryz.pinned.checked.prog.loopsFrom ·)) = true := by kernel_rfl
theorem reasonOf_j23 : (Rows.reasonOfRow.plainKeys == Tryz.pinned.checked.prog.plainKeys) = true := by kernel_rfl
theorem reasonOf_j24 : Rows.reasonOfRow.shortTexts.isNone = true := by kernel_rfl
theorem reasonOf_j27 : (Rows.reasonOfRow.lifted == Tryz.pinned.checked.prog.liftsFinal) = true := by kernel_rfl
theorem reasonOf_j28 : (Tryz.pinned.checked.prog.make == some Rows.reasonOfRow.make) = true := by kernel_rfl
theorem reasonOf_j29 : (Rows.reasonOfRow.kinds == (if Rows.reasonOfRow.domain.isEmpty then [] else Tryz.f3.params.toList.map fun t => match Tryz.pinned.checked.prog.underlying t with | some (.int k) => some k | _ => none)) = true := by kernel_rfl
theorem reasonOf_j30 : (Rows.reasonOfRow.pinned == Rows.reasonOfRow.pinnedBy) = true := by kernel_rfl
theorem reasonOf_j31 : (Rows.reasonOfRow.veiled == (Tryz.f3.params.toList ++ (OpenSpec.ofChange Rows.reasonOfSpec).bare.plain.varTypes Tryz.pinned.checked.prog ++ Tryz.f3.resultTypes.toList).any (Tryz.pinned.checked.prog.veiledRec ·)) = true := by kernel_rfl
theorem reasonOf_j32 : Rows.reasonOfRow.veiledFits Tryz.pinned.checked.prog Tryz.f3.params.toList (Tryz.f3.params.toList ++ (OpenSpec.ofChange Rows.reasonOfSpec).bare.plain.varTypes Tryz.pinned.checked.prog ++ Tryz.f3.resultTypes.toList) = true := by kernel_rfl
end Go.Proofs.YtnnnbjjenknpeaaGreatDoor
