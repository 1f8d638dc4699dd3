import Derived.Test.YtnnnbjjenknpeaaGreatDoorHJf
/- The facts of the law ReasonApart's row,each by itself. -/
set_option linter.unusedVariables false
set_option linter.unusedSimpArgs false
namespace Go.Proofs.YtnnnbjjenknpeaaGreatDoor
open Go.ChangeShapes Go.WideShapes Go.ChangeAt Go.RowKit Go.Se
theorem reasonApart_j1 : Rows.reasonApartRow.wf (OpenSpec.ofChange (OpenSpec.ofChange Rows.reasonApartSpec).bare) = true := by kernel_rfl
theorem reasonApart_j4 : Tryz.f8.params.all (Tryz.pinned.checked.prog.readableRec ·) = true := by kernel_rfl
theorem reasonApart_j5 : namedTie Tryz.pinned.checked.prog Rows.reasonApartRow.named (OpenSpec.ofChange Rows.reasonApartSpec).bare.vars = true := by kernel_rfl
theorem reasonApart_j6 : (Rows.reasonApartRow.stops == []) = true := by kernel_rfl
theorem reasonApart_j8 : (Rows.reasonApartRow.knobs == []) = true := by kernel_rfl
theorem reasonApart_j10 : (Rows.reasonApartRow.inPlace == Tryz.pinned.checked.prog.inPlace 8) = true := by kernel_rfl
theorem reasonApart_j11 : (Rows.reasonApartRow.unfollowed == Tryz.pinned.checked.prog.unfollowed 8) = true := by kernel_rfl
theorem reasonApart_j12 : (Rows.reasonApartRow.recurses == Tryz.pinned.checked.prog.recurses 8) = true := by kernel_rfl
theorem reasonApart_j13 : (Rows.reasonApartRow.named == Tryz.pinned.checked.prog.varsNamed 8) = true := by kernel_rfl
theorem reasonApart_j14 : (Rows.reasonApartRow.maps == (Tryz.f8.params.toList ++ (OpenSpec.ofChange Rows.reasonApartSpec).bare.plain.varTypes Tryz.pinned.checked.prog).any (Tryz.pinned.checked.prog.mapsRec ·)) = true := by kernel_rfl
theorem reasonApart_j15 : (Rows.reasonApartRow.ifaces == (Tryz.f8.params.toList ++ (OpenSpec.ofChange Rows.reasonApartSpec).bare.plain.varTypes Tryz.pinned.checked.prog).any (Tryz.pinned.checked.prog.ifacesRec ·)) = true := by kernel_rfl
theorem reasonApart_j16 : (Rows.reasonApartRow.mapsOut == Tryz.pinned.checked.prog.mapsAmong Tryz.f8.resultTypes.toList) = true := by kernel_rfl
theorem reasonApart_j17 : (Rows.reasonApartRow.loops == (Tryz.f8.params.toList ++ (OpenSpec.ofChange Rows.reasonApartSpec).bare.plain.varTypes Tryz.pinned.checked.prog).any (Tryz.pinned.checked.prog.loopsFrom ·)) = true := by kernel_rfl
theorem reasonApart_j18 : (Rows.reasonApartRow.wideKeys == (Tryz.f8.params.toList ++ (OpenSpec.ofChange Rows.reasonApartSpec).bare.plain.varTypes Tryz.pinned.checked.prog ++ Tryz.f8.resultTypes.toList).any (Tryz.pinned.checked.prog.wideKeysFrom ·)) = true := by kernel_rfl
theorem reasonApart_j19 : (OpenSpec.ofChange Rows.reasonApartSpec).bare.vars.all (Tryz.pinned.checked.prog.varReadable ·) = true := by kernel_rfl
theorem reasonApart_j20 : Tryz.f8.resultTypes.all (fun t => Tryz.pinned.checked.prog.readableRec t && decide (t < Tryz.pinned.checked.prog.types.size)) = true := by kernel_rfl
theorem reasonApart_j21 : (Rows.reasonApartRow.ifacesOut == Tryz.f8.resultTypes.toList.any (Tryz.pinned.checked.prog.ifacesRec ·)) = true := by kernel_rfl
theorem reasonApart_j22 : (Rows.reasonApartRow.loopsOut == Tryz.f8.resultTypes.toList.any (Tryz.pinned.checked.prog.loopsFrom ·)) = true := by kernel_rfl
theorem reasonApart_j23 : (Rows.reasonApartRow.plainKeys == Tryz.pinned.checked.prog.plainKeys) = true := by kernel_rfl
theorem reasonApart_j24 : Rows.reasonApartRow.shortTexts.isNone = true := by kernel_rfl
theorem reasonApart_j27 : (Rows.reasonApartRow.lifted == Tryz.pinned.checked.prog.liftsFinal) = true := by kernel_rfl
theorem reasonApart_j28 : (Tryz.pinned.checked.prog.make == some Rows.reasonApartRow.make) = true := by kernel_rfl
theorem reasonApart_j29 : (Rows.reasonApartRow.kinds == (if Rows.reasonApartRow.domain.isEmpty then [] else Tryz.f8.params.toList.map fun t => match Tryz.pinned.checked.prog.underlying t with | some (.int k) => some k | _ => none)) = true := by kernel_rfl
theorem reasonApart_j30 : (Rows.reasonApartRow.pinned == Rows.reasonApartRow.pinnedBy) = true := by kernel_rfl
theorem reasonApart_j31 : (Rows.reasonApartRow.veiled == (Tryz.f8.params.toList ++ (OpenSpec.ofChange Rows.reasonApartSpec).bare.plain.varTypes Tryz.pinned.checked.prog ++ Tryz.f8.resultTypes.toList).any (Tryz.pinned.checked.prog.veiledRec ·)) = true := by kernel_rfl
theorem reasonApart_j32 : Rows.reasonApartRow.veiledFits Tryz.pinned.checked.prog Tryz.f8.params.toList (Tryz.f8.params.toList ++ (OpenSpec.ofChange Rows.reasonApartSpec).bare.plain.varTypes Tryz.pinned.checked.prog ++ Tryz.f8.resultTypes.toList) = true := by kernel_rfl
end Go.Proofs.YtnnnbjjenknpeaaGreatDoor
