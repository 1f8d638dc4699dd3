import Derived.Test.YtnnnbjjenknpeaaGreatDoorHJf
/- The facts of the law ReasonAdds's row,each by itself. -/
set_option linter.unusedVariables false
set_option linter.unusedSimpArgs false
namespace Go.Proofs.YtnnnbjjenknpeaaGreatDoor
open Go.ChangeShapes Go.WideShapes Go.ChangeAt Go.RowKit Go.Se
theorem reasonAdds_j1 : Rows.reasonAddsRow.wf (OpenSpec.ofChange (OpenSpec.ofChange Rows.reasonAddsSpec).bare) = true := by kernel_rfl
theorem reasonAdds_j4 : Tryz.f4.params.all (Tryz.pinned.checked.prog.readableRec ·) = true := by kernel_rfl
theorem reasonAdds_j5 : namedTie Tryz.pinned.checked.prog Rows.reasonAddsRow.named (OpenSpec.ofChange Rows.reasonAddsSpec).bare.vars = true := by kernel_rfl
theorem reasonAdds_j6 : (Rows.reasonAddsRow.stops == []) = true := by kernel_rfl
theorem reasonAdds_j8 : (Rows.reasonAddsRow.knobs == []) = true := by kernel_rfl
theorem reasonAdds_j10 : (Rows.reasonAddsRow.inPlace == Tryz.pinned.checked.prog.inPlace 4) = true := by kernel_rfl
theorem reasonAdds_j11 : (Rows.reasonAddsRow.unfollowed == Tryz.pinned.checked.prog.unfollowed 4) = true := by kernel_rfl
theorem reasonAdds_j12 : (Rows.reasonAddsRow.recurses == Tryz.pinned.checked.prog.recurses 4) = true := by kernel_rfl
theorem reasonAdds_j13 : (Rows.reasonAddsRow.named == Tryz.pinned.checked.prog.varsNamed 4) = true := by kernel_rfl
theorem reasonAdds_j14 : (Rows.reasonAddsRow.maps == (Tryz.f4.params.toList ++ (OpenSpec.ofChange Rows.reasonAddsSpec).bare.plain.varTypes Tryz.pinned.checked.prog).any (Tryz.pinned.checked.prog.mapsRec ·)) = true := by kernel_rfl
theorem reasonAdds_j15 : (Rows.reasonAddsRow.ifaces == (Tryz.f4.params.toList ++ (OpenSpec.ofChange Rows.reasonAddsSpec).bare.plain.varTypes Tryz.pinned.checked.prog).any (Tryz.pinned.checked.prog.ifacesRec ·)) = true := by kernel_rfl
theorem reasonAdds_j16 : (Rows.reasonAddsRow.mapsOut == Tryz.pinned.checked.prog.mapsAmong Tryz.f4.resultTypes.toList) = true := by kernel_rfl
theorem reasonAdds_j17 : (Rows.reasonAddsRow.loops == (Tryz.f4.params.toList ++ (OpenSpec.ofChange Rows.reasonAddsSpec).bare.plain.varTypes Tryz.pinned.checked.prog).any (Tryz.pinned.checked.prog.loopsFrom ·)) = true := by kernel_rfl
theorem reasonAdds_j18 : (Rows.reasonAddsRow.wideKeys == (Tryz.f4.params.toList ++ (OpenSpec.ofChange Rows.reasonAddsSpec).bare.plain.varTypes Tryz.pinned.checked.prog ++ Tryz.f4.resultTypes.toList).any (Tryz.pinned.checked.prog.wideKeysFrom ·)) = true := by kernel_rfl
theorem reasonAdds_j19 : (OpenSpec.ofChange Rows.reasonAddsSpec).bare.vars.all (Tryz.pinned.checked.prog.varReadable ·) = true := by kernel_rfl
theorem reasonAdds_j20 : Tryz.f4.resultTypes.all (fun t => Tryz.pinned.checked.prog.readableRec t && decide (t < Tryz.pinned.checked.prog.types.size)) = true := by kernel_rfl
theorem reasonAdds_j21 : (Rows.reasonAddsRow.ifacesOut == Tryz.f4.resultTypes.toList.any (Tryz.pinned.checked.prog.ifacesRec ·)) = true := by kernel_rfl
theorem reasonAdds_j22 : (Rows.reasonAddsRow.loopsOut == Tryz.f4.resultTypes.toList.any (Tryz.pinned.checked.prog.loopsFrom ·)) = true := by kernel_rfl
theorem reasonAdds_j23 : (Rows.reasonAddsRow.plainKeys == Tryz.pinned.checked.prog.plainKeys) = true := by kernel_rfl
theorem reasonAdds_j24 : Rows.reasonAddsRow.shortTexts.isNone = true := by kernel_rfl
theorem reasonAdds_j27 : (Rows.reasonAddsRow.lifted == Tryz.pinned.checked.prog.liftsFinal) = true := by kernel_rfl
theorem reasonAdds_j28 : (Tryz.pinned.checked.prog.make == some Rows.reasonAddsRow.make) = true := by kernel_rfl
theorem reasonAdds_j29 : (Rows.reasonAddsRow.kinds == (if Rows.reasonAddsRow.domain.isEmpty then [] else Tryz.f4.params.toList.map fun t => match Tryz.pinned.checked.prog.underlying t with | some (.int k) => some k | _ => none)) = true := by kernel_rfl
theorem reasonAdds_j30 : (Rows.reasonAddsRow.pinned == Rows.reasonAddsRow.pinnedBy) = true := by kernel_rfl
theorem reasonAdds_j31 : (Rows.reasonAddsRow.veiled == (Tryz.f4.params.toList ++ (OpenSpec.ofChange Rows.reasonAddsSpec).bare.plain.varTypes Tryz.pinned.checked.prog ++ Tryz.f4.resultTypes.toList).any (Tryz.pinned.checked.prog.veiledRec ·)) = true := by kernel_rfl
theorem reasonAdds_j32 : Rows.reasonAddsRow.veiledFits Tryz.pinned.checked.prog Tryz.f4.params.toList (Tryz.f4.params.toList ++ (OpenSpec.ofChange Rows.reasonAddsSpec).bare.plain.varTypes Tryz.pinned.checked.prog ++ Tryz.f4.resultTypes.toList) = true := by kernel_rfl
end Go.Proofs.YtnnnbjjenknpeaaGreatDoor
