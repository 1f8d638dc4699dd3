import Derived.Test.YtnnnbjjenknpeaaGreatDoorHJf
/- The facts of the law ReasonTexts's row,each by itself. -/
set_option linter.unusedVariables false
set_option linter.unusedSimpArgs false
namespace Go.Proofs.YtnnnbjjenknpeaaGreatDoor
open Go.ChangeShapes Go.WideShapes Go.ChangeAt Go.RowKit Go.Se
theorem reasonTexts_j1 : Rows.reasonTextsRow.wf (OpenSpec.ofChange (OpenSpec.ofChange Rows.reasonTextsSpec).bare) = true := by kernel_rfl
theorem reasonTexts_j4 : Tryz.f9.params.all (Tryz.pinned.checked.prog.readableRec ·) = true := by kernel_rfl
theorem reasonTexts_j5 : namedTie Tryz.pinned.checked.prog Rows.reasonTextsRow.named (OpenSpec.ofChange Rows.reasonTextsSpec).bare.vars = true := by kernel_rfl
theorem reasonTexts_j6 : (Rows.reasonTextsRow.stops == []) = true := by kernel_rfl
theorem reasonTexts_j8 : (Rows.reasonTextsRow.knobs == []) = true := by kernel_rfl
theorem reasonTexts_j10 : (Rows.reasonTextsRow.inPlace == Tryz.pinned.checked.prog.inPlace 9) = true := by kernel_rfl
theorem reasonTexts_j11 : (Rows.reasonTextsRow.unfollowed == Tryz.pinned.checked.prog.unfollowed 9) = true := by kernel_rfl
theorem reasonTexts_j12 : (Rows.reasonTextsRow.recurses == Tryz.pinned.checked.prog.recurses 9) = true := by kernel_rfl
theorem reasonTexts_j13 : (Rows.reasonTextsRow.named == Tryz.pinned.checked.prog.varsNamed 9) = true := by kernel_rfl
theorem reasonTexts_j14 : (Rows.reasonTextsRow.maps == (Tryz.f9.params.toList ++ (OpenSpec.ofChange Rows.reasonTextsSpec).bare.plain.varTypes Tryz.pinned.checked.prog).any (Tryz.pinned.checked.prog.mapsRec ·)) = true := by kernel_rfl
theorem reasonTexts_j15 : (Rows.reasonTextsRow.ifaces == (Tryz.f9.params.toList ++ (OpenSpec.ofChange Rows.reasonTextsSpec).bare.plain.varTypes Tryz.pinned.checked.prog).any (Tryz.pinned.checked.prog.ifacesRec ·)) = true := by kernel_rfl
theorem reasonTexts_j16 : (Rows.reasonTextsRow.mapsOut == Tryz.pinned.checked.prog.mapsAmong Tryz.f9.resultTypes.toList) = true := by kernel_rfl
theorem reasonTexts_j17 : (Rows.reasonTextsRow.loops == (Tryz.f9.params.toList ++ (OpenSpec.ofChange Rows.reasonTextsSpec).bare.plain.varTypes Tryz.pinned.checked.prog).any (Tryz.pinned.checked.prog.loopsFrom ·)) = true := by kernel_rfl
theorem reasonTexts_j18 : (Rows.reasonTextsRow.wideKeys == (Tryz.f9.params.toList ++ (OpenSpec.ofChange Rows.reasonTextsSpec).bare.plain.varTypes Tryz.pinned.checked.prog ++ Tryz.f9.resultTypes.toList).any (Tryz.pinned.checked.prog.wideKeysFrom ·)) = true := by kernel_rfl
theorem reasonTexts_j19 : (OpenSpec.ofChange Rows.reasonTextsSpec).bare.vars.all (Tryz.pinned.checked.prog.varReadable ·) = true := by kernel_rfl
theorem reasonTexts_j20 : Tryz.f9.resultTypes.all (fun t => Tryz.pinned.checked.prog.readableRec t && decide (t < Tryz.pinned.checked.prog.types.size)) = true := by kernel_rfl
theorem reasonTexts_j21 : (Rows.reasonTextsRow.ifacesOut == Tryz.f9.resultTypes.toList.any (Tryz.pinned.checked.prog.ifacesRec ·)) = true := by kernel_rfl
theorem reasonTexts_j22 : (Rows.reasonTextsRow.loopsOut == Tryz.f9.resultTypes.toList.any (Tryz.pinned.checked.prog.loopsFrom ·)) = true := by kernel_rfl
theorem reasonTexts_j23 : (Rows.reasonTextsRow.plainKeys == Tryz.pinned.checked.prog.plainKeys) = true := by kernel_rfl
theorem reasonTexts_j24 : Rows.reasonTextsRow.shortTexts.isNone = true := by kernel_rfl
theorem reasonTexts_j27 : (Rows.reasonTextsRow.lifted == Tryz.pinned.checked.prog.liftsFinal) = true := by kernel_rfl
theorem reasonTexts_j28 : (Tryz.pinned.checked.prog.make == some Rows.reasonTextsRow.make) = true := by kernel_rfl
theorem reasonTexts_j29 : (Rows.reasonTextsRow.kinds == (if Rows.reasonTextsRow.domain.isEmpty then [] else Tryz.f9.params.toList.map fun t => match Tryz.pinned.checked.prog.underlying t with | some (.int k) => some k | _ => none)) = true := by kernel_rfl
theorem reasonTexts_j30 : (Rows.reasonTextsRow.pinned == Rows.reasonTextsRow.pinnedBy) = true := by kernel_rfl
theorem reasonTexts_j31 : (Rows.reasonTextsRow.veiled == (Tryz.f9.params.toList ++ (OpenSpec.ofChange Rows.reasonTextsSpec).bare.plain.varTypes Tryz.pinned.checked.prog ++ Tryz.f9.resultTypes.toList).any (Tryz.pinned.checked.prog.veiledRec ·)) = true := by kernel_rfl
theorem reasonTexts_j32 : Rows.reasonTextsRow.veiledFits Tryz.pinned.checked.prog Tryz.f9.params.toList (Tryz.f9.params.toList ++ (OpenSpec.ofChange Rows.reasonTextsSpec).bare.plain.varTypes Tryz.pinned.checked.prog ++ Tryz.f9.resultTypes.toList) = true := by kernel_rfl
end Go.Proofs.YtnnnbjjenknpeaaGreatDoor
