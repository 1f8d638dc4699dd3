import Derived.Test.YtagijlhciclafaaGreatDoorHJf
/- The facts of the law RoadNoMore's row,each by itself. -/
set_option linter.unusedVariables false
set_option linter.unusedSimpArgs false
namespace Go.Proofs.YtagijlhciclafaaGreatDoor
open Go.ChangeShapes Go.WideShapes Go.ChangeAt Go.RowKit Go.Se
theorem roadNoMore_j1 : Rows.roadNoMoreRow.wf (OpenSpec.ofChange (OpenSpec.ofChange Rows.roadNoMoreSpec).bare) = true := by kernel_rfl
theorem roadNoMore_j4 : Tryz.f8.params.all (Tryz.pinned.checked.prog.readableRec ·) = true := by kernel_rfl
theorem roadNoMore_j5 : namedTie Tryz.pinned.checked.prog Rows.roadNoMoreRow.named (OpenSpec.ofChange Rows.roadNoMoreSpec).bare.vars = true := by kernel_rfl
theorem roadNoMore_j6 : (Rows.roadNoMoreRow.stops == []) = true := by kernel_rfl
theorem roadNoMore_j8 : (Rows.roadNoMoreRow.knobs == []) = true := by kernel_rfl
theorem roadNoMore_j10 : (Rows.roadNoMoreRow.inPlace == Tryz.pinned.checked.prog.inPlace 8) = true := by kernel_rfl
theorem roadNoMore_j11 : (Rows.roadNoMoreRow.unfollowed == Tryz.pinned.checked.prog.unfollowed 8) = true := by kernel_rfl
theorem roadNoMore_j12 : (Rows.roadNoMoreRow.recurses == Tryz.pinned.checked.prog.recurses 8) = true := by kernel_rfl
theorem roadNoMore_j13 : (Rows.roadNoMoreRow.named == Tryz.pinned.checked.prog.varsNamed 8) = true := by kernel_rfl
theorem roadNoMore_j14 : (Rows.roadNoMoreRow.maps == (Tryz.f8.params.toList ++ (OpenSpec.ofChange Rows.roadNoMoreSpec).bare.plain.varTypes Tryz.pinned.checked.prog).any (Tryz.pinned.checked.prog.mapsRec ·)) = true := by kernel_rfl
theorem roadNoMore_j15 : (Rows.roadNoMoreRow.ifaces == (Tryz.f8.params.toList ++ (OpenSpec.ofChange Rows.roadNoMoreSpec).bare.plain.varTypes Tryz.pinned.checked.prog).any (Tryz.pinned.checked.prog.ifacesRec ·)) = true := by kernel_rfl
theorem roadNoMore_j16 : (Rows.roadNoMoreRow.mapsOut == Tryz.pinned.checked.prog.mapsAmong Tryz.f8.resultTypes.toList) = true := by kernel_rfl
theorem roadNoMore_j17 : (Rows.roadNoMoreRow.loops == (Tryz.f8.params.toList ++ (OpenSpec.ofChange Rows.roadNoMoreSpec).bare.plain.varTypes Tryz.pinned.checked.prog).any (Tryz.pinned.checked.prog.loopsFrom ·)) = true := by kernel_rfl
theorem roadNoMore_j18 : (Rows.roadNoMoreRow.wideKeys == (Tryz.f8.params.toList ++ (OpenSpec.ofChange Rows.roadNoMoreSpec).bare.plain.varTypes Tryz.pinned.checked.prog ++ Tryz.f8.resultTypes.toList).any (Tryz.pinned.checked.prog.wideKeysFrom ·)) = true := by kernel_rfl
theorem roadNoMore_j19 : (OpenSpec.ofChange Rows.roadNoMoreSpec).bare.vars.all (Tryz.pinned.checked.prog.varReadable ·) = true := by kernel_rfl
theorem roadNoMore_j20 : Tryz.f8.resultTypes.all (fun t => Tryz.pinned.checked.prog.readableRec t && decide (t < Tryz.pinned.checked.prog.types.size)) = true := by kernel_rfl
theorem roadNoMore_j21 : (Rows.roadNoMoreRow.ifacesOut == Tryz.f8.resultTypes.toList.any (Tryz.pinned.checked.prog.ifacesRec ·)) = true := by kernel_rfl
theorem roadNoMore_j22 : (Rows.roadNoMoreRow.loopsOut == Tryz.f8.resultTypes.toList.any (Tryz.pinned.checked.prog.loopsFrom ·)) = true := by kernel_rfl
theorem roadNoMore_j23 : (Rows.roadNoMoreRow.plainKeys == Tryz.pinned.checked.prog.plainKeys) = true := by kernel_rfl
theorem roadNoMore_j24 : Rows.roadNoMoreRow.shortTexts.isNone = true := by kernel_rfl
theorem roadNoMore_j27 : (Rows.roadNoMoreRow.lifted == Tryz.pinned.checked.prog.liftsFinal) = true := by kernel_rfl
theorem roadNoMore_j28 : (Tryz.pinned.checked.prog.make == some Rows.roadNoMoreRow.make) = true := by kernel_rfl
theorem roadNoMore_j29 : (Rows.roadNoMoreRow.kinds == (if Rows.roadNoMoreRow.domain.isEmpty then [] else Tryz.f8.params.toList.map fun t => match Tryz.pinned.checked.prog.underlying t with | some (.int k) => some k | _ => none)) = true := by kernel_rfl
theorem roadNoMore_j30 : (Rows.roadNoMoreRow.pinned == Rows.roadNoMoreRow.pinnedBy) = true := by kernel_rfl
theorem roadNoMore_j31 : (Rows.roadNoMoreRow.veiled == (Tryz.f8.params.toList ++ (OpenSpec.ofChange Rows.roadNoMoreSpec).bare.plain.varTypes Tryz.pinned.checked.prog ++ Tryz.f8.resultTypes.toList).any (Tryz.pinned.checked.prog.veiledRec ·)) = true := by kernel_rfl
theorem roadNoMore_j32 : Rows.roadNoMoreRow.veiledFits Tryz.pinned.checked.prog Tryz.f8.params.toList (Tryz.f8.params.toList ++ (OpenSpec.ofChange Rows.roadNoMoreSpec).bare.plain.varTypes Tryz.pinned.checked.prog ++ Tryz.f8.resultTypes.toList) = true := by kernel_rfl
end Go.Proofs.YtagijlhciclafaaGreatDoor
