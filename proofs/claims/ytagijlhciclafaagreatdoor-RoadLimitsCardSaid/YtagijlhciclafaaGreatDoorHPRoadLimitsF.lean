import Derived.Test.YtagijlhciclafaaGreatDoorHJf
/- The facts of the law RoadLimits's row,each by itself. -/
set_option linter.unusedVariables false
set_option linter.unusedSimpArgs false
namespace Go.Proofs.YtagijlhciclafaaGreatDoor
open Go.ChangeShapes Go.WideShapes Go.ChangeAt Go.RowKit Go.Se
theorem roadLimits_j1 : Rows.roadLimitsRow.wf (OpenSpec.ofChange (OpenSpec.ofChange Rows.roadLimitsSpec).bare) = true := by kernel_rfl
theorem roadLimits_j4 : Tryz.f5.params.all (Tryz.pinned.checked.prog.readableRec ·) = true := by kernel_rfl
theorem roadLimits_j5 : namedTie Tryz.pinned.checked.prog Rows.roadLimitsRow.named (OpenSpec.ofChange Rows.roadLimitsSpec).bare.vars = true := by kernel_rfl
theorem roadLimits_j6 : (Rows.roadLimitsRow.stops == []) = true := by kernel_rfl
theorem roadLimits_j8 : (Rows.roadLimitsRow.knobs == []) = true := by kernel_rfl
theorem roadLimits_j10 : (Rows.roadLimitsRow.inPlace == Tryz.pinned.checked.prog.inPlace 5) = true := by kernel_rfl
theorem roadLimits_j11 : (Rows.roadLimitsRow.unfollowed == Tryz.pinned.checked.prog.unfollowed 5) = true := by kernel_rfl
theorem roadLimits_j12 : (Rows.roadLimitsRow.recurses == Tryz.pinned.checked.prog.recurses 5) = true := by kernel_rfl
theorem roadLimits_j13 : (Rows.roadLimitsRow.named == Tryz.pinned.checked.prog.varsNamed 5) = true := by kernel_rfl
theorem roadLimits_j14 : (Rows.roadLimitsRow.maps == (Tryz.f5.params.toList ++ (OpenSpec.ofChange Rows.roadLimitsSpec).bare.plain.varTypes Tryz.pinned.checked.prog).any (Tryz.pinned.checked.prog.mapsRec ·)) = true := by kernel_rfl
theorem roadLimits_j15 : (Rows.roadLimitsRow.ifaces == (Tryz.f5.params.toList ++ (OpenSpec.ofChange Rows.roadLimitsSpec).bare.plain.varTypes Tryz.pinned.checked.prog).any (Tryz.pinned.checked.prog.ifacesRec ·)) = true := by kernel_rfl
theorem roadLimits_j16 : (Rows.roadLimitsRow.mapsOut == Tryz.pinned.checked.prog.mapsAmong Tryz.f5.resultTypes.toList) = true := by kernel_rfl
theorem roadLimits_j17 : (Rows.roadLimitsRow.loops == (Tryz.f5.params.toList ++ (OpenSpec.ofChange Rows.roadLimitsSpec).bare.plain.varTypes Tryz.pinned.checked.prog).any (Tryz.pinned.checked.prog.loopsFrom ·)) = true := by kernel_rfl
theorem roadLimits_j18 : (Rows.roadLimitsRow.wideKeys == (Tryz.f5.params.toList ++ (OpenSpec.ofChange Rows.roadLimitsSpec).bare.plain.varTypes Tryz.pinned.checked.prog ++ Tryz.f5.resultTypes.toList).any (Tryz.pinned.checked.prog.wideKeysFrom ·)) = true := by kernel_rfl
theorem roadLimits_j19 : (OpenSpec.ofChange Rows.roadLimitsSpec).bare.vars.all (Tryz.pinned.checked.prog.varReadable ·) = true := by kernel_rfl
theorem roadLimits_j20 : Tryz.f5.resultTypes.all (fun t => Tryz.pinned.checked.prog.readableRec t && decide (t < Tryz.pinned.checked.prog.types.size)) = true := by kernel_rfl
theorem roadLimits_j21 : (Rows.roadLimitsRow.ifacesOut == Tryz.f5.resultTypes.toList.any (Tryz.pinned.checked.prog.ifacesRec ·)) = true := by kernel_rfl
theorem roadLimits_j22 : (Rows.roadLimitsRow.loopsOut == Tryz.f5.resultTypes.toList.any (Tryz.pinned.checked.prog.loopsFrom ·)) = true := by kernel_rfl
theorem roadLimits_j23 : (Rows.roadLimitsRow.plainKeys == Tryz.pinned.checked.prog.plainKeys) = true := by kernel_rfl
theorem roadLimits_j24 : Rows.roadLimitsRow.shortTexts.isNone = true := by kernel_rfl
theorem roadLimits_j27 : (Rows.roadLimitsRow.lifted == Tryz.pinned.checked.prog.liftsFinal) = true := by kernel_rfl
theorem roadLimits_j28 : (Tryz.pinned.checked.prog.make == some Rows.roadLimitsRow.make) = true := by kernel_rfl
theorem roadLimits_j29 : (Rows.roadLimitsRow.kinds == (if Rows.roadLimitsRow.domain.isEmpty then [] else Tryz.f5.params.toList.map fun t => match Tryz.pinned.checked.prog.underlying t with | some (.int k) => some k | _ => none)) = true := by kernel_rfl
theorem roadLimits_j30 : (Rows.roadLimitsRow.pinned == Rows.roadLimitsRow.pinnedBy) = true := by kernel_rfl
theorem roadLimits_j31 : (Rows.roadLimitsRow.veiled == (Tryz.f5.params.toList ++ (OpenSpec.ofChange Rows.roadLimitsSpec).bare.plain.varTypes Tryz.pinned.checked.prog ++ Tryz.f5.resultTypes.toList).any (Tryz.pinned.checked.prog.veiledRec ·)) = true := by kernel_rfl
theorem roadLimits_j32 : Rows.roadLimitsRow.veiledFits Tryz.pinned.checked.prog Tryz.f5.params.toList (Tryz.f5.params.toList ++ (OpenSpec.ofChange Rows.roadLimitsSpec).bare.plain.varTypes Tryz.pinned.checked.prog ++ Tryz.f5.resultTypes.toList) = true := by kernel_rfl
end Go.Proofs.YtagijlhciclafaaGreatDoor
