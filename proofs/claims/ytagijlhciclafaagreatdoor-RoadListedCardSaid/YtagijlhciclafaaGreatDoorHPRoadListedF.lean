import Derived.Test.YtagijlhciclafaaGreatDoorHJf
/- The facts of the law RoadListed's row,each by itself. -/
set_option linter.unusedVariables false
set_option linter.unusedSimpArgs false
namespace Go.Proofs.YtagijlhciclafaaGreatDoor
open Go.ChangeShapes Go.WideShapes Go.ChangeAt Go.RowKit Go.Se
theorem roadListed_j1 : Rows.roadListedRow.wf (OpenSpec.ofChange (OpenSpec.ofChange Rows.roadListedSpec).bare) = true := by kernel_rfl
theorem roadListed_j4 : Tryz.f7.params.all (Tryz.pinned.checked.prog.readableRec ·) = true := by kernel_rfl
theorem roadListed_j5 : namedTie Tryz.pinned.checked.prog Rows.roadListedRow.named (OpenSpec.ofChange Rows.roadListedSpec).bare.vars = true := by kernel_rfl
theorem roadListed_j6 : (Rows.roadListedRow.stops == []) = true := by kernel_rfl
theorem roadListed_j8 : (Rows.roadListedRow.knobs == []) = true := by kernel_rfl
theorem roadListed_j10 : (Rows.roadListedRow.inPlace == Tryz.pinned.checked.prog.inPlace 7) = true := by kernel_rfl
theorem roadListed_j11 : (Rows.roadListedRow.unfollowed == Tryz.pinned.checked.prog.unfollowed 7) = true := by kernel_rfl
theorem roadListed_j12 : (Rows.roadListedRow.recurses == Tryz.pinned.checked.prog.recurses 7) = true := by kernel_rfl
theorem roadListed_j13 : (Rows.roadListedRow.named == Tryz.pinned.checked.prog.varsNamed 7) = true := by kernel_rfl
theorem roadListed_j14 : (Rows.roadListedRow.maps == (Tryz.f7.params.toList ++ (OpenSpec.ofChange Rows.roadListedSpec).bare.plain.varTypes Tryz.pinned.checked.prog).any (Tryz.pinned.checked.prog.mapsRec ·)) = true := by kernel_rfl
theorem roadListed_j15 : (Rows.roadListedRow.ifaces == (Tryz.f7.params.toList ++ (OpenSpec.ofChange Rows.roadListedSpec).bare.plain.varTypes Tryz.pinned.checked.prog).any (Tryz.pinned.checked.prog.ifacesRec ·)) = true := by kernel_rfl
theorem roadListed_j16 : (Rows.roadListedRow.mapsOut == Tryz.pinned.checked.prog.mapsAmong Tryz.f7.resultTypes.toList) = true := by kernel_rfl
theorem roadListed_j17 : (Rows.roadListedRow.loops == (Tryz.f7.params.toList ++ (OpenSpec.ofChange Rows.roadListedSpec).bare.plain.varTypes Tryz.pinned.checked.prog).any (Tryz.pinned.checked.prog.loopsFrom ·)) = true := by kernel_rfl
theorem roadListed_j18 : (Rows.roadListedRow.wideKeys == (Tryz.f7.params.toList ++ (OpenSpec.ofChange Rows.roadListedSpec).bare.plain.varTypes Tryz.pinned.checked.prog ++ Tryz.f7.resultTypes.toList).any (Tryz.pinned.checked.prog.wideKeysFrom ·)) = true := by kernel_rfl
theorem roadListed_j19 : (OpenSpec.ofChange Rows.roadListedSpec).bare.vars.all (Tryz.pinned.checked.prog.varReadable ·) = true := by kernel_rfl
theorem roadListed_j20 : Tryz.f7.resultTypes.all (fun t => Tryz.pinned.checked.prog.readableRec t && decide (t < Tryz.pinned.checked.prog.types.size)) = true := by kernel_rfl
theorem roadListed_j21 : (Rows.roadListedRow.ifacesOut == Tryz.f7.resultTypes.toList.any (Tryz.pinned.checked.prog.ifacesRec ·)) = true := by kernel_rfl
theorem roadListed_j22 : (Rows.roadListedRow.loopsOut == Tryz.f7.resultTypes.toList.any (Tryz.pinned.checked.prog.loopsFrom ·)) = true := by kernel_rfl
theorem roadListed_j23 : (Rows.roadListedRow.plainKeys == Tryz.pinned.checked.prog.plainKeys) = true := by kernel_rfl
theorem roadListed_j24 : Rows.roadListedRow.shortTexts.isNone = true := by kernel_rfl
theorem roadListed_j27 : (Rows.roadListedRow.lifted == Tryz.pinned.checked.prog.liftsFinal) = true := by kernel_rfl
theorem roadListed_j28 : (Tryz.pinned.checked.prog.make == some Rows.roadListedRow.make) = true := by kernel_rfl
theorem roadListed_j29 : (Rows.roadListedRow.kinds == (if Rows.roadListedRow.domain.isEmpty then [] else Tryz.f7.params.toList.map fun t => match Tryz.pinned.checked.prog.underlying t with | some (.int k) => some k | _ => none)) = true := by kernel_rfl
theorem roadListed_j30 : (Rows.roadListedRow.pinned == Rows.roadListedRow.pinnedBy) = true := by kernel_rfl
theorem roadListed_j31 : (Rows.roadListedRow.veiled == (Tryz.f7.params.toList ++ (OpenSpec.ofChange Rows.roadListedSpec).bare.plain.varTypes Tryz.pinned.checked.prog ++ Tryz.f7.resultTypes.toList).any (Tryz.pinned.checked.prog.veiledRec ·)) = true := by kernel_rfl
theorem roadListed_j32 : Rows.roadListedRow.veiledFits Tryz.pinned.checked.prog Tryz.f7.params.toList (Tryz.f7.params.toList ++ (OpenSpec.ofChange Rows.roadListedSpec).bare.plain.varTypes Tryz.pinned.checked.prog ++ Tryz.f7.resultTypes.toList) = true := by kernel_rfl
end Go.Proofs.YtagijlhciclafaaGreatDoor
