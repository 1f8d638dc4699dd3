import Derived.Test.YtoancknoinilaaaGreatDoorHJf

/- The facts of the law ScoreAhead's row, each by itself. -/
set_option linter.unusedVariables false
set_option linter.unusedSimpArgs false
namespace Go.Proofs.YtoancknoinilaaaGreatDoor
open Go.ChangeShapes Go.WideShapes Go.ChangeAt Go.RowKit Go.Se

theorem scoreAhead_j1 : Rows.scoreAheadRow.wf (OpenSpec.ofChange (OpenSpec.ofChange Rows.scoreAheadSpec).bare) = true := by kernel_rfl
theorem scoreAhead_j4 : Tryz.f8.params.all (Tryz.pinned.checked.prog.readableRec ·) = true := by kernel_rfl
theorem scoreAhead_j5 : namedTie Tryz.pinned.checked.prog Rows.scoreAheadRow.named (OpenSpec.ofChange Rows.scoreAheadSpec).bare.vars = true := by kernel_rfl
theorem scoreAhead_j6 : (Rows.scoreAheadRow.stops == []) = true := by kernel_rfl
theorem scoreAhead_j8 : (Rows.scoreAheadRow.knobs == []) = true := by kernel_rfl
theorem scoreAhead_j10 : (Rows.scoreAheadRow.inPlace == Tryz.pinned.checked.prog.inPlace 8) = true := by kernel_rfl
theorem scoreAhead_j11 : (Rows.scoreAheadRow.unfollowed == Tryz.pinned.checked.prog.unfollowed 8) = true := by kernel_rfl
theorem scoreAhead_j12 : (Rows.scoreAheadRow.recurses == Tryz.pinned.checked.prog.recurses 8) = true := by kernel_rfl
theorem scoreAhead_j13 : (Rows.scoreAheadRow.named == Tryz.pinned.checked.prog.varsNamed 8) = true := by kernel_rfl
theorem scoreAhead_j14 : (Rows.scoreAheadRow.maps == (Tryz.f8.params.toList ++ (OpenSpec.ofChange Rows.scoreAheadSpec).bare.plain.varTypes Tryz.pinned.checked.prog).any (Tryz.pinned.checked.prog.mapsRec ·)) = true := by kernel_rfl
theorem scoreAhead_j15 : (Rows.scoreAheadRow.ifaces == (Tryz.f8.params.toList ++ (OpenSpec.ofChange Rows.scoreAheadSpec).bare.plain.varTypes Tryz.pinned.checked.prog).any (Tryz.pinned.checked.prog.ifacesRec ·)) = true := by kernel_rfl
theorem scoreAhead_j16 : (Rows.scoreAheadRow.mapsOut == Tryz.pinned.checked.prog.mapsAmong Tryz.f8.resultTypes.toList) = true := by kernel_rfl
theorem scoreAhead_j17 : (Rows.scoreAheadRow.loops == (Tryz.f8.params.toList ++ (OpenSpec.ofChange Rows.scoreAheadSpec).bare.plain.varTypes Tryz.pinned.checked.prog).any (Tryz.pinned.checked.prog.loopsFrom ·)) = true := by kernel_rfl
theorem scoreAhead_j18 : (Rows.scoreAheadRow.wideKeys == (Tryz.f8.params.toList ++ (OpenSpec.ofChange Rows.scoreAheadSpec).bare.plain.varTypes Tryz.pinned.checked.prog ++ Tryz.f8.resultTypes.toList).any (Tryz.pinned.checked.prog.wideKeysFrom ·)) = true := by kernel_rfl
theorem scoreAhead_j19 : (OpenSpec.ofChange Rows.scoreAheadSpec).bare.vars.all (Tryz.pinned.checked.prog.varReadable ·) = true := by kernel_rfl
theorem scoreAhead_j20 : Tryz.f8.resultTypes.all (fun t => Tryz.pinned.checked.prog.readableRec t && decide (t < Tryz.pinned.checked.prog.types.size)) = true := by kernel_rfl
theorem scoreAhead_j21 : (Rows.scoreAheadRow.ifacesOut == Tryz.f8.resultTypes.toList.any (Tryz.pinned.checked.prog.ifacesRec ·)) = true := by kernel_rfl
theorem scoreAhead_j22 : (Rows.scoreAheadRow.loopsOut == Tryz.f8.resultTypes.toList.any (Tryz.pinned.checked.prog.loopsFrom ·)) = true := by kernel_rfl
theorem scoreAhead_j23 : (Rows.scoreAheadRow.plainKeys == Tryz.pinned.checked.prog.plainKeys) = true := by kernel_rfl
theorem scoreAhead_j24 : Rows.scoreAheadRow.shortTexts.isNone = true := by kernel_rfl
theorem scoreAhead_j27 : (Rows.scoreAheadRow.lifted == Tryz.pinned.checked.prog.liftsFinal) = true := by kernel_rfl
theorem scoreAhead_j28 : (Tryz.pinned.checked.prog.make == some Rows.scoreAheadRow.make) = true := by kernel_rfl
theorem scoreAhead_j29 : (Rows.scoreAheadRow.kinds == (if Rows.scoreAheadRow.domain.isEmpty then [] else Tryz.f8.params.toList.map fun t => match Tryz.pinned.checked.prog.underlying t with | some (.int k) => some k | _ => none)) = true := by kernel_rfl
theorem scoreAhead_j30 : (Rows.scoreAheadRow.pinned == Rows.scoreAheadRow.pinnedBy) = true := by kernel_rfl
theorem scoreAhead_j31 : (Rows.scoreAheadRow.veiled == (Tryz.f8.params.toList ++ (OpenSpec.ofChange Rows.scoreAheadSpec).bare.plain.varTypes Tryz.pinned.checked.prog ++ Tryz.f8.resultTypes.toList).any (Tryz.pinned.checked.prog.veiledRec ·)) = true := by kernel_rfl
theorem scoreAhead_j32 : Rows.scoreAheadRow.veiledFits Tryz.pinned.checked.prog Tryz.f8.params.toList (Tryz.f8.params.toList ++ (OpenSpec.ofChange Rows.scoreAheadSpec).bare.plain.varTypes Tryz.pinned.checked.prog ++ Tryz.f8.resultTypes.toList) = true := by kernel_rfl
end Go.Proofs.YtoancknoinilaaaGreatDoor
