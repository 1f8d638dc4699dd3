import Derived.Test.YtoancknoinilaaaGreatDoorHJf

/- The facts of the law ScoreTotals's row, each by itself. -/
set_option linter.unusedVariables false
set_option linter.unusedSimpArgs false
namespace Go.Proofs.YtoancknoinilaaaGreatDoor
open Go.ChangeShapes Go.WideShapes Go.ChangeAt Go.RowKit Go.Se

theorem scoreTotals_j1 : Rows.scoreTotalsRow.wf (OpenSpec.ofChange (OpenSpec.ofChange Rows.scoreTotalsSpec).bare) = true := by kernel_rfl
theorem scoreTotals_j4 : Tryz.f5.params.all (Tryz.pinned.checked.prog.readableRec ·) = true := by kernel_rfl
theorem scoreTotals_j5 : namedTie Tryz.pinned.checked.prog Rows.scoreTotalsRow.named (OpenSpec.ofChange Rows.scoreTotalsSpec).bare.vars = true := by kernel_rfl
theorem scoreTotals_j6 : (Rows.scoreTotalsRow.stops == []) = true := by kernel_rfl
theorem scoreTotals_j8 : (Rows.scoreTotalsRow.knobs == []) = true := by kernel_rfl
theorem scoreTotals_j10 : (Rows.scoreTotalsRow.inPlace == Tryz.pinned.checked.prog.inPlace 5) = true := by kernel_rfl
theorem scoreTotals_j11 : (Rows.scoreTotalsRow.unfollowed == Tryz.pinned.checked.prog.unfollowed 5) = true := by kernel_rfl
theorem scoreTotals_j12 : (Rows.scoreTotalsRow.recurses == Tryz.pinned.checked.prog.recurses 5) = true := by kernel_rfl
theorem scoreTotals_j13 : (Rows.scoreTotalsRow.named == Tryz.pinned.checked.prog.varsNamed 5) = true := by kernel_rfl
theorem scoreTotals_j14 : (Rows.scoreTotalsRow.maps == (Tryz.f5.params.toList ++ (OpenSpec.ofChange Rows.scoreTotalsSpec).bare.plain.varTypes Tryz.pinned.checked.prog).any (Tryz.pinned.checked.prog.mapsRec ·)) = true := by kernel_rfl
theorem scoreTotals_j15 : (Rows.scoreTotalsRow.ifaces == (Tryz.f5.params.toList ++ (OpenSpec.ofChange Rows.scoreTotalsSpec).bare.plain.varTypes Tryz.pinned.checked.prog).any (Tryz.pinned.checked.prog.ifacesRec ·)) = true := by kernel_rfl
theorem scoreTotals_j16 : (Rows.scoreTotalsRow.mapsOut == Tryz.pinned.checked.prog.mapsAmong Tryz.f5.resultTypes.toList) = true := by kernel_rfl
theorem scoreTotals_j17 : (Rows.scoreTotalsRow.loops == (Tryz.f5.params.toList ++ (OpenSpec.ofChange Rows.scoreTotalsSpec).bare.plain.varTypes Tryz.pinned.checked.prog).any (Tryz.pinned.checked.prog.loopsFrom ·)) = true := by kernel_rfl
theorem scoreTotals_j18 : (Rows.scoreTotalsRow.wideKeys == (Tryz.f5.params.toList ++ (OpenSpec.ofChange Rows.scoreTotalsSpec).bare.plain.varTypes Tryz.pinned.checked.prog ++ Tryz.f5.resultTypes.toList).any (Tryz.pinned.checked.prog.wideKeysFrom ·)) = true := by kernel_rfl
theorem scoreTotals_j19 : (OpenSpec.ofChange Rows.scoreTotalsSpec).bare.vars.all (Tryz.pinned.checked.prog.varReadable ·) = true := by kernel_rfl
theorem scoreTotals_j20 : Tryz.f5.resultTypes.all (fun t => Tryz.pinned.checked.prog.readableRec t && decide (t < Tryz.pinned.checked.prog.types.size)) = true := by kernel_rfl
theorem scoreTotals_j21 : (Rows.scoreTotalsRow.ifacesOut == Tryz.f5.resultTypes.toList.any (Tryz.pinned.checked.prog.ifacesRec ·)) = true := by kernel_rfl
theorem scoreTotals_j22 : (Rows.scoreTotalsRow.loopsOut == Tryz.f5.resultTypes.toList.any (Tryz.pinned.checked.prog.loopsFrom ·)) = true := by kernel_rfl
theorem scoreTotals_j23 : (Rows.scoreTotalsRow.plainKeys == Tryz.pinned.checked.prog.plainKeys) = true := by kernel_rfl
theorem scoreTotals_j24 : Rows.scoreTotalsRow.shortTexts.isNone = true := by kernel_rfl
theorem scoreTotals_j27 : (Rows.scoreTotalsRow.lifted == Tryz.pinned.checked.prog.liftsFinal) = true := by kernel_rfl
theorem scoreTotals_j28 : (Tryz.pinned.checked.prog.make == some Rows.scoreTotalsRow.make) = true := by kernel_rfl
theorem scoreTotals_j29 : (Rows.scoreTotalsRow.kinds == (if Rows.scoreTotalsRow.domain.isEmpty then [] else Tryz.f5.params.toList.map fun t => match Tryz.pinned.checked.prog.underlying t with | some (.int k) => some k | _ => none)) = true := by kernel_rfl
theorem scoreTotals_j30 : (Rows.scoreTotalsRow.pinned == Rows.scoreTotalsRow.pinnedBy) = true := by kernel_rfl
theorem scoreTotals_j31 : (Rows.scoreTotalsRow.veiled == (Tryz.f5.params.toList ++ (OpenSpec.ofChange Rows.scoreTotalsSpec).bare.plain.varTypes Tryz.pinned.checked.prog ++ Tryz.f5.resultTypes.toList).any (Tryz.pinned.checked.prog.veiledRec ·)) = true := by kernel_rfl
theorem scoreTotals_j32 : Rows.scoreTotalsRow.veiledFits Tryz.pinned.checked.prog Tryz.f5.params.toList (Tryz.f5.params.toList ++ (OpenSpec.ofChange Rows.scoreTotalsSpec).bare.plain.varTypes Tryz.pinned.checked.prog ++ Tryz.f5.resultTypes.toList) = true := by kernel_rfl
end Go.Proofs.YtoancknoinilaaaGreatDoor
