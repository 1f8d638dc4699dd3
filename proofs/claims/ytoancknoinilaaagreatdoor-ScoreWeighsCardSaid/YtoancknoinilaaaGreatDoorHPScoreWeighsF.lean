import Derived.Test.YtoancknoinilaaaGreatDoorHJf

/- The facts of the law ScoreWeighs's row, each by itself. -/
set_option linter.unusedVariables false
set_option linter.unusedSimpArgs false
namespace Go.Proofs.YtoancknoinilaaaGreatDoor
open Go.ChangeShapes Go.WideShapes Go.ChangeAt Go.RowKit Go.Se

theorem scoreWeighs_j1 : Rows.scoreWeighsRow.wf (OpenSpec.ofChange (OpenSpec.ofChange Rows.scoreWeighsSpec).bare) = true := by kernel_rfl
theorem scoreWeighs_j4 : Tryz.f7.params.all (Tryz.pinned.checked.prog.readableRec ·) = true := by kernel_rfl
theorem scoreWeighs_j5 : namedTie Tryz.pinned.checked.prog Rows.scoreWeighsRow.named (OpenSpec.ofChange Rows.scoreWeighsSpec).bare.vars = true := by kernel_rfl
theorem scoreWeighs_j6 : (Rows.scoreWeighsRow.stops == []) = true := by kernel_rfl
theorem scoreWeighs_j8 : (Rows.scoreWeighsRow.knobs == []) = true := by kernel_rfl
theorem scoreWeighs_j10 : (Rows.scoreWeighsRow.inPlace == Tryz.pinned.checked.prog.inPlace 7) = true := by kernel_rfl
theorem scoreWeighs_j11 : (Rows.scoreWeighsRow.unfollowed == Tryz.pinned.checked.prog.unfollowed 7) = true := by kernel_rfl
theorem scoreWeighs_j12 : (Rows.scoreWeighsRow.recurses == Tryz.pinned.checked.prog.recurses 7) = true := by kernel_rfl
theorem scoreWeighs_j13 : (Rows.scoreWeighsRow.named == Tryz.pinned.checked.prog.varsNamed 7) = true := by kernel_rfl
theorem scoreWeighs_j14 : (Rows.scoreWeighsRow.maps == (Tryz.f7.params.toList ++ (OpenSpec.ofChange Rows.scoreWeighsSpec).bare.plain.varTypes Tryz.pinned.checked.prog).any (Tryz.pinned.checked.prog.mapsRec ·)) = true := by kernel_rfl
theorem scoreWeighs_j15 : (Rows.scoreWeighsRow.ifaces == (Tryz.f7.params.toList ++ (OpenSpec.ofChange Rows.scoreWeighsSpec).bare.plain.varTypes Tryz.pinned.checked.prog).any (Tryz.pinned.checked.prog.ifacesRec ·)) = true := by kernel_rfl
theorem scoreWeighs_j16 : (Rows.scoreWeighsRow.mapsOut == Tryz.pinned.checked.prog.mapsAmong Tryz.f7.resultTypes.toList) = true := by kernel_rfl
theorem scoreWeighs_j17 : (Rows.scoreWeighsRow.loops == (Tryz.f7.params.toList ++ (OpenSpec.ofChange Rows.scoreWeighsSpec).bare.plain.varTypes Tryz.pinned.checked.prog).any (Tryz.pinned.checked.prog.loopsFrom ·)) = true := by kernel_rfl
theorem scoreWeighs_j18 : (Rows.scoreWeighsRow.wideKeys == (Tryz.f7.params.toList ++ (OpenSpec.ofChange Rows.scoreWeighsSpec).bare.plain.varTypes Tryz.pinned.checked.prog ++ Tryz.f7.resultTypes.toList).any (Tryz.pinned.checked.prog.wideKeysFrom ·)) = true := by kernel_rfl
theorem scoreWeighs_j19 : (OpenSpec.ofChange Rows.scoreWeighsSpec).bare.vars.all (Tryz.pinned.checked.prog.varReadable ·) = true := by kernel_rfl
theorem scoreWeighs_j20 : Tryz.f7.resultTypes.all (fun t => Tryz.pinned.checked.prog.readableRec t && decide (t < Tryz.pinned.checked.prog.types.size)) = true := by kernel_rfl
theorem scoreWeighs_j21 : (Rows.scoreWeighsRow.ifacesOut == Tryz.f7.resultTypes.toList.any (Tryz.pinned.checked.prog.ifacesRec ·)) = true := by kernel_rfl
theorem scoreWeighs_j22 : (Rows.scoreWeighsRow.loopsOut == Tryz.f7.resultTypes.toList.any (Tryz.pinned.checked.prog.loopsFrom ·)) = true := by kernel_rfl
theorem scoreWeighs_j23 : (Rows.scoreWeighsRow.plainKeys == Tryz.pinned.checked.prog.plainKeys) = true := by kernel_rfl
theorem scoreWeighs_j24 : Rows.scoreWeighsRow.shortTexts.isNone = true := by kernel_rfl
theorem scoreWeighs_j27 : (Rows.scoreWeighsRow.lifted == Tryz.pinned.checked.prog.liftsFinal) = true := by kernel_rfl
theorem scoreWeighs_j28 : (Tryz.pinned.checked.prog.make == some Rows.scoreWeighsRow.make) = true := by kernel_rfl
theorem scoreWeighs_j29 : (Rows.scoreWeighsRow.kinds == (if Rows.scoreWeighsRow.domain.isEmpty then [] else Tryz.f7.params.toList.map fun t => match Tryz.pinned.checked.prog.underlying t with | some (.int k) => some k | _ => none)) = true := by kernel_rfl
theorem scoreWeighs_j30 : (Rows.scoreWeighsRow.pinned == Rows.scoreWeighsRow.pinnedBy) = true := by kernel_rfl
theorem scoreWeighs_j31 : (Rows.scoreWeighsRow.veiled == (Tryz.f7.params.toList ++ (OpenSpec.ofChange Rows.scoreWeighsSpec).bare.plain.varTypes Tryz.pinned.checked.prog ++ Tryz.f7.resultTypes.toList).any (Tryz.pinned.checked.prog.veiledRec ·)) = true := by kernel_rfl
theorem scoreWeighs_j32 : Rows.scoreWeighsRow.veiledFits Tryz.pinned.checked.prog Tryz.f7.params.toList (Tryz.f7.params.toList ++ (OpenSpec.ofChange Rows.scoreWeighsSpec).bare.plain.varTypes Tryz.pinned.checked.prog ++ Tryz.f7.resultTypes.toList) = true := by kernel_rfl
end Go.Proofs.YtoancknoinilaaaGreatDoor
