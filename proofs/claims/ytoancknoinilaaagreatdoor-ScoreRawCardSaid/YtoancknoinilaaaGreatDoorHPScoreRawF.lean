import Derived.Test.YtoancknoinilaaaGreatDoorHJf
/- The facts of the law ScoreRaw's row,each by itself. -/
set_option linter.unusedVariables false
set_option linter.unusedSimpArgs false
namespace Go.Proofs.YtoancknoinilaaaGreatDoor
open Go.ChangeShapes Go.WideShapes Go.ChangeAt Go.RowKit Go.Se
theorem scoreRaw_j1 : Rows.scoreRawRow.wf (OpenSpec.ofChange (OpenSpec.ofChange Rows.scoreRawSpec).bare) = true := by kernel_rfl
theorem scoreRaw_j4 : Tryz.f3.params.all (Tryz.pinned.checked.prog.readableRec ·) = true := by kernel_rfl
theorem scoreRaw_j5 : namedTie Tryz.pinned.checked.prog Rows.scoreRawRow.named (OpenSpec.ofChange Rows.scoreRawSpec).bare.vars = true := by kernel_rfl
theorem scoreRaw_j6 : (Rows.scoreRawRow.stops == []) = true := by kernel_rfl
theorem scoreRaw_j8 : (Rows.scoreRawRow.knobs == []) = true := by kernel_rfl
theorem scoreRaw_j10 : (Rows.scoreRawRow.inPlace == Tryz.pinned.checked.prog.inPlace 3) = true := by kernel_rfl
theorem scoreRaw_j11 : (Rows.scoreRawRow.unfollowed == Tryz.pinned.checked.prog.unfollowed 3) = true := by kernel_rfl
theorem scoreRaw_j12 : (Rows.scoreRawRow.recurses == Tryz.pinned.checked.prog.recurses 3) = true := by kernel_rfl
theorem scoreRaw_j13 : (Rows.scoreRawRow.named == Tryz.pinned.checked.prog.varsNamed 3) = true := by kernel_rfl
theorem scoreRaw_j14 : (Rows.scoreRawRow.maps == (Tryz.f3.params.toList ++ (OpenSpec.ofChange Rows.scoreRawSpec).bare.plain.varTypes Tryz.pinned.checked.prog).any (Tryz.pinned.checked.prog.mapsRec ·)) = true := by kernel_rfl
theorem scoreRaw_j15 : (Rows.scoreRawRow.ifaces == (Tryz.f3.params.toList ++ (OpenSpec.ofChange Rows.scoreRawSpec).bare.plain.varTypes Tryz.pinned.checked.prog).any (Tryz.pinned.checked.prog.ifacesRec ·)) = true := by kernel_rfl
theorem scoreRaw_j16 : (Rows.scoreRawRow.mapsOut == Tryz.pinned.checked.prog.mapsAmong Tryz.f3.resultTypes.toList) = true := by kernel_rfl
theorem scoreRaw_j17 : (Rows.scoreRawRow.loops == (Tryz.f3.params.toList ++ (OpenSpec.ofChange Rows.scoreRawSpec).bare.plain.varTypes Tryz.pinned.checked.prog).any (Tryz.pinned.checked.prog.loopsFrom ·)) = true := by kernel_rfl
theorem scoreRaw_j18 : (Rows.scoreRawRow.wideKeys == (Tryz.f3.params.toList ++ (OpenSpec.ofChange Rows.scoreRawSpec).bare.plain.varTypes Tryz.pinned.checked.prog ++ Tryz.f3.resultTypes.toList).any (Tryz.pinned.checked.prog.wideKeysFrom ·)) = true := by kernel_rfl
theorem scoreRaw_j19 : (OpenSpec.ofChange Rows.scoreRawSpec).bare.vars.all (Tryz.pinned.checked.prog.varReadable ·) = true := by kernel_rfl
theorem scoreRaw_j20 : Tryz.f3.resultTypes.all (fun t => Tryz.pinned.checked.prog.readableRec t && decide (t < Tryz.pinned.checked.prog.types.size)) = true := by kernel_rfl
theorem scoreRaw_j21 : (Rows.scoreRawRow.ifacesOut == Tryz.f3.resultTypes.toList.any (Tryz.pinned.checked.prog.ifacesRec ·)) = true := by kernel_rfl
theorem scoreRaw_j22 : (Rows.scoreRawRow.loopsOut == Tryz.f3.resultTypes.toList.any (Tryz.pinned.checked.prog.loopsFrom ·)) = true := by kernel_rfl
theorem scoreRaw_j23 : (Rows.scoreRawRow.plainKeys == Tryz.pinned.checked.prog.plainKeys) = true := by kernel_rfl
theorem scoreRaw_j24 : Rows.scoreRawRow.shortTexts.isNone = true := by kernel_rfl
theorem scoreRaw_j27 : (Rows.scoreRawRow.lifted == Tryz.pinned.checked.prog.liftsFinal) = true := by kernel_rfl
theorem scoreRaw_j28 : (Tryz.pinned.checked.prog.make == some Rows.scoreRawRow.make) = true := by kernel_rfl
theorem scoreRaw_j29 : (Rows.scoreRawRow.kinds == (if Rows.scoreRawRow.domain.isEmpty then [] else Tryz.f3.params.toList.map fun t => match Tryz.pinned.checked.prog.underlying t with | some (.int k) => some k | _ => none)) = true := by kernel_rfl
theorem scoreRaw_j30 : (Rows.scoreRawRow.pinned == Rows.scoreRawRow.pinnedBy) = true := by kernel_rfl
theorem scoreRaw_j31 : (Rows.scoreRawRow.veiled == (Tryz.f3.params.toList ++ (OpenSpec.ofChange Rows.scoreRawSpec).bare.plain.varTypes Tryz.pinned.checked.prog ++ Tryz.f3.resultTypes.toList).any (Tryz.pinned.checked.prog.veiledRec ·)) = true := by kernel_rfl
theorem scoreRaw_j32 : Rows.scoreRawRow.veiledFits Tryz.pinned.checked.prog Tryz.f3.params.toList (Tryz.f3.params.toList ++ (OpenSpec.ofChange Rows.scoreRawSpec).bare.plain.varTypes Tryz.pinned.checked.prog ++ Tryz.f3.resultTypes.toList) = true := by kernel_rfl
end Go.Proofs.YtoancknoinilaaaGreatDoor
