import Derived.Test.YtoancknoinilaaaGreatDoorHJf
/- The facts of the law ScoreOf's row,each by itself. -/
set_option linter.unusedVariables false
set_option linter.unusedSimpArgs false
namespace Go.Proofs.YtoancknoinilaaaGreatDoor
open Go.ChangeShapes Go.WideShapes Go.ChangeAt Go.RowKit Go.Se
theorem scoreOf_j1 : Rows.scoreOfRow.wf (OpenSpec.ofChange (OpenSpec.ofChange Rows.scoreOfSpec).bare) = true := by kernel_rfl
theorem scoreOf_j4 : Tryz.f4.params.all (Tryz.pinned.checked.prog.readableRec ·) = true := by kernel_rfl
theorem scoreOf_j5 : namedTie Tryz.pinned.checked.prog Rows.scoreOfRow.named (OpenSpec.ofChange Rows.scoreOfSpec).bare.vars = true := by kernel_rfl
theorem scoreOf_j6 : (Rows.scoreOfRow.stops == []) = true := by kernel_rfl
theorem scoreOf_j8 : (Rows.scoreOfRow.knobs == []) = true := by kernel_rfl
theorem scoreOf_j10 : (Rows.scoreOfRow.inPlace == Tryz.pinned.checked.prog.inPlace 4) = true := by kernel_rfl
theorem scoreOf_j11 : (Rows.scoreOfRow.unfollowed == Tryz.pinned.checked.prog.unfollowed 4) = true := by kernel_rfl
theorem scoreOf_j12 : (Rows.scoreOfRow.recurses == Tryz.pinned.checked.prog.recurses 4) = true := by kernel_rfl
theorem scoreOf_j13 : (Rows.scoreOfRow.named == Tryz.pinned.checked.prog.varsNamed 4) = true := by kernel_rfl
theorem scoreOf_j14 : (Rows.scoreOfRow.maps == (Tryz.f4.params.toList ++ (OpenSpec.ofChange Rows.scoreOfSpec).bare.plain.varTypes Tryz.pinned.checked.prog).any (Tryz.pinned.checked.prog.mapsRec ·)) = true := by kernel_rfl
theorem scoreOf_j15 : (Rows.scoreOfRow.ifaces == (Tryz.f4.params.toList ++ (OpenSpec.ofChange Rows.scoreOfSpec).bare.plain.varTypes Tryz.pinned.checked.prog).any (Tryz.pinned.checked.prog.ifacesRec ·)) = true := by kernel_rfl
theorem scoreOf_j16 : (Rows.scoreOfRow.mapsOut == Tryz.pinned.checked.prog.mapsAmong Tryz.f4.resultTypes.toList) = true := by kernel_rfl
theorem scoreOf_j17 : (Rows.scoreOfRow.loops == (Tryz.f4.params.toList ++ (OpenSpec.ofChange Rows.scoreOfSpec).bare.plain.varTypes Tryz.pinned.checked.prog).any (Tryz.pinned.checked.prog.loopsFrom ·)) = true := by kernel_rfl
theorem scoreOf_j18 : (Rows.scoreOfRow.wideKeys == (Tryz.f4.params.toList ++ (OpenSpec.ofChange Rows.scoreOfSpec).bare.plain.varTypes Tryz.pinned.checked.prog ++ Tryz.f4.resultTypes.toList).any (Tryz.pinned.checked.prog.wideKeysFrom ·)) = true := by kernel_rfl
theorem scoreOf_j19 : (OpenSpec.ofChange Rows.scoreOfSpec).bare.vars.all (Tryz.pinned.checked.prog.varReadable ·) = true := by kernel_rfl
theorem scoreOf_j20 : Tryz.f4.resultTypes.all (fun t => Tryz.pinned.checked.prog.readableRec t && decide (t < Tryz.pinned.checked.prog.types.size)) = true := by kernel_rfl
theorem scoreOf_j21 : (Rows.scoreOfRow.ifacesOut == Tryz.f4.resultTypes.toList.any (Tryz.pinned.checked.prog.ifacesRec ·)) = true := by kernel_rfl
theorem scoreOf_j22 : (Rows.scoreOfRow.loopsOut == Tryz.f4.resultTypes.toList.any (Tryz.pinned.checked.prog.loopsFrom ·)) = true := by kernel_rfl
theorem scoreOf_j23 : (Rows.scoreOfRow.plainKeys == Tryz.pinned.checked.prog.plainKeys) = true := by kernel_rfl
theorem scoreOf_j24 : Rows.scoreOfRow.shortTexts.isNone = true := by kernel_rfl
theorem scoreOf_j27 : (Rows.scoreOfRow.lifted == Tryz.pinned.checked.prog.liftsFinal) = true := by kernel_rfl
theorem scoreOf_j28 : (Tryz.pinned.checked.prog.make == some Rows.scoreOfRow.make) = true := by kernel_rfl
theorem scoreOf_j29 : (Rows.scoreOfRow.kinds == (if Rows.scoreOfRow.domain.isEmpty then [] else Tryz.f4.params.toList.map fun t => match Tryz.pinned.checked.prog.underlying t with | some (.int k) => some k | _ => none)) = true := by kernel_rfl
theorem scoreOf_j30 : (Rows.scoreOfRow.pinned == Rows.scoreOfRow.pinnedBy) = true := by kernel_rfl
theorem scoreOf_j31 : (Rows.scoreOfRow.veiled == (Tryz.f4.params.toList ++ (OpenSpec.ofChange Rows.scoreOfSpec).bare.plain.varTypes Tryz.pinned.checked.prog ++ Tryz.f4.resultTypes.toList).any (Tryz.pinned.checked.prog.veiledRec ·)) = true := by kernel_rfl
theorem scoreOf_j32 : Rows.scoreOfRow.veiledFits Tryz.pinned.checked.prog Tryz.f4.params.toList (Tryz.f4.params.toList ++ (OpenSpec.ofChange Rows.scoreOfSpec).bare.plain.varTypes Tryz.pinned.checked.prog ++ Tryz.f4.resultTypes.toList) = true := by kernel_rfl
end Go.Proofs.YtoancknoinilaaaGreatDoor
