import Derived.Test.YtdahooejkjcjiaaGreatDoorHJf
/- The facts of the law WorldRows's row,each by itself. -/
set_option linter.unusedVariables false
set_option linter.unusedSimpArgs false
namespace Go.Proofs.YtdahooejkjcjiaaGreatDoor
open Go.ChangeShapes Go.WideShapes Go.ChangeAt Go.RowKit Go.Se
theorem worldRows_j1 : Rows.worldRowsRow.wf (OpenSpec.ofChange (OpenSpec.ofChange Rows.worldRowsSpec).bare) = true := by kernel_rfl
theorem worldRows_j4 : Tryz.f5.params.all (Tryz.pinned.checked.prog.readableRec ·) = true := by kernel_rfl
theorem worldRows_j5 : namedTie Tryz.pinned.checked.prog Rows.worldRowsRow.named (OpenSpec.ofChange Rows.worldRowsSpec).bare.vars = true := by kernel_rfl
theorem worldRows_j6 : (Rows.worldRowsRow.stops == []) = true := by kernel_rfl
theorem worldRows_j8 : (Rows.worldRowsRow.knobs == []) = true := by kernel_rfl
theorem worldRows_j10 : (Rows.worldRowsRow.inPlace == Tryz.pinned.checked.prog.inPlace 5) = true := by kernel_rfl
theorem worldRows_j11 : (Rows.worldRowsRow.unfollowed == Tryz.pinned.checked.prog.unfollowed 5) = true := by kernel_rfl
theorem worldRows_j12 : (Rows.worldRowsRow.recurses == Tryz.pinned.checked.prog.recurses 5) = true := by kernel_rfl
theorem worldRows_j13 : (Rows.worldRowsRow.named == Tryz.pinned.checked.prog.varsNamed 5) = true := by kernel_rfl
theorem worldRows_j14 : (Rows.worldRowsRow.maps == (Tryz.f5.params.toList ++ (OpenSpec.ofChange Rows.worldRowsSpec).bare.plain.varTypes Tryz.pinned.checked.prog).any (Tryz.pinned.checked.prog.mapsRec ·)) = true := by kernel_rfl
theorem worldRows_j15 : (Rows.worldRowsRow.ifaces == (Tryz.f5.params.toList ++ (OpenSpec.ofChange Rows.worldRowsSpec).bare.plain.varTypes Tryz.pinned.checked.prog).any (Tryz.pinned.checked.prog.ifacesRec ·)) = true := by kernel_rfl
theorem worldRows_j16 : (Rows.worldRowsRow.mapsOut == Tryz.pinned.checked.prog.mapsAmong Tryz.f5.resultTypes.toList) = true := by kernel_rfl
theorem worldRows_j17 : (Rows.worldRowsRow.loops == (Tryz.f5.params.toList ++ (OpenSpec.ofChange Rows.worldRowsSpec).bare.plain.varTypes Tryz.pinned.checked.prog).any (Tryz.pinned.checked.prog.loopsFrom ·)) = true := by kernel_rfl
theorem worldRows_j18 : (Rows.worldRowsRow.wideKeys == (Tryz.f5.params.toList ++ (OpenSpec.ofChange Rows.worldRowsSpec).bare.plain.varTypes Tryz.pinned.checked.prog ++ Tryz.f5.resultTypes.toList).any (Tryz.pinned.checked.prog.wideKeysFrom ·)) = true := by kernel_rfl
theorem worldRows_j19 : (OpenSpec.ofChange Rows.worldRowsSpec).bare.vars.all (Tryz.pinned.checked.prog.varReadable ·) = true := by kernel_rfl
theorem worldRows_j20 : Tryz.f5.resultTypes.all (fun t => Tryz.pinned.checked.prog.readableRec t && decide (t < Tryz.pinned.checked.prog.types.size)) = true := by kernel_rfl
theorem worldRows_j21 : (Rows.worldRowsRow.ifacesOut == Tryz.f5.resultTypes.toList.any (Tryz.pinned.checked.prog.ifacesRec ·)) = true := by kernel_rfl
theorem worldRows_j22 : (Rows.worldRowsRow.loopsOut == Tryz.f5.resultTypes.toList.any (Tryz.pinned.checked.prog.loopsFrom ·)) = true := by kernel_rfl
theorem worldRows_j23 : (Rows.worldRowsRow.plainKeys == Tryz.pinned.checked.prog.plainKeys) = true := by kernel_rfl
theorem worldRows_j24 : Rows.worldRowsRow.shortTexts.isNone = true := by kernel_rfl
theorem worldRows_j27 : (Rows.worldRowsRow.lifted == Tryz.pinned.checked.prog.liftsFinal) = true := by kernel_rfl
theorem worldRows_j28 : (Tryz.pinned.checked.prog.make == some Rows.worldRowsRow.make) = true := by kernel_rfl
theorem worldRows_j29 : (Rows.worldRowsRow.kinds == (if Rows.worldRowsRow.domain.isEmpty then [] else Tryz.f5.params.toList.map fun t => match Tryz.pinned.checked.prog.underlying t with | some (.int k) => some k | _ => none)) = true := by kernel_rfl
theorem worldRows_j30 : (Rows.worldRowsRow.pinned == Rows.worldRowsRow.pinnedBy) = true := by kernel_rfl
theorem worldRows_j31 : (Rows.worldRowsRow.veiled == (Tryz.f5.params.toList ++ (OpenSpec.ofChange Rows.worldRowsSpec).bare.plain.varTypes Tryz.pinned.checked.prog ++ Tryz.f5.resultTypes.toList).any (Tryz.pinned.checked.prog.veiledRec ·)) = true := by kernel_rfl
theorem worldRows_j32 : Rows.worldRowsRow.veiledFits Tryz.pinned.checked.prog Tryz.f5.params.toList (Tryz.f5.params.toList ++ (OpenSpec.ofChange Rows.worldRowsSpec).bare.plain.varTypes Tryz.pinned.checked.prog ++ Tryz.f5.resultTypes.toList) = true := by kernel_rfl
end Go.Proofs.YtdahooejkjcjiaaGreatDoor
