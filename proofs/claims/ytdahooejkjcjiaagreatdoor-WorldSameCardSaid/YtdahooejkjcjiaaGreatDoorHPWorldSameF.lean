import Derived.Test.YtdahooejkjcjiaaGreatDoorHJf
/- The facts of the law WorldSame's row,each by itself. -/
set_option linter.unusedVariables false
set_option linter.unusedSimpArgs false
namespace Go.Proofs.YtdahooejkjcjiaaGreatDoor
open Go.ChangeShapes Go.WideShapes Go.ChangeAt Go.RowKit Go.Se
theorem worldSame_j1 : Rows.worldSameRow.wf (OpenSpec.ofChange (OpenSpec.ofChange Rows.worldSameSpec).bare) = true := by kernel_rfl
theorem worldSame_j4 : Tryz.f4.params.all (Tryz.pinned.checked.prog.readableRec ·) = true := by kernel_rfl
theorem worldSame_j5 : namedTie Tryz.pinned.checked.prog Rows.worldSameRow.named (OpenSpec.ofChange Rows.worldSameSpec).bare.vars = true := by kernel_rfl
theorem worldSame_j6 : (Rows.worldSameRow.stops == []) = true := by kernel_rfl
theorem worldSame_j8 : (Rows.worldSameRow.knobs == []) = true := by kernel_rfl
theorem worldSame_j10 : (Rows.worldSameRow.inPlace == Tryz.pinned.checked.prog.inPlace 4) = true := by kernel_rfl
theorem worldSame_j11 : (Rows.worldSameRow.unfollowed == Tryz.pinned.checked.prog.unfollowed 4) = true := by kernel_rfl
theorem worldSame_j12 : (Rows.worldSameRow.recurses == Tryz.pinned.checked.prog.recurses 4) = true := by kernel_rfl
theorem worldSame_j13 : (Rows.worldSameRow.named == Tryz.pinned.checked.prog.varsNamed 4) = true := by kernel_rfl
theorem worldSame_j14 : (Rows.worldSameRow.maps == (Tryz.f4.params.toList ++ (OpenSpec.ofChange Rows.worldSameSpec).bare.plain.varTypes Tryz.pinned.checked.prog).any (Tryz.pinned.checked.prog.mapsRec ·)) = true := by kernel_rfl
theorem worldSame_j15 : (Rows.worldSameRow.ifaces == (Tryz.f4.params.toList ++ (OpenSpec.ofChange Rows.worldSameSpec).bare.plain.varTypes Tryz.pinned.checked.prog).any (Tryz.pinned.checked.prog.ifacesRec ·)) = true := by kernel_rfl
theorem worldSame_j16 : (Rows.worldSameRow.mapsOut == Tryz.pinned.checked.prog.mapsAmong Tryz.f4.resultTypes.toList) = true := by kernel_rfl
theorem worldSame_j17 : (Rows.worldSameRow.loops == (Tryz.f4.params.toList ++ (OpenSpec.ofChange Rows.worldSameSpec).bare.plain.varTypes Tryz.pinned.checked.prog).any (Tryz.pinned.checked.prog.loopsFrom ·)) = true := by kernel_rfl
theorem worldSame_j18 : (Rows.worldSameRow.wideKeys == (Tryz.f4.params.toList ++ (OpenSpec.ofChange Rows.worldSameSpec).bare.plain.varTypes Tryz.pinned.checked.prog ++ Tryz.f4.resultTypes.toList).any (Tryz.pinned.checked.prog.wideKeysFrom ·)) = true := by kernel_rfl
theorem worldSame_j19 : (OpenSpec.ofChange Rows.worldSameSpec).bare.vars.all (Tryz.pinned.checked.prog.varReadable ·) = true := by kernel_rfl
theorem worldSame_j20 : Tryz.f4.resultTypes.all (fun t => Tryz.pinned.checked.prog.readableRec t && decide (t < Tryz.pinned.checked.prog.types.size)) = true := by kernel_rfl
theorem worldSame_j21 : (Rows.worldSameRow.ifacesOut == Tryz.f4.resultTypes.toList.any (Tryz.pinned.checked.prog.ifacesRec ·)) = true := by kernel_rfl
theorem worldSame_j22 : (Rows.worldSameRow.loopsOut == Tryz.f4.resultTypes.toList.any (Tryz.pinned.checked.prog.loopsFrom ·)) = true := by kernel_rfl
theorem worldSame_j23 : (Rows.worldSameRow.plainKeys == Tryz.pinned.checked.prog.plainKeys) = true := by kernel_rfl
theorem worldSame_j24 : Rows.worldSameRow.shortTexts.isNone = true := by kernel_rfl
theorem worldSame_j27 : (Rows.worldSameRow.lifted == Tryz.pinned.checked.prog.liftsFinal) = true := by kernel_rfl
theorem worldSame_j28 : (Tryz.pinned.checked.prog.make == some Rows.worldSameRow.make) = true := by kernel_rfl
theorem worldSame_j29 : (Rows.worldSameRow.kinds == (if Rows.worldSameRow.domain.isEmpty then [] else Tryz.f4.params.toList.map fun t => match Tryz.pinned.checked.prog.underlying t with | some (.int k) => some k | _ => none)) = true := by kernel_rfl
theorem worldSame_j30 : (Rows.worldSameRow.pinned == Rows.worldSameRow.pinnedBy) = true := by kernel_rfl
theorem worldSame_j31 : (Rows.worldSameRow.veiled == (Tryz.f4.params.toList ++ (OpenSpec.ofChange Rows.worldSameSpec).bare.plain.varTypes Tryz.pinned.checked.prog ++ Tryz.f4.resultTypes.toList).any (Tryz.pinned.checked.prog.veiledRec ·)) = true := by kernel_rfl
theorem worldSame_j32 : Rows.worldSameRow.veiledFits Tryz.pinned.checked.prog Tryz.f4.params.toList (Tryz.f4.params.toList ++ (OpenSpec.ofChange Rows.worldSameSpec).bare.plain.varTypes Tryz.pinned.checked.prog ++ Tryz.f4.resultTypes.toList) = true := by kernel_rfl
end Go.Proofs.YtdahooejkjcjiaaGreatDoor
