import Derived.Test.YtdahooejkjcjiaaGreatDoorHJf
/- The facts of the law WorldForgets's row,each by itself. -/
set_option linter.unusedVariables false
set_option linter.unusedSimpArgs false
namespace Go.Proofs.YtdahooejkjcjiaaGreatDoor
open Go.ChangeShapes Go.WideShapes Go.ChangeAt Go.RowKit Go.Se
theorem worldForgets_j1 : Rows.worldForgetsRow.wf (OpenSpec.ofChange (OpenSpec.ofChange Rows.worldForgetsSpec).bare) = true := by kernel_rfl
theorem worldForgets_j4 : Tryz.f7.params.all (Tryz.pinned.checked.prog.readableRec ·) = true := by kernel_rfl
theorem worldForgets_j5 : namedTie Tryz.pinned.checked.prog Rows.worldForgetsRow.named (OpenSpec.ofChange Rows.worldForgetsSpec).bare.vars = true := by kernel_rfl
theorem worldForgets_j6 : (Rows.worldForgetsRow.stops == []) = true := by kernel_rfl
theorem worldForgets_j8 : (Rows.worldForgetsRow.knobs == []) = true := by kernel_rfl
theorem worldForgets_j10 : (Rows.worldForgetsRow.inPlace == Tryz.pinned.checked.prog.inPlace 7) = true := by kernel_rfl
theorem worldForgets_j11 : (Rows.worldForgetsRow.unfollowed == Tryz.pinned.checked.prog.unfollowed 7) = true := by kernel_rfl
theorem worldForgets_j12 : (Rows.worldForgetsRow.recurses == Tryz.pinned.checked.prog.recurses 7) = true := by kernel_rfl
theorem worldForgets_j13 : (Rows.worldForgetsRow.named == Tryz.pinned.checked.prog.varsNamed 7) = true := by kernel_rfl
theorem worldForgets_j14 : (Rows.worldForgetsRow.maps == (Tryz.f7.params.toList ++ (OpenSpec.ofChange Rows.worldForgetsSpec).bare.plain.varTypes Tryz.pinned.checked.prog).any (Tryz.pinned.checked.prog.mapsRec ·)) = true := by kernel_rfl
theorem worldForgets_j15 : (Rows.worldForgetsRow.ifaces == (Tryz.f7.params.toList ++ (OpenSpec.ofChange Rows.worldForgetsSpec).bare.plain.varTypes Tryz.pinned.checked.prog).any (Tryz.pinned.checked.prog.ifacesRec ·)) = true := by kernel_rfl
theorem worldForgets_j16 : (Rows.worldForgetsRow.mapsOut == Tryz.pinned.checked.prog.mapsAmong Tryz.f7.resultTypes.toList) = true := by kernel_rfl
theorem worldForgets_j17 : (Rows.worldForgetsRow.loops == (Tryz.f7.params.toList ++ (OpenSpec.ofChange Rows.worldForgetsSpec).bare.plain.varTypes Tryz.pinned.checked.prog).any (Tryz.pinned.checked.prog.loopsFrom ·)) = true := by kernel_rfl
theorem worldForgets_j18 : (Rows.worldForgetsRow.wideKeys == (Tryz.f7.params.toList ++ (OpenSpec.ofChange Rows.worldForgetsSpec).bare.plain.varTypes Tryz.pinned.checked.prog ++ Tryz.f7.resultTypes.toList).any (Tryz.pinned.checked.prog.wideKeysFrom ·)) = true := by kernel_rfl
theorem worldForgets_j19 : (OpenSpec.ofChange Rows.worldForgetsSpec).bare.vars.all (Tryz.pinned.checked.prog.varReadable ·) = true := by kernel_rfl
theorem worldForgets_j20 : Tryz.f7.resultTypes.all (fun t => Tryz.pinned.checked.prog.readableRec t && decide (t < Tryz.pinned.checked.prog.types.size)) = true := by kernel_rfl
theorem worldForgets_j21 : (Rows.worldForgetsRow.ifacesOut == Tryz.f7.resultTypes.toList.any (Tryz.pinned.checked.prog.ifacesRec ·)) = true := by kernel_rfl
theorem worldForgets_j22 : (Rows.worldForgetsRow.loopsOut == Tryz.f7.resultTypes.toList.any (Tryz.pinned.checked.prog.loopsFrom ·)) = true := by kernel_rfl
theorem worldForgets_j23 : (Rows.worldForgetsRow.plainKeys == Tryz.pinned.checked.prog.plainKeys) = true := by kernel_rfl
theorem worldForgets_j24 : Rows.worldForgetsRow.shortTexts.isNone = true := by kernel_rfl
theorem worldForgets_j27 : (Rows.worldForgetsRow.lifted == Tryz.pinned.checked.prog.liftsFinal) = true := by kernel_rfl
theorem worldForgets_j28 : (Tryz.pinned.checked.prog.make == some Rows.worldForgetsRow.make) = true := by kernel_rfl
theorem worldForgets_j29 : (Rows.worldForgetsRow.kinds == (if Rows.worldForgetsRow.domain.isEmpty then [] else Tryz.f7.params.toList.map fun t => match Tryz.pinned.checked.prog.underlying t with | some (.int k) => some k | _ => none)) = true := by kernel_rfl
theorem worldForgets_j30 : (Rows.worldForgetsRow.pinned == Rows.worldForgetsRow.pinnedBy) = true := by kernel_rfl
theorem worldForgets_j31 : (Rows.worldForgetsRow.veiled == (Tryz.f7.params.toList ++ (OpenSpec.ofChange Rows.worldForgetsSpec).bare.plain.varTypes Tryz.pinned.checked.prog ++ Tryz.f7.resultTypes.toList).any (Tryz.pinned.checked.prog.veiledRec ·)) = true := by kernel_rfl
theorem worldForgets_j32 : Rows.worldForgetsRow.veiledFits Tryz.pinned.checked.prog Tryz.f7.params.toList (Tryz.f7.params.toList ++ (OpenSpec.ofChange Rows.worldForgetsSpec).bare.plain.varTypes Tryz.pinned.checked.prog ++ Tryz.f7.resultTypes.toList) = true := by kernel_rfl
end Go.Proofs.YtdahooejkjcjiaaGreatDoor
