import Derived.Test.YtopncieoolkhjaaGreatDoorHJf
/- The facts of the law TopWithout's row,each by itself. -/
set_option linter.unusedVariables false
set_option linter.unusedSimpArgs false
namespace Go.Proofs.YtopncieoolkhjaaGreatDoor
open Go.ChangeShapes Go.WideShapes Go.ChangeAt Go.RowKit Go.Se
theorem topWithout_j1 : Rows.topWithoutRow.wf (OpenSpec.ofChange (OpenSpec.ofChange Rows.topWithoutSpec).bare) = true := by kernel_rfl
theorem topWithout_j4 : Tryz.f3.params.all (Tryz.pinned.checked.prog.readableRec ·) = true := by kernel_rfl
theorem topWithout_j5 : namedTie Tryz.pinned.checked.prog Rows.topWithoutRow.named (OpenSpec.ofChange Rows.topWithoutSpec).bare.vars = true := by kernel_rfl
theorem topWithout_j6 : (Rows.topWithoutRow.stops == []) = true := by kernel_rfl
theorem topWithout_j8 : (Rows.topWithoutRow.knobs == []) = true := by kernel_rfl
theorem topWithout_j10 : (Rows.topWithoutRow.inPlace == Tryz.pinned.checked.prog.inPlace 3) = true := by kernel_rfl
theorem topWithout_j11 : (Rows.topWithoutRow.unfollowed == Tryz.pinned.checked.prog.unfollowed 3) = true := by kernel_rfl
theorem topWithout_j12 : (Rows.topWithoutRow.recurses == Tryz.pinned.checked.prog.recurses 3) = true := by kernel_rfl
theorem topWithout_j13 : (Rows.topWithoutRow.named == Tryz.pinned.checked.prog.varsNamed 3) = true := by kernel_rfl
theorem topWithout_j14 : (Rows.topWithoutRow.maps == (Tryz.f3.params.toList ++ (OpenSpec.ofChange Rows.topWithoutSpec).bare.plain.varTypes Tryz.pinned.checked.prog).any (Tryz.pinned.checked.prog.mapsRec ·)) = true := by kernel_rfl
theorem topWithout_j15 : (Rows.topWithoutRow.ifaces == (Tryz.f3.params.toList ++ (OpenSpec.ofChange Rows.topWithoutSpec).bare.plain.varTypes Tryz.pinned.checked.prog).any (Tryz.pinned.checked.prog.ifacesRec ·)) = true := by kernel_rfl
theorem topWithout_j16 : (Rows.topWithoutRow.mapsOut == Tryz.pinned.checked.prog.mapsAmong Tryz.f3.resultTypes.toList) = true := by kernel_rfl
theorem topWithout_j17 : (Rows.topWithoutRow.loops == (Tryz.f3.params.toList ++ (OpenSpec.ofChange Rows.topWithoutSpec).bare.plain.varTypes Tryz.pinned.checked.prog).any (Tryz.pinned.checked.prog.loopsFrom ·)) = true := by kernel_rfl
theorem topWithout_j18 : (Rows.topWithoutRow.wideKeys == (Tryz.f3.params.toList ++ (OpenSpec.ofChange Rows.topWithoutSpec).bare.plain.varTypes Tryz.pinned.checked.prog ++ Tryz.f3.resultTypes.toList).any (Tryz.pinned.checked.prog.wideKeysFrom ·)) = true := by kernel_rfl
theorem topWithout_j19 : (OpenSpec.ofChange Rows.topWithoutSpec).bare.vars.all (Tryz.pinned.checked.prog.varReadable ·) = true := by kernel_rfl
theorem topWithout_j20 : Tryz.f3.resultTypes.all (fun t => Tryz.pinned.checked.prog.readableRec t && decide (t < Tryz.pinned.checked.prog.types.size)) = true := by kernel_rfl
theorem topWithout_j21 : (Rows.topWithoutRow.ifacesOut == Tryz.f3.resultTypes.toList.any (Tryz.pinned.checked.prog.ifacesRec ·)) = true := by kernel_rfl
theorem topWithout_j22 : (Rows.topWithoutRow.loopsOut == Tryz.f3.resultTypes.toList.any (Tryz.pinned.checked.prog.loopsFrom ·)) = true := by kernel_rfl
theorem topWithout_j23 : (Rows.topWithoutRow.plainKeys == Tryz.pinned.checked.prog.plainKeys) = true := by kernel_rfl
theorem topWithout_j24 : Rows.topWithoutRow.shortTexts.isNone = true := by kernel_rfl
theorem topWithout_j27 : (Rows.topWithoutRow.lifted == Tryz.pinned.checked.prog.liftsFinal) = true := by kernel_rfl
theorem topWithout_j28 : (Tryz.pinned.checked.prog.make == some Rows.topWithoutRow.make) = true := by kernel_rfl
theorem topWithout_j29 : (Rows.topWithoutRow.kinds == (if Rows.topWithoutRow.domain.isEmpty then [] else Tryz.f3.params.toList.map fun t => match Tryz.pinned.checked.prog.underlying t with | some (.int k) => some k | _ => none)) = true := by kernel_rfl
theorem topWithout_j30 : (Rows.topWithoutRow.pinned == Rows.topWithoutRow.pinnedBy) = true := by kernel_rfl
theorem topWithout_j31 : (Rows.topWithoutRow.veiled == (Tryz.f3.params.toList ++ (OpenSpec.ofChange Rows.topWithoutSpec).bare.plain.varTypes Tryz.pinned.checked.prog ++ Tryz.f3.resultTypes.toList).any (Tryz.pinned.checked.prog.veiledRec ·)) = true := by kernel_rfl
theorem topWithout_j32 : Rows.topWithoutRow.veiledFits Tryz.pinned.checked.prog Tryz.f3.params.toList (Tryz.f3.params.toList ++ (OpenSpec.ofChange Rows.topWithoutSpec).bare.plain.varTypes Tryz.pinned.checked.prog ++ Tryz.f3.resultTypes.toList) = true := by kernel_rfl
end Go.Proofs.YtopncieoolkhjaaGreatDoor
