import Derived.Test.YtopncieoolkhjaaGreatDoorHJf
/- The facts of the law WorldAlone's row,each by itself. -/
set_option linter.unusedVariables false
set_option linter.unusedSimpArgs false
namespace Go.Proofs.YtopncieoolkhjaaGreatDoor
open Go.ChangeShapes Go.WideShapes Go.ChangeAt Go.RowKit Go.Se
theorem worldAlone_j1 : Rows.worldAloneRow.wf (OpenSpec.ofChange (OpenSpec.ofChange Rows.worldAloneSpec).bare) = true := by kernel_rfl
theorem worldAlone_j4 : Tryz.f5.params.all (Tryz.pinned.checked.prog.readableRec ·) = true := by kernel_rfl
theorem worldAlone_j5 : namedTie Tryz.pinned.checked.prog Rows.worldAloneRow.named (OpenSpec.ofChange Rows.worldAloneSpec).bare.vars = true := by kernel_rfl
theorem worldAlone_j6 : (Rows.worldAloneRow.stops == []) = true := by kernel_rfl
theorem worldAlone_j8 : (Rows.worldAloneRow.knobs == []) = true := by kernel_rfl
theorem worldAlone_j10 : (Rows.worldAloneRow.inPlace == Tryz.pinned.checked.prog.inPlace 5) = true := by kernel_rfl
theorem worldAlone_j11 : (Rows.worldAloneRow.unfollowed == Tryz.pinned.checked.prog.unfollowed 5) = true := by kernel_rfl
theorem worldAlone_j12 : (Rows.worldAloneRow.recurses == Tryz.pinned.checked.prog.recurses 5) = true := by kernel_rfl
theorem worldAlone_j13 : (Rows.worldAloneRow.named == Tryz.pinned.checked.prog.varsNamed 5) = true := by kernel_rfl
theorem worldAlone_j14 : (Rows.worldAloneRow.maps == (Tryz.f5.params.toList ++ (OpenSpec.ofChange Rows.worldAloneSpec).bare.plain.varTypes Tryz.pinned.checked.prog).any (Tryz.pinned.checked.prog.mapsRec ·)) = true := by kernel_rfl
theorem worldAlone_j15 : (Rows.worldAloneRow.ifaces == (Tryz.f5.params.toList ++ (OpenSpec.ofChange Rows.worldAloneSpec).bare.plain.varTypes Tryz.pinned.checked.prog).any (Tryz.pinned.checked.prog.ifacesRec ·)) = true := by kernel_rfl
theorem worldAlone_j16 : (Rows.worldAloneRow.mapsOut == Tryz.pinned.checked.prog.mapsAmong Tryz.f5.resultTypes.toList) = true := by kernel_rfl
theorem worldAlone_j17 : (Rows.worldAloneRow.loops == (Tryz.f5.params.toList ++ (OpenSpec.ofChange Rows.worldAloneSpec).bare.plain.varTypes Tryz.pinned.checked.prog).any (Tryz.pinned.checked.prog.loopsFrom ·)) = true := by kernel_rfl
theorem worldAlone_j18 : (Rows.worldAloneRow.wideKeys == (Tryz.f5.params.toList ++ (OpenSpec.ofChange Rows.worldAloneSpec).bare.plain.varTypes Tryz.pinned.checked.prog ++ Tryz.f5.resultTypes.toList).any (Tryz.pinned.checked.prog.wideKeysFrom ·)) = true := by kernel_rfl
theorem worldAlone_j19 : (OpenSpec.ofChange Rows.worldAloneSpec).bare.vars.all (Tryz.pinned.checked.prog.varReadable ·) = true := by kernel_rfl
theorem worldAlone_j20 : Tryz.f5.resultTypes.all (fun t => Tryz.pinned.checked.prog.readableRec t && decide (t < Tryz.pinned.checked.prog.types.size)) = true := by kernel_rfl
theorem worldAlone_j21 : (Rows.worldAloneRow.ifacesOut == Tryz.f5.resultTypes.toList.any (Tryz.pinned.checked.prog.ifacesRec ·)) = true := by kernel_rfl
theorem worldAlone_j22 : (Rows.worldAloneRow.loopsOut == Tryz.f5.resultTypes.toList.any (Tryz.pinned.checked.prog.loopsFrom ·)) = true := by kernel_rfl
theorem worldAlone_j23 : (Rows.worldAloneRow.plainKeys == Tryz.pinned.checked.prog.plainKeys) = true := by kernel_rfl
theorem worldAlone_j24 : Rows.worldAloneRow.shortTexts.isNone = true := by kernel_rfl
theorem worldAlone_j27 : (Rows.worldAloneRow.lifted == Tryz.pinned.checked.prog.liftsFinal) = true := by kernel_rfl
theorem worldAlone_j28 : (Tryz.pinned.checked.prog.make == some Rows.worldAloneRow.make) = true := by kernel_rfl
theorem worldAlone_j29 : (Rows.worldAloneRow.kinds == (if Rows.worldAloneRow.domain.isEmpty then [] else Tryz.f5.params.toList.map fun t => match Tryz.pinned.checked.prog.underlying t with | some (.int k) => some k | _ => none)) = true := by kernel_rfl
theorem worldAlone_j30 : (Rows.worldAloneRow.pinned == Rows.worldAloneRow.pinnedBy) = true := by kernel_rfl
theorem worldAlone_j31 : (Rows.worldAloneRow.veiled == (Tryz.f5.params.toList ++ (OpenSpec.ofChange Rows.worldAloneSpec).bare.plain.varTypes Tryz.pinned.checked.prog ++ Tryz.f5.resultTypes.toList).any (Tryz.pinned.checked.prog.veiledRec ·)) = true := by kernel_rfl
theorem worldAlone_j32 : Rows.worldAloneRow.veiledFits Tryz.pinned.checked.prog Tryz.f5.params.toList (Tryz.f5.params.toList ++ (OpenSpec.ofChange Rows.worldAloneSpec).bare.plain.varTypes Tryz.pinned.checked.prog ++ Tryz.f5.resultTypes.toList) = true := by kernel_rfl
end Go.Proofs.YtopncieoolkhjaaGreatDoor
