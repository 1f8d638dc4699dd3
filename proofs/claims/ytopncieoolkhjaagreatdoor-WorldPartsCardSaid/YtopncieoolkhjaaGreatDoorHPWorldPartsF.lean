import Derived.Test.YtopncieoolkhjaaGreatDoorHJf
/- The facts of the law WorldParts's row,each by itself. -/
set_option linter.unusedVariables false
set_option linter.unusedSimpArgs false
namespace Go.Proofs.YtopncieoolkhjaaGreatDoor
open Go.ChangeShapes Go.WideShapes Go.ChangeAt Go.RowKit Go.Se
theorem worldParts_j1 : Rows.worldPartsRow.wf (OpenSpec.ofChange (OpenSpec.ofChange Rows.worldPartsSpec).bare) = true := by kernel_rfl
theorem worldParts_j4 : Tryz.f4.params.all (Tryz.pinned.checked.prog.readableRec ·) = true := by kernel_rfl
theorem worldParts_j5 : namedTie Tryz.pinned.checked.prog Rows.worldPartsRow.named (OpenSpec.ofChange Rows.worldPartsSpec).bare.vars = true := by kernel_rfl
theorem worldParts_j6 : (Rows.worldPartsRow.stops == []) = true := by kernel_rfl
theorem worldParts_j8 : (Rows.worldPartsRow.knobs == []) = true := by kernel_rfl
theorem worldParts_j10 : (Rows.worldPartsRow.inPlace == Tryz.pinned.checked.prog.inPlace 4) = true := by kernel_rfl
theorem worldParts_j11 : (Rows.worldPartsRow.unfollowed == Tryz.pinned.checked.prog.unfollowed 4) = true := by kernel_rfl
theorem worldParts_j12 : (Rows.worldPartsRow.recurses == Tryz.pinned.checked.prog.recurses 4) = true := by kernel_rfl
theorem worldParts_j13 : (Rows.worldPartsRow.named == Tryz.pinned.checked.prog.varsNamed 4) = true := by kernel_rfl
theorem worldParts_j14 : (Rows.worldPartsRow.maps == (Tryz.f4.params.toList ++ (OpenSpec.ofChange Rows.worldPartsSpec).bare.plain.varTypes Tryz.pinned.checked.prog).any (Tryz.pinned.checked.prog.mapsRec ·)) = true := by kernel_rfl
theorem worldParts_j15 : (Rows.worldPartsRow.ifaces == (Tryz.f4.params.toList ++ (OpenSpec.ofChange Rows.worldPartsSpec).bare.plain.varTypes Tryz.pinned.checked.prog).any (Tryz.pinned.checked.prog.ifacesRec ·)) = true := by kernel_rfl
theorem worldParts_j16 : (Rows.worldPartsRow.mapsOut == Tryz.pinned.checked.prog.mapsAmong Tryz.f4.resultTypes.toList) = true := by kernel_rfl
theorem worldParts_j17 : (Rows.worldPartsRow.loops == (Tryz.f4.params.toList ++ (OpenSpec.ofChange Rows.worldPartsSpec).bare.plain.varTypes Tryz.pinned.checked.prog).any (Tryz.pinned.checked.prog.loopsFrom ·)) = true := by kernel_rfl
theorem worldParts_j18 : (Rows.worldPartsRow.wideKeys == (Tryz.f4.params.toList ++ (OpenSpec.ofChange Rows.worldPartsSpec).bare.plain.varTypes Tryz.pinned.checked.prog ++ Tryz.f4.resultTypes.toList).any (Tryz.pinned.checked.prog.wideKeysFrom ·)) = true := by kernel_rfl
theorem worldParts_j19 : (OpenSpec.ofChange Rows.worldPartsSpec).bare.vars.all (Tryz.pinned.checked.prog.varReadable ·) = true := by kernel_rfl
theorem worldParts_j20 : Tryz.f4.resultTypes.all (fun t => Tryz.pinned.checked.prog.readableRec t && decide (t < Tryz.pinned.checked.prog.types.size)) = true := by kernel_rfl
theorem worldParts_j21 : (Rows.worldPartsRow.ifacesOut == Tryz.f4.resultTypes.toList.any (Tryz.pinned.checked.prog.ifacesRec ·)) = true := by kernel_rfl
theorem worldParts_j22 : (Rows.worldPartsRow.loopsOut == Tryz.f4.resultTypes.toList.any (Tryz.pinned.checked.prog.loopsFrom ·)) = true := by kernel_rfl
theorem worldParts_j23 : (Rows.worldPartsRow.plainKeys == Tryz.pinned.checked.prog.plainKeys) = true := by kernel_rfl
theorem worldParts_j24 : Rows.worldPartsRow.shortTexts.isNone = true := by kernel_rfl
theorem worldParts_j27 : (Rows.worldPartsRow.lifted == Tryz.pinned.checked.prog.liftsFinal) = true := by kernel_rfl
theorem worldParts_j28 : (Tryz.pinned.checked.prog.make == some Rows.worldPartsRow.make) = true := by kernel_rfl
theorem worldParts_j29 : (Rows.worldPartsRow.kinds == (if Rows.worldPartsRow.domain.isEmpty then [] else Tryz.f4.params.toList.map fun t => match Tryz.pinned.checked.prog.underlying t with | some (.int k) => some k | _ => none)) = true := by kernel_rfl
theorem worldParts_j30 : (Rows.worldPartsRow.pinned == Rows.worldPartsRow.pinnedBy) = true := by kernel_rfl
theorem worldParts_j31 : (Rows.worldPartsRow.veiled == (Tryz.f4.params.toList ++ (OpenSpec.ofChange Rows.worldPartsSpec).bare.plain.varTypes Tryz.pinned.checked.prog ++ Tryz.f4.resultTypes.toList).any (Tryz.pinned.checked.prog.veiledRec ·)) = true := by kernel_rfl
theorem worldParts_j32 : Rows.worldPartsRow.veiledFits Tryz.pinned.checked.prog Tryz.f4.params.toList (Tryz.f4.params.toList ++ (OpenSpec.ofChange Rows.worldPartsSpec).bare.plain.varTypes Tryz.pinned.checked.prog ++ Tryz.f4.resultTypes.toList) = true := by kernel_rfl
end Go.Proofs.YtopncieoolkhjaaGreatDoor
