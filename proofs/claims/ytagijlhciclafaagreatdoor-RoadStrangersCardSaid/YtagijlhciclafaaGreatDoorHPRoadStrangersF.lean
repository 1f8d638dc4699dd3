import Derived.Test.YtagijlhciclafaaGreatDoorHJf
/- The facts of the law RoadStrangers's row,each by itself. -/
set_option linter.unusedVariables false
set_option linter.unusedSimpArgs false
namespace Go.Proofs.YtagijlhciclafaaGreatDoor
open Go.ChangeShapes Go.WideShapes Go.ChangeAt Go.RowKit Go.Se
theorem roadStrangers_j1 : Rows.roadStrangersRow.wf (OpenSpec.ofChange (OpenSpec.ofChange Rows.roadStrangersSpec).bare) = true := by kernel_rfl
theorem roadStrangers_j4 : Tryz.f6.params.all (Tryz.pinned.checked.prog.readableRec ·) = true := by kernel_rfl
theorem roadStrangers_j5 : namedTie Tryz.pinned.checked.prog Rows.roadStrangersRow.named (OpenSpec.ofChange Rows.roadStrangersSpec).bare.vars = true := by kernel_rfl
theorem roadStrangers_j6 : (Rows.roadStrangersRow.stops == []) = true := by kernel_rfl
theorem roadStrangers_j8 : (Rows.roadStrangersRow.knobs == []) = true := by kernel_rfl
theorem roadStrangers_j10 : (Rows.roadStrangersRow.inPlace == Tryz.pinned.checked.prog.inPlace 6) = true := by kernel_rfl
theorem roadStrangers_j11 : (Rows.roadStrangersRow.unfollowed == Tryz.pinned.checked.prog.unfollowed 6) = true := by kernel_rfl
theorem roadStrangers_j12 : (Rows.roadStrangersRow.recurses == Tryz.pinned.checked.prog.recurses 6) = true := by kernel_rfl
theorem roadStrangers_j13 : (Rows.roadStrangersRow.named == Tryz.pinned.checked.prog.varsNamed 6) = true := by kernel_rfl
theorem roadStrangers_j14 : (Rows.roadStrangersRow.maps == (Tryz.f6.params.toList ++ (OpenSpec.ofChange Rows.roadStrangersSpec).bare.plain.varTypes Tryz.pinned.checked.prog).any (Tryz.pinned.checked.prog.mapsRec ·)) = true := by kernel_rfl
theorem roadStrangers_j15 : (Rows.roadStrangersRow.ifaces == (Tryz.f6.params.toList ++ (OpenSpec.ofChange Rows.roadStrangersSpec).bare.plain.varTypes Tryz.pinned.checked.prog).any (Tryz.pinned.checked.prog.ifacesRec ·)) = true := by kernel_rfl
theorem roadStrangers_j16 : (Rows.roadStrangersRow.mapsOut == Tryz.pinned.checked.prog.mapsAmong Tryz.f6.resultTypes.toList) = true := by kernel_rfl
theorem roadStrangers_j17 : (Rows.roadStrangersRow.loops == (Tryz.f6.params.toList ++ (OpenSpec.ofChange Rows.roadStrangersSpec).bare.plain.varTypes Tryz.pinned.checked.prog).any (Tryz.pinned.checked.prog.loopsFrom ·)) = true := by kernel_rfl
theorem roadStrangers_j18 : (Rows.roadStrangersRow.wideKeys == (Tryz.f6.params.toList ++ (OpenSpec.ofChange Rows.roadStrangersSpec).bare.plain.varTypes Tryz.pinned.checked.prog ++ Tryz.f6.resultTypes.toList).any (Tryz.pinned.checked.prog.wideKeysFrom ·)) = true := by kernel_rfl
theorem roadStrangers_j19 : (OpenSpec.ofChange Rows.roadStrangersSpec).bare.vars.all (Tryz.pinned.checked.prog.varReadable ·) = true := by kernel_rfl
theorem roadStrangers_j20 : Tryz.f6.resultTypes.all (fun t => Tryz.pinned.checked.prog.readableRec t && decide (t < Tryz.pinned.checked.prog.types.size)) = true := by kernel_rfl
theorem roadStrangers_j21 : (Rows.roadStrangersRow.ifacesOut == Tryz.f6.resultTypes.toList.any (Tryz.pinned.checked.prog.ifacesRec ·)) = true := by kernel_rfl
theorem roadStrangers_j22 : (Rows.roadStrangersRow.loopsOut == Tryz.f6.resultTypes.toList.any (Tryz.pinned.checked.prog.loopsFrom ·)) = true := by kernel_rfl
theorem roadStrangers_j23 : (Rows.roadStrangersRow.plainKeys == Tryz.pinned.checked.prog.plainKeys) = true := by kernel_rfl
theorem roadStrangers_j24 : Rows.roadStrangersRow.shortTexts.isNone = true := by kernel_rfl
theorem roadStrangers_j27 : (Rows.roadStrangersRow.lifted == Tryz.pinned.checked.prog.liftsFinal) = true := by kernel_rfl
theorem roadStrangers_j28 : (Tryz.pinned.checked.prog.make == some Rows.roadStrangersRow.make) = true := by kernel_rfl
theorem roadStrangers_j29 : (Rows.roadStrangersRow.kinds == (if Rows.roadStrangersRow.domain.isEmpty then [] else Tryz.f6.params.toList.map fun t => match Tryz.pinned.checked.prog.underlying t with | some (.int k) => some k | _ => none)) = true := by kernel_rfl
theorem roadStrangers_j30 : (Rows.roadStrangersRow.pinned == Rows.roadStrangersRow.pinnedBy) = true := by kernel_rfl
theorem roadStrangers_j31 : (Rows.roadStrangersRow.veiled == (Tryz.f6.params.toList ++ (OpenSpec.ofChange Rows.roadStrangersSpec).bare.plain.varTypes Tryz.pinned.checked.prog ++ Tryz.f6.resultTypes.toList).any (Tryz.pinned.checked.prog.veiledRec ·)) = true := by kernel_rfl
theorem roadStrangers_j32 : Rows.roadStrangersRow.veiledFits Tryz.pinned.checked.prog Tryz.f6.params.toList (Tryz.f6.params.toList ++ (OpenSpec.ofChange Rows.roadStrangersSpec).bare.plain.varTypes Tryz.pinned.checked.prog ++ Tryz.f6.resultTypes.toList) = true := by kernel_rfl
end Go.Proofs.YtagijlhciclafaaGreatDoor
