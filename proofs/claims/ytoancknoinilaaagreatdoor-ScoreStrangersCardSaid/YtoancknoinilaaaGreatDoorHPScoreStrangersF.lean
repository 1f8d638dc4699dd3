import Derived.Test.YtoancknoinilaaaGreatDoorHJf

/- The facts of the law ScoreStrangers's row, each by itself. -/
set_option linter.unusedVariables false
set_option linter.unusedSimpArgs false
namespace Go.Proofs.YtoancknoinilaaaGreatDoor
open Go.ChangeShapes Go.WideShapes Go.ChangeAt Go.RowKit Go.Se

theorem scoreStrangers_j1 : Rows.scoreStrangersRow.wf (OpenSpec.ofChange (OpenSpec.ofChange Rows.scoreStrangersSpec).bare) = true := by kernel_rfl
theorem scoreStrangers_j4 : Tryz.f6.params.all (Tryz.pinned.checked.prog.readableRec ·) = true := by kernel_rfl
theorem scoreStrangers_j5 : namedTie Tryz.pinned.checked.prog Rows.scoreStrangersRow.named (OpenSpec.ofChange Rows.scoreStrangersSpec).bare.vars = true := by kernel_rfl
theorem scoreStrangers_j6 : (Rows.scoreStrangersRow.stops == []) = true := by kernel_rfl
theorem scoreStrangers_j8 : (Rows.scoreStrangersRow.knobs == []) = true := by kernel_rfl
theorem scoreStrangers_j10 : (Rows.scoreStrangersRow.inPlace == Tryz.pinned.checked.prog.inPlace 6) = true := by kernel_rfl
theorem scoreStrangers_j11 : (Rows.scoreStrangersRow.unfollowed == Tryz.pinned.checked.prog.unfollowed 6) = true := by kernel_rfl
theorem scoreStrangers_j12 : (Rows.scoreStrangersRow.recurses == Tryz.pinned.checked.prog.recurses 6) = true := by kernel_rfl
theorem scoreStrangers_j13 : (Rows.scoreStrangersRow.named == Tryz.pinned.checked.prog.varsNamed 6) = true := by kernel_rfl
theorem scoreStrangers_j14 : (Rows.scoreStrangersRow.maps == (Tryz.f6.params.toList ++ (OpenSpec.ofChange Rows.scoreStrangersSpec).bare.plain.varTypes Tryz.pinned.checked.prog).any (Tryz.pinned.checked.prog.mapsRec ·)) = true := by kernel_rfl
theorem scoreStrangers_j15 : (Rows.scoreStrangersRow.ifaces == (Tryz.f6.params.toList ++ (OpenSpec.ofChange Rows.scoreStrangersSpec).bare.plain.varTypes Tryz.pinned.checked.prog).any (Tryz.pinned.checked.prog.ifacesRec ·)) = true := by kernel_rfl
theorem scoreStrangers_j16 : (Rows.scoreStrangersRow.mapsOut == Tryz.pinned.checked.prog.mapsAmong Tryz.f6.resultTypes.toList) = true := by kernel_rfl
theorem scoreStrangers_j17 : (Rows.scoreStrangersRow.loops == (Tryz.f6.params.toList ++ (OpenSpec.ofChange Rows.scoreStrangersSpec).bare.plain.varTypes Tryz.pinned.checked.prog).any (Tryz.pinned.checked.prog.loopsFrom ·)) = true := by kernel_rfl
theorem scoreStrangers_j18 : (Rows.scoreStrangersRow.wideKeys == (Tryz.f6.params.toList ++ (OpenSpec.ofChange Rows.scoreStrangersSpec).bare.plain.varTypes Tryz.pinned.checked.prog ++ Tryz.f6.resultTypes.toList).any (Tryz.pinned.checked.prog.wideKeysFrom ·)) = true := by kernel_rfl
theorem scoreStrangers_j19 : (OpenSpec.ofChange Rows.scoreStrangersSpec).bare.vars.all (Tryz.pinned.checked.prog.varReadable ·) = true := by kernel_rfl
theorem scoreStrangers_j20 : Tryz.f6.resultTypes.all (fun t => Tryz.pinned.checked.prog.readableRec t && decide (t < Tryz.pinned.checked.prog.types.size)) = true := by kernel_rfl
theorem scoreStrangers_j21 : (Rows.scoreStrangersRow.ifacesOut == Tryz.f6.resultTypes.toList.any (Tryz.pinned.checked.prog.ifacesRec ·)) = true := by kernel_rfl
theorem scoreStrangers_j22 : (Rows.scoreStrangersRow.loopsOut == Tryz.f6.resultTypes.toList.any (Tryz.pinned.checked.prog.loopsFrom ·)) = true := by kernel_rfl
theorem scoreStrangers_j23 : (Rows.scoreStrangersRow.plainKeys == Tryz.pinned.checked.prog.plainKeys) = true := by kernel_rfl
theorem scoreStrangers_j24 : Rows.scoreStrangersRow.shortTexts.isNone = true := by kernel_rfl
theorem scoreStrangers_j27 : (Rows.scoreStrangersRow.lifted == Tryz.pinned.checked.prog.liftsFinal) = true := by kernel_rfl
theorem scoreStrangers_j28 : (Tryz.pinned.checked.prog.make == some Rows.scoreStrangersRow.make) = true := by kernel_rfl
theorem scoreStrangers_j29 : (Rows.scoreStrangersRow.kinds == (if Rows.scoreStrangersRow.domain.isEmpty then [] else Tryz.f6.params.toList.map fun t => match Tryz.pinned.checked.prog.underlying t with | some (.int k) => some k | _ => none)) = true := by kernel_rfl
theorem scoreStrangers_j30 : (Rows.scoreStrangersRow.pinned == Rows.scoreStrangersRow.pinnedBy) = true := by kernel_rfl
theorem scoreStrangers_j31 : (Rows.scoreStrangersRow.veiled == (Tryz.f6.params.toList ++ (OpenSpec.ofChange Rows.scoreStrangersSpec).bare.plain.varTypes Tryz.pinned.checked.prog ++ Tryz.f6.resultTypes.toList).any (Tryz.pinned.checked.prog.veiledRec ·)) = true := by kernel_rfl
theorem scoreStrangers_j32 : Rows.scoreStrangersRow.veiledFits Tryz.pinned.checked.prog Tryz.f6.params.toList (Tryz.f6.params.toList ++ (OpenSpec.ofChange Rows.scoreStrangersSpec).bare.plain.varTypes Tryz.pinned.checked.prog ++ Tryz.f6.resultTypes.toList) = true := by kernel_rfl
end Go.Proofs.YtoancknoinilaaaGreatDoor
