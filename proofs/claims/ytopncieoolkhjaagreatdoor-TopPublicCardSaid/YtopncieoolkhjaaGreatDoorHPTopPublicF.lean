import Derived.Test.YtopncieoolkhjaaGreatDoorHJf
/- The facts of the law TopPublic's row,each by itself. -/
set_option linter.unusedVariables false
set_option linter.unusedSimpArgs false
namespace Go.Proofs.YtopncieoolkhjaaGreatDoor
open Go.ChangeShapes Go.WideShapes Go.ChangeAt Go.RowKit Go.Se
theorem topPublic_j1 : Rows.topPublicRow.wf (OpenSpec.ofChange (OpenSpec.ofChange Rows.topPublicSpec).bare) = true := by kernel_rfl
theorem topPublic_j4 : Tryz.f6.params.all (Tryz.pinned.checked.prog.readableRec ·) = true := by kernel_rfl
theorem topPublic_j5 : namedTie Tryz.pinned.checked.prog Rows.topPublicRow.named (OpenSpec.ofChange Rows.topPublicSpec).bare.vars = true := by kernel_rfl
theorem topPublic_j6 : (Rows.topPublicRow.stops == []) = true := by kernel_rfl
theorem topPublic_j8 : (Rows.topPublicRow.knobs == []) = true := by kernel_rfl
theorem topPublic_j10 : (Rows.topPublicRow.inPlace == Tryz.pinned.checked.prog.inPlace 6) = true := by kernel_rfl
theorem topPublic_j11 : (Rows.topPublicRow.unfollowed == Tryz.pinned.checked.prog.unfollowed 6) = true := by kernel_rfl
theorem topPublic_j12 : (Rows.topPublicRow.recurses == Tryz.pinned.checked.prog.recurses 6) = true := by kernel_rfl
theorem topPublic_j13 : (Rows.topPublicRow.named == Tryz.pinned.checked.prog.varsNamed 6) = true := by kernel_rfl
theorem topPublic_j14 : (Rows.topPublicRow.maps == (Tryz.f6.params.toList ++ (OpenSpec.ofChange Rows.topPublicSpec).bare.plain.varTypes Tryz.pinned.checked.prog).any (Tryz.pinned.checked.prog.mapsRec ·)) = true := by kernel_rfl
theorem topPublic_j15 : (Rows.topPublicRow.ifaces == (Tryz.f6.params.toList ++ (OpenSpec.ofChange Rows.topPublicSpec).bare.plain.varTypes Tryz.pinned.checked.prog).any (Tryz.pinned.checked.prog.ifacesRec ·)) = true := by kernel_rfl
theorem topPublic_j16 : (Rows.topPublicRow.mapsOut == Tryz.pinned.checked.prog.mapsAmong Tryz.f6.resultTypes.toList) = true := by kernel_rfl
theorem topPublic_j17 : (Rows.topPublicRow.loops == (Tryz.f6.params.toList ++ (OpenSpec.ofChange Rows.topPublicSpec).bare.plain.varTypes Tryz.pinned.checked.prog).any (Tryz.pinned.checked.prog.loopsFrom ·)) = true := by kernel_rfl
theorem topPublic_j18 : (Rows.topPublicRow.wideKeys == (Tryz.f6.params.toList ++ (OpenSpec.ofChange Rows.topPublicSpec).bare.plain.varTypes Tryz.pinned.checked.prog ++ Tryz.f6.resultTypes.toList).any (Tryz.pinned.checked.prog.wideKeysFrom ·)) = true := by kernel_rfl
theorem topPublic_j19 : (OpenSpec.ofChange Rows.topPublicSpec).bare.vars.all (Tryz.pinned.checked.prog.varReadable ·) = true := by kernel_rfl
theorem topPublic_j20 : Tryz.f6.resultTypes.all (fun t => Tryz.pinned.checked.prog.readableRec t && decide (t < Tryz.pinned.checked.prog.types.size)) = true := by kernel_rfl
theorem topPublic_j21 : (Rows.topPublicRow.ifacesOut == Tryz.f6.resultTypes.toList.any (Tryz.pinned.checked.prog.ifacesRec ·)) = true := by kernel_rfl
theorem topPublic_j22 : (Rows.topPublicRow.loopsOut == Tryz.f6.resultTypes.toList.any (Tryz.pinned.checked.prog.loopsFrom ·)) = true := by kernel_rfl
theorem topPublic_j23 : (Rows.topPublicRow.plainKeys == Tryz.pinned.checked.prog.plainKeys) = true := by kernel_rfl
theorem topPublic_j24 : Rows.topPublicRow.shortTexts.isNone = true := by kernel_rfl
theorem topPublic_j27 : (Rows.topPublicRow.lifted == Tryz.pinned.checked.prog.liftsFinal) = true := by kernel_rfl
theorem topPublic_j28 : (Tryz.pinned.checked.prog.make == some Rows.topPublicRow.make) = true := by kernel_rfl
theorem topPublic_j29 : (Rows.topPublicRow.kinds == (if Rows.topPublicRow.domain.isEmpty then [] else Tryz.f6.params.toList.map fun t => match Tryz.pinned.checked.prog.underlying t with | some (.int k) => some k | _ => none)) = true := by kernel_rfl
theorem topPublic_j30 : (Rows.topPublicRow.pinned == Rows.topPublicRow.pinnedBy) = true := by kernel_rfl
theorem topPublic_j31 : (Rows.topPublicRow.veiled == (Tryz.f6.params.toList ++ (OpenSpec.ofChange Rows.topPublicSpec).bare.plain.varTypes Tryz.pinned.checked.prog ++ Tryz.f6.resultTypes.toList).any (Tryz.pinned.checked.prog.veiledRec ·)) = true := by kernel_rfl
theorem topPublic_j32 : Rows.topPublicRow.veiledFits Tryz.pinned.checked.prog Tryz.f6.params.toList (Tryz.f6.params.toList ++ (OpenSpec.ofChange Rows.topPublicSpec).bare.plain.varTypes Tryz.pinned.checked.prog ++ Tryz.f6.resultTypes.toList) = true := by kernel_rfl
end Go.Proofs.YtopncieoolkhjaaGreatDoor
