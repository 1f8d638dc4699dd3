import Derived.Test.YtnnnbjjenknpeaaGreatDoorHJf
/- The facts of the law ReasonChecks's row,each by itself. -/
set_option linter.unusedVariables false
set_option linter.unusedSimpArgs false
namespace Go.Proofs.YtnnnbjjenknpeaaGreatDoor
open Go.ChangeShapes Go.WideShapes Go.ChangeAt Go.RowKit Go.Se
theorem reasonChecks_j1 : Rows.reasonChecksRow.wf (OpenSpec.ofChange (OpenSpec.ofChange Rows.reasonChecksSpec).bare) = true := by kernel_rfl
theorem reasonChecks_j4 : Tryz.f7.params.all (Tryz.pinned.checked.prog.readableRec ·) = true := by kernel_rfl
theorem reasonChecks_j5 : namedTie Tryz.pinned.checked.prog Rows.reasonChecksRow.named (OpenSpec.ofChange Rows.reasonChecksSpec).bare.vars = true := by kernel_rfl
theorem reasonChecks_j6 : (Rows.reasonChecksRow.stops == []) = true := by kernel_rfl
theorem reasonChecks_j8 : (Rows.reasonChecksRow.knobs == []) = true := by kernel_rfl
theorem reasonChecks_j10 : (Rows.reasonChecksRow.inPlace == Tryz.pinned.checked.prog.inPlace 7) = true := by kernel_rfl
theorem reasonChecks_j11 : (Rows.reasonChecksRow.unfollowed == Tryz.pinned.checked.prog.unfollowed 7) = true := by kernel_rfl
theorem reasonChecks_j12 : (Rows.reasonChecksRow.recurses == Tryz.pinned.checked.prog.recurses 7) = true := by kernel_rfl
theorem reasonChecks_j13 : (Rows.reasonChecksRow.named == Tryz.pinned.checked.prog.varsNamed 7) = true := by kernel_rfl
theorem reasonChecks_j14 : (Rows.reasonChecksRow.maps == (Tryz.f7.params.toList ++ (OpenSpec.ofChange Rows.reasonChecksSpec).bare.plain.varTypes Tryz.pinned.checked.prog).any (Tryz.pinned.checked.prog.mapsRec ·)) = true := by kernel_rfl
theorem reasonChecks_j15 : (Rows.reasonChecksRow.ifaces == (Tryz.f7.params.toList ++ (OpenSpec.ofChange Rows.reasonChecksSpec).bare.plain.varTypes Tryz.pinned.checked.prog).any (Tryz.pinned.checked.prog.ifacesRec ·)) = true := by kernel_rfl
theorem reasonChecks_j16 : (Rows.reasonChecksRow.mapsOut == Tryz.pinned.checked.prog.mapsAmong Tryz.f7.resultTypes.toList) = true := by kernel_rfl
theorem reasonChecks_j17 : (Rows.reasonChecksRow.loops == (Tryz.f7.params.toList ++ (OpenSpec.ofChange Rows.reasonChecksSpec).bare.plain.varTypes Tryz.pinned.checked.prog).any (Tryz.pinned.checked.prog.loopsFrom ·)) = true := by kernel_rfl
theorem reasonChecks_j18 : (Rows.reasonChecksRow.wideKeys == (Tryz.f7.params.toList ++ (OpenSpec.ofChange Rows.reasonChecksSpec).bare.plain.varTypes Tryz.pinned.checked.prog ++ Tryz.f7.resultTypes.toList).any (Tryz.pinned.checked.prog.wideKeysFrom ·)) = true := by kernel_rfl
theorem reasonChecks_j19 : (OpenSpec.ofChange Rows.reasonChecksSpec).bare.vars.all (Tryz.pinned.checked.prog.varReadable ·) = true := by kernel_rfl
theorem reasonChecks_j20 : Tryz.f7.resultTypes.all (fun t => Tryz.pinned.checked.prog.readableRec t && decide (t < Tryz.pinned.checked.prog.types.size)) = true := by kernel_rfl
theorem reasonChecks_j21 : (Rows.reasonChecksRow.ifacesOut == Tryz.f7.resultTypes.toList.any (Tryz.pinned.checked.prog.ifacesRec ·)) = true := by kernel_rfl
theorem reasonChecks_j22 : (Rows.reasonChecksRow.loopsOut == Tryz.f7.resultTypes.toList.any (Tryz.pinned.checked.prog.loopsFrom ·)) = true := by kernel_rfl
theorem reasonChecks_j23 : (Rows.reasonChecksRow.plainKeys == Tryz.pinned.checked.prog.plainKeys) = true := by kernel_rfl
theorem reasonChecks_j24 : Rows.reasonChecksRow.shortTexts.isNone = true := by kernel_rfl
theorem reasonChecks_j27 : (Rows.reasonChecksRow.lifted == Tryz.pinned.checked.prog.liftsFinal) = true := by kernel_rfl
theorem reasonChecks_j28 : (Tryz.pinned.checked.prog.make == some Rows.reasonChecksRow.make) = true := by kernel_rfl
theorem reasonChecks_j29 : (Rows.reasonChecksRow.kinds == (if Rows.reasonChecksRow.domain.isEmpty then [] else Tryz.f7.params.toList.map fun t => match Tryz.pinned.checked.prog.underlying t with | some (.int k) => some k | _ => none)) = true := by kernel_rfl
theorem reasonChecks_j30 : (Rows.reasonChecksRow.pinned == Rows.reasonChecksRow.pinnedBy) = true := by kernel_rfl
theorem reasonChecks_j31 : (Rows.reasonChecksRow.veiled == (Tryz.f7.params.toList ++ (OpenSpec.ofChange Rows.reasonChecksSpec).bare.plain.varTypes Tryz.pinned.checked.prog ++ Tryz.f7.resultTypes.toList).any (Tryz.pinned.checked.prog.veiledRec ·)) = true := by kernel_rfl
theorem reasonChecks_j32 : Rows.reasonChecksRow.veiledFits Tryz.pinned.checked.prog Tryz.f7.params.toList (Tryz.f7.params.toList ++ (OpenSpec.ofChange Rows.reasonChecksSpec).bare.plain.varTypes Tryz.pinned.checked.prog ++ Tryz.f7.resultTypes.toList) = true := by kernel_rfl
end Go.Proofs.YtnnnbjjenknpeaaGreatDoor
