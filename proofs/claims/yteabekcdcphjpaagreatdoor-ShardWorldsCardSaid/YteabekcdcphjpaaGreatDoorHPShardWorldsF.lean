import Derived.Test.YteabekcdcphjpaaGreatDoorHJf
/- The facts of the law ShardWorlds's row,each by itself. -/
set_option linter.unusedVariables false
set_option linter.unusedSimpArgs false
namespace Go.Proofs.YteabekcdcphjpaaGreatDoor
open Go.ChangeShapes Go.WideShapes Go.ChangeAt Go.RowKit Go.Se
theorem shardWorlds_j1 : Rows.shardWorldsRow.wf (OpenSpec.ofChange (OpenSpec.ofChange Rows.shardWorldsSpec).bare) = true := by kernel_rfl
theorem shardWorlds_j4 : Tryz.f4.params.all (Tryz.pinned.checked.prog.readableRec ·) = true := by kernel_rfl
theorem shardWorlds_j5 : namedTie Tryz.pinned.checked.prog Rows.shardWorldsRow.named (OpenSpec.ofChange Rows.shardWorldsSpec).bare.vars = true := by kernel_rfl
theorem shardWorlds_j6 : (Rows.shardWorldsRow.stops == []) = true := by kernel_rfl
theorem shardWorlds_j8 : (Rows.shardWorldsRow.knobs == []) = true := by kernel_rfl
theorem shardWorlds_j10 : (Rows.shardWorldsRow.inPlace == Tryz.pinned.checked.prog.inPlace 4) = true := by kernel_rfl
theorem shardWorlds_j11 : (Rows.shardWorldsRow.unfollowed == Tryz.pinned.checked.prog.unfollowed 4) = true := by kernel_rfl
theorem shardWorlds_j12 : (Rows.shardWorldsRow.recurses == Tryz.pinned.checked.prog.recurses 4) = true := by kernel_rfl
theorem shardWorlds_j13 : (Rows.shardWorldsRow.named == Tryz.pinned.checked.prog.varsNamed 4) = true := by kernel_rfl
theorem shardWorlds_j14 : (Rows.shardWorldsRow.maps == (Tryz.f4.params.toList ++ (OpenSpec.ofChange Rows.shardWorldsSpec).bare.plain.varTypes Tryz.pinned.checked.prog).any (Tryz.pinned.checked.prog.mapsRec ·)) = true := by kernel_rfl
theorem shardWorlds_j15 : (Rows.shardWorldsRow.ifaces == (Tryz.f4.params.toList ++ (OpenSpec.ofChange Rows.shardWorldsSpec).bare.plain.varTypes Tryz.pinned.checked.prog).any (Tryz.pinned.checked.prog.ifacesRec ·)) = true := by kernel_rfl
theorem shardWorlds_j16 : (Rows.shardWorldsRow.mapsOut == Tryz.pinned.checked.prog.mapsAmong Tryz.f4.resultTypes.toList) = true := by kernel_rfl
theorem shardWorlds_j17 : (Rows.shardWorldsRow.loops == (Tryz.f4.params.toList ++ (OpenSpec.ofChange Rows.shardWorldsSpec).bare.plain.varTypes Tryz.pinned.checked.prog).any (Tryz.pinned.checked.prog.loopsFrom ·)) = true := by kernel_rfl
theorem shardWorlds_j18 : (Rows.shardWorldsRow.wideKeys == (Tryz.f4.params.toList ++ (OpenSpec.ofChange Rows.shardWorldsSpec).bare.plain.varTypes Tryz.pinned.checked.prog ++ Tryz.f4.resultTypes.toList).any (Tryz.pinned.checked.prog.wideKeysFrom ·)) = true := by kernel_rfl
theorem shardWorlds_j19 : (OpenSpec.ofChange Rows.shardWorldsSpec).bare.vars.all (Tryz.pinned.checked.prog.varReadable ·) = true := by kernel_rfl
theorem shardWorlds_j20 : Tryz.f4.resultTypes.all (fun t => Tryz.pinned.checked.prog.readableRec t && decide (t < Tryz.pinned.checked.prog.types.size)) = true := by kernel_rfl
theorem shardWorlds_j21 : (Rows.shardWorldsRow.ifacesOut == Tryz.f4.resultTypes.toList.any (Tryz.pinned.checked.prog.ifacesRec ·)) = true := by kernel_rfl
theorem shardWorlds_j22 : (Rows.shardWorldsRow.loopsOut == Tryz.f4.resultTypes.toList.any (Tryz.pinned.checked.prog.loopsFrom ·)) = true := by kernel_rfl
theorem shardWorlds_j23 : (Rows.shardWorldsRow.plainKeys == Tryz.pinned.checked.prog.plainKeys) = true := by kernel_rfl
theorem shardWorlds_j24 : Rows.shardWorldsRow.shortTexts.isNone = true := by kernel_rfl
theorem shardWorlds_j27 : (Rows.shardWorldsRow.lifted == Tryz.pinned.checked.prog.liftsFinal) = true := by kernel_rfl
theorem shardWorlds_j28 : (Tryz.pinned.checked.prog.make == some Rows.shardWorldsRow.make) = true := by kernel_rfl
theorem shardWorlds_j29 : (Rows.shardWorldsRow.kinds == (if Rows.shardWorldsRow.domain.isEmpty then [] else Tryz.f4.params.toList.map fun t => match Tryz.pinned.checked.prog.underlying t with | some (.int k) => some k | _ => none)) = true := by kernel_rfl
theorem shardWorlds_j30 : (Rows.shardWorldsRow.pinned == Rows.shardWorldsRow.pinnedBy) = true := by kernel_rfl
theorem shardWorlds_j31 : (Rows.shardWorldsRow.veiled == (Tryz.f4.params.toList ++ (OpenSpec.ofChange Rows.shardWorldsSpec).bare.plain.varTypes Tryz.pinned.checked.prog ++ Tryz.f4.resultTypes.toList).any (Tryz.pinned.checked.prog.veiledRec ·)) = true := by kernel_rfl
theorem shardWorlds_j32 : Rows.shardWorldsRow.veiledFits Tryz.pinned.checked.prog Tryz.f4.params.toList (Tryz.f4.params.toList ++ (OpenSpec.ofChange Rows.shardWorldsSpec).bare.plain.varTypes Tryz.pinned.checked.prog ++ Tryz.f4.resultTypes.toList) = true := by kernel_rfl
end Go.Proofs.YteabekcdcphjpaaGreatDoor
