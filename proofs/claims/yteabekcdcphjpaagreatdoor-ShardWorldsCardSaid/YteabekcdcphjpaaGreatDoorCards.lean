/-
  DERIVED. GIVEN WITH THE SEED: THE CARDS: each row of YteabekcdcphjpaaGreatDoorRows.lean that lists a variable, with what it lists TIED to the program's text (the seventh form; the later family's looks); each row that meets fmt, with fmt's text TOLD by the authors' own Lean function (tested against real Go, not proved from fmt's source: count such statements apart). THE CARD IS WHAT COUNTS. Prove the row's statement (the work); the ties are given (YteabekcdcphjpaaGreatDoorTie.lean); close each card by the builder's one call (the guide's Derived/Test/ToyasCard.lean, 'card_holds'). Laid BY PROGRAM, IN A SANDBOX (cutbox-door.mjs). By AI agents, Wed Nov 11 2026. No macro, syntax, notation, axiom, sorry.
-/
import Derived.Test.YteabekcdcphjpaaGreatDoorRows
import GoSem.ClaimSeven
namespace Go.Proofs.YteabekcdcphjpaaGreatDoor
namespace Rows

/-- THE TIED CARD OF 'ciceronelaw32.ShardFails'. -/
def shardFailsCard : Claim7 := { stood := { row := shardFailsRow, standIns := [], harness := (true, "dcf9919abd771b094844bb5cbbe667478701fb0db61d99e38823ec28b19d0b5d"), looks := true }, kinds := [], alts := [], laidByText := true, laidKinds := [.data, .data, .data, .data, .data, .pinned], laidTests := true, laidLooks := .later }
def ShardFailsCardSaid : Prop := Claim7.holds Tryz.pinned (.plain (OpenSpec.ofChange shardFailsSpec)) shardFailsCard

/-- THE TIED CARD OF 'ciceronelaw32.ShardWorlds'. -/
def shardWorldsCard : Claim7 := { stood := { row := shardWorldsRow, standIns := [], harness := (true, "dcf9919abd771b094844bb5cbbe667478701fb0db61d99e38823ec28b19d0b5d"), looks := true }, kinds := [], alts := [], laidByText := true, laidKinds := [.data, .data, .data, .data, .data, .pinned], laidTests := true, laidLooks := .later }
def ShardWorldsCardSaid : Prop := Claim7.holds Tryz.pinned (.plain (OpenSpec.ofChange shardWorldsSpec)) shardWorldsCard

/-- THE SECOND FORM's CARD OF 'ciceronelaw32.ShardFails'. -/
def shardFailsUptoCard : Claim7 := { stood := { row := shardFailsUptoRow, standIns := [], harness := (true, "dcf9919abd771b094844bb5cbbe667478701fb0db61d99e38823ec28b19d0b5d"), looks := true }, kinds := [], alts := [], laidByText := true, laidKinds := [.data, .data, .data, .data, .data, .pinned], laidTests := true, laidLooks := .later }
def ShardFailsUptoCardSaid : Prop := Claim7.holds Tryz.pinned (.plain (OpenSpec.upto shardFailsSpec)) shardFailsUptoCard

/-- THE SECOND FORM's CARD OF 'ciceronelaw32.ShardWorlds'. -/
def shardWorldsUptoCard : Claim7 := { stood := { row := shardWorldsUptoRow, standIns := [], harness := (true, "dcf9919abd771b094844bb5cbbe667478701fb0db61d99e38823ec28b19d0b5d"), looks := true }, kinds := [], alts := [], laidByText := true, laidKinds := [.data, .data, .data, .data, .data, .pinned], laidTests := true, laidLooks := .later }
def ShardWorldsUptoCardSaid : Prop := Claim7.holds Tryz.pinned (.plain (OpenSpec.upto shardWorldsSpec)) shardWorldsUptoCard
end Rows
end Go.Proofs.YteabekcdcphjpaaGreatDoor
