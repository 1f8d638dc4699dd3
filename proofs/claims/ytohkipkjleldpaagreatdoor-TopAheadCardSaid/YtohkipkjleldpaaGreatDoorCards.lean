/-
  DERIVED. GIVEN WITH THE SEED: THE CARDS: each row of YtohkipkjleldpaaGreatDoorRows.lean that lists a variable, with what it lists TIED to the program's text (the seventh form; the later family's looks); each row that meets fmt, with fmt's text TOLD by the authors' own Lean function (tested against real Go, not proved from fmt's source: count such statements apart). THE CARD IS WHAT COUNTS. Prove the row's statement (the work); the ties are given (YtohkipkjleldpaaGreatDoorTie.lean); close each card by the builder's one call (the guide's Derived/Test/ToyasCard.lean, 'card_holds'). Laid BY PROGRAM, IN A SANDBOX (cutbox-door.mjs). By AI agents, Wed Nov 11 2026. No macro, syntax, notation, axiom, sorry.
-/
import Derived.Test.YtohkipkjleldpaaGreatDoorRows
import GoSem.ClaimSeven
namespace Go.Proofs.YtohkipkjleldpaaGreatDoor
namespace Rows

/-- THE TIED CARD OF 'ciceronetop.TopAhead'. -/
def topAheadCard : Claim7 := { stood := { row := topAheadRow, standIns := [], harness := (true, "131f987915f81bf1abceb5d95e5f44d83eddcfcb6cedeca54fee4fc3afd1c841"), looks := true }, kinds := [], alts := [], laidByText := true, laidKinds := [.data, .data, .data, .data, .sentinel, .sentinel, .data, .data, .pinned], laidTests := true, laidLooks := .later }
def TopAheadCardSaid : Prop := Claim7.holds Tryz.pinned (.plain (OpenSpec.ofChange topAheadSpec)) topAheadCard

/-- THE SECOND FORM's CARD OF 'ciceronetop.TopAhead'. -/
def topAheadUptoCard : Claim7 := { stood := { row := topAheadUptoRow, standIns := [], harness := (true, "131f987915f81bf1abceb5d95e5f44d83eddcfcb6cedeca54fee4fc3afd1c841"), looks := true }, kinds := [], alts := [], laidByText := true, laidKinds := [.data, .data, .data, .data, .sentinel, .sentinel, .data, .data, .pinned], laidTests := true, laidLooks := .later }
def TopAheadUptoCardSaid : Prop := Claim7.holds Tryz.pinned (.plain (OpenSpec.upto topAheadSpec)) topAheadUptoCard
end Rows
end Go.Proofs.YtohkipkjleldpaaGreatDoor
