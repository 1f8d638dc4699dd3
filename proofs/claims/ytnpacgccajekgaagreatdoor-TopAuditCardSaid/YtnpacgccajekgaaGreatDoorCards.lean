/-
  DERIVED. GIVEN WITH THE SEED: THE CARDS: each row of YtnpacgccajekgaaGreatDoorRows.lean that lists a variable, with what it lists TIED to the program's text (the seventh form; the later family's looks); each row that meets fmt, with fmt's text TOLD by the authors' own Lean function (tested against real Go, not proved from fmt's source: count such statements apart). THE CARD IS WHAT COUNTS. Prove the row's statement (the work); the ties are given (YtnpacgccajekgaaGreatDoorTie.lean); close each card by the builder's one call (the guide's Derived/Test/ToyasCard.lean, 'card_holds'). Laid BY PROGRAM, IN A SANDBOX (cutbox-door.mjs). By AI agents, Wed Nov 11 2026. No macro, syntax, notation, axiom, sorry.
-/
import Derived.Test.YtnpacgccajekgaaGreatDoorRows
import GoSem.ClaimSeven
namespace Go.Proofs.YtnpacgccajekgaaGreatDoor
namespace Rows

/-- THE TIED CARD OF 'ciceronetop.TopAudit'. -/
def topAuditCard : Claim7 := { stood := { row := topAuditRow, standIns := [], harness := (true, "6dbe3a90e4d97b7046e279722e99f6ce1738f99848ce77cb902018ecf7b5c127"), looks := true }, kinds := [], alts := [], laidByText := true, laidKinds := [.data, .data, .data, .data, .sentinel, .sentinel, .data, .data, .pinned], laidTests := true, laidLooks := .later }
def TopAuditCardSaid : Prop := Claim7.holds Tryz.pinned (.plain (OpenSpec.ofChange topAuditSpec)) topAuditCard

/-- THE SECOND FORM's CARD OF 'ciceronetop.TopAudit'. -/
def topAuditUptoCard : Claim7 := { stood := { row := topAuditUptoRow, standIns := [], harness := (true, "6dbe3a90e4d97b7046e279722e99f6ce1738f99848ce77cb902018ecf7b5c127"), looks := true }, kinds := [], alts := [], laidByText := true, laidKinds := [.data, .data, .data, .data, .sentinel, .sentinel, .data, .data, .pinned], laidTests := true, laidLooks := .later }
def TopAuditUptoCardSaid : Prop := Claim7.holds Tryz.pinned (.plain (OpenSpec.upto topAuditSpec)) topAuditUptoCard
end Rows
end Go.Proofs.YtnpacgccajekgaaGreatDoor
