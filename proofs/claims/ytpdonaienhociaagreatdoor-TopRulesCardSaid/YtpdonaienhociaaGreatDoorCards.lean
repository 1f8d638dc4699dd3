/-
  DERIVED. GIVEN WITH THE SEED: THE CARDS: each row of YtpdonaienhociaaGreatDoorRows.lean that lists a variable, with what it lists TIED to the program's text (the seventh form; the later family's looks); each row that meets fmt, with fmt's text TOLD by the authors' own Lean function (tested against real Go, not proved from fmt's source: count such statements apart). THE CARD IS WHAT COUNTS. Prove the row's statement (the work); the ties are given (YtpdonaienhociaaGreatDoorTie.lean); close each card by the builder's one call (the guide's Derived/Test/ToyasCard.lean, 'card_holds'). Laid BY PROGRAM, IN A SANDBOX (cutbox-door.mjs). By AI agents, Wed Nov 11 2026. No macro, syntax, notation, axiom, sorry.
-/
import Derived.Test.YtpdonaienhociaaGreatDoorRows
import GoSem.ClaimSeven
namespace Go.Proofs.YtpdonaienhociaaGreatDoor
namespace Rows

/-- THE TIED CARD OF 'ciceronetop.TopRules'. -/
def topRulesCard : Claim7 := { stood := { row := topRulesRow, standIns := [], harness := (true, "3b86e24958e429c2b0cabcd8c772ad13cc230028d0b8daa2fa369a6434c3c718"), looks := true }, kinds := [], alts := [], laidByText := true, laidKinds := [.data, .data, .data, .data, .sentinel, .sentinel, .data, .data, .pinned], laidTests := true, laidLooks := .later }
def TopRulesCardSaid : Prop := Claim7.holds Tryz.pinned (.plain (OpenSpec.ofChange topRulesSpec)) topRulesCard

/-- THE TIED CARD OF 'ciceronetop.TopReasons'. -/
def topReasonsCard : Claim7 := { stood := { row := topReasonsRow, standIns := [], harness := (true, "3b86e24958e429c2b0cabcd8c772ad13cc230028d0b8daa2fa369a6434c3c718"), looks := true }, kinds := [], alts := [], laidByText := true, laidKinds := [.data, .data, .data, .data, .sentinel, .sentinel, .data, .data, .pinned], laidTests := true, laidLooks := .later }
def TopReasonsCardSaid : Prop := Claim7.holds Tryz.pinned (.plain (OpenSpec.ofChange topReasonsSpec)) topReasonsCard

/-- THE SECOND FORM's CARD OF 'ciceronetop.TopRules'. -/
def topRulesUptoCard : Claim7 := { stood := { row := topRulesUptoRow, standIns := [], harness := (true, "3b86e24958e429c2b0cabcd8c772ad13cc230028d0b8daa2fa369a6434c3c718"), looks := true }, kinds := [], alts := [], laidByText := true, laidKinds := [.data, .data, .data, .data, .sentinel, .sentinel, .data, .data, .pinned], laidTests := true, laidLooks := .later }
def TopRulesUptoCardSaid : Prop := Claim7.holds Tryz.pinned (.plain (OpenSpec.upto topRulesSpec)) topRulesUptoCard

/-- THE SECOND FORM's CARD OF 'ciceronetop.TopReasons'. -/
def topReasonsUptoCard : Claim7 := { stood := { row := topReasonsUptoRow, standIns := [], harness := (true, "3b86e24958e429c2b0cabcd8c772ad13cc230028d0b8daa2fa369a6434c3c718"), looks := true }, kinds := [], alts := [], laidByText := true, laidKinds := [.data, .data, .data, .data, .sentinel, .sentinel, .data, .data, .pinned], laidTests := true, laidLooks := .later }
def TopReasonsUptoCardSaid : Prop := Claim7.holds Tryz.pinned (.plain (OpenSpec.upto topReasonsSpec)) topReasonsUptoCard
end Rows
end Go.Proofs.YtpdonaienhociaaGreatDoor
