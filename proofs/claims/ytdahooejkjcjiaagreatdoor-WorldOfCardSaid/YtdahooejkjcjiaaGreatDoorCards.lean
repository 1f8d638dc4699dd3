/-
  DERIVED. GIVEN WITH THE SEED: THE CARDS: each row of YtdahooejkjcjiaaGreatDoorRows.lean that lists a variable, with what it lists TIED to the program's text (the seventh form; the later family's looks); each row that meets fmt, with fmt's text TOLD by the authors' own Lean function (tested against real Go, not proved from fmt's source: count such statements apart). THE CARD IS WHAT COUNTS. Prove the row's statement (the work); the ties are given (YtdahooejkjcjiaaGreatDoorTie.lean); close each card by the builder's one call (the guide's Derived/Test/ToyasCard.lean, 'card_holds'). Laid BY PROGRAM, IN A SANDBOX (cutbox-door.mjs). By AI agents, Wed Nov 11 2026. No macro, syntax, notation, axiom, sorry.
-/
import Derived.Test.YtdahooejkjcjiaaGreatDoorRows
import GoSem.ClaimSeven
namespace Go.Proofs.YtdahooejkjcjiaaGreatDoor
namespace Rows

/-- THE TIED CARD OF 'ciceronelaw20.WorldAdds'. -/
def worldAddsCard : Claim7 := { stood := { row := worldAddsRow, standIns := [], harness := (true, "07bcbf3a4d64d903a6abb6b2a4d470c588140c218be1335ec46352aebf222dc4"), looks := true }, kinds := [], alts := [], laidByText := true, laidKinds := [.data, .data, .data, .data, .data, .pinned], laidTests := true, laidLooks := .later }
def WorldAddsCardSaid : Prop := Claim7.holds Tryz.pinned (.plain (OpenSpec.ofChange worldAddsSpec)) worldAddsCard

/-- THE TIED CARD OF 'ciceronelaw20.WorldSame'. -/
def worldSameCard : Claim7 := { stood := { row := worldSameRow, standIns := [], harness := (true, "07bcbf3a4d64d903a6abb6b2a4d470c588140c218be1335ec46352aebf222dc4"), looks := true }, kinds := [], alts := [], laidByText := true, laidKinds := [.data, .data, .data, .data, .data, .pinned], laidTests := true, laidLooks := .later }
def WorldSameCardSaid : Prop := Claim7.holds Tryz.pinned (.plain (OpenSpec.ofChange worldSameSpec)) worldSameCard

/-- THE TIED CARD OF 'ciceronelaw20.WorldRows'. -/
def worldRowsCard : Claim7 := { stood := { row := worldRowsRow, standIns := [], harness := (true, "07bcbf3a4d64d903a6abb6b2a4d470c588140c218be1335ec46352aebf222dc4"), looks := true }, kinds := [], alts := [], laidByText := true, laidKinds := [.data, .data, .data, .data, .data, .pinned], laidTests := true, laidLooks := .later }
def WorldRowsCardSaid : Prop := Claim7.holds Tryz.pinned (.plain (OpenSpec.ofChange worldRowsSpec)) worldRowsCard

/-- THE TIED CARD OF 'ciceronelaw20.WorldOf'. -/
def worldOfCard : Claim7 := { stood := { row := worldOfRow, standIns := [], harness := (true, "07bcbf3a4d64d903a6abb6b2a4d470c588140c218be1335ec46352aebf222dc4"), looks := true }, kinds := [], alts := [], laidByText := true, laidKinds := [.data, .data, .data, .data, .data, .pinned], laidTests := true, laidLooks := .later }
def WorldOfCardSaid : Prop := Claim7.holds Tryz.pinned (.plain (OpenSpec.ofChange worldOfSpec)) worldOfCard

/-- THE TIED CARD OF 'ciceronelaw20.WorldForgets'. -/
def worldForgetsCard : Claim7 := { stood := { row := worldForgetsRow, standIns := [], harness := (true, "07bcbf3a4d64d903a6abb6b2a4d470c588140c218be1335ec46352aebf222dc4"), looks := true }, kinds := [], alts := [], laidByText := true, laidKinds := [.data, .data, .data, .data, .data, .pinned], laidTests := true, laidLooks := .later }
def WorldForgetsCardSaid : Prop := Claim7.holds Tryz.pinned (.plain (OpenSpec.ofChange worldForgetsSpec)) worldForgetsCard

/-- THE SECOND FORM's CARD OF 'ciceronelaw20.WorldAdds'. -/
def worldAddsUptoCard : Claim7 := { stood := { row := worldAddsUptoRow, standIns := [], harness := (true, "07bcbf3a4d64d903a6abb6b2a4d470c588140c218be1335ec46352aebf222dc4"), looks := true }, kinds := [], alts := [], laidByText := true, laidKinds := [.data, .data, .data, .data, .data, .pinned], laidTests := true, laidLooks := .later }
def WorldAddsUptoCardSaid : Prop := Claim7.holds Tryz.pinned (.plain (OpenSpec.upto worldAddsSpec)) worldAddsUptoCard

/-- THE SECOND FORM's CARD OF 'ciceronelaw20.WorldSame'. -/
def worldSameUptoCard : Claim7 := { stood := { row := worldSameUptoRow, standIns := [], harness := (true, "07bcbf3a4d64d903a6abb6b2a4d470c588140c218be1335ec46352aebf222dc4"), looks := true }, kinds := [], alts := [], laidByText := true, laidKinds := [.data, .data, .data, .data, .data, .pinned], laidTests := true, laidLooks := .later }
def WorldSameUptoCardSaid : Prop := Claim7.holds Tryz.pinned (.plain (OpenSpec.upto worldSameSpec)) worldSameUptoCard

/-- THE SECOND FORM's CARD OF 'ciceronelaw20.WorldRows'. -/
def worldRowsUptoCard : Claim7 := { stood := { row := worldRowsUptoRow, standIns := [], harness := (true, "07bcbf3a4d64d903a6abb6b2a4d470c588140c218be1335ec46352aebf222dc4"), looks := true }, kinds := [], alts := [], laidByText := true, laidKinds := [.data, .data, .data, .data, .data, .pinned], laidTests := true, laidLooks := .later }
def WorldRowsUptoCardSaid : Prop := Claim7.holds Tryz.pinned (.plain (OpenSpec.upto worldRowsSpec)) worldRowsUptoCard

/-- THE SECOND FORM's CARD OF 'ciceronelaw20.WorldOf'. -/
def worldOfUptoCard : Claim7 := { stood := { row := worldOfUptoRow, standIns := [], harness := (true, "07bcbf3a4d64d903a6abb6b2a4d470c588140c218be1335ec46352aebf222dc4"), looks := true }, kinds := [], alts := [], laidByText := true, laidKinds := [.data, .data, .data, .data, .data, .pinned], laidTests := true, laidLooks := .later }
def WorldOfUptoCardSaid : Prop := Claim7.holds Tryz.pinned (.plain (OpenSpec.upto worldOfSpec)) worldOfUptoCard

/-- THE SECOND FORM's CARD OF 'ciceronelaw20.WorldForgets'. -/
def worldForgetsUptoCard : Claim7 := { stood := { row := worldForgetsUptoRow, standIns := [], harness := (true, "07bcbf3a4d64d903a6abb6b2a4d470c588140c218be1335ec46352aebf222dc4"), looks := true }, kinds := [], alts := [], laidByText := true, laidKinds := [.data, .data, .data, .data, .data, .pinned], laidTests := true, laidLooks := .later }
def WorldForgetsUptoCardSaid : Prop := Claim7.holds Tryz.pinned (.plain (OpenSpec.upto worldForgetsSpec)) worldForgetsUptoCard
end Rows
end Go.Proofs.YtdahooejkjcjiaaGreatDoor
