/-
  DERIVED. GIVEN WITH THE SEED: THE CARDS: each row of YtnnnbjjenknpeaaGreatDoorRows.lean that lists a variable, with what it lists TIED to the program's text (the seventh form; the later family's looks); each row that meets fmt, with fmt's text TOLD by the authors' own Lean function (tested against real Go, not proved from fmt's source: count such statements apart). THE CARD IS WHAT COUNTS. Prove the row's statement (the work); the ties are given (YtnnnbjjenknpeaaGreatDoorTie.lean); close each card by the builder's one call (the guide's Derived/Test/ToyasCard.lean, 'card_holds'). Laid BY PROGRAM, IN A SANDBOX (cutbox-door.mjs). By AI agents, Wed Nov 11 2026. No macro, syntax, notation, axiom, sorry.
-/
import Derived.Test.YtnnnbjjenknpeaaGreatDoorRows
import GoSem.ClaimSeven
namespace Go.Proofs.YtnnnbjjenknpeaaGreatDoor
namespace Rows

/-- THE TIED CARD OF 'ciceronelaw28.ReasonOf'. -/
def reasonOfCard : Claim7 := { stood := { row := reasonOfRow, standIns := [], harness := (true, "583e98fbf386692be71c417b70035596f9da263778bddfa2ec76dd21a72c065e"), looks := true }, kinds := [], alts := [], laidByText := true, laidKinds := [.data, .data, .data, .data, .data, .pinned], laidTests := true, laidLooks := .later }
def ReasonOfCardSaid : Prop := Claim7.holds Tryz.pinned (.plain (OpenSpec.ofChange reasonOfSpec)) reasonOfCard

/-- THE TIED CARD OF 'ciceronelaw28.ReasonAdds'. -/
def reasonAddsCard : Claim7 := { stood := { row := reasonAddsRow, standIns := [], harness := (true, "583e98fbf386692be71c417b70035596f9da263778bddfa2ec76dd21a72c065e"), looks := true }, kinds := [], alts := [], laidByText := true, laidKinds := [.data, .data, .data, .data, .data, .pinned], laidTests := true, laidLooks := .later }
def ReasonAddsCardSaid : Prop := Claim7.holds Tryz.pinned (.plain (OpenSpec.ofChange reasonAddsSpec)) reasonAddsCard

/-- THE TIED CARD OF 'ciceronelaw28.ReasonWithout'. -/
def reasonWithoutCard : Claim7 := { stood := { row := reasonWithoutRow, standIns := [], harness := (true, "583e98fbf386692be71c417b70035596f9da263778bddfa2ec76dd21a72c065e"), looks := true }, kinds := [], alts := [], laidByText := true, laidKinds := [.data, .data, .data, .data, .data, .pinned], laidTests := true, laidLooks := .later }
def ReasonWithoutCardSaid : Prop := Claim7.holds Tryz.pinned (.plain (OpenSpec.ofChange reasonWithoutSpec)) reasonWithoutCard

/-- THE TIED CARD OF 'ciceronelaw28.ReasonNobody'. -/
def reasonNobodyCard : Claim7 := { stood := { row := reasonNobodyRow, standIns := [], harness := (true, "583e98fbf386692be71c417b70035596f9da263778bddfa2ec76dd21a72c065e"), looks := true }, kinds := [], alts := [], laidByText := true, laidKinds := [.data, .data, .data, .data, .data, .pinned], laidTests := true, laidLooks := .later }
def ReasonNobodyCardSaid : Prop := Claim7.holds Tryz.pinned (.plain (OpenSpec.ofChange reasonNobodySpec)) reasonNobodyCard

/-- THE TIED CARD OF 'ciceronelaw28.ReasonChecks'. -/
def reasonChecksCard : Claim7 := { stood := { row := reasonChecksRow, standIns := [], harness := (true, "583e98fbf386692be71c417b70035596f9da263778bddfa2ec76dd21a72c065e"), looks := true }, kinds := [], alts := [], laidByText := true, laidKinds := [.data, .data, .data, .data, .data, .pinned], laidTests := true, laidLooks := .later }
def ReasonChecksCardSaid : Prop := Claim7.holds Tryz.pinned (.plain (OpenSpec.ofChange reasonChecksSpec)) reasonChecksCard

/-- THE TIED CARD OF 'ciceronelaw28.ReasonApart'. -/
def reasonApartCard : Claim7 := { stood := { row := reasonApartRow, standIns := [], harness := (true, "583e98fbf386692be71c417b70035596f9da263778bddfa2ec76dd21a72c065e"), looks := true }, kinds := [], alts := [], laidByText := true, laidKinds := [.data, .data, .data, .data, .data, .data, .pinned], laidTests := true, laidLooks := .later }
def ReasonApartCardSaid : Prop := Claim7.holds Tryz.pinned (.plain (OpenSpec.ofChange reasonApartSpec)) reasonApartCard

/-- THE TIED CARD OF 'ciceronelaw28.ReasonTexts'. -/
def reasonTextsCard : Claim7 := { stood := { row := reasonTextsRow, standIns := [], harness := (true, "583e98fbf386692be71c417b70035596f9da263778bddfa2ec76dd21a72c065e"), looks := true }, kinds := [], alts := [], laidByText := true, laidKinds := [.data, .data, .data, .data, .data, .data, .pinned], laidTests := true, laidLooks := .later }
def ReasonTextsCardSaid : Prop := Claim7.holds Tryz.pinned (.plain (OpenSpec.ofChange reasonTextsSpec)) reasonTextsCard

/-- THE SECOND FORM's CARD OF 'ciceronelaw28.ReasonOf'. -/
def reasonOfUptoCard : Claim7 := { stood := { row := reasonOfUptoRow, standIns := [], harness := (true, "583e98fbf386692be71c417b70035596f9da263778bddfa2ec76dd21a72c065e"), looks := true }, kinds := [], alts := [], laidByText := true, laidKinds := [.data, .data, .data, .data, .data, .pinned], laidTests := true, laidLooks := .later }
def ReasonOfUptoCardSaid : Prop := Claim7.holds Tryz.pinned (.plain (OpenSpec.upto reasonOfSpec)) reasonOfUptoCard

/-- THE SECOND FORM's CARD OF 'ciceronelaw28.ReasonAdds'. -/
def reasonAddsUptoCard : Claim7 := { stood := { row := reasonAddsUptoRow, standIns := [], harness := (true, "583e98fbf386692be71c417b70035596f9da263778bddfa2ec76dd21a72c065e"), looks := true }, kinds := [], alts := [], laidByText := true, laidKinds := [.data, .data, .data, .data, .data, .pinned], laidTests := true, laidLooks := .later }
def ReasonAddsUptoCardSaid : Prop := Claim7.holds Tryz.pinned (.plain (OpenSpec.upto reasonAddsSpec)) reasonAddsUptoCard

/-- THE SECOND FORM's CARD OF 'ciceronelaw28.ReasonWithout'. -/
def reasonWithoutUptoCard : Claim7 := { stood := { row := reasonWithoutUptoRow, standIns := [], harness := (true, "583e98fbf386692be71c417b70035596f9da263778bddfa2ec76dd21a72c065e"), looks := true }, kinds := [], alts := [], laidByText := true, laidKinds := [.data, .data, .data, .data, .data, .pinned], laidTests := true, laidLooks := .later }
def ReasonWithoutUptoCardSaid : Prop := Claim7.holds Tryz.pinned (.plain (OpenSpec.upto reasonWithoutSpec)) reasonWithoutUptoCard

/-- THE SECOND FORM's CARD OF 'ciceronelaw28.ReasonNobody'. -/
def reasonNobodyUptoCard : Claim7 := { stood := { row := reasonNobodyUptoRow, standIns := [], harness := (true, "583e98fbf386692be71c417b70035596f9da263778bddfa2ec76dd21a72c065e"), looks := true }, kinds := [], alts := [], laidByText := true, laidKinds := [.data, .data, .data, .data, .data, .pinned], laidTests := true, laidLooks := .later }
def ReasonNobodyUptoCardSaid : Prop := Claim7.holds Tryz.pinned (.plain (OpenSpec.upto reasonNobodySpec)) reasonNobodyUptoCard

/-- THE SECOND FORM's CARD OF 'ciceronelaw28.ReasonChecks'. -/
def reasonChecksUptoCard : Claim7 := { stood := { row := reasonChecksUptoRow, standIns := [], harness := (true, "583e98fbf386692be71c417b70035596f9da263778bddfa2ec76dd21a72c065e"), looks := true }, kinds := [], alts := [], laidByText := true, laidKinds := [.data, .data, .data, .data, .data, .pinned], laidTests := true, laidLooks := .later }
def ReasonChecksUptoCardSaid : Prop := Claim7.holds Tryz.pinned (.plain (OpenSpec.upto reasonChecksSpec)) reasonChecksUptoCard

/-- THE SECOND FORM's CARD OF 'ciceronelaw28.ReasonApart'. -/
def reasonApartUptoCard : Claim7 := { stood := { row := reasonApartUptoRow, standIns := [], harness := (true, "583e98fbf386692be71c417b70035596f9da263778bddfa2ec76dd21a72c065e"), looks := true }, kinds := [], alts := [], laidByText := true, laidKinds := [.data, .data, .data, .data, .data, .data, .pinned], laidTests := true, laidLooks := .later }
def ReasonApartUptoCardSaid : Prop := Claim7.holds Tryz.pinned (.plain (OpenSpec.upto reasonApartSpec)) reasonApartUptoCard

/-- THE SECOND FORM's CARD OF 'ciceronelaw28.ReasonTexts'. -/
def reasonTextsUptoCard : Claim7 := { stood := { row := reasonTextsUptoRow, standIns := [], harness := (true, "583e98fbf386692be71c417b70035596f9da263778bddfa2ec76dd21a72c065e"), looks := true }, kinds := [], alts := [], laidByText := true, laidKinds := [.data, .data, .data, .data, .data, .data, .pinned], laidTests := true, laidLooks := .later }
def ReasonTextsUptoCardSaid : Prop := Claim7.holds Tryz.pinned (.plain (OpenSpec.upto reasonTextsSpec)) reasonTextsUptoCard
end Rows
end Go.Proofs.YtnnnbjjenknpeaaGreatDoor
