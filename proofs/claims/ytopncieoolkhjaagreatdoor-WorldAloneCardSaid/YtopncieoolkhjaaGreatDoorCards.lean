/-
  DERIVED. GIVEN WITH THE SEED: THE CARDS: each row of YtopncieoolkhjaaGreatDoorRows.lean that lists a variable, with what it lists TIED to the program's text (the seventh form; the later family's looks); each row that meets fmt, with fmt's text TOLD by the authors' own Lean function (tested against real Go, not proved from fmt's source: count such statements apart). THE CARD IS WHAT COUNTS. Prove the row's statement (the work); the ties are given (YtopncieoolkhjaaGreatDoorTie.lean); close each card by the builder's one call (the guide's Derived/Test/ToyasCard.lean, 'card_holds'). Laid BY PROGRAM, IN A SANDBOX (cutbox-door.mjs). By AI agents, Wed Nov 11 2026. No macro, syntax, notation, axiom, sorry.
-/
import Derived.Test.YtopncieoolkhjaaGreatDoorRows
import GoSem.ClaimSeven
namespace Go.Proofs.YtopncieoolkhjaaGreatDoor
namespace Rows

/-- THE TIED CARD OF 'ciceronetop.TopWithout'. -/
def topWithoutCard : Claim7 := { stood := { row := topWithoutRow, standIns := [], harness := (true, "89f71c5f38d5b0f7a53e06c10a44f8b26b51f869db29db46c75610fc7c55d773"), looks := true }, kinds := [], alts := [], laidByText := true, laidKinds := [.data, .data, .data, .data, .data, .data, .pinned], laidTests := true, laidLooks := .later }
def TopWithoutCardSaid : Prop := Claim7.holds Tryz.pinned (.plain (OpenSpec.ofChange topWithoutSpec)) topWithoutCard

/-- THE TIED CARD OF 'ciceronelaw20.WorldParts'. -/
def worldPartsCard : Claim7 := { stood := { row := worldPartsRow, standIns := [], harness := (true, "89f71c5f38d5b0f7a53e06c10a44f8b26b51f869db29db46c75610fc7c55d773"), looks := true }, kinds := [], alts := [], laidByText := true, laidKinds := [.data, .data, .data, .data, .data, .pinned], laidTests := true, laidLooks := .later }
def WorldPartsCardSaid : Prop := Claim7.holds Tryz.pinned (.plain (OpenSpec.ofChange worldPartsSpec)) worldPartsCard

/-- THE TIED CARD OF 'ciceronelaw20.WorldAlone'. -/
def worldAloneCard : Claim7 := { stood := { row := worldAloneRow, standIns := [], harness := (true, "89f71c5f38d5b0f7a53e06c10a44f8b26b51f869db29db46c75610fc7c55d773"), looks := true }, kinds := [], alts := [], laidByText := true, laidKinds := [.data, .data, .data, .data, .data, .pinned], laidTests := true, laidLooks := .later }
def WorldAloneCardSaid : Prop := Claim7.holds Tryz.pinned (.plain (OpenSpec.ofChange worldAloneSpec)) worldAloneCard

/-- THE TIED CARD OF 'ciceronetop.TopPublic'. -/
def topPublicCard : Claim7 := { stood := { row := topPublicRow, standIns := [], harness := (true, "89f71c5f38d5b0f7a53e06c10a44f8b26b51f869db29db46c75610fc7c55d773"), looks := true }, kinds := [], alts := [], laidByText := true, laidKinds := [.data, .data, .data, .data, .data, .data, .pinned], laidTests := true, laidLooks := .later }
def TopPublicCardSaid : Prop := Claim7.holds Tryz.pinned (.plain (OpenSpec.ofChange topPublicSpec)) topPublicCard

/-- THE SECOND FORM's CARD OF 'ciceronetop.TopWithout'. -/
def topWithoutUptoCard : Claim7 := { stood := { row := topWithoutUptoRow, standIns := [], harness := (true, "89f71c5f38d5b0f7a53e06c10a44f8b26b51f869db29db46c75610fc7c55d773"), looks := true }, kinds := [], alts := [], laidByText := true, laidKinds := [.data, .data, .data, .data, .data, .data, .pinned], laidTests := true, laidLooks := .later }
def TopWithoutUptoCardSaid : Prop := Claim7.holds Tryz.pinned (.plain (OpenSpec.upto topWithoutSpec)) topWithoutUptoCard

/-- THE SECOND FORM's CARD OF 'ciceronelaw20.WorldParts'. -/
def worldPartsUptoCard : Claim7 := { stood := { row := worldPartsUptoRow, standIns := [], harness := (true, "89f71c5f38d5b0f7a53e06c10a44f8b26b51f869db29db46c75610fc7c55d773"), looks := true }, kinds := [], alts := [], laidByText := true, laidKinds := [.data, .data, .data, .data, .data, .pinned], laidTests := true, laidLooks := .later }
def WorldPartsUptoCardSaid : Prop := Claim7.holds Tryz.pinned (.plain (OpenSpec.upto worldPartsSpec)) worldPartsUptoCard

/-- THE SECOND FORM's CARD OF 'ciceronelaw20.WorldAlone'. -/
def worldAloneUptoCard : Claim7 := { stood := { row := worldAloneUptoRow, standIns := [], harness := (true, "89f71c5f38d5b0f7a53e06c10a44f8b26b51f869db29db46c75610fc7c55d773"), looks := true }, kinds := [], alts := [], laidByText := true, laidKinds := [.data, .data, .data, .data, .data, .pinned], laidTests := true, laidLooks := .later }
def WorldAloneUptoCardSaid : Prop := Claim7.holds Tryz.pinned (.plain (OpenSpec.upto worldAloneSpec)) worldAloneUptoCard

/-- THE SECOND FORM's CARD OF 'ciceronetop.TopPublic'. -/
def topPublicUptoCard : Claim7 := { stood := { row := topPublicUptoRow, standIns := [], harness := (true, "89f71c5f38d5b0f7a53e06c10a44f8b26b51f869db29db46c75610fc7c55d773"), looks := true }, kinds := [], alts := [], laidByText := true, laidKinds := [.data, .data, .data, .data, .data, .data, .pinned], laidTests := true, laidLooks := .later }
def TopPublicUptoCardSaid : Prop := Claim7.holds Tryz.pinned (.plain (OpenSpec.upto topPublicSpec)) topPublicUptoCard
end Rows
end Go.Proofs.YtopncieoolkhjaaGreatDoor
