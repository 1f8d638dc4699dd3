/-
  DERIVED. GIVEN WITH THE SEED: THE CARDS: each row of YtagijlhciclafaaGreatDoorRows.lean that lists a variable, with what it lists TIED to the program's text (the seventh form; the later family's looks); each row that meets fmt, with fmt's text TOLD by the authors' own Lean function (tested against real Go, not proved from fmt's source: count such statements apart). THE CARD IS WHAT COUNTS. Prove the row's statement (the work); the ties are given (YtagijlhciclafaaGreatDoorTie.lean); close each card by the builder's one call (the guide's Derived/Test/ToyasCard.lean, 'card_holds'). Laid BY PROGRAM, IN A SANDBOX (cutbox-door.mjs). By AI agents, Wed Nov 11 2026. No macro, syntax, notation, axiom, sorry.
-/
import Derived.Test.YtagijlhciclafaaGreatDoorRows
import GoSem.ClaimSeven
namespace Go.Proofs.YtagijlhciclafaaGreatDoor
namespace Rows

/-- THE TIED CARD OF 'ciceronelaw21.RoadOne'. -/
def roadOneCard : Claim7 := { stood := { row := roadOneRow, standIns := [], harness := (true, "528e806effa537fc71d95ae3d9b8dcde383cd4c82d0ead1d8200f8ca7692800e"), looks := true }, kinds := [], alts := [], laidByText := true, laidKinds := [.data, .data, .data, .data, .data, .pinned], laidTests := true, laidLooks := .later }
def RoadOneCardSaid : Prop := Claim7.holds Tryz.pinned (.plain (OpenSpec.ofChange roadOneSpec)) roadOneCard

/-- THE TIED CARD OF 'ciceronelaw21.RoadFinds'. -/
def roadFindsCard : Claim7 := { stood := { row := roadFindsRow, standIns := [], harness := (true, "528e806effa537fc71d95ae3d9b8dcde383cd4c82d0ead1d8200f8ca7692800e"), looks := true }, kinds := [], alts := [], laidByText := true, laidKinds := [.data, .data, .data, .data, .data, .pinned], laidTests := true, laidLooks := .later }
def RoadFindsCardSaid : Prop := Claim7.holds Tryz.pinned (.plain (OpenSpec.ofChange roadFindsSpec)) roadFindsCard

/-- THE TIED CARD OF 'ciceronelaw21.RoadLimits'. -/
def roadLimitsCard : Claim7 := { stood := { row := roadLimitsRow, standIns := [], harness := (true, "528e806effa537fc71d95ae3d9b8dcde383cd4c82d0ead1d8200f8ca7692800e"), looks := true }, kinds := [], alts := [], laidByText := true, laidKinds := [.data, .data, .data, .data, .data, .pinned], laidTests := true, laidLooks := .later }
def RoadLimitsCardSaid : Prop := Claim7.holds Tryz.pinned (.plain (OpenSpec.ofChange roadLimitsSpec)) roadLimitsCard

/-- THE TIED CARD OF 'ciceronelaw21.RoadStrangers'. -/
def roadStrangersCard : Claim7 := { stood := { row := roadStrangersRow, standIns := [], harness := (true, "528e806effa537fc71d95ae3d9b8dcde383cd4c82d0ead1d8200f8ca7692800e"), looks := true }, kinds := [], alts := [], laidByText := true, laidKinds := [.data, .data, .data, .data, .data, .pinned], laidTests := true, laidLooks := .later }
def RoadStrangersCardSaid : Prop := Claim7.holds Tryz.pinned (.plain (OpenSpec.ofChange roadStrangersSpec)) roadStrangersCard

/-- THE TIED CARD OF 'ciceronelaw21.RoadListed'. -/
def roadListedCard : Claim7 := { stood := { row := roadListedRow, standIns := [], harness := (true, "528e806effa537fc71d95ae3d9b8dcde383cd4c82d0ead1d8200f8ca7692800e"), looks := true }, kinds := [], alts := [], laidByText := true, laidKinds := [.data, .data, .data, .data, .data, .pinned], laidTests := true, laidLooks := .later }
def RoadListedCardSaid : Prop := Claim7.holds Tryz.pinned (.plain (OpenSpec.ofChange roadListedSpec)) roadListedCard

/-- THE TIED CARD OF 'ciceronelaw21.RoadNoMore'. -/
def roadNoMoreCard : Claim7 := { stood := { row := roadNoMoreRow, standIns := [], harness := (true, "528e806effa537fc71d95ae3d9b8dcde383cd4c82d0ead1d8200f8ca7692800e"), looks := true }, kinds := [], alts := [], laidByText := true, laidKinds := [.data, .data, .data, .data, .data, .pinned], laidTests := true, laidLooks := .later }
def RoadNoMoreCardSaid : Prop := Claim7.holds Tryz.pinned (.plain (OpenSpec.ofChange roadNoMoreSpec)) roadNoMoreCard

/-- THE SECOND FORM's CARD OF 'ciceronelaw21.RoadOne'. -/
def roadOneUptoCard : Claim7 := { stood := { row := roadOneUptoRow, standIns := [], harness := (true, "528e806effa537fc71d95ae3d9b8dcde383cd4c82d0ead1d8200f8ca7692800e"), looks := true }, kinds := [], alts := [], laidByText := true, laidKinds := [.data, .data, .data, .data, .data, .pinned], laidTests := true, laidLooks := .later }
def RoadOneUptoCardSaid : Prop := Claim7.holds Tryz.pinned (.plain (OpenSpec.upto roadOneSpec)) roadOneUptoCard

/-- THE SECOND FORM's CARD OF 'ciceronelaw21.RoadFinds'. -/
def roadFindsUptoCard : Claim7 := { stood := { row := roadFindsUptoRow, standIns := [], harness := (true, "528e806effa537fc71d95ae3d9b8dcde383cd4c82d0ead1d8200f8ca7692800e"), looks := true }, kinds := [], alts := [], laidByText := true, laidKinds := [.data, .data, .data, .data, .data, .pinned], laidTests := true, laidLooks := .later }
def RoadFindsUptoCardSaid : Prop := Claim7.holds Tryz.pinned (.plain (OpenSpec.upto roadFindsSpec)) roadFindsUptoCard

/-- THE SECOND FORM's CARD OF 'ciceronelaw21.RoadLimits'. -/
def roadLimitsUptoCard : Claim7 := { stood := { row := roadLimitsUptoRow, standIns := [], harness := (true, "528e806effa537fc71d95ae3d9b8dcde383cd4c82d0ead1d8200f8ca7692800e"), looks := true }, kinds := [], alts := [], laidByText := true, laidKinds := [.data, .data, .data, .data, .data, .pinned], laidTests := true, laidLooks := .later }
def RoadLimitsUptoCardSaid : Prop := Claim7.holds Tryz.pinned (.plain (OpenSpec.upto roadLimitsSpec)) roadLimitsUptoCard

/-- THE SECOND FORM's CARD OF 'ciceronelaw21.RoadStrangers'. -/
def roadStrangersUptoCard : Claim7 := { stood := { row := roadStrangersUptoRow, standIns := [], harness := (true, "528e806effa537fc71d95ae3d9b8dcde383cd4c82d0ead1d8200f8ca7692800e"), looks := true }, kinds := [], alts := [], laidByText := true, laidKinds := [.data, .data, .data, .data, .data, .pinned], laidTests := true, laidLooks := .later }
def RoadStrangersUptoCardSaid : Prop := Claim7.holds Tryz.pinned (.plain (OpenSpec.upto roadStrangersSpec)) roadStrangersUptoCard

/-- THE SECOND FORM's CARD OF 'ciceronelaw21.RoadListed'. -/
def roadListedUptoCard : Claim7 := { stood := { row := roadListedUptoRow, standIns := [], harness := (true, "528e806effa537fc71d95ae3d9b8dcde383cd4c82d0ead1d8200f8ca7692800e"), looks := true }, kinds := [], alts := [], laidByText := true, laidKinds := [.data, .data, .data, .data, .data, .pinned], laidTests := true, laidLooks := .later }
def RoadListedUptoCardSaid : Prop := Claim7.holds Tryz.pinned (.plain (OpenSpec.upto roadListedSpec)) roadListedUptoCard

/-- THE SECOND FORM's CARD OF 'ciceronelaw21.RoadNoMore'. -/
def roadNoMoreUptoCard : Claim7 := { stood := { row := roadNoMoreUptoRow, standIns := [], harness := (true, "528e806effa537fc71d95ae3d9b8dcde383cd4c82d0ead1d8200f8ca7692800e"), looks := true }, kinds := [], alts := [], laidByText := true, laidKinds := [.data, .data, .data, .data, .data, .pinned], laidTests := true, laidLooks := .later }
def RoadNoMoreUptoCardSaid : Prop := Claim7.holds Tryz.pinned (.plain (OpenSpec.upto roadNoMoreSpec)) roadNoMoreUptoCard
end Rows
end Go.Proofs.YtagijlhciclafaaGreatDoor
