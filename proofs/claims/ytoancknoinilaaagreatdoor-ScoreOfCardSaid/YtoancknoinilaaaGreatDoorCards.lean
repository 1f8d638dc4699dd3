/-
  DERIVED. GIVEN WITH THE SEED: THE CARDS: each row of YtoancknoinilaaaGreatDoorRows.lean that lists a variable, with what it lists TIED to the program's text (the seventh form; the later family's looks); each row that meets fmt, with fmt's text TOLD by the authors' own Lean function (tested against real Go, not proved from fmt's source: count such statements apart). THE CARD IS WHAT COUNTS. Prove the row's statement (the work); the ties are given (YtoancknoinilaaaGreatDoorTie.lean); close each card by the builder's one call (the guide's Derived/Test/ToyasCard.lean, 'card_holds'). Laid BY PROGRAM, IN A SANDBOX (cutbox-door.mjs). By AI agents, Wed Nov 11 2026. No macro, syntax, notation, axiom, sorry.
-/
import Derived.Test.YtoancknoinilaaaGreatDoorRows
import GoSem.ClaimSeven
namespace Go.Proofs.YtoancknoinilaaaGreatDoor
namespace Rows

/-- THE TIED CARD OF 'ciceronelaw23.ScoreRaw'. -/
def scoreRawCard : Claim7 := { stood := { row := scoreRawRow, standIns := [], harness := (true, "ec230c9d775feb733b38d91f8ec79c6da3d09025bdb1d39911ce8b0d2b5eb282"), looks := true }, kinds := [], alts := [], laidByText := true, laidKinds := [.data, .data, .data, .data, .data, .pinned], laidTests := true, laidLooks := .later }
def ScoreRawCardSaid : Prop := Claim7.holds Tryz.pinned (.plain (OpenSpec.ofChange scoreRawSpec)) scoreRawCard

/-- THE TIED CARD OF 'ciceronelaw23.ScoreOf'. -/
def scoreOfCard : Claim7 := { stood := { row := scoreOfRow, standIns := [], harness := (true, "ec230c9d775feb733b38d91f8ec79c6da3d09025bdb1d39911ce8b0d2b5eb282"), looks := true }, kinds := [], alts := [], laidByText := true, laidKinds := [.data, .data, .data, .data, .data, .pinned], laidTests := true, laidLooks := .later }
def ScoreOfCardSaid : Prop := Claim7.holds Tryz.pinned (.plain (OpenSpec.ofChange scoreOfSpec)) scoreOfCard

/-- THE TIED CARD OF 'ciceronelaw23.ScoreTotals'. -/
def scoreTotalsCard : Claim7 := { stood := { row := scoreTotalsRow, standIns := [], harness := (true, "ec230c9d775feb733b38d91f8ec79c6da3d09025bdb1d39911ce8b0d2b5eb282"), looks := true }, kinds := [], alts := [], laidByText := true, laidKinds := [.data, .data, .data, .data, .data, .pinned], laidTests := true, laidLooks := .later }
def ScoreTotalsCardSaid : Prop := Claim7.holds Tryz.pinned (.plain (OpenSpec.ofChange scoreTotalsSpec)) scoreTotalsCard

/-- THE TIED CARD OF 'ciceronelaw23.ScoreStrangers'. -/
def scoreStrangersCard : Claim7 := { stood := { row := scoreStrangersRow, standIns := [], harness := (true, "ec230c9d775feb733b38d91f8ec79c6da3d09025bdb1d39911ce8b0d2b5eb282"), looks := true }, kinds := [], alts := [], laidByText := true, laidKinds := [.data, .data, .data, .data, .data, .pinned], laidTests := true, laidLooks := .later }
def ScoreStrangersCardSaid : Prop := Claim7.holds Tryz.pinned (.plain (OpenSpec.ofChange scoreStrangersSpec)) scoreStrangersCard

/-- THE TIED CARD OF 'ciceronelaw23.ScoreWeighs'. -/
def scoreWeighsCard : Claim7 := { stood := { row := scoreWeighsRow, standIns := [], harness := (true, "ec230c9d775feb733b38d91f8ec79c6da3d09025bdb1d39911ce8b0d2b5eb282"), looks := true }, kinds := [], alts := [], laidByText := true, laidKinds := [.data, .data, .data, .data, .data, .pinned], laidTests := true, laidLooks := .later }
def ScoreWeighsCardSaid : Prop := Claim7.holds Tryz.pinned (.plain (OpenSpec.ofChange scoreWeighsSpec)) scoreWeighsCard

/-- THE TIED CARD OF 'ciceronelaw23.ScoreAhead'. -/
def scoreAheadCard : Claim7 := { stood := { row := scoreAheadRow, standIns := [], harness := (true, "ec230c9d775feb733b38d91f8ec79c6da3d09025bdb1d39911ce8b0d2b5eb282"), looks := true }, kinds := [], alts := [], laidByText := true, laidKinds := [.data, .data, .data, .data, .data, .pinned], laidTests := true, laidLooks := .later }
def ScoreAheadCardSaid : Prop := Claim7.holds Tryz.pinned (.plain (OpenSpec.ofChange scoreAheadSpec)) scoreAheadCard

/-- THE TIED CARD OF 'ciceronelaw28.ReasonOf'. -/
def reasonOfCard : Claim7 := { stood := { row := reasonOfRow, standIns := [], harness := (true, "ec230c9d775feb733b38d91f8ec79c6da3d09025bdb1d39911ce8b0d2b5eb282"), looks := true }, kinds := [], alts := [], laidByText := true, laidKinds := [.data, .data, .data, .data, .data, .pinned], laidTests := true, laidLooks := .later }
def ReasonOfCardSaid : Prop := Claim7.holds Tryz.pinned (.plain (OpenSpec.ofChange reasonOfSpec)) reasonOfCard

/-- THE TIED CARD OF 'ciceronelaw28.ReasonAdds'. -/
def reasonAddsCard : Claim7 := { stood := { row := reasonAddsRow, standIns := [], harness := (true, "ec230c9d775feb733b38d91f8ec79c6da3d09025bdb1d39911ce8b0d2b5eb282"), looks := true }, kinds := [], alts := [], laidByText := true, laidKinds := [.data, .data, .data, .data, .data, .pinned], laidTests := true, laidLooks := .later }
def ReasonAddsCardSaid : Prop := Claim7.holds Tryz.pinned (.plain (OpenSpec.ofChange reasonAddsSpec)) reasonAddsCard

/-- THE TIED CARD OF 'ciceronelaw28.ReasonWithout'. -/
def reasonWithoutCard : Claim7 := { stood := { row := reasonWithoutRow, standIns := [], harness := (true, "ec230c9d775feb733b38d91f8ec79c6da3d09025bdb1d39911ce8b0d2b5eb282"), looks := true }, kinds := [], alts := [], laidByText := true, laidKinds := [.data, .data, .data, .data, .data, .pinned], laidTests := true, laidLooks := .later }
def ReasonWithoutCardSaid : Prop := Claim7.holds Tryz.pinned (.plain (OpenSpec.ofChange reasonWithoutSpec)) reasonWithoutCard

/-- THE TIED CARD OF 'ciceronelaw28.ReasonNobody'. -/
def reasonNobodyCard : Claim7 := { stood := { row := reasonNobodyRow, standIns := [], harness := (true, "ec230c9d775feb733b38d91f8ec79c6da3d09025bdb1d39911ce8b0d2b5eb282"), looks := true }, kinds := [], alts := [], laidByText := true, laidKinds := [.data, .data, .data, .data, .data, .pinned], laidTests := true, laidLooks := .later }
def ReasonNobodyCardSaid : Prop := Claim7.holds Tryz.pinned (.plain (OpenSpec.ofChange reasonNobodySpec)) reasonNobodyCard

/-- THE TIED CARD OF 'ciceronelaw28.ReasonChecks'. -/
def reasonChecksCard : Claim7 := { stood := { row := reasonChecksRow, standIns := [], harness := (true, "ec230c9d775feb733b38d91f8ec79c6da3d09025bdb1d39911ce8b0d2b5eb282"), looks := true }, kinds := [], alts := [], laidByText := true, laidKinds := [.data, .data, .data, .data, .data, .pinned], laidTests := true, laidLooks := .later }
def ReasonChecksCardSaid : Prop := Claim7.holds Tryz.pinned (.plain (OpenSpec.ofChange reasonChecksSpec)) reasonChecksCard

/-- THE TIED CARD OF 'ciceronelaw28.ReasonTexts'. -/
def reasonTextsCard : Claim7 := { stood := { row := reasonTextsRow, standIns := [], harness := (true, "ec230c9d775feb733b38d91f8ec79c6da3d09025bdb1d39911ce8b0d2b5eb282"), looks := true }, kinds := [], alts := [], laidByText := true, laidKinds := [.data, .data, .data, .data, .data, .data, .pinned], laidTests := true, laidLooks := .later }
def ReasonTextsCardSaid : Prop := Claim7.holds Tryz.pinned (.plain (OpenSpec.ofChange reasonTextsSpec)) reasonTextsCard

/-- THE SECOND FORM's CARD OF 'ciceronelaw23.ScoreRaw'. -/
def scoreRawUptoCard : Claim7 := { stood := { row := scoreRawUptoRow, standIns := [], harness := (true, "ec230c9d775feb733b38d91f8ec79c6da3d09025bdb1d39911ce8b0d2b5eb282"), looks := true }, kinds := [], alts := [], laidByText := true, laidKinds := [.data, .data, .data, .data, .data, .pinned], laidTests := true, laidLooks := .later }
def ScoreRawUptoCardSaid : Prop := Claim7.holds Tryz.pinned (.plain (OpenSpec.upto scoreRawSpec)) scoreRawUptoCard

/-- THE SECOND FORM's CARD OF 'ciceronelaw23.ScoreOf'. -/
def scoreOfUptoCard : Claim7 := { stood := { row := scoreOfUptoRow, standIns := [], harness := (true, "ec230c9d775feb733b38d91f8ec79c6da3d09025bdb1d39911ce8b0d2b5eb282"), looks := true }, kinds := [], alts := [], laidByText := true, laidKinds := [.data, .data, .data, .data, .data, .pinned], laidTests := true, laidLooks := .later }
def ScoreOfUptoCardSaid : Prop := Claim7.holds Tryz.pinned (.plain (OpenSpec.upto scoreOfSpec)) scoreOfUptoCard

/-- THE SECOND FORM's CARD OF 'ciceronelaw23.ScoreTotals'. -/
def scoreTotalsUptoCard : Claim7 := { stood := { row := scoreTotalsUptoRow, standIns := [], harness := (true, "ec230c9d775feb733b38d91f8ec79c6da3d09025bdb1d39911ce8b0d2b5eb282"), looks := true }, kinds := [], alts := [], laidByText := true, laidKinds := [.data, .data, .data, .data, .data, .pinned], laidTests := true, laidLooks := .later }
def ScoreTotalsUptoCardSaid : Prop := Claim7.holds Tryz.pinned (.plain (OpenSpec.upto scoreTotalsSpec)) scoreTotalsUptoCard

/-- THE SECOND FORM's CARD OF 'ciceronelaw23.ScoreStrangers'. -/
def scoreStrangersUptoCard : Claim7 := { stood := { row := scoreStrangersUptoRow, standIns := [], harness := (true, "ec230c9d775feb733b38d91f8ec79c6da3d09025bdb1d39911ce8b0d2b5eb282"), looks := true }, kinds := [], alts := [], laidByText := true, laidKinds := [.data, .data, .data, .data, .data, .pinned], laidTests := true, laidLooks := .later }
def ScoreStrangersUptoCardSaid : Prop := Claim7.holds Tryz.pinned (.plain (OpenSpec.upto scoreStrangersSpec)) scoreStrangersUptoCard

/-- THE SECOND FORM's CARD OF 'ciceronelaw23.ScoreWeighs'. -/
def scoreWeighsUptoCard : Claim7 := { stood := { row := scoreWeighsUptoRow, standIns := [], harness := (true, "ec230c9d775feb733b38d91f8ec79c6da3d09025bdb1d39911ce8b0d2b5eb282"), looks := true }, kinds := [], alts := [], laidByText := true, laidKinds := [.data, .data, .data, .data, .data, .pinned], laidTests := true, laidLooks := .later }
def ScoreWeighsUptoCardSaid : Prop := Claim7.holds Tryz.pinned (.plain (OpenSpec.upto scoreWeighsSpec)) scoreWeighsUptoCard

/-- THE SECOND FORM's CARD OF 'ciceronelaw23.ScoreAhead'. -/
def scoreAheadUptoCard : Claim7 := { stood := { row := scoreAheadUptoRow, standIns := [], harness := (true, "ec230c9d775feb733b38d91f8ec79c6da3d09025bdb1d39911ce8b0d2b5eb282"), looks := true }, kinds := [], alts := [], laidByText := true, laidKinds := [.data, .data, .data, .data, .data, .pinned], laidTests := true, laidLooks := .later }
def ScoreAheadUptoCardSaid : Prop := Claim7.holds Tryz.pinned (.plain (OpenSpec.upto scoreAheadSpec)) scoreAheadUptoCard

/-- THE SECOND FORM's CARD OF 'ciceronelaw28.ReasonOf'. -/
def reasonOfUptoCard : Claim7 := { stood := { row := reasonOfUptoRow, standIns := [], harness := (true, "ec230c9d775feb733b38d91f8ec79c6da3d09025bdb1d39911ce8b0d2b5eb282"), looks := true }, kinds := [], alts := [], laidByText := true, laidKinds := [.data, .data, .data, .data, .data, .pinned], laidTests := true, laidLooks := .later }
def ReasonOfUptoCardSaid : Prop := Claim7.holds Tryz.pinned (.plain (OpenSpec.upto reasonOfSpec)) reasonOfUptoCard

/-- THE SECOND FORM's CARD OF 'ciceronelaw28.ReasonAdds'. -/
def reasonAddsUptoCard : Claim7 := { stood := { row := reasonAddsUptoRow, standIns := [], harness := (true, "ec230c9d775feb733b38d91f8ec79c6da3d09025bdb1d39911ce8b0d2b5eb282"), looks := true }, kinds := [], alts := [], laidByText := true, laidKinds := [.data, .data, .data, .data, .data, .pinned], laidTests := true, laidLooks := .later }
def ReasonAddsUptoCardSaid : Prop := Claim7.holds Tryz.pinned (.plain (OpenSpec.upto reasonAddsSpec)) reasonAddsUptoCard

/-- THE SECOND FORM's CARD OF 'ciceronelaw28.ReasonWithout'. -/
def reasonWithoutUptoCard : Claim7 := { stood := { row := reasonWithoutUptoRow, standIns := [], harness := (true, "ec230c9d775feb733b38d91f8ec79c6da3d09025bdb1d39911ce8b0d2b5eb282"), looks := true }, kinds := [], alts := [], laidByText := true, laidKinds := [.data, .data, .data, .data, .data, .pinned], laidTests := true, laidLooks := .later }
def ReasonWithoutUptoCardSaid : Prop := Claim7.holds Tryz.pinned (.plain (OpenSpec.upto reasonWithoutSpec)) reasonWithoutUptoCard

/-- THE SECOND FORM's CARD OF 'ciceronelaw28.ReasonNobody'. -/
def reasonNobodyUptoCard : Claim7 := { stood := { row := reasonNobodyUptoRow, standIns := [], harness := (true, "ec230c9d775feb733b38d91f8ec79c6da3d09025bdb1d39911ce8b0d2b5eb282"), looks := true }, kinds := [], alts := [], laidByText := true, laidKinds := [.data, .data, .data, .data, .data, .pinned], laidTests := true, laidLooks := .later }
def ReasonNobodyUptoCardSaid : Prop := Claim7.holds Tryz.pinned (.plain (OpenSpec.upto reasonNobodySpec)) reasonNobodyUptoCard

/-- THE SECOND FORM's CARD OF 'ciceronelaw28.ReasonChecks'. -/
def reasonChecksUptoCard : Claim7 := { stood := { row := reasonChecksUptoRow, standIns := [], harness := (true, "ec230c9d775feb733b38d91f8ec79c6da3d09025bdb1d39911ce8b0d2b5eb282"), looks := true }, kinds := [], alts := [], laidByText := true, laidKinds := [.data, .data, .data, .data, .data, .pinned], laidTests := true, laidLooks := .later }
def ReasonChecksUptoCardSaid : Prop := Claim7.holds Tryz.pinned (.plain (OpenSpec.upto reasonChecksSpec)) reasonChecksUptoCard

/-- THE SECOND FORM's CARD OF 'ciceronelaw28.ReasonTexts'. -/
def reasonTextsUptoCard : Claim7 := { stood := { row := reasonTextsUptoRow, standIns := [], harness := (true, "ec230c9d775feb733b38d91f8ec79c6da3d09025bdb1d39911ce8b0d2b5eb282"), looks := true }, kinds := [], alts := [], laidByText := true, laidKinds := [.data, .data, .data, .data, .data, .data, .pinned], laidTests := true, laidLooks := .later }
def ReasonTextsUptoCardSaid : Prop := Claim7.holds Tryz.pinned (.plain (OpenSpec.upto reasonTextsSpec)) reasonTextsUptoCard
end Rows
end Go.Proofs.YtoancknoinilaaaGreatDoor
