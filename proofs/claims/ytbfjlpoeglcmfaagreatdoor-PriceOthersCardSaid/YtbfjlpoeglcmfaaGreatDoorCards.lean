/-
  DERIVED. GIVEN WITH THE SEED: THE CARDS: each row of YtbfjlpoeglcmfaaGreatDoorRows.lean that lists a variable, with what it lists TIED to the program's text (the seventh form; the later family's looks); each row that meets fmt, with fmt's text TOLD by the authors' own Lean function (tested against real Go, not proved from fmt's source: count such statements apart). THE CARD IS WHAT COUNTS. Prove the row's statement (the work); the ties are given (YtbfjlpoeglcmfaaGreatDoorTie.lean); close each card by the builder's one call (the guide's Derived/Test/ToyasCard.lean, 'card_holds'). Laid BY PROGRAM, IN A SANDBOX (cutbox-door.mjs). By AI agents, Wed Nov 11 2026. No macro, syntax, notation, axiom, sorry.
-/
import Derived.Test.YtbfjlpoeglcmfaaGreatDoorRows
import GoSem.ClaimSeven
namespace Go.Proofs.YtbfjlpoeglcmfaaGreatDoor
namespace Rows

/-- THE TIED CARD OF 'ciceronelaw40.BudgetPasses'. -/
def budgetPassesCard : Claim7 := { stood := { row := budgetPassesRow, standIns := [], harness := (true, "4117ed67595aaa234fb2f12afcfe66b09b4857852e90bf5fcf55ecece9e46166"), looks := false }, kinds := [], alts := [], laidByText := true, laidKinds := [.data, .data, .data, .data, .data, .pinned], laidTests := true, laidLooks := .later }
def BudgetPassesCardSaid : Prop := Claim7.holds Tryz.pinned (.plain (OpenSpec.ofChange budgetPassesSpec)) budgetPassesCard

/-- THE TIED CARD OF 'ciceronelaw40.BudgetShown'. -/
def budgetShownCard : Claim7 := { stood := { row := budgetShownRow, standIns := [], harness := (true, "4117ed67595aaa234fb2f12afcfe66b09b4857852e90bf5fcf55ecece9e46166"), looks := false }, kinds := [], alts := [], laidByText := true, laidKinds := [.data, .data, .data, .data, .data, .pinned], laidTests := true, laidLooks := .later }
def BudgetShownCardSaid : Prop := Claim7.holds Tryz.pinned (.plain (OpenSpec.ofChange budgetShownSpec)) budgetShownCard

/-- THE TIED CARD OF 'ciceronelaw40.BudgetLeft'. -/
def budgetLeftCard : Claim7 := { stood := { row := budgetLeftRow, standIns := [], harness := (true, "4117ed67595aaa234fb2f12afcfe66b09b4857852e90bf5fcf55ecece9e46166"), looks := false }, kinds := [], alts := [], laidByText := true, laidKinds := [.data, .data, .data, .data, .data, .pinned], laidTests := true, laidLooks := .later }
def BudgetLeftCardSaid : Prop := Claim7.holds Tryz.pinned (.plain (OpenSpec.ofChange budgetLeftSpec)) budgetLeftCard

/-- THE TIED CARD OF 'ciceronelaw40.BudgetKeeps'. -/
def budgetKeepsCard : Claim7 := { stood := { row := budgetKeepsRow, standIns := [], harness := (true, "4117ed67595aaa234fb2f12afcfe66b09b4857852e90bf5fcf55ecece9e46166"), looks := false }, kinds := [], alts := [], laidByText := true, laidKinds := [.data, .data, .data, .data, .data, .pinned], laidTests := true, laidLooks := .later }
def BudgetKeepsCardSaid : Prop := Claim7.holds Tryz.pinned (.plain (OpenSpec.ofChange budgetKeepsSpec)) budgetKeepsCard

/-- THE TIED CARD OF 'ciceronelaw40.BudgetSpent'. -/
def budgetSpentCard : Claim7 := { stood := { row := budgetSpentRow, standIns := [], harness := (true, "4117ed67595aaa234fb2f12afcfe66b09b4857852e90bf5fcf55ecece9e46166"), looks := false }, kinds := [], alts := [], laidByText := true, laidKinds := [.data, .data, .data, .data, .data, .pinned], laidTests := true, laidLooks := .later }
def BudgetSpentCardSaid : Prop := Claim7.holds Tryz.pinned (.plain (OpenSpec.ofChange budgetSpentSpec)) budgetSpentCard

/-- THE TIED CARD OF 'ciceronelaw40.BudgetApart'. -/
def budgetApartCard : Claim7 := { stood := { row := budgetApartRow, standIns := [], harness := (true, "4117ed67595aaa234fb2f12afcfe66b09b4857852e90bf5fcf55ecece9e46166"), looks := false }, kinds := [], alts := [], laidByText := true, laidKinds := [.data, .data, .data, .data, .data, .pinned], laidTests := true, laidLooks := .later }
def BudgetApartCardSaid : Prop := Claim7.holds Tryz.pinned (.plain (OpenSpec.ofChange budgetApartSpec)) budgetApartCard

/-- THE TIED CARD OF 'ciceronelaw39.PriceThen'. -/
def priceThenCard : Claim7 := { stood := { row := priceThenRow, standIns := [], harness := (true, "4117ed67595aaa234fb2f12afcfe66b09b4857852e90bf5fcf55ecece9e46166"), looks := false }, kinds := [], alts := [], laidByText := true, laidKinds := [.data, .data, .data, .data, .data, .pinned], laidTests := true, laidLooks := .later }
def PriceThenCardSaid : Prop := Claim7.holds Tryz.pinned (.plain (OpenSpec.ofChange priceThenSpec)) priceThenCard

/-- THE TIED CARD OF 'ciceronelaw39.PriceFalls'. -/
def priceFallsCard : Claim7 := { stood := { row := priceFallsRow, standIns := [], harness := (true, "4117ed67595aaa234fb2f12afcfe66b09b4857852e90bf5fcf55ecece9e46166"), looks := false }, kinds := [], alts := [], laidByText := true, laidKinds := [.data, .data, .data, .data, .data, .pinned], laidTests := true, laidLooks := .later }
def PriceFallsCardSaid : Prop := Claim7.holds Tryz.pinned (.plain (OpenSpec.ofChange priceFallsSpec)) priceFallsCard

/-- THE TIED CARD OF 'ciceronelaw39.PriceLeast'. -/
def priceLeastCard : Claim7 := { stood := { row := priceLeastRow, standIns := [], harness := (true, "4117ed67595aaa234fb2f12afcfe66b09b4857852e90bf5fcf55ecece9e46166"), looks := false }, kinds := [], alts := [], laidByText := true, laidKinds := [.data, .data, .data, .data, .data, .pinned], laidTests := true, laidLooks := .later }
def PriceLeastCardSaid : Prop := Claim7.holds Tryz.pinned (.plain (OpenSpec.ofChange priceLeastSpec)) priceLeastCard

/-- THE TIED CARD OF 'ciceronelaw39.PriceTicks'. -/
def priceTicksCard : Claim7 := { stood := { row := priceTicksRow, standIns := [], harness := (true, "4117ed67595aaa234fb2f12afcfe66b09b4857852e90bf5fcf55ecece9e46166"), looks := false }, kinds := [], alts := [], laidByText := true, laidKinds := [.data, .data, .data, .data, .data, .pinned], laidTests := true, laidLooks := .later }
def PriceTicksCardSaid : Prop := Claim7.holds Tryz.pinned (.plain (OpenSpec.ofChange priceTicksSpec)) priceTicksCard

/-- THE TIED CARD OF 'ciceronelaw39.PriceOthers'. -/
def priceOthersCard : Claim7 := { stood := { row := priceOthersRow, standIns := [], harness := (true, "4117ed67595aaa234fb2f12afcfe66b09b4857852e90bf5fcf55ecece9e46166"), looks := false }, kinds := [], alts := [], laidByText := true, laidKinds := [.data, .data, .data, .data, .data, .pinned], laidTests := true, laidLooks := .later }
def PriceOthersCardSaid : Prop := Claim7.holds Tryz.pinned (.plain (OpenSpec.ofChange priceOthersSpec)) priceOthersCard

/-- THE SECOND FORM's CARD OF 'ciceronelaw40.BudgetPasses'. -/
def budgetPassesUptoCard : Claim7 := { stood := { row := budgetPassesUptoRow, standIns := [], harness := (true, "4117ed67595aaa234fb2f12afcfe66b09b4857852e90bf5fcf55ecece9e46166"), looks := false }, kinds := [], alts := [], laidByText := true, laidKinds := [.data, .data, .data, .data, .data, .pinned], laidTests := true, laidLooks := .later }
def BudgetPassesUptoCardSaid : Prop := Claim7.holds Tryz.pinned (.plain (OpenSpec.upto budgetPassesSpec)) budgetPassesUptoCard

/-- THE SECOND FORM's CARD OF 'ciceronelaw40.BudgetShown'. -/
def budgetShownUptoCard : Claim7 := { stood := { row := budgetShownUptoRow, standIns := [], harness := (true, "4117ed67595aaa234fb2f12afcfe66b09b4857852e90bf5fcf55ecece9e46166"), looks := false }, kinds := [], alts := [], laidByText := true, laidKinds := [.data, .data, .data, .data, .data, .pinned], laidTests := true, laidLooks := .later }
def BudgetShownUptoCardSaid : Prop := Claim7.holds Tryz.pinned (.plain (OpenSpec.upto budgetShownSpec)) budgetShownUptoCard

/-- THE SECOND FORM's CARD OF 'ciceronelaw40.BudgetLeft'. -/
def budgetLeftUptoCard : Claim7 := { stood := { row := budgetLeftUptoRow, standIns := [], harness := (true, "4117ed67595aaa234fb2f12afcfe66b09b4857852e90bf5fcf55ecece9e46166"), looks := false }, kinds := [], alts := [], laidByText := true, laidKinds := [.data, .data, .data, .data, .data, .pinned], laidTests := true, laidLooks := .later }
def BudgetLeftUptoCardSaid : Prop := Claim7.holds Tryz.pinned (.plain (OpenSpec.upto budgetLeftSpec)) budgetLeftUptoCard

/-- THE SECOND FORM's CARD OF 'ciceronelaw40.BudgetKeeps'. -/
def budgetKeepsUptoCard : Claim7 := { stood := { row := budgetKeepsUptoRow, standIns := [], harness := (true, "4117ed67595aaa234fb2f12afcfe66b09b4857852e90bf5fcf55ecece9e46166"), looks := false }, kinds := [], alts := [], laidByText := true, laidKinds := [.data, .data, .data, .data, .data, .pinned], laidTests := true, laidLooks := .later }
def BudgetKeepsUptoCardSaid : Prop := Claim7.holds Tryz.pinned (.plain (OpenSpec.upto budgetKeepsSpec)) budgetKeepsUptoCard

/-- THE SECOND FORM's CARD OF 'ciceronelaw40.BudgetSpent'. -/
def budgetSpentUptoCard : Claim7 := { stood := { row := budgetSpentUptoRow, standIns := [], harness := (true, "4117ed67595aaa234fb2f12afcfe66b09b4857852e90bf5fcf55ecece9e46166"), looks := false }, kinds := [], alts := [], laidByText := true, laidKinds := [.data, .data, .data, .data, .data, .pinned], laidTests := true, laidLooks := .later }
def BudgetSpentUptoCardSaid : Prop := Claim7.holds Tryz.pinned (.plain (OpenSpec.upto budgetSpentSpec)) budgetSpentUptoCard

/-- THE SECOND FORM's CARD OF 'ciceronelaw40.BudgetApart'. -/
def budgetApartUptoCard : Claim7 := { stood := { row := budgetApartUptoRow, standIns := [], harness := (true, "4117ed67595aaa234fb2f12afcfe66b09b4857852e90bf5fcf55ecece9e46166"), looks := false }, kinds := [], alts := [], laidByText := true, laidKinds := [.data, .data, .data, .data, .data, .pinned], laidTests := true, laidLooks := .later }
def BudgetApartUptoCardSaid : Prop := Claim7.holds Tryz.pinned (.plain (OpenSpec.upto budgetApartSpec)) budgetApartUptoCard

/-- THE SECOND FORM's CARD OF 'ciceronelaw39.PriceThen'. -/
def priceThenUptoCard : Claim7 := { stood := { row := priceThenUptoRow, standIns := [], harness := (true, "4117ed67595aaa234fb2f12afcfe66b09b4857852e90bf5fcf55ecece9e46166"), looks := false }, kinds := [], alts := [], laidByText := true, laidKinds := [.data, .data, .data, .data, .data, .pinned], laidTests := true, laidLooks := .later }
def PriceThenUptoCardSaid : Prop := Claim7.holds Tryz.pinned (.plain (OpenSpec.upto priceThenSpec)) priceThenUptoCard

/-- THE SECOND FORM's CARD OF 'ciceronelaw39.PriceFalls'. -/
def priceFallsUptoCard : Claim7 := { stood := { row := priceFallsUptoRow, standIns := [], harness := (true, "4117ed67595aaa234fb2f12afcfe66b09b4857852e90bf5fcf55ecece9e46166"), looks := false }, kinds := [], alts := [], laidByText := true, laidKinds := [.data, .data, .data, .data, .data, .pinned], laidTests := true, laidLooks := .later }
def PriceFallsUptoCardSaid : Prop := Claim7.holds Tryz.pinned (.plain (OpenSpec.upto priceFallsSpec)) priceFallsUptoCard

/-- THE SECOND FORM's CARD OF 'ciceronelaw39.PriceLeast'. -/
def priceLeastUptoCard : Claim7 := { stood := { row := priceLeastUptoRow, standIns := [], harness := (true, "4117ed67595aaa234fb2f12afcfe66b09b4857852e90bf5fcf55ecece9e46166"), looks := false }, kinds := [], alts := [], laidByText := true, laidKinds := [.data, .data, .data, .data, .data, .pinned], laidTests := true, laidLooks := .later }
def PriceLeastUptoCardSaid : Prop := Claim7.holds Tryz.pinned (.plain (OpenSpec.upto priceLeastSpec)) priceLeastUptoCard

/-- THE SECOND FORM's CARD OF 'ciceronelaw39.PriceTicks'. -/
def priceTicksUptoCard : Claim7 := { stood := { row := priceTicksUptoRow, standIns := [], harness := (true, "4117ed67595aaa234fb2f12afcfe66b09b4857852e90bf5fcf55ecece9e46166"), looks := false }, kinds := [], alts := [], laidByText := true, laidKinds := [.data, .data, .data, .data, .data, .pinned], laidTests := true, laidLooks := .later }
def PriceTicksUptoCardSaid : Prop := Claim7.holds Tryz.pinned (.plain (OpenSpec.upto priceTicksSpec)) priceTicksUptoCard

/-- THE SECOND FORM's CARD OF 'ciceronelaw39.PriceOthers'. -/
def priceOthersUptoCard : Claim7 := { stood := { row := priceOthersUptoRow, standIns := [], harness := (true, "4117ed67595aaa234fb2f12afcfe66b09b4857852e90bf5fcf55ecece9e46166"), looks := false }, kinds := [], alts := [], laidByText := true, laidKinds := [.data, .data, .data, .data, .data, .pinned], laidTests := true, laidLooks := .later }
def PriceOthersUptoCardSaid : Prop := Claim7.holds Tryz.pinned (.plain (OpenSpec.upto priceOthersSpec)) priceOthersUptoCard
end Rows
end Go.Proofs.YtbfjlpoeglcmfaaGreatDoor
