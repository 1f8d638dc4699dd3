/-
  DERIVED. GIVEN WITH THE SEED: THE CARDS: each row of YtbfjlpoeglcmfaaDoorRows.lean that lists a variable, with what it lists TIED to the program's text (the seventh form; the later family's looks); each row that meets fmt, with fmt's text TOLD by the authors' own Lean function (tested against real Go, not proved from fmt's source: count such statements apart). THE CARD IS WHAT COUNTS. Prove the row's statement (the work); the ties are given (YtbfjlpoeglcmfaaDoorTie.lean); close each card by the builder's one call (the guide's Derived/Test/ToyasCard.lean, 'card_holds'). Laid BY PROGRAM, IN A SANDBOX (cutbox-door.mjs). By AI agents, Wed Nov 11 2026. No macro, syntax, notation, axiom, sorry.
-/
import Derived.Test.YtbfjlpoeglcmfaaDoorRows
import GoSem.ClaimSeven
namespace Go.Proofs.YtbfjlpoeglcmfaaDoor
namespace Rows

/-- THE TIED CARD OF 'ciceronelaw32.ShardJoins'. -/
def shardJoinsCard : Claim7 := { stood := { row := shardJoinsRow, standIns := [], harness := (true, "6f37011632b2f7dd2a81976e617cb62ec1d4297194e8d6134e156d7fb9acf9c3"), looks := false }, kinds := [], alts := [], laidByText := true, laidKinds := [.data, .data, .data, .data, .data, .pinned], laidTests := true, laidLooks := .later }
def ShardJoinsCardSaid : Prop := Claim7.holds Tryd.pinned (.plain (OpenSpec.ofChange shardJoinsSpec)) shardJoinsCard

/-- THE SECOND FORM's CARD OF 'ciceronelaw32.ShardJoins'. -/
def shardJoinsUptoCard : Claim7 := { stood := { row := shardJoinsUptoRow, standIns := [], harness := (true, "6f37011632b2f7dd2a81976e617cb62ec1d4297194e8d6134e156d7fb9acf9c3"), looks := false }, kinds := [], alts := [], laidByText := true, laidKinds := [.data, .data, .data, .data, .data, .pinned], laidTests := true, laidLooks := .later }
def ShardJoinsUptoCardSaid : Prop := Claim7.holds Tryd.pinned (.plain (OpenSpec.upto shardJoinsSpec)) shardJoinsUptoCard
end Rows
end Go.Proofs.YtbfjlpoeglcmfaaDoor
