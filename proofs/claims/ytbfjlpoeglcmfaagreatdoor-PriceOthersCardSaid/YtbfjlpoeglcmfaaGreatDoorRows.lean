/-
  NARROWER THAN 'FOR EVERY INPUT', by the rows' own cells (each row's printed sentence says how): BudgetPasses: laid · BudgetShown: laid · BudgetLeft: laid · BudgetKeeps: laid · BudgetSpent: laid · BudgetApart: laid · PriceThen: laid · PriceFalls: laid · PriceLeast: laid · PriceTicks: laid · PriceOthers: laid.
  DERIVED. THE GIVEN ROWS OF THIS SEAT. 11 by the template 'for every input the law returns true; each argument reads behind the call as it read before'; 0 by the template 'total and deterministic' (their statements: YtbfjlpoeglcmfaaGreatDoorTotals.lean).
  GIVEN WITH THE SEED: the statements are not yours to turn. If you find one false, say at which input.
  Laid BY PROGRAM, IN A SANDBOX (cutbox-rows.mjs): the forced cells as the released guide's own fill.sh prints them over the translation 94623c057d7e30d5… (all of the seat's roots in one cut). By AI agents, Wed Nov 11 2026. No macro, syntax, notation, axiom, sorry.
-/
import Derived.Test.YtbfjlpoeglcmfaaGreatDoorChecked
import GoSem.PinnedTables
import GoSem.Claim
import GoSem.ClaimJoined
import GoSem.ClaimMapViews
import Derived.JoinedTies
import Derived.KernelRfl
namespace Go.Proofs.YtbfjlpoeglcmfaaGreatDoor
/- THE CELL 'sum', in the pinned program and in every row, IS THE sha256 OF THE DUMP (.gsa) THAT YtbfjlpoeglcmfaaGreatDoorProg.lean LOADS. Nothing in Lean hashes anything: it is a label: what it is worth is what the hold of that sum in a sandbox is worth. -/
noncomputable def Tryz.pinned : Pinned := { name := "ytbfjlpoeglcmfaagreatdoor", sum := "94623c057d7e30d510d9639621ca933d48f75c7f3c2fcbf56104c84dbe7c15a6", checked := Tryz.checked }
namespace Rows
def none {H : Type} : Left H := { results := [], args := [] }

/- WHAT THE LISTED PACKAGE-LEVEL VARIABLES READ AS WHEN THE CALL BEGINS. Each datum BY PROGRAM (the guide's laid-datum.mjs) off the statement by which the dump's own 'gosem.cut.vars' lays the variable. In a bare row this is a premise. The card (YtbfjlpoeglcmfaaGreatDoorCards.lean) ties it to the program's text. -/
def laid_math_bits_deBruijn32tab {H : Type} : DataW H := .agg [.lit (.int .u8 0), .lit (.int .u8 1), .lit (.int .u8 28), .lit (.int .u8 2), .lit (.int .u8 29), .lit (.int .u8 14), .lit (.int .u8 24), .lit (.int .u8 3), .lit (.int .u8 30), .lit (.int .u8 22), .lit (.int .u8 20), .lit (.int .u8 15), .lit (.int .u8 25), .lit (.int .u8 17), .lit (.int .u8 4), .lit (.int .u8 8), .lit (.int .u8 31), .lit (.int .u8 27), .lit (.int .u8 13), .lit (.int .u8 23), .lit (.int .u8 21), .lit (.int .u8 19), .lit (.int .u8 16), .lit (.int .u8 7), .lit (.int .u8 26), .lit (.int .u8 12), .lit (.int .u8 18), .lit (.int .u8 6), .lit (.int .u8 11), .lit (.int .u8 5), .lit (.int .u8 10), .lit (.int .u8 9)]
def laid_math_bits_deBruijn64tab {H : Type} : DataW H := .agg [.lit (.int .u8 0), .lit (.int .u8 1), .lit (.int .u8 56), .lit (.int .u8 2), .lit (.int .u8 57), .lit (.int .u8 49), .lit (.int .u8 28), .lit (.int .u8 3), .lit (.int .u8 61), .lit (.int .u8 58), .lit (.int .u8 42), .lit (.int .u8 50), .lit (.int .u8 38), .lit (.int .u8 29), .lit (.int .u8 17), .lit (.int .u8 4), .lit (.int .u8 62), .lit (.int .u8 47), .lit (.int .u8 59), .lit (.int .u8 36), .lit (.int .u8 45), .lit (.int .u8 43), .lit (.int .u8 51), .lit (.int .u8 22), .lit (.int .u8 53), .lit (.int .u8 39), .lit (.int .u8 33), .lit (.int .u8 30), .lit (.int .u8 24), .lit (.int .u8 18), .lit (.int .u8 12), .lit (.int .u8 5), .lit (.int .u8 63), .lit (.int .u8 55), .lit (.int .u8 48), .lit (.int .u8 27), .lit (.int .u8 60), .lit (.int .u8 41), .lit (.int .u8 37), .lit (.int .u8 16), .lit (.int .u8 46), .lit (.int .u8 35), .lit (.int .u8 44), .lit (.int .u8 21), .lit (.int .u8 52), .lit (.int .u8 32), .lit (.int .u8 23), .lit (.int .u8 11), .lit (.int .u8 54), .lit (.int .u8 26), .lit (.int .u8 40), .lit (.int .u8 15), .lit (.int .u8 34), .lit (.int .u8 20), .lit (.int .u8 31), .lit (.int .u8 10), .lit (.int .u8 25), .lit (.int .u8 14), .lit (.int .u8 19), .lit (.int .u8 9), .lit (.int .u8 13), .lit (.int .u8 8), .lit (.int .u8 7), .lit (.int .u8 6)]
def laid_internal_strconv_uint64pow10 {H : Type} : DataW H := .agg [.lit (.int .u64 1), .lit (.int .u64 10), .lit (.int .u64 100), .lit (.int .u64 1000), .lit (.int .u64 10000), .lit (.int .u64 100000), .lit (.int .u64 1000000), .lit (.int .u64 10000000), .lit (.int .u64 100000000), .lit (.int .u64 1000000000), .lit (.int .u64 10000000000), .lit (.int .u64 100000000000), .lit (.int .u64 1000000000000), .lit (.int .u64 10000000000000), .lit (.int .u64 100000000000000), .lit (.int .u64 1000000000000000), .lit (.int .u64 10000000000000000), .lit (.int .u64 100000000000000000), .lit (.int .u64 1000000000000000000), .lit (.int .u64 10000000000000000000)]
def laid_unicode_utf8_acceptRanges {H : Type} : DataW H := .agg [.agg [.lit (.int .u8 128), .lit (.int .u8 191)], .agg [.lit (.int .u8 160), .lit (.int .u8 191)], .agg [.lit (.int .u8 128), .lit (.int .u8 159)], .agg [.lit (.int .u8 144), .lit (.int .u8 191)], .agg [.lit (.int .u8 128), .lit (.int .u8 143)], .agg [.lit (.int .u8 0), .lit (.int .u8 0)], .agg [.lit (.int .u8 0), .lit (.int .u8 0)], .agg [.lit (.int .u8 0), .lit (.int .u8 0)], .agg [.lit (.int .u8 0), .lit (.int .u8 0)], .agg [.lit (.int .u8 0), .lit (.int .u8 0)], .agg [.lit (.int .u8 0), .lit (.int .u8 0)], .agg [.lit (.int .u8 0), .lit (.int .u8 0)], .agg [.lit (.int .u8 0), .lit (.int .u8 0)], .agg [.lit (.int .u8 0), .lit (.int .u8 0)], .agg [.lit (.int .u8 0), .lit (.int .u8 0)], .agg [.lit (.int .u8 0), .lit (.int .u8 0)]]
def laid_cicerone_event_kindNames {H : Type} : DataW H := .agg [.lit (.string [115, 101, 101, 110]), .lit (.string [111, 112, 101, 110, 101, 100]), .lit (.string [102, 105, 110, 105, 115, 104, 101, 100]), .lit (.string [98, 111, 117, 103, 104, 116]), .lit (.string [114, 97, 116, 101, 100]), .lit (.string [104, 105, 100, 100, 101, 110]), .lit (.string [117, 110, 104, 105, 100, 100, 101, 110]), .lit (.string [102, 111, 108, 108, 111, 119, 101, 100]), .lit (.string [117, 110, 102, 111, 108, 108, 111, 119, 101, 100]), .lit (.string [109, 117, 116, 101, 100]), .lit (.string [117, 110, 109, 117, 116, 101, 100]), .lit (.string [108, 105, 115, 116, 101, 100]), .lit (.string [115, 116, 111, 99, 107, 101, 100]), .lit (.string [100, 101, 108, 105, 115, 116, 101, 100]), .lit (.string [102, 111, 114, 103, 111, 116, 116, 101, 110])]
/-- One of Go's own tables, pinned by name: the form's constant. -/
def laid_unicode_utf8_first : DataW Unit := Go.Pinned.utf8First

/-- 'ciceronelaw40.BudgetPasses': WHATEVER THE INPUT: true; the input reads as it did. -/
def budgetPassesSpec : ChangeSpec := { name := "budgetPasses", fn := fun _ => fun
  | [d1, d2, d3, d4, d5, d6] => { results := [.lit (.bool true)], args := [d1, d2, d3, d4, d5, d6] }
  | _ => none }
def budgetPassesRow : OpenClaim := { program := "ytbfjlpoeglcmfaagreatdoor", sum := "94623c057d7e30d510d9639621ca933d48f75c7f3c2fcbf56104c84dbe7c15a6", func := "cicerone/ciceronelaw40.BudgetPasses", spec := "budgetPasses", inPlace := ["internal/bytealg.IndexByteString", "internal/bytealg.IndexString", "internal/bytealg.CountString", "internal/bytealg.abigen_runtime_cmpstring", "internal/abi.NoEscape", "internal/bytealg.MakeNoZero"], unfollowed := true, recurses := true, named := ["internal/bytealg.MaxLen", "unicode/utf8.first", "unicode/utf8.acceptRanges", "cicerone/event.kindNames", "internal/strconv.uint64pow10", "math/bits.deBruijn32tab", "math/bits.deBruijn64tab"], plainKeys := false, apart := false, laid := [("math/bits.deBruijn32tab", laid_math_bits_deBruijn32tab), ("math/bits.deBruijn64tab", laid_math_bits_deBruijn64tab), ("internal/strconv.uint64pow10", laid_internal_strconv_uint64pow10), ("unicode/utf8.acceptRanges", laid_unicode_utf8_acceptRanges), ("cicerone/event.kindNames", laid_cicerone_event_kindNames), ("unicode/utf8.first", laid_unicode_utf8_first)] }
def BudgetPassesSaid : Prop := budgetPassesRow.holds Tryz.pinned (OpenSpec.ofChange budgetPassesSpec)

/-- ITS FALSE NEIGHBOUR: 'it returns false'. Refute it at one input. -/
def budgetPassesWrong : ChangeSpec := { name := "budgetPasses", fn := fun _ => fun
  | [d1, d2, d3, d4, d5, d6] => { results := [.lit (.bool false)], args := [d1, d2, d3, d4, d5, d6] }
  | _ => none }
def BudgetPassesWrongFalsely : Prop := budgetPassesRow.holds Tryz.pinned (OpenSpec.ofChange budgetPassesWrong)

/-- 'ciceronelaw40.BudgetShown': WHATEVER THE INPUT: true; the input reads as it did. -/
def budgetShownSpec : ChangeSpec := { name := "budgetShown", fn := fun _ => fun
  | [d1, d2, d3, d4, d5, d6] => { results := [.lit (.bool true)], args := [d1, d2, d3, d4, d5, d6] }
  | _ => none }
def budgetShownRow : OpenClaim := { program := "ytbfjlpoeglcmfaagreatdoor", sum := "94623c057d7e30d510d9639621ca933d48f75c7f3c2fcbf56104c84dbe7c15a6", func := "cicerone/ciceronelaw40.BudgetShown", spec := "budgetShown", inPlace := ["internal/bytealg.IndexByteString", "internal/bytealg.IndexString", "internal/bytealg.CountString", "internal/bytealg.abigen_runtime_cmpstring", "internal/abi.NoEscape", "internal/bytealg.MakeNoZero"], unfollowed := true, recurses := true, named := ["internal/bytealg.MaxLen", "unicode/utf8.first", "unicode/utf8.acceptRanges", "cicerone/event.kindNames", "internal/strconv.uint64pow10", "math/bits.deBruijn32tab", "math/bits.deBruijn64tab"], plainKeys := false, apart := false, laid := [("math/bits.deBruijn32tab", laid_math_bits_deBruijn32tab), ("math/bits.deBruijn64tab", laid_math_bits_deBruijn64tab), ("internal/strconv.uint64pow10", laid_internal_strconv_uint64pow10), ("unicode/utf8.acceptRanges", laid_unicode_utf8_acceptRanges), ("cicerone/event.kindNames", laid_cicerone_event_kindNames), ("unicode/utf8.first", laid_unicode_utf8_first)] }
def BudgetShownSaid : Prop := budgetShownRow.holds Tryz.pinned (OpenSpec.ofChange budgetShownSpec)

/-- ITS FALSE NEIGHBOUR: 'it returns false'. Refute it at one input. -/
def budgetShownWrong : ChangeSpec := { name := "budgetShown", fn := fun _ => fun
  | [d1, d2, d3, d4, d5, d6] => { results := [.lit (.bool false)], args := [d1, d2, d3, d4, d5, d6] }
  | _ => none }
def BudgetShownWrongFalsely : Prop := budgetShownRow.holds Tryz.pinned (OpenSpec.ofChange budgetShownWrong)

/-- 'ciceronelaw40.BudgetLeft': WHATEVER THE INPUT: true; the input reads as it did. -/
def budgetLeftSpec : ChangeSpec := { name := "budgetLeft", fn := fun _ => fun
  | [d1, d2, d3, d4, d5, d6] => { results := [.lit (.bool true)], args := [d1, d2, d3, d4, d5, d6] }
  | _ => none }
def budgetLeftRow : OpenClaim := { program := "ytbfjlpoeglcmfaagreatdoor", sum := "94623c057d7e30d510d9639621ca933d48f75c7f3c2fcbf56104c84dbe7c15a6", func := "cicerone/ciceronelaw40.BudgetLeft", spec := "budgetLeft", inPlace := ["internal/bytealg.IndexByteString", "internal/bytealg.IndexString", "internal/bytealg.CountString", "internal/bytealg.abigen_runtime_cmpstring", "internal/abi.NoEscape", "internal/bytealg.MakeNoZero"], unfollowed := true, recurses := true, named := ["internal/bytealg.MaxLen", "unicode/utf8.first", "unicode/utf8.acceptRanges", "cicerone/event.kindNames", "internal/strconv.uint64pow10", "math/bits.deBruijn32tab", "math/bits.deBruijn64tab"], plainKeys := false, apart := false, laid := [("math/bits.deBruijn32tab", laid_math_bits_deBruijn32tab), ("math/bits.deBruijn64tab", laid_math_bits_deBruijn64tab), ("internal/strconv.uint64pow10", laid_internal_strconv_uint64pow10), ("unicode/utf8.acceptRanges", laid_unicode_utf8_acceptRanges), ("cicerone/event.kindNames", laid_cicerone_event_kindNames), ("unicode/utf8.first", laid_unicode_utf8_first)] }
def BudgetLeftSaid : Prop := budgetLeftRow.holds Tryz.pinned (OpenSpec.ofChange budgetLeftSpec)

/-- ITS FALSE NEIGHBOUR: 'it returns false'. Refute it at one input. -/
def budgetLeftWrong : ChangeSpec := { name := "budgetLeft", fn := fun _ => fun
  | [d1, d2, d3, d4, d5, d6] => { results := [.lit (.bool false)], args := [d1, d2, d3, d4, d5, d6] }
  | _ => none }
def BudgetLeftWrongFalsely : Prop := budgetLeftRow.holds Tryz.pinned (OpenSpec.ofChange budgetLeftWrong)

/-- 'ciceronelaw40.BudgetKeeps': WHATEVER THE INPUT: true; the input reads as it did. -/
def budgetKeepsSpec : ChangeSpec := { name := "budgetKeeps", fn := fun _ => fun
  | [d1, d2, d3, d4, d5, d6] => { results := [.lit (.bool true)], args := [d1, d2, d3, d4, d5, d6] }
  | _ => none }
def budgetKeepsRow : OpenClaim := { program := "ytbfjlpoeglcmfaagreatdoor", sum := "94623c057d7e30d510d9639621ca933d48f75c7f3c2fcbf56104c84dbe7c15a6", func := "cicerone/ciceronelaw40.BudgetKeeps", spec := "budgetKeeps", inPlace := ["internal/bytealg.IndexByteString", "internal/bytealg.IndexString", "internal/bytealg.CountString", "internal/bytealg.abigen_runtime_cmpstring", "internal/abi.NoEscape", "internal/bytealg.MakeNoZero"], unfollowed := true, recurses := true, named := ["internal/bytealg.MaxLen", "unicode/utf8.first", "unicode/utf8.acceptRanges", "cicerone/event.kindNames", "internal/strconv.uint64pow10", "math/bits.deBruijn32tab", "math/bits.deBruijn64tab"], plainKeys := false, apart := false, laid := [("math/bits.deBruijn32tab", laid_math_bits_deBruijn32tab), ("math/bits.deBruijn64tab", laid_math_bits_deBruijn64tab), ("internal/strconv.uint64pow10", laid_internal_strconv_uint64pow10), ("unicode/utf8.acceptRanges", laid_unicode_utf8_acceptRanges), ("cicerone/event.kindNames", laid_cicerone_event_kindNames), ("unicode/utf8.first", laid_unicode_utf8_first)] }
def BudgetKeepsSaid : Prop := budgetKeepsRow.holds Tryz.pinned (OpenSpec.ofChange budgetKeepsSpec)

/-- ITS FALSE NEIGHBOUR: 'it returns false'. Refute it at one input. -/
def budgetKeepsWrong : ChangeSpec := { name := "budgetKeeps", fn := fun _ => fun
  | [d1, d2, d3, d4, d5, d6] => { results := [.lit (.bool false)], args := [d1, d2, d3, d4, d5, d6] }
  | _ => none }
def BudgetKeepsWrongFalsely : Prop := budgetKeepsRow.holds Tryz.pinned (OpenSpec.ofChange budgetKeepsWrong)

/-- 'ciceronelaw40.BudgetSpent': WHATEVER THE INPUT: true; the input reads as it did. -/
def budgetSpentSpec : ChangeSpec := { name := "budgetSpent", fn := fun _ => fun
  | [d1, d2, d3, d4, d5, d6] => { results := [.lit (.bool true)], args := [d1, d2, d3, d4, d5, d6] }
  | _ => none }
def budgetSpentRow : OpenClaim := { program := "ytbfjlpoeglcmfaagreatdoor", sum := "94623c057d7e30d510d9639621ca933d48f75c7f3c2fcbf56104c84dbe7c15a6", func := "cicerone/ciceronelaw40.BudgetSpent", spec := "budgetSpent", inPlace := ["internal/bytealg.IndexByteString", "internal/bytealg.IndexString", "internal/bytealg.CountString", "internal/bytealg.abigen_runtime_cmpstring", "internal/abi.NoEscape", "internal/bytealg.MakeNoZero"], unfollowed := true, recurses := true, named := ["internal/bytealg.MaxLen", "unicode/utf8.first", "unicode/utf8.acceptRanges", "cicerone/event.kindNames", "internal/strconv.uint64pow10", "math/bits.deBruijn32tab", "math/bits.deBruijn64tab"], plainKeys := false, apart := false, laid := [("math/bits.deBruijn32tab", laid_math_bits_deBruijn32tab), ("math/bits.deBruijn64tab", laid_math_bits_deBruijn64tab), ("internal/strconv.uint64pow10", laid_internal_strconv_uint64pow10), ("unicode/utf8.acceptRanges", laid_unicode_utf8_acceptRanges), ("cicerone/event.kindNames", laid_cicerone_event_kindNames), ("unicode/utf8.first", laid_unicode_utf8_first)] }
def BudgetSpentSaid : Prop := budgetSpentRow.holds Tryz.pinned (OpenSpec.ofChange budgetSpentSpec)

/-- ITS FALSE NEIGHBOUR: 'it returns false'. Refute it at one input. -/
def budgetSpentWrong : ChangeSpec := { name := "budgetSpent", fn := fun _ => fun
  | [d1, d2, d3, d4, d5, d6] => { results := [.lit (.bool false)], args := [d1, d2, d3, d4, d5, d6] }
  | _ => none }
def BudgetSpentWrongFalsely : Prop := budgetSpentRow.holds Tryz.pinned (OpenSpec.ofChange budgetSpentWrong)

/-- 'ciceronelaw40.BudgetApart': WHATEVER THE INPUT: true; the input reads as it did. -/
def budgetApartSpec : ChangeSpec := { name := "budgetApart", fn := fun _ => fun
  | [d1, d2, d3, d4, d5, d6] => { results := [.lit (.bool true)], args := [d1, d2, d3, d4, d5, d6] }
  | _ => none }
def budgetApartRow : OpenClaim := { program := "ytbfjlpoeglcmfaagreatdoor", sum := "94623c057d7e30d510d9639621ca933d48f75c7f3c2fcbf56104c84dbe7c15a6", func := "cicerone/ciceronelaw40.BudgetApart", spec := "budgetApart", inPlace := ["internal/bytealg.IndexByteString", "internal/bytealg.IndexString", "internal/bytealg.CountString", "internal/bytealg.abigen_runtime_cmpstring", "internal/abi.NoEscape", "internal/bytealg.MakeNoZero"], unfollowed := true, recurses := true, named := ["internal/bytealg.MaxLen", "unicode/utf8.first", "unicode/utf8.acceptRanges", "cicerone/event.kindNames", "internal/strconv.uint64pow10", "math/bits.deBruijn32tab", "math/bits.deBruijn64tab"], plainKeys := false, apart := false, laid := [("math/bits.deBruijn32tab", laid_math_bits_deBruijn32tab), ("math/bits.deBruijn64tab", laid_math_bits_deBruijn64tab), ("internal/strconv.uint64pow10", laid_internal_strconv_uint64pow10), ("unicode/utf8.acceptRanges", laid_unicode_utf8_acceptRanges), ("cicerone/event.kindNames", laid_cicerone_event_kindNames), ("unicode/utf8.first", laid_unicode_utf8_first)] }
def BudgetApartSaid : Prop := budgetApartRow.holds Tryz.pinned (OpenSpec.ofChange budgetApartSpec)

/-- ITS FALSE NEIGHBOUR: 'it returns false'. Refute it at one input. -/
def budgetApartWrong : ChangeSpec := { name := "budgetApart", fn := fun _ => fun
  | [d1, d2, d3, d4, d5, d6] => { results := [.lit (.bool false)], args := [d1, d2, d3, d4, d5, d6] }
  | _ => none }
def BudgetApartWrongFalsely : Prop := budgetApartRow.holds Tryz.pinned (OpenSpec.ofChange budgetApartWrong)

/-- 'ciceronelaw39.PriceThen': WHATEVER THE INPUT: true; the input reads as it did. -/
def priceThenSpec : ChangeSpec := { name := "priceThen", fn := fun _ => fun
  | [d1, d2, d3, d4, d5] => { results := [.lit (.bool true)], args := [d1, d2, d3, d4, d5] }
  | _ => none }
def priceThenRow : OpenClaim := { program := "ytbfjlpoeglcmfaagreatdoor", sum := "94623c057d7e30d510d9639621ca933d48f75c7f3c2fcbf56104c84dbe7c15a6", func := "cicerone/ciceronelaw39.PriceThen", spec := "priceThen", inPlace := ["internal/bytealg.IndexByteString", "internal/bytealg.IndexString", "internal/bytealg.CountString", "internal/bytealg.abigen_runtime_cmpstring", "internal/abi.NoEscape", "internal/bytealg.MakeNoZero"], unfollowed := true, recurses := true, named := ["internal/bytealg.MaxLen", "unicode/utf8.first", "unicode/utf8.acceptRanges", "cicerone/event.kindNames", "internal/strconv.uint64pow10", "math/bits.deBruijn32tab", "math/bits.deBruijn64tab"], plainKeys := false, apart := false, laid := [("math/bits.deBruijn32tab", laid_math_bits_deBruijn32tab), ("math/bits.deBruijn64tab", laid_math_bits_deBruijn64tab), ("internal/strconv.uint64pow10", laid_internal_strconv_uint64pow10), ("unicode/utf8.acceptRanges", laid_unicode_utf8_acceptRanges), ("cicerone/event.kindNames", laid_cicerone_event_kindNames), ("unicode/utf8.first", laid_unicode_utf8_first)] }
def PriceThenSaid : Prop := priceThenRow.holds Tryz.pinned (OpenSpec.ofChange priceThenSpec)

/-- ITS FALSE NEIGHBOUR: 'it returns false'. Refute it at one input. -/
def priceThenWrong : ChangeSpec := { name := "priceThen", fn := fun _ => fun
  | [d1, d2, d3, d4, d5] => { results := [.lit (.bool false)], args := [d1, d2, d3, d4, d5] }
  | _ => none }
def PriceThenWrongFalsely : Prop := priceThenRow.holds Tryz.pinned (OpenSpec.ofChange priceThenWrong)

/-- 'ciceronelaw39.PriceFalls': WHATEVER THE INPUT: true; the input reads as it did. -/
def priceFallsSpec : ChangeSpec := { name := "priceFalls", fn := fun _ => fun
  | [d1, d2, d3, d4] => { results := [.lit (.bool true)], args := [d1, d2, d3, d4] }
  | _ => none }
def priceFallsRow : OpenClaim := { program := "ytbfjlpoeglcmfaagreatdoor", sum := "94623c057d7e30d510d9639621ca933d48f75c7f3c2fcbf56104c84dbe7c15a6", func := "cicerone/ciceronelaw39.PriceFalls", spec := "priceFalls", inPlace := ["internal/bytealg.IndexByteString", "internal/bytealg.IndexString", "internal/bytealg.CountString", "internal/bytealg.abigen_runtime_cmpstring", "internal/abi.NoEscape", "internal/bytealg.MakeNoZero"], unfollowed := true, recurses := true, named := ["internal/bytealg.MaxLen", "unicode/utf8.first", "unicode/utf8.acceptRanges", "cicerone/event.kindNames", "internal/strconv.uint64pow10", "math/bits.deBruijn32tab", "math/bits.deBruijn64tab"], plainKeys := false, apart := false, laid := [("math/bits.deBruijn32tab", laid_math_bits_deBruijn32tab), ("math/bits.deBruijn64tab", laid_math_bits_deBruijn64tab), ("internal/strconv.uint64pow10", laid_internal_strconv_uint64pow10), ("unicode/utf8.acceptRanges", laid_unicode_utf8_acceptRanges), ("cicerone/event.kindNames", laid_cicerone_event_kindNames), ("unicode/utf8.first", laid_unicode_utf8_first)] }
def PriceFallsSaid : Prop := priceFallsRow.holds Tryz.pinned (OpenSpec.ofChange priceFallsSpec)

/-- ITS FALSE NEIGHBOUR: 'it returns false'. Refute it at one input. -/
def priceFallsWrong : ChangeSpec := { name := "priceFalls", fn := fun _ => fun
  | [d1, d2, d3, d4] => { results := [.lit (.bool false)], args := [d1, d2, d3, d4] }
  | _ => none }
def PriceFallsWrongFalsely : Prop := priceFallsRow.holds Tryz.pinned (OpenSpec.ofChange priceFallsWrong)

/-- 'ciceronelaw39.PriceLeast': WHATEVER THE INPUT: true; the input reads as it did. -/
def priceLeastSpec : ChangeSpec := { name := "priceLeast", fn := fun _ => fun
  | [d1, d2, d3, d4, d5, d6] => { results := [.lit (.bool true)], args := [d1, d2, d3, d4, d5, d6] }
  | _ => none }
def priceLeastRow : OpenClaim := { program := "ytbfjlpoeglcmfaagreatdoor", sum := "94623c057d7e30d510d9639621ca933d48f75c7f3c2fcbf56104c84dbe7c15a6", func := "cicerone/ciceronelaw39.PriceLeast", spec := "priceLeast", inPlace := ["internal/bytealg.IndexByteString", "internal/bytealg.IndexString", "internal/bytealg.CountString", "internal/bytealg.abigen_runtime_cmpstring", "internal/abi.NoEscape", "internal/bytealg.MakeNoZero"], unfollowed := true, recurses := true, named := ["internal/bytealg.MaxLen", "unicode/utf8.first", "unicode/utf8.acceptRanges", "cicerone/event.kindNames", "internal/strconv.uint64pow10", "math/bits.deBruijn32tab", "math/bits.deBruijn64tab"], plainKeys := false, apart := false, laid := [("math/bits.deBruijn32tab", laid_math_bits_deBruijn32tab), ("math/bits.deBruijn64tab", laid_math_bits_deBruijn64tab), ("internal/strconv.uint64pow10", laid_internal_strconv_uint64pow10), ("unicode/utf8.acceptRanges", laid_unicode_utf8_acceptRanges), ("cicerone/event.kindNames", laid_cicerone_event_kindNames), ("unicode/utf8.first", laid_unicode_utf8_first)] }
def PriceLeastSaid : Prop := priceLeastRow.holds Tryz.pinned (OpenSpec.ofChange priceLeastSpec)

/-- ITS FALSE NEIGHBOUR: 'it returns false'. Refute it at one input. -/
def priceLeastWrong : ChangeSpec := { name := "priceLeast", fn := fun _ => fun
  | [d1, d2, d3, d4, d5, d6] => { results := [.lit (.bool false)], args := [d1, d2, d3, d4, d5, d6] }
  | _ => none }
def PriceLeastWrongFalsely : Prop := priceLeastRow.holds Tryz.pinned (OpenSpec.ofChange priceLeastWrong)

/-- 'ciceronelaw39.PriceTicks': WHATEVER THE INPUT: true; the input reads as it did. -/
def priceTicksSpec : ChangeSpec := { name := "priceTicks", fn := fun _ => fun
  | [d1, d2, d3, d4, d5] => { results := [.lit (.bool true)], args := [d1, d2, d3, d4, d5] }
  | _ => none }
def priceTicksRow : OpenClaim := { program := "ytbfjlpoeglcmfaagreatdoor", sum := "94623c057d7e30d510d9639621ca933d48f75c7f3c2fcbf56104c84dbe7c15a6", func := "cicerone/ciceronelaw39.PriceTicks", spec := "priceTicks", inPlace := ["internal/bytealg.IndexByteString", "internal/bytealg.IndexString", "internal/bytealg.CountString", "internal/bytealg.abigen_runtime_cmpstring", "internal/abi.NoEscape", "internal/bytealg.MakeNoZero"], unfollowed := true, recurses := true, named := ["internal/bytealg.MaxLen", "unicode/utf8.first", "unicode/utf8.acceptRanges", "cicerone/event.kindNames", "internal/strconv.uint64pow10", "math/bits.deBruijn32tab", "math/bits.deBruijn64tab"], plainKeys := false, apart := false, laid := [("math/bits.deBruijn32tab", laid_math_bits_deBruijn32tab), ("math/bits.deBruijn64tab", laid_math_bits_deBruijn64tab), ("internal/strconv.uint64pow10", laid_internal_strconv_uint64pow10), ("unicode/utf8.acceptRanges", laid_unicode_utf8_acceptRanges), ("cicerone/event.kindNames", laid_cicerone_event_kindNames), ("unicode/utf8.first", laid_unicode_utf8_first)] }
def PriceTicksSaid : Prop := priceTicksRow.holds Tryz.pinned (OpenSpec.ofChange priceTicksSpec)

/-- ITS FALSE NEIGHBOUR: 'it returns false'. Refute it at one input. -/
def priceTicksWrong : ChangeSpec := { name := "priceTicks", fn := fun _ => fun
  | [d1, d2, d3, d4, d5] => { results := [.lit (.bool false)], args := [d1, d2, d3, d4, d5] }
  | _ => none }
def PriceTicksWrongFalsely : Prop := priceTicksRow.holds Tryz.pinned (OpenSpec.ofChange priceTicksWrong)

/-- 'ciceronelaw39.PriceOthers': WHATEVER THE INPUT: true; the input reads as it did. -/
def priceOthersSpec : ChangeSpec := { name := "priceOthers", fn := fun _ => fun
  | [d1, d2, d3, d4, d5] => { results := [.lit (.bool true)], args := [d1, d2, d3, d4, d5] }
  | _ => none }
def priceOthersRow : OpenClaim := { program := "ytbfjlpoeglcmfaagreatdoor", sum := "94623c057d7e30d510d9639621ca933d48f75c7f3c2fcbf56104c84dbe7c15a6", func := "cicerone/ciceronelaw39.PriceOthers", spec := "priceOthers", inPlace := ["internal/bytealg.IndexByteString", "internal/bytealg.IndexString", "internal/bytealg.CountString", "internal/bytealg.abigen_runtime_cmpstring", "internal/abi.NoEscape", "internal/bytealg.MakeNoZero"], unfollowed := true, recurses := true, named := ["internal/bytealg.MaxLen", "unicode/utf8.first", "unicode/utf8.acceptRanges", "cicerone/event.kindNames", "internal/strconv.uint64pow10", "math/bits.deBruijn32tab", "math/bits.deBruijn64tab"], plainKeys := false, apart := false, laid := [("math/bits.deBruijn32tab", laid_math_bits_deBruijn32tab), ("math/bits.deBruijn64tab", laid_math_bits_deBruijn64tab), ("internal/strconv.uint64pow10", laid_internal_strconv_uint64pow10), ("unicode/utf8.acceptRanges", laid_unicode_utf8_acceptRanges), ("cicerone/event.kindNames", laid_cicerone_event_kindNames), ("unicode/utf8.first", laid_unicode_utf8_first)] }
def PriceOthersSaid : Prop := priceOthersRow.holds Tryz.pinned (OpenSpec.ofChange priceOthersSpec)

/-- ITS FALSE NEIGHBOUR: 'it returns false'. Refute it at one input. -/
def priceOthersWrong : ChangeSpec := { name := "priceOthers", fn := fun _ => fun
  | [d1, d2, d3, d4, d5] => { results := [.lit (.bool false)], args := [d1, d2, d3, d4, d5] }
  | _ => none }
def PriceOthersWrongFalsely : Prop := priceOthersRow.holds Tryz.pinned (OpenSpec.ofChange priceOthersWrong)

/- THE SECOND FORM. 'bulk': how many values and letters a reading holds, each counted each time it is reached (what is shared counts as often as it is met; a slice's spare places count too). A statement '..UptoSaid' is the law's where the arguments, and the package variables that the reading takes, are together of bulk at most 1048576: NARROWER than '..Said'. Prove '..Said' where nothing that the law and all that it calls make is longer than what came in: it says more and counts as full. Else prove '..UptoSaid'. A law counts once. -/
mutual
def uptoBulk {H : Type} : DataW H → Nat
  | .lit (.string bytes) => bytes.length + 1
  | .lit _ => 1
  | .nil => 1
  | .ptr d => uptoBulk d + 1
  | .slice elems spare => uptoBulkAll elems + uptoBulkAll spare + 1
  | .agg parts => uptoBulkAll parts + 1
  | .iface _ d => uptoBulk d + 1
  | .map entries => uptoBulkEntries entries + 1
  | .held _ => 1
def uptoBulkAll {H : Type} : List (DataW H) → Nat
  | [] => 0
  | d :: r => uptoBulk d + uptoBulkAll r
def uptoBulkEntries {H : Type} : List (Lit × DataW H) → Nat
  | [] => 0
  | x :: r => uptoBulkEntry x + uptoBulkEntries r
def uptoBulkEntry {H : Type} : Lit × DataW H → Nat
  | (.string bytes, d) => bytes.length + uptoBulk d + 1
  | (_, d) => uptoBulk d + 1
 end
def uptoSmall : (H : Type) → List (DataW H) → Bool := fun _ ds => decide (uptoBulkAll ds ≤ 1048576)
def OpenSpec.upto (s : _root_.Go.ChangeSpec) : _root_.Go.OpenSpec := { _root_.Go.OpenSpec.ofChange s with cond := some uptoSmall }

/-- 'ciceronelaw40.BudgetPasses', WHERE WHAT IT READS IS OF BULK AT MOST 1048576: true; the input reads as it did. -/
def budgetPassesUptoRow : OpenClaim := { program := "ytbfjlpoeglcmfaagreatdoor", sum := "94623c057d7e30d510d9639621ca933d48f75c7f3c2fcbf56104c84dbe7c15a6", func := "cicerone/ciceronelaw40.BudgetPasses", spec := "budgetPasses", inPlace := ["internal/bytealg.IndexByteString", "internal/bytealg.IndexString", "internal/bytealg.CountString", "internal/bytealg.abigen_runtime_cmpstring", "internal/abi.NoEscape", "internal/bytealg.MakeNoZero"], unfollowed := true, recurses := true, named := ["internal/bytealg.MaxLen", "unicode/utf8.first", "unicode/utf8.acceptRanges", "cicerone/event.kindNames", "internal/strconv.uint64pow10", "math/bits.deBruijn32tab", "math/bits.deBruijn64tab"], plainKeys := false, apart := false, laid := [("math/bits.deBruijn32tab", laid_math_bits_deBruijn32tab), ("math/bits.deBruijn64tab", laid_math_bits_deBruijn64tab), ("internal/strconv.uint64pow10", laid_internal_strconv_uint64pow10), ("unicode/utf8.acceptRanges", laid_unicode_utf8_acceptRanges), ("cicerone/event.kindNames", laid_cicerone_event_kindNames), ("unicode/utf8.first", laid_unicode_utf8_first)], narrowed := true }
def BudgetPassesUptoSaid : Prop := budgetPassesUptoRow.holds Tryz.pinned (OpenSpec.upto budgetPassesSpec)

/-- 'ciceronelaw40.BudgetShown', WHERE WHAT IT READS IS OF BULK AT MOST 1048576: true; the input reads as it did. -/
def budgetShownUptoRow : OpenClaim := { program := "ytbfjlpoeglcmfaagreatdoor", sum := "94623c057d7e30d510d9639621ca933d48f75c7f3c2fcbf56104c84dbe7c15a6", func := "cicerone/ciceronelaw40.BudgetShown", spec := "budgetShown", inPlace := ["internal/bytealg.IndexByteString", "internal/bytealg.IndexString", "internal/bytealg.CountString", "internal/bytealg.abigen_runtime_cmpstring", "internal/abi.NoEscape", "internal/bytealg.MakeNoZero"], unfollowed := true, recurses := true, named := ["internal/bytealg.MaxLen", "unicode/utf8.first", "unicode/utf8.acceptRanges", "cicerone/event.kindNames", "internal/strconv.uint64pow10", "math/bits.deBruijn32tab", "math/bits.deBruijn64tab"], plainKeys := false, apart := false, laid := [("math/bits.deBruijn32tab", laid_math_bits_deBruijn32tab), ("math/bits.deBruijn64tab", laid_math_bits_deBruijn64tab), ("internal/strconv.uint64pow10", laid_internal_strconv_uint64pow10), ("unicode/utf8.acceptRanges", laid_unicode_utf8_acceptRanges), ("cicerone/event.kindNames", laid_cicerone_event_kindNames), ("unicode/utf8.first", laid_unicode_utf8_first)], narrowed := true }
def BudgetShownUptoSaid : Prop := budgetShownUptoRow.holds Tryz.pinned (OpenSpec.upto budgetShownSpec)

/-- 'ciceronelaw40.BudgetLeft', WHERE WHAT IT READS IS OF BULK AT MOST 1048576: true; the input reads as it did. -/
def budgetLeftUptoRow : OpenClaim := { program := "ytbfjlpoeglcmfaagreatdoor", sum := "94623c057d7e30d510d9639621ca933d48f75c7f3c2fcbf56104c84dbe7c15a6", func := "cicerone/ciceronelaw40.BudgetLeft", spec := "budgetLeft", inPlace := ["internal/bytealg.IndexByteString", "internal/bytealg.IndexString", "internal/bytealg.CountString", "internal/bytealg.abigen_runtime_cmpstring", "internal/abi.NoEscape", "internal/bytealg.MakeNoZero"], unfollowed := true, recurses := true, named := ["internal/bytealg.MaxLen", "unicode/utf8.first", "unicode/utf8.acceptRanges", "cicerone/event.kindNames", "internal/strconv.uint64pow10", "math/bits.deBruijn32tab", "math/bits.deBruijn64tab"], plainKeys := false, apart := false, laid := [("math/bits.deBruijn32tab", laid_math_bits_deBruijn32tab), ("math/bits.deBruijn64tab", laid_math_bits_deBruijn64tab), ("internal/strconv.uint64pow10", laid_internal_strconv_uint64pow10), ("unicode/utf8.acceptRanges", laid_unicode_utf8_acceptRanges), ("cicerone/event.kindNames", laid_cicerone_event_kindNames), ("unicode/utf8.first", laid_unicode_utf8_first)], narrowed := true }
def BudgetLeftUptoSaid : Prop := budgetLeftUptoRow.holds Tryz.pinned (OpenSpec.upto budgetLeftSpec)

/-- 'ciceronelaw40.BudgetKeeps', WHERE WHAT IT READS IS OF BULK AT MOST 1048576: true; the input reads as it did. -/
def budgetKeepsUptoRow : OpenClaim := { program := "ytbfjlpoeglcmfaagreatdoor", sum := "94623c057d7e30d510d9639621ca933d48f75c7f3c2fcbf56104c84dbe7c15a6", func := "cicerone/ciceronelaw40.BudgetKeeps", spec := "budgetKeeps", inPlace := ["internal/bytealg.IndexByteString", "internal/bytealg.IndexString", "internal/bytealg.CountString", "internal/bytealg.abigen_runtime_cmpstring", "internal/abi.NoEscape", "internal/bytealg.MakeNoZero"], unfollowed := true, recurses := true, named := ["internal/bytealg.MaxLen", "unicode/utf8.first", "unicode/utf8.acceptRanges", "cicerone/event.kindNames", "internal/strconv.uint64pow10", "math/bits.deBruijn32tab", "math/bits.deBruijn64tab"], plainKeys := false, apart := false, laid := [("math/bits.deBruijn32tab", laid_math_bits_deBruijn32tab), ("math/bits.deBruijn64tab", laid_math_bits_deBruijn64tab), ("internal/strconv.uint64pow10", laid_internal_strconv_uint64pow10), ("unicode/utf8.acceptRanges", laid_unicode_utf8_acceptRanges), ("cicerone/event.kindNames", laid_cicerone_event_kindNames), ("unicode/utf8.first", laid_unicode_utf8_first)], narrowed := true }
def BudgetKeepsUptoSaid : Prop := budgetKeepsUptoRow.holds Tryz.pinned (OpenSpec.upto budgetKeepsSpec)

/-- 'ciceronelaw40.BudgetSpent', WHERE WHAT IT READS IS OF BULK AT MOST 1048576: true; the input reads as it did. -/
def budgetSpentUptoRow : OpenClaim := { program := "ytbfjlpoeglcmfaagreatdoor", sum := "94623c057d7e30d510d9639621ca933d48f75c7f3c2fcbf56104c84dbe7c15a6", func := "cicerone/ciceronelaw40.BudgetSpent", spec := "budgetSpent", inPlace := ["internal/bytealg.IndexByteString", "internal/bytealg.IndexString", "internal/bytealg.CountString", "internal/bytealg.abigen_runtime_cmpstring", "internal/abi.NoEscape", "internal/bytealg.MakeNoZero"], unfollowed := true, recurses := true, named := ["internal/bytealg.MaxLen", "unicode/utf8.first", "unicode/utf8.acceptRanges", "cicerone/event.kindNames", "internal/strconv.uint64pow10", "math/bits.deBruijn32tab", "math/bits.deBruijn64tab"], plainKeys := false, apart := false, laid := [("math/bits.deBruijn32tab", laid_math_bits_deBruijn32tab), ("math/bits.deBruijn64tab", laid_math_bits_deBruijn64tab), ("internal/strconv.uint64pow10", laid_internal_strconv_uint64pow10), ("unicode/utf8.acceptRanges", laid_unicode_utf8_acceptRanges), ("cicerone/event.kindNames", laid_cicerone_event_kindNames), ("unicode/utf8.first", laid_unicode_utf8_first)], narrowed := true }
def BudgetSpentUptoSaid : Prop := budgetSpentUptoRow.holds Tryz.pinned (OpenSpec.upto budgetSpentSpec)

/-- 'ciceronelaw40.BudgetApart', WHERE WHAT IT READS IS OF BULK AT MOST 1048576: true; the input reads as it did. -/
def budgetApartUptoRow : OpenClaim := { program := "ytbfjlpoeglcmfaagreatdoor", sum := "94623c057d7e30d510d9639621ca933d48f75c7f3c2fcbf56104c84dbe7c15a6", func := "cicerone/ciceronelaw40.BudgetApart", spec := "budgetApart", inPlace := ["internal/bytealg.IndexByteString", "internal/bytealg.IndexString", "internal/bytealg.CountString", "internal/bytealg.abigen_runtime_cmpstring", "internal/abi.NoEscape", "internal/bytealg.MakeNoZero"], unfollowed := true, recurses := true, named := ["internal/bytealg.MaxLen", "unicode/utf8.first", "unicode/utf8.acceptRanges", "cicerone/event.kindNames", "internal/strconv.uint64pow10", "math/bits.deBruijn32tab", "math/bits.deBruijn64tab"], plainKeys := false, apart := false, laid := [("math/bits.deBruijn32tab", laid_math_bits_deBruijn32tab), ("math/bits.deBruijn64tab", laid_math_bits_deBruijn64tab), ("internal/strconv.uint64pow10", laid_internal_strconv_uint64pow10), ("unicode/utf8.acceptRanges", laid_unicode_utf8_acceptRanges), ("cicerone/event.kindNames", laid_cicerone_event_kindNames), ("unicode/utf8.first", laid_unicode_utf8_first)], narrowed := true }
def BudgetApartUptoSaid : Prop := budgetApartUptoRow.holds Tryz.pinned (OpenSpec.upto budgetApartSpec)

/-- 'ciceronelaw39.PriceThen', WHERE WHAT IT READS IS OF BULK AT MOST 1048576: true; the input reads as it did. -/
def priceThenUptoRow : OpenClaim := { program := "ytbfjlpoeglcmfaagreatdoor", sum := "94623c057d7e30d510d9639621ca933d48f75c7f3c2fcbf56104c84dbe7c15a6", func := "cicerone/ciceronelaw39.PriceThen", spec := "priceThen", inPlace := ["internal/bytealg.IndexByteString", "internal/bytealg.IndexString", "internal/bytealg.CountString", "internal/bytealg.abigen_runtime_cmpstring", "internal/abi.NoEscape", "internal/bytealg.MakeNoZero"], unfollowed := true, recurses := true, named := ["internal/bytealg.MaxLen", "unicode/utf8.first", "unicode/utf8.acceptRanges", "cicerone/event.kindNames", "internal/strconv.uint64pow10", "math/bits.deBruijn32tab", "math/bits.deBruijn64tab"], plainKeys := false, apart := false, laid := [("math/bits.deBruijn32tab", laid_math_bits_deBruijn32tab), ("math/bits.deBruijn64tab", laid_math_bits_deBruijn64tab), ("internal/strconv.uint64pow10", laid_internal_strconv_uint64pow10), ("unicode/utf8.acceptRanges", laid_unicode_utf8_acceptRanges), ("cicerone/event.kindNames", laid_cicerone_event_kindNames), ("unicode/utf8.first", laid_unicode_utf8_first)], narrowed := true }
def PriceThenUptoSaid : Prop := priceThenUptoRow.holds Tryz.pinned (OpenSpec.upto priceThenSpec)

/-- 'ciceronelaw39.PriceFalls', WHERE WHAT IT READS IS OF BULK AT MOST 1048576: true; the input reads as it did. -/
def priceFallsUptoRow : OpenClaim := { program := "ytbfjlpoeglcmfaagreatdoor", sum := "94623c057d7e30d510d9639621ca933d48f75c7f3c2fcbf56104c84dbe7c15a6", func := "cicerone/ciceronelaw39.PriceFalls", spec := "priceFalls", inPlace := ["internal/bytealg.IndexByteString", "internal/bytealg.IndexString", "internal/bytealg.CountString", "internal/bytealg.abigen_runtime_cmpstring", "internal/abi.NoEscape", "internal/bytealg.MakeNoZero"], unfollowed := true, recurses := true, named := ["internal/bytealg.MaxLen", "unicode/utf8.first", "unicode/utf8.acceptRanges", "cicerone/event.kindNames", "internal/strconv.uint64pow10", "math/bits.deBruijn32tab", "math/bits.deBruijn64tab"], plainKeys := false, apart := false, laid := [("math/bits.deBruijn32tab", laid_math_bits_deBruijn32tab), ("math/bits.deBruijn64tab", laid_math_bits_deBruijn64tab), ("internal/strconv.uint64pow10", laid_internal_strconv_uint64pow10), ("unicode/utf8.acceptRanges", laid_unicode_utf8_acceptRanges), ("cicerone/event.kindNames", laid_cicerone_event_kindNames), ("unicode/utf8.first", laid_unicode_utf8_first)], narrowed := true }
def PriceFallsUptoSaid : Prop := priceFallsUptoRow.holds Tryz.pinned (OpenSpec.upto priceFallsSpec)

/-- 'ciceronelaw39.PriceLeast', WHERE WHAT IT READS IS OF BULK AT MOST 1048576: true; the input reads as it did. -/
def priceLeastUptoRow : OpenClaim := { program := "ytbfjlpoeglcmfaagreatdoor", sum := "94623c057d7e30d510d9639621ca933d48f75c7f3c2fcbf56104c84dbe7c15a6", func := "cicerone/ciceronelaw39.PriceLeast", spec := "priceLeast", inPlace := ["internal/bytealg.IndexByteString", "internal/bytealg.IndexString", "internal/bytealg.CountString", "internal/bytealg.abigen_runtime_cmpstring", "internal/abi.NoEscape", "internal/bytealg.MakeNoZero"], unfollowed := true, recurses := true, named := ["internal/bytealg.MaxLen", "unicode/utf8.first", "unicode/utf8.acceptRanges", "cicerone/event.kindNames", "internal/strconv.uint64pow10", "math/bits.deBruijn32tab", "math/bits.deBruijn64tab"], plainKeys := false, apart := false, laid := [("math/bits.deBruijn32tab", laid_math_bits_deBruijn32tab), ("math/bits.deBruijn64tab", laid_math_bits_deBruijn64tab), ("internal/strconv.uint64pow10", laid_internal_strconv_uint64pow10), ("unicode/utf8.acceptRanges", laid_unicode_utf8_acceptRanges), ("cicerone/event.kindNames", laid_cicerone_event_kindNames), ("unicode/utf8.first", laid_unicode_utf8_first)], narrowed := true }
def PriceLeastUptoSaid : Prop := priceLeastUptoRow.holds Tryz.pinned (OpenSpec.upto priceLeastSpec)

/-- 'ciceronelaw39.PriceTicks', WHERE WHAT IT READS IS OF BULK AT MOST 1048576: true; the input reads as it did. -/
def priceTicksUptoRow : OpenClaim := { program := "ytbfjlpoeglcmfaagreatdoor", sum := "94623c057d7e30d510d9639621ca933d48f75c7f3c2fcbf56104c84dbe7c15a6", func := "cicerone/ciceronelaw39.PriceTicks", spec := "priceTicks", inPlace := ["internal/bytealg.IndexByteString", "internal/bytealg.IndexString", "internal/bytealg.CountString", "internal/bytealg.abigen_runtime_cmpstring", "internal/abi.NoEscape", "internal/bytealg.MakeNoZero"], unfollowed := true, recurses := true, named := ["internal/bytealg.MaxLen", "unicode/utf8.first", "unicode/utf8.acceptRanges", "cicerone/event.kindNames", "internal/strconv.uint64pow10", "math/bits.deBruijn32tab", "math/bits.deBruijn64tab"], plainKeys := false, apart := false, laid := [("math/bits.deBruijn32tab", laid_math_bits_deBruijn32tab), ("math/bits.deBruijn64tab", laid_math_bits_deBruijn64tab), ("internal/strconv.uint64pow10", laid_internal_strconv_uint64pow10), ("unicode/utf8.acceptRanges", laid_unicode_utf8_acceptRanges), ("cicerone/event.kindNames", laid_cicerone_event_kindNames), ("unicode/utf8.first", laid_unicode_utf8_first)], narrowed := true }
def PriceTicksUptoSaid : Prop := priceTicksUptoRow.holds Tryz.pinned (OpenSpec.upto priceTicksSpec)

/-- 'ciceronelaw39.PriceOthers', WHERE WHAT IT READS IS OF BULK AT MOST 1048576: true; the input reads as it did. -/
def priceOthersUptoRow : OpenClaim := { program := "ytbfjlpoeglcmfaagreatdoor", sum := "94623c057d7e30d510d9639621ca933d48f75c7f3c2fcbf56104c84dbe7c15a6", func := "cicerone/ciceronelaw39.PriceOthers", spec := "priceOthers", inPlace := ["internal/bytealg.IndexByteString", "internal/bytealg.IndexString", "internal/bytealg.CountString", "internal/bytealg.abigen_runtime_cmpstring", "internal/abi.NoEscape", "internal/bytealg.MakeNoZero"], unfollowed := true, recurses := true, named := ["internal/bytealg.MaxLen", "unicode/utf8.first", "unicode/utf8.acceptRanges", "cicerone/event.kindNames", "internal/strconv.uint64pow10", "math/bits.deBruijn32tab", "math/bits.deBruijn64tab"], plainKeys := false, apart := false, laid := [("math/bits.deBruijn32tab", laid_math_bits_deBruijn32tab), ("math/bits.deBruijn64tab", laid_math_bits_deBruijn64tab), ("internal/strconv.uint64pow10", laid_internal_strconv_uint64pow10), ("unicode/utf8.acceptRanges", laid_unicode_utf8_acceptRanges), ("cicerone/event.kindNames", laid_cicerone_event_kindNames), ("unicode/utf8.first", laid_unicode_utf8_first)], narrowed := true }
def PriceOthersUptoSaid : Prop := priceOthersUptoRow.holds Tryz.pinned (OpenSpec.upto priceOthersSpec)

end Rows
end Go.Proofs.YtbfjlpoeglcmfaaGreatDoor
