/-
  NARROWER THAN 'FOR EVERY INPUT', by the rows' own cells (each row's printed sentence says how): WorldAdds: laid · WorldSame: laid · WorldRows: laid · WorldOf: laid · WorldForgets: laid.
  DERIVED. THE GIVEN ROWS OF THIS SEAT. 5 by the template 'for every input the law returns true; each argument reads behind the call as it read before'; 0 by the template 'total and deterministic' (their statements: YtdahooejkjcjiaaGreatDoorTotals.lean).
  GIVEN WITH THE SEED: the statements are not yours to turn. If you find one false, say at which input.
  Laid BY PROGRAM, IN A SANDBOX (cutbox-rows.mjs): the forced cells as the released guide's own fill.sh prints them over the translation c460ca77e4c27ef5… (all of the seat's roots in one cut). By AI agents, Wed Nov 11 2026. No macro, syntax, notation, axiom, sorry.
-/
import Derived.Test.YtdahooejkjcjiaaGreatDoorChecked
import GoSem.PinnedTables
import GoSem.Claim
import GoSem.ClaimJoined
import GoSem.ClaimMapViews
import Derived.JoinedTies
import Derived.KernelRfl
namespace Go.Proofs.YtdahooejkjcjiaaGreatDoor
/- THE CELL 'sum', in the pinned program and in every row, IS THE sha256 OF THE DUMP (.gsa) THAT YtdahooejkjcjiaaGreatDoorProg.lean LOADS. Nothing in Lean hashes anything: it is a label: what it is worth is what the hold of that sum in a sandbox is worth. -/
noncomputable def Tryz.pinned : Pinned := { name := "ytdahooejkjcjiaagreatdoor", sum := "c460ca77e4c27ef5f2590e61a94bcd9385507b13c64e099e7208a6e768151317", checked := Tryz.checked }
namespace Rows
def none {H : Type} : Left H := { results := [], args := [] }

/- WHAT THE LISTED PACKAGE-LEVEL VARIABLES READ AS WHEN THE CALL BEGINS. Each datum BY PROGRAM (the guide's laid-datum.mjs) off the statement by which the dump's own 'gosem.cut.vars' lays the variable. In a bare row this is a premise. The card (YtdahooejkjcjiaaGreatDoorCards.lean) ties it to the program's text. -/
def laid_math_bits_deBruijn32tab {H : Type} : DataW H := .agg [.lit (.int .u8 0), .lit (.int .u8 1), .lit (.int .u8 28), .lit (.int .u8 2), .lit (.int .u8 29), .lit (.int .u8 14), .lit (.int .u8 24), .lit (.int .u8 3), .lit (.int .u8 30), .lit (.int .u8 22), .lit (.int .u8 20), .lit (.int .u8 15), .lit (.int .u8 25), .lit (.int .u8 17), .lit (.int .u8 4), .lit (.int .u8 8), .lit (.int .u8 31), .lit (.int .u8 27), .lit (.int .u8 13), .lit (.int .u8 23), .lit (.int .u8 21), .lit (.int .u8 19), .lit (.int .u8 16), .lit (.int .u8 7), .lit (.int .u8 26), .lit (.int .u8 12), .lit (.int .u8 18), .lit (.int .u8 6), .lit (.int .u8 11), .lit (.int .u8 5), .lit (.int .u8 10), .lit (.int .u8 9)]
def laid_math_bits_deBruijn64tab {H : Type} : DataW H := .agg [.lit (.int .u8 0), .lit (.int .u8 1), .lit (.int .u8 56), .lit (.int .u8 2), .lit (.int .u8 57), .lit (.int .u8 49), .lit (.int .u8 28), .lit (.int .u8 3), .lit (.int .u8 61), .lit (.int .u8 58), .lit (.int .u8 42), .lit (.int .u8 50), .lit (.int .u8 38), .lit (.int .u8 29), .lit (.int .u8 17), .lit (.int .u8 4), .lit (.int .u8 62), .lit (.int .u8 47), .lit (.int .u8 59), .lit (.int .u8 36), .lit (.int .u8 45), .lit (.int .u8 43), .lit (.int .u8 51), .lit (.int .u8 22), .lit (.int .u8 53), .lit (.int .u8 39), .lit (.int .u8 33), .lit (.int .u8 30), .lit (.int .u8 24), .lit (.int .u8 18), .lit (.int .u8 12), .lit (.int .u8 5), .lit (.int .u8 63), .lit (.int .u8 55), .lit (.int .u8 48), .lit (.int .u8 27), .lit (.int .u8 60), .lit (.int .u8 41), .lit (.int .u8 37), .lit (.int .u8 16), .lit (.int .u8 46), .lit (.int .u8 35), .lit (.int .u8 44), .lit (.int .u8 21), .lit (.int .u8 52), .lit (.int .u8 32), .lit (.int .u8 23), .lit (.int .u8 11), .lit (.int .u8 54), .lit (.int .u8 26), .lit (.int .u8 40), .lit (.int .u8 15), .lit (.int .u8 34), .lit (.int .u8 20), .lit (.int .u8 31), .lit (.int .u8 10), .lit (.int .u8 25), .lit (.int .u8 14), .lit (.int .u8 19), .lit (.int .u8 9), .lit (.int .u8 13), .lit (.int .u8 8), .lit (.int .u8 7), .lit (.int .u8 6)]
def laid_internal_strconv_uint64pow10 {H : Type} : DataW H := .agg [.lit (.int .u64 1), .lit (.int .u64 10), .lit (.int .u64 100), .lit (.int .u64 1000), .lit (.int .u64 10000), .lit (.int .u64 100000), .lit (.int .u64 1000000), .lit (.int .u64 10000000), .lit (.int .u64 100000000), .lit (.int .u64 1000000000), .lit (.int .u64 10000000000), .lit (.int .u64 100000000000), .lit (.int .u64 1000000000000), .lit (.int .u64 10000000000000), .lit (.int .u64 100000000000000), .lit (.int .u64 1000000000000000), .lit (.int .u64 10000000000000000), .lit (.int .u64 100000000000000000), .lit (.int .u64 1000000000000000000), .lit (.int .u64 10000000000000000000)]
def laid_unicode_utf8_acceptRanges {H : Type} : DataW H := .agg [.agg [.lit (.int .u8 128), .lit (.int .u8 191)], .agg [.lit (.int .u8 160), .lit (.int .u8 191)], .agg [.lit (.int .u8 128), .lit (.int .u8 159)], .agg [.lit (.int .u8 144), .lit (.int .u8 191)], .agg [.lit (.int .u8 128), .lit (.int .u8 143)], .agg [.lit (.int .u8 0), .lit (.int .u8 0)], .agg [.lit (.int .u8 0), .lit (.int .u8 0)], .agg [.lit (.int .u8 0), .lit (.int .u8 0)], .agg [.lit (.int .u8 0), .lit (.int .u8 0)], .agg [.lit (.int .u8 0), .lit (.int .u8 0)], .agg [.lit (.int .u8 0), .lit (.int .u8 0)], .agg [.lit (.int .u8 0), .lit (.int .u8 0)], .agg [.lit (.int .u8 0), .lit (.int .u8 0)], .agg [.lit (.int .u8 0), .lit (.int .u8 0)], .agg [.lit (.int .u8 0), .lit (.int .u8 0)], .agg [.lit (.int .u8 0), .lit (.int .u8 0)]]
def laid_cicerone_event_kindNames {H : Type} : DataW H := .agg [.lit (.string [115, 101, 101, 110]), .lit (.string [111, 112, 101, 110, 101, 100]), .lit (.string [102, 105, 110, 105, 115, 104, 101, 100]), .lit (.string [98, 111, 117, 103, 104, 116]), .lit (.string [114, 97, 116, 101, 100]), .lit (.string [104, 105, 100, 100, 101, 110]), .lit (.string [117, 110, 104, 105, 100, 100, 101, 110]), .lit (.string [102, 111, 108, 108, 111, 119, 101, 100]), .lit (.string [117, 110, 102, 111, 108, 108, 111, 119, 101, 100]), .lit (.string [109, 117, 116, 101, 100]), .lit (.string [117, 110, 109, 117, 116, 101, 100]), .lit (.string [108, 105, 115, 116, 101, 100]), .lit (.string [115, 116, 111, 99, 107, 101, 100]), .lit (.string [100, 101, 108, 105, 115, 116, 101, 100]), .lit (.string [102, 111, 114, 103, 111, 116, 116, 101, 110])]
/-- One of Go's own tables, pinned by name: the form's constant. -/
def laid_unicode_utf8_first : DataW Unit := Go.Pinned.utf8First

/-- 'ciceronelaw20.WorldAdds': WHATEVER THE INPUT: true; the input reads as it did. -/
def worldAddsSpec : ChangeSpec := { name := "worldAdds", fn := fun _ => fun
  | [d1, d2, d3] => { results := [.lit (.bool true)], args := [d1, d2, d3] }
  | _ => none }
def worldAddsRow : OpenClaim := { program := "ytdahooejkjcjiaagreatdoor", sum := "c460ca77e4c27ef5f2590e61a94bcd9385507b13c64e099e7208a6e768151317", func := "cicerone/ciceronelaw20.WorldAdds", spec := "worldAdds", inPlace := ["internal/bytealg.IndexByteString", "internal/bytealg.IndexString", "internal/bytealg.CountString", "internal/bytealg.abigen_runtime_cmpstring", "internal/abi.NoEscape", "internal/bytealg.MakeNoZero", "maps.clone"], unfollowed := true, recurses := true, named := ["internal/bytealg.MaxLen", "unicode/utf8.first", "unicode/utf8.acceptRanges", "internal/strconv.uint64pow10", "math/bits.deBruijn32tab", "math/bits.deBruijn64tab", "cicerone/event.kindNames"], plainKeys := false, apart := false, laid := [("math/bits.deBruijn32tab", laid_math_bits_deBruijn32tab), ("math/bits.deBruijn64tab", laid_math_bits_deBruijn64tab), ("internal/strconv.uint64pow10", laid_internal_strconv_uint64pow10), ("unicode/utf8.acceptRanges", laid_unicode_utf8_acceptRanges), ("cicerone/event.kindNames", laid_cicerone_event_kindNames), ("unicode/utf8.first", laid_unicode_utf8_first)] }
def WorldAddsSaid : Prop := worldAddsRow.holds Tryz.pinned (OpenSpec.ofChange worldAddsSpec)

/-- ITS FALSE NEIGHBOUR: 'it returns false'. Refute it at one input. -/
def worldAddsWrong : ChangeSpec := { name := "worldAdds", fn := fun _ => fun
  | [d1, d2, d3] => { results := [.lit (.bool false)], args := [d1, d2, d3] }
  | _ => none }
def WorldAddsWrongFalsely : Prop := worldAddsRow.holds Tryz.pinned (OpenSpec.ofChange worldAddsWrong)

/-- 'ciceronelaw20.WorldSame': WHATEVER THE INPUT: true; the input reads as it did. -/
def worldSameSpec : ChangeSpec := { name := "worldSame", fn := fun _ => fun
  | [d1, d2, d3, d4] => { results := [.lit (.bool true)], args := [d1, d2, d3, d4] }
  | _ => none }
def worldSameRow : OpenClaim := { program := "ytdahooejkjcjiaagreatdoor", sum := "c460ca77e4c27ef5f2590e61a94bcd9385507b13c64e099e7208a6e768151317", func := "cicerone/ciceronelaw20.WorldSame", spec := "worldSame", inPlace := ["internal/bytealg.IndexByteString", "internal/bytealg.IndexString", "internal/bytealg.CountString", "internal/bytealg.abigen_runtime_cmpstring", "internal/abi.NoEscape", "internal/bytealg.MakeNoZero", "maps.clone"], unfollowed := true, recurses := true, named := ["internal/bytealg.MaxLen", "unicode/utf8.first", "unicode/utf8.acceptRanges", "cicerone/event.kindNames", "internal/strconv.uint64pow10", "math/bits.deBruijn32tab", "math/bits.deBruijn64tab"], plainKeys := false, apart := false, laid := [("math/bits.deBruijn32tab", laid_math_bits_deBruijn32tab), ("math/bits.deBruijn64tab", laid_math_bits_deBruijn64tab), ("internal/strconv.uint64pow10", laid_internal_strconv_uint64pow10), ("unicode/utf8.acceptRanges", laid_unicode_utf8_acceptRanges), ("cicerone/event.kindNames", laid_cicerone_event_kindNames), ("unicode/utf8.first", laid_unicode_utf8_first)] }
def WorldSameSaid : Prop := worldSameRow.holds Tryz.pinned (OpenSpec.ofChange worldSameSpec)

/-- ITS FALSE NEIGHBOUR: 'it returns false'. Refute it at one input. -/
def worldSameWrong : ChangeSpec := { name := "worldSame", fn := fun _ => fun
  | [d1, d2, d3, d4] => { results := [.lit (.bool false)], args := [d1, d2, d3, d4] }
  | _ => none }
def WorldSameWrongFalsely : Prop := worldSameRow.holds Tryz.pinned (OpenSpec.ofChange worldSameWrong)

/-- 'ciceronelaw20.WorldRows': WHATEVER THE INPUT: true; the input reads as it did. -/
def worldRowsSpec : ChangeSpec := { name := "worldRows", fn := fun _ => fun
  | [d1, d2, d3, d4] => { results := [.lit (.bool true)], args := [d1, d2, d3, d4] }
  | _ => none }
def worldRowsRow : OpenClaim := { program := "ytdahooejkjcjiaagreatdoor", sum := "c460ca77e4c27ef5f2590e61a94bcd9385507b13c64e099e7208a6e768151317", func := "cicerone/ciceronelaw20.WorldRows", spec := "worldRows", inPlace := ["internal/bytealg.IndexByteString", "internal/bytealg.IndexString", "internal/bytealg.CountString", "internal/bytealg.abigen_runtime_cmpstring", "internal/abi.NoEscape", "internal/bytealg.MakeNoZero", "maps.clone"], unfollowed := true, recurses := true, named := ["internal/bytealg.MaxLen", "unicode/utf8.first", "unicode/utf8.acceptRanges", "cicerone/event.kindNames", "internal/strconv.uint64pow10", "math/bits.deBruijn32tab", "math/bits.deBruijn64tab"], plainKeys := false, apart := false, laid := [("math/bits.deBruijn32tab", laid_math_bits_deBruijn32tab), ("math/bits.deBruijn64tab", laid_math_bits_deBruijn64tab), ("internal/strconv.uint64pow10", laid_internal_strconv_uint64pow10), ("unicode/utf8.acceptRanges", laid_unicode_utf8_acceptRanges), ("cicerone/event.kindNames", laid_cicerone_event_kindNames), ("unicode/utf8.first", laid_unicode_utf8_first)] }
def WorldRowsSaid : Prop := worldRowsRow.holds Tryz.pinned (OpenSpec.ofChange worldRowsSpec)

/-- ITS FALSE NEIGHBOUR: 'it returns false'. Refute it at one input. -/
def worldRowsWrong : ChangeSpec := { name := "worldRows", fn := fun _ => fun
  | [d1, d2, d3, d4] => { results := [.lit (.bool false)], args := [d1, d2, d3, d4] }
  | _ => none }
def WorldRowsWrongFalsely : Prop := worldRowsRow.holds Tryz.pinned (OpenSpec.ofChange worldRowsWrong)

/-- 'ciceronelaw20.WorldOf': WHATEVER THE INPUT: true; the input reads as it did. -/
def worldOfSpec : ChangeSpec := { name := "worldOf", fn := fun _ => fun
  | [d1, d2, d3] => { results := [.lit (.bool true)], args := [d1, d2, d3] }
  | _ => none }
def worldOfRow : OpenClaim := { program := "ytdahooejkjcjiaagreatdoor", sum := "c460ca77e4c27ef5f2590e61a94bcd9385507b13c64e099e7208a6e768151317", func := "cicerone/ciceronelaw20.WorldOf", spec := "worldOf", inPlace := ["internal/bytealg.IndexByteString", "internal/bytealg.IndexString", "internal/bytealg.CountString", "internal/bytealg.abigen_runtime_cmpstring", "internal/abi.NoEscape", "internal/bytealg.MakeNoZero", "maps.clone"], unfollowed := true, recurses := true, named := ["internal/bytealg.MaxLen", "unicode/utf8.first", "unicode/utf8.acceptRanges", "cicerone/event.kindNames", "internal/strconv.uint64pow10", "math/bits.deBruijn32tab", "math/bits.deBruijn64tab"], plainKeys := false, apart := false, laid := [("math/bits.deBruijn32tab", laid_math_bits_deBruijn32tab), ("math/bits.deBruijn64tab", laid_math_bits_deBruijn64tab), ("internal/strconv.uint64pow10", laid_internal_strconv_uint64pow10), ("unicode/utf8.acceptRanges", laid_unicode_utf8_acceptRanges), ("cicerone/event.kindNames", laid_cicerone_event_kindNames), ("unicode/utf8.first", laid_unicode_utf8_first)] }
def WorldOfSaid : Prop := worldOfRow.holds Tryz.pinned (OpenSpec.ofChange worldOfSpec)

/-- ITS FALSE NEIGHBOUR: 'it returns false'. Refute it at one input. -/
def worldOfWrong : ChangeSpec := { name := "worldOf", fn := fun _ => fun
  | [d1, d2, d3] => { results := [.lit (.bool false)], args := [d1, d2, d3] }
  | _ => none }
def WorldOfWrongFalsely : Prop := worldOfRow.holds Tryz.pinned (OpenSpec.ofChange worldOfWrong)

/-- 'ciceronelaw20.WorldForgets': WHATEVER THE INPUT: true; the input reads as it did. -/
def worldForgetsSpec : ChangeSpec := { name := "worldForgets", fn := fun _ => fun
  | [d1, d2, d3, d4] => { results := [.lit (.bool true)], args := [d1, d2, d3, d4] }
  | _ => none }
def worldForgetsRow : OpenClaim := { program := "ytdahooejkjcjiaagreatdoor", sum := "c460ca77e4c27ef5f2590e61a94bcd9385507b13c64e099e7208a6e768151317", func := "cicerone/ciceronelaw20.WorldForgets", spec := "worldForgets", inPlace := ["internal/bytealg.IndexByteString", "internal/bytealg.IndexString", "internal/bytealg.CountString", "internal/bytealg.abigen_runtime_cmpstring", "internal/abi.NoEscape", "internal/bytealg.MakeNoZero", "maps.clone"], unfollowed := true, recurses := true, named := ["internal/bytealg.MaxLen", "unicode/utf8.first", "unicode/utf8.acceptRanges", "cicerone/event.kindNames", "internal/strconv.uint64pow10", "math/bits.deBruijn32tab", "math/bits.deBruijn64tab"], plainKeys := false, apart := false, laid := [("math/bits.deBruijn32tab", laid_math_bits_deBruijn32tab), ("math/bits.deBruijn64tab", laid_math_bits_deBruijn64tab), ("internal/strconv.uint64pow10", laid_internal_strconv_uint64pow10), ("unicode/utf8.acceptRanges", laid_unicode_utf8_acceptRanges), ("cicerone/event.kindNames", laid_cicerone_event_kindNames), ("unicode/utf8.first", laid_unicode_utf8_first)] }
def WorldForgetsSaid : Prop := worldForgetsRow.holds Tryz.pinned (OpenSpec.ofChange worldForgetsSpec)

/-- ITS FALSE NEIGHBOUR: 'it returns false'. Refute it at one input. -/
def worldForgetsWrong : ChangeSpec := { name := "worldForgets", fn := fun _ => fun
  | [d1, d2, d3, d4] => { results := [.lit (.bool false)], args := [d1, d2, d3, d4] }
  | _ => none }
def WorldForgetsWrongFalsely : Prop := worldForgetsRow.holds Tryz.pinned (OpenSpec.ofChange worldForgetsWrong)

/- THE SECOND FORM. 'bulk': how many values and letters a reading holds, each counted each time it is reached (what is shared counts as often as it is met; a slice's spare places count too). A statement '..UptoSaid' is the law's where the arguments, and the package variables that the reading takes, are together of bulk at most 1048576: NARROWER than '..Said'. Prove '..Said' where nothing that the law and all that it calls make is longer than what came in: it says more and counts as full. Else prove '..UptoSaid'. A law counts once. -/
mutual
def uptoBulk {H : Type} : DataW H → Nat
  | .lit (.string bytes) => bytes.length + 1
  | .lit _ => 1
  | .nil => 1
  | .ptr d => uptoBulk d + 1
  | .slice elems spare => uptoBulkAll elems + uptoBulkAll spare + 1
  | .agg parts => uptoBulkAll parts + 1
  | .iface _ d => uptoBulk d + 1
  | .map entries => uptoBulkEntries entries + 1
  | .held _ => 1
def uptoBulkAll {H : Type} : List (DataW H) → Nat
  | [] => 0
  | d :: r => uptoBulk d + uptoBulkAll r
def uptoBulkEntries {H : Type} : List (Lit × DataW H) → Nat
  | [] => 0
  | x :: r => uptoBulkEntry x + uptoBulkEntries r
def uptoBulkEntry {H : Type} : Lit × DataW H → Nat
  | (.string bytes, d) => bytes.length + uptoBulk d + 1
  | (_, d) => uptoBulk d + 1
 end
def uptoSmall : (H : Type) → List (DataW H) → Bool := fun _ ds => decide (uptoBulkAll ds ≤ 1048576)
def OpenSpec.upto (s : _root_.Go.ChangeSpec) : _root_.Go.OpenSpec := { _root_.Go.OpenSpec.ofChange s with cond := some uptoSmall }

/-- 'ciceronelaw20.WorldAdds', WHERE WHAT IT READS IS OF BULK AT MOST 1048576: true; the input reads as it did. -/
def worldAddsUptoRow : OpenClaim := { program := "ytdahooejkjcjiaagreatdoor", sum := "c460ca77e4c27ef5f2590e61a94bcd9385507b13c64e099e7208a6e768151317", func := "cicerone/ciceronelaw20.WorldAdds", spec := "worldAdds", inPlace := ["internal/bytealg.IndexByteString", "internal/bytealg.IndexString", "internal/bytealg.CountString", "internal/bytealg.abigen_runtime_cmpstring", "internal/abi.NoEscape", "internal/bytealg.MakeNoZero", "maps.clone"], unfollowed := true, recurses := true, named := ["internal/bytealg.MaxLen", "unicode/utf8.first", "unicode/utf8.acceptRanges", "internal/strconv.uint64pow10", "math/bits.deBruijn32tab", "math/bits.deBruijn64tab", "cicerone/event.kindNames"], plainKeys := false, apart := false, laid := [("math/bits.deBruijn32tab", laid_math_bits_deBruijn32tab), ("math/bits.deBruijn64tab", laid_math_bits_deBruijn64tab), ("internal/strconv.uint64pow10", laid_internal_strconv_uint64pow10), ("unicode/utf8.acceptRanges", laid_unicode_utf8_acceptRanges), ("cicerone/event.kindNames", laid_cicerone_event_kindNames), ("unicode/utf8.first", laid_unicode_utf8_first)], narrowed := true }
def WorldAddsUptoSaid : Prop := worldAddsUptoRow.holds Tryz.pinned (OpenSpec.upto worldAddsSpec)

/-- 'ciceronelaw20.WorldSame', WHERE WHAT IT READS IS OF BULK AT MOST 1048576: true; the input reads as it did. -/
def worldSameUptoRow : OpenClaim := { program := "ytdahooejkjcjiaagreatdoor", sum := "c460ca77e4c27ef5f2590e61a94bcd9385507b13c64e099e7208a6e768151317", func := "cicerone/ciceronelaw20.WorldSame", spec := "worldSame", inPlace := ["internal/bytealg.IndexByteString", "internal/bytealg.IndexString", "internal/bytealg.CountString", "internal/bytealg.abigen_runtime_cmpstring", "internal/abi.NoEscape", "internal/bytealg.MakeNoZero", "maps.clone"], unfollowed := true, recurses := true, named := ["internal/bytealg.MaxLen", "unicode/utf8.first", "unicode/utf8.acceptRanges", "cicerone/event.kindNames", "internal/strconv.uint64pow10", "math/bits.deBruijn32tab", "math/bits.deBruijn64tab"], plainKeys := false, apart := false, laid := [("math/bits.deBruijn32tab", laid_math_bits_deBruijn32tab), ("math/bits.deBruijn64tab", laid_math_bits_deBruijn64tab), ("internal/strconv.uint64pow10", laid_internal_strconv_uint64pow10), ("unicode/utf8.acceptRanges", laid_unicode_utf8_acceptRanges), ("cicerone/event.kindNames", laid_cicerone_event_kindNames), ("unicode/utf8.first", laid_unicode_utf8_first)], narrowed := true }
def WorldSameUptoSaid : Prop := worldSameUptoRow.holds Tryz.pinned (OpenSpec.upto worldSameSpec)

/-- 'ciceronelaw20.WorldRows', WHERE WHAT IT READS IS OF BULK AT MOST 1048576: true; the input reads as it did. -/
def worldRowsUptoRow : OpenClaim := { program := "ytdahooejkjcjiaagreatdoor", sum := "c460ca77e4c27ef5f2590e61a94bcd9385507b13c64e099e7208a6e768151317", func := "cicerone/ciceronelaw20.WorldRows", spec := "worldRows", inPlace := ["internal/bytealg.IndexByteString", "internal/bytealg.IndexString", "internal/bytealg.CountString", "internal/bytealg.abigen_runtime_cmpstring", "internal/abi.NoEscape", "internal/bytealg.MakeNoZero", "maps.clone"], unfollowed := true, recurses := true, named := ["internal/bytealg.MaxLen", "unicode/utf8.first", "unicode/utf8.acceptRanges", "cicerone/event.kindNames", "internal/strconv.uint64pow10", "math/bits.deBruijn32tab", "math/bits.deBruijn64tab"], plainKeys := false, apart := false, laid := [("math/bits.deBruijn32tab", laid_math_bits_deBruijn32tab), ("math/bits.deBruijn64tab", laid_math_bits_deBruijn64tab), ("internal/strconv.uint64pow10", laid_internal_strconv_uint64pow10), ("unicode/utf8.acceptRanges", laid_unicode_utf8_acceptRanges), ("cicerone/event.kindNames", laid_cicerone_event_kindNames), ("unicode/utf8.first", laid_unicode_utf8_first)], narrowed := true }
def WorldRowsUptoSaid : Prop := worldRowsUptoRow.holds Tryz.pinned (OpenSpec.upto worldRowsSpec)

/-- 'ciceronelaw20.WorldOf', WHERE WHAT IT READS IS OF BULK AT MOST 1048576: true; the input reads as it did. -/
def worldOfUptoRow : OpenClaim := { program := "ytdahooejkjcjiaagreatdoor", sum := "c460ca77e4c27ef5f2590e61a94bcd9385507b13c64e099e7208a6e768151317", func := "cicerone/ciceronelaw20.WorldOf", spec := "worldOf", inPlace := ["internal/bytealg.IndexByteString", "internal/bytealg.IndexString", "internal/bytealg.CountString", "internal/bytealg.abigen_runtime_cmpstring", "internal/abi.NoEscape", "internal/bytealg.MakeNoZero", "maps.clone"], unfollowed := true, recurses := true, named := ["internal/bytealg.MaxLen", "unicode/utf8.first", "unicode/utf8.acceptRanges", "cicerone/event.kindNames", "internal/strconv.uint64pow10", "math/bits.deBruijn32tab", "math/bits.deBruijn64tab"], plainKeys := false, apart := false, laid := [("math/bits.deBruijn32tab", laid_math_bits_deBruijn32tab), ("math/bits.deBruijn64tab", laid_math_bits_deBruijn64tab), ("internal/strconv.uint64pow10", laid_internal_strconv_uint64pow10), ("unicode/utf8.acceptRanges", laid_unicode_utf8_acceptRanges), ("cicerone/event.kindNames", laid_cicerone_event_kindNames), ("unicode/utf8.first", laid_unicode_utf8_first)], narrowed := true }
def WorldOfUptoSaid : Prop := worldOfUptoRow.holds Tryz.pinned (OpenSpec.upto worldOfSpec)

/-- 'ciceronelaw20.WorldForgets', WHERE WHAT IT READS IS OF BULK AT MOST 1048576: true; the input reads as it did. -/
def worldForgetsUptoRow : OpenClaim := { program := "ytdahooejkjcjiaagreatdoor", sum := "c460ca77e4c27ef5f2590e61a94bcd9385507b13c64e099e7208a6e768151317", func := "cicerone/ciceronelaw20.WorldForgets", spec := "worldForgets", inPlace := ["internal/bytealg.IndexByteString", "internal/bytealg.IndexString", "internal/bytealg.CountString", "internal/bytealg.abigen_runtime_cmpstring", "internal/abi.NoEscape", "internal/bytealg.MakeNoZero", "maps.clone"], unfollowed := true, recurses := true, named := ["internal/bytealg.MaxLen", "unicode/utf8.first", "unicode/utf8.acceptRanges", "cicerone/event.kindNames", "internal/strconv.uint64pow10", "math/bits.deBruijn32tab", "math/bits.deBruijn64tab"], plainKeys := false, apart := false, laid := [("math/bits.deBruijn32tab", laid_math_bits_deBruijn32tab), ("math/bits.deBruijn64tab", laid_math_bits_deBruijn64tab), ("internal/strconv.uint64pow10", laid_internal_strconv_uint64pow10), ("unicode/utf8.acceptRanges", laid_unicode_utf8_acceptRanges), ("cicerone/event.kindNames", laid_cicerone_event_kindNames), ("unicode/utf8.first", laid_unicode_utf8_first)], narrowed := true }
def WorldForgetsUptoSaid : Prop := worldForgetsUptoRow.holds Tryz.pinned (OpenSpec.upto worldForgetsSpec)

end Rows
end Go.Proofs.YtdahooejkjcjiaaGreatDoor
