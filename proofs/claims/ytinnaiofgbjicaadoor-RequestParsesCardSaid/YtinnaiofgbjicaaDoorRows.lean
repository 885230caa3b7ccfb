/-
  NARROWER THAN 'FOR EVERY INPUT', by the rows' own cells (each row's printed sentence says how): RequestReads: laid · RequestNames: laid · EventWords: laid · EventShows: laid · RequestParses: laid · RequestWrites: laid · RequestBounds: laid · RequestApart: laid.
  DERIVED. THE GIVEN ROWS OF THIS SEAT. 8 by the template 'for every input the law returns true; each argument reads behind the call as it read before'; 0 by the template 'total and deterministic' (their statements: YtinnaiofgbjicaaDoorTotals.lean).
  GIVEN WITH THE SEED: the statements are not yours to turn. If you find one false, say at which input.
  Laid BY PROGRAM, IN A SANDBOX (cutbox-rows.mjs): the forced cells as the released guide's own fill.sh prints them over the translation ee11c9af7d9892b0… (all of the seat's roots in one cut). By AI agents, Wed Nov 11 2026. No macro, syntax, notation, axiom, sorry.
-/
import Derived.Test.YtinnaiofgbjicaaDoorChecked
import GoSem.PinnedTables
import GoSem.Claim
import GoSem.ClaimJoined
import GoSem.ClaimMapViews
import Derived.JoinedTies
import Derived.KernelRfl
namespace Go.Proofs.YtinnaiofgbjicaaDoor
/- THE CELL 'sum', in the pinned program and in every row, IS THE sha256 OF THE DUMP (.gsa) THAT YtinnaiofgbjicaaDoorProg.lean LOADS. Nothing in Lean hashes anything: it is a label: what it is worth is what the hold of that sum in a sandbox is worth. -/
noncomputable def Tryd.pinned : Pinned := { name := "ytinnaiofgbjicaadoor", sum := "ee11c9af7d9892b0e0732f25de06cd3067467e1a24f6e6f8bcafe5015fde7f6b", checked := Tryd.checked }
namespace Rows
def none {H : Type} : Left H := { results := [], args := [] }

/- WHAT THE LISTED PACKAGE-LEVEL VARIABLES READ AS WHEN THE CALL BEGINS. Each datum BY PROGRAM (the guide's laid-datum.mjs) off the statement by which the dump's own 'gosem.cut.vars' lays the variable. In a bare row this is a premise. The card (YtinnaiofgbjicaaDoorCards.lean) ties it to the program's text. -/
def laid_unicode_utf8_acceptRanges {H : Type} : DataW H := .agg [.agg [.lit (.int .u8 128), .lit (.int .u8 191)], .agg [.lit (.int .u8 160), .lit (.int .u8 191)], .agg [.lit (.int .u8 128), .lit (.int .u8 159)], .agg [.lit (.int .u8 144), .lit (.int .u8 191)], .agg [.lit (.int .u8 128), .lit (.int .u8 143)], .agg [.lit (.int .u8 0), .lit (.int .u8 0)], .agg [.lit (.int .u8 0), .lit (.int .u8 0)], .agg [.lit (.int .u8 0), .lit (.int .u8 0)], .agg [.lit (.int .u8 0), .lit (.int .u8 0)], .agg [.lit (.int .u8 0), .lit (.int .u8 0)], .agg [.lit (.int .u8 0), .lit (.int .u8 0)], .agg [.lit (.int .u8 0), .lit (.int .u8 0)], .agg [.lit (.int .u8 0), .lit (.int .u8 0)], .agg [.lit (.int .u8 0), .lit (.int .u8 0)], .agg [.lit (.int .u8 0), .lit (.int .u8 0)], .agg [.lit (.int .u8 0), .lit (.int .u8 0)]]
/-- One of Go's own tables, pinned by name: the form's constant. -/
def laid_unicode_utf8_first : DataW Unit := Go.Pinned.utf8First
def laid_math_bits_deBruijn32tab {H : Type} : DataW H := .agg [.lit (.int .u8 0), .lit (.int .u8 1), .lit (.int .u8 28), .lit (.int .u8 2), .lit (.int .u8 29), .lit (.int .u8 14), .lit (.int .u8 24), .lit (.int .u8 3), .lit (.int .u8 30), .lit (.int .u8 22), .lit (.int .u8 20), .lit (.int .u8 15), .lit (.int .u8 25), .lit (.int .u8 17), .lit (.int .u8 4), .lit (.int .u8 8), .lit (.int .u8 31), .lit (.int .u8 27), .lit (.int .u8 13), .lit (.int .u8 23), .lit (.int .u8 21), .lit (.int .u8 19), .lit (.int .u8 16), .lit (.int .u8 7), .lit (.int .u8 26), .lit (.int .u8 12), .lit (.int .u8 18), .lit (.int .u8 6), .lit (.int .u8 11), .lit (.int .u8 5), .lit (.int .u8 10), .lit (.int .u8 9)]
def laid_math_bits_deBruijn64tab {H : Type} : DataW H := .agg [.lit (.int .u8 0), .lit (.int .u8 1), .lit (.int .u8 56), .lit (.int .u8 2), .lit (.int .u8 57), .lit (.int .u8 49), .lit (.int .u8 28), .lit (.int .u8 3), .lit (.int .u8 61), .lit (.int .u8 58), .lit (.int .u8 42), .lit (.int .u8 50), .lit (.int .u8 38), .lit (.int .u8 29), .lit (.int .u8 17), .lit (.int .u8 4), .lit (.int .u8 62), .lit (.int .u8 47), .lit (.int .u8 59), .lit (.int .u8 36), .lit (.int .u8 45), .lit (.int .u8 43), .lit (.int .u8 51), .lit (.int .u8 22), .lit (.int .u8 53), .lit (.int .u8 39), .lit (.int .u8 33), .lit (.int .u8 30), .lit (.int .u8 24), .lit (.int .u8 18), .lit (.int .u8 12), .lit (.int .u8 5), .lit (.int .u8 63), .lit (.int .u8 55), .lit (.int .u8 48), .lit (.int .u8 27), .lit (.int .u8 60), .lit (.int .u8 41), .lit (.int .u8 37), .lit (.int .u8 16), .lit (.int .u8 46), .lit (.int .u8 35), .lit (.int .u8 44), .lit (.int .u8 21), .lit (.int .u8 52), .lit (.int .u8 32), .lit (.int .u8 23), .lit (.int .u8 11), .lit (.int .u8 54), .lit (.int .u8 26), .lit (.int .u8 40), .lit (.int .u8 15), .lit (.int .u8 34), .lit (.int .u8 20), .lit (.int .u8 31), .lit (.int .u8 10), .lit (.int .u8 25), .lit (.int .u8 14), .lit (.int .u8 19), .lit (.int .u8 9), .lit (.int .u8 13), .lit (.int .u8 8), .lit (.int .u8 7), .lit (.int .u8 6)]
def laid_internal_strconv_uint64pow10 {H : Type} : DataW H := .agg [.lit (.int .u64 1), .lit (.int .u64 10), .lit (.int .u64 100), .lit (.int .u64 1000), .lit (.int .u64 10000), .lit (.int .u64 100000), .lit (.int .u64 1000000), .lit (.int .u64 10000000), .lit (.int .u64 100000000), .lit (.int .u64 1000000000), .lit (.int .u64 10000000000), .lit (.int .u64 100000000000), .lit (.int .u64 1000000000000), .lit (.int .u64 10000000000000), .lit (.int .u64 100000000000000), .lit (.int .u64 1000000000000000), .lit (.int .u64 10000000000000000), .lit (.int .u64 100000000000000000), .lit (.int .u64 1000000000000000000), .lit (.int .u64 10000000000000000000)]

/-- 'rondellaw09.RequestReads': WHATEVER THE INPUT: true; the input reads as it did. -/
def requestReadsSpec : ChangeSpec := { name := "requestReads", fn := fun _ => fun
  | [d1, d2, d3, d4] => { results := [.lit (.bool true)], args := [d1, d2, d3, d4] }
  | _ => none }
def requestReadsRow : OpenClaim := { program := "ytinnaiofgbjicaadoor", sum := "ee11c9af7d9892b0e0732f25de06cd3067467e1a24f6e6f8bcafe5015fde7f6b", func := "rondel/rondellaw09.RequestReads", spec := "requestReads", inPlace := ["internal/abi.NoEscape", "internal/bytealg.IndexByteString", "internal/bytealg.IndexString"], unfollowed := true, recurses := true, named := ["unicode/utf8.first", "unicode/utf8.acceptRanges", "internal/bytealg.MaxLen"], apart := false, laid := [("unicode/utf8.acceptRanges", laid_unicode_utf8_acceptRanges), ("unicode/utf8.first", laid_unicode_utf8_first)] }
def RequestReadsSaid : Prop := requestReadsRow.holds Tryd.pinned (OpenSpec.ofChange requestReadsSpec)

/-- ITS FALSE NEIGHBOUR: 'it returns false'. Refute it at one input. -/
def requestReadsWrong : ChangeSpec := { name := "requestReads", fn := fun _ => fun
  | [d1, d2, d3, d4] => { results := [.lit (.bool false)], args := [d1, d2, d3, d4] }
  | _ => none }
def RequestReadsWrongFalsely : Prop := requestReadsRow.holds Tryd.pinned (OpenSpec.ofChange requestReadsWrong)

/-- 'rondellaw09.RequestNames': WHATEVER THE INPUT: true; the input reads as it did. -/
def requestNamesSpec : ChangeSpec := { name := "requestNames", fn := fun _ => fun
  | [d] => { results := [.lit (.bool true)], args := [d] }
  | _ => none }
def requestNamesRow : OpenClaim := { program := "ytinnaiofgbjicaadoor", sum := "ee11c9af7d9892b0e0732f25de06cd3067467e1a24f6e6f8bcafe5015fde7f6b", func := "rondel/rondellaw09.RequestNames", spec := "requestNames", inPlace := ["internal/abi.NoEscape", "internal/bytealg.IndexByteString", "internal/bytealg.IndexString"], unfollowed := true, recurses := true, named := ["unicode/utf8.first", "unicode/utf8.acceptRanges", "internal/bytealg.MaxLen"], apart := false, laid := [("unicode/utf8.acceptRanges", laid_unicode_utf8_acceptRanges), ("unicode/utf8.first", laid_unicode_utf8_first)] }
def RequestNamesSaid : Prop := requestNamesRow.holds Tryd.pinned (OpenSpec.ofChange requestNamesSpec)

/-- ITS FALSE NEIGHBOUR: 'it returns false'. Refute it at one input. -/
def requestNamesWrong : ChangeSpec := { name := "requestNames", fn := fun _ => fun
  | [d] => { results := [.lit (.bool false)], args := [d] }
  | _ => none }
def RequestNamesWrongFalsely : Prop := requestNamesRow.holds Tryd.pinned (OpenSpec.ofChange requestNamesWrong)

/-- 'rondellaw10.EventWords': WHATEVER THE INPUT: true; the input reads as it did. -/
def eventWordsSpec : ChangeSpec := { name := "eventWords", fn := fun _ => fun
  | [d1, d2] => { results := [.lit (.bool true)], args := [d1, d2] }
  | _ => none }
def eventWordsRow : OpenClaim := { program := "ytinnaiofgbjicaadoor", sum := "ee11c9af7d9892b0e0732f25de06cd3067467e1a24f6e6f8bcafe5015fde7f6b", func := "rondel/rondellaw10.EventWords", spec := "eventWords", inPlace := ["internal/bytealg.IndexByteString", "internal/bytealg.IndexString"], recurses := true, named := ["internal/strconv.uint64pow10", "math/bits.deBruijn32tab", "math/bits.deBruijn64tab", "internal/bytealg.MaxLen"], apart := false, laid := [("math/bits.deBruijn32tab", laid_math_bits_deBruijn32tab), ("math/bits.deBruijn64tab", laid_math_bits_deBruijn64tab), ("internal/strconv.uint64pow10", laid_internal_strconv_uint64pow10)] }
def EventWordsSaid : Prop := eventWordsRow.holds Tryd.pinned (OpenSpec.ofChange eventWordsSpec)

/-- ITS FALSE NEIGHBOUR: 'it returns false'. Refute it at one input. -/
def eventWordsWrong : ChangeSpec := { name := "eventWords", fn := fun _ => fun
  | [d1, d2] => { results := [.lit (.bool false)], args := [d1, d2] }
  | _ => none }
def EventWordsWrongFalsely : Prop := eventWordsRow.holds Tryd.pinned (OpenSpec.ofChange eventWordsWrong)

/-- 'rondellaw10.EventShows': WHATEVER THE INPUT: true; the input reads as it did. -/
def eventShowsSpec : ChangeSpec := { name := "eventShows", fn := fun _ => fun
  | [d1, d2] => { results := [.lit (.bool true)], args := [d1, d2] }
  | _ => none }
def eventShowsRow : OpenClaim := { program := "ytinnaiofgbjicaadoor", sum := "ee11c9af7d9892b0e0732f25de06cd3067467e1a24f6e6f8bcafe5015fde7f6b", func := "rondel/rondellaw10.EventShows", spec := "eventShows", inPlace := ["internal/bytealg.IndexByteString", "internal/bytealg.IndexString"], recurses := true, named := ["internal/strconv.uint64pow10", "math/bits.deBruijn32tab", "math/bits.deBruijn64tab", "internal/bytealg.MaxLen"], apart := false, laid := [("math/bits.deBruijn32tab", laid_math_bits_deBruijn32tab), ("math/bits.deBruijn64tab", laid_math_bits_deBruijn64tab), ("internal/strconv.uint64pow10", laid_internal_strconv_uint64pow10)] }
def EventShowsSaid : Prop := eventShowsRow.holds Tryd.pinned (OpenSpec.ofChange eventShowsSpec)

/-- ITS FALSE NEIGHBOUR: 'it returns false'. Refute it at one input. -/
def eventShowsWrong : ChangeSpec := { name := "eventShows", fn := fun _ => fun
  | [d1, d2] => { results := [.lit (.bool false)], args := [d1, d2] }
  | _ => none }
def EventShowsWrongFalsely : Prop := eventShowsRow.holds Tryd.pinned (OpenSpec.ofChange eventShowsWrong)

/-- 'rondellaw09.RequestParses': WHATEVER THE INPUT: true; the input reads as it did. -/
def requestParsesSpec : ChangeSpec := { name := "requestParses", fn := fun _ => fun
  | [d1, d2, d3, d4] => { results := [.lit (.bool true)], args := [d1, d2, d3, d4] }
  | _ => none }
def requestParsesRow : OpenClaim := { program := "ytinnaiofgbjicaadoor", sum := "ee11c9af7d9892b0e0732f25de06cd3067467e1a24f6e6f8bcafe5015fde7f6b", func := "rondel/rondellaw09.RequestParses", spec := "requestParses", inPlace := ["internal/abi.NoEscape", "internal/bytealg.IndexByteString", "internal/bytealg.IndexString"], unfollowed := true, recurses := true, named := ["unicode/utf8.first", "unicode/utf8.acceptRanges", "internal/bytealg.MaxLen"], apart := false, laid := [("unicode/utf8.acceptRanges", laid_unicode_utf8_acceptRanges), ("unicode/utf8.first", laid_unicode_utf8_first)] }
def RequestParsesSaid : Prop := requestParsesRow.holds Tryd.pinned (OpenSpec.ofChange requestParsesSpec)

/-- ITS FALSE NEIGHBOUR: 'it returns false'. Refute it at one input. -/
def requestParsesWrong : ChangeSpec := { name := "requestParses", fn := fun _ => fun
  | [d1, d2, d3, d4] => { results := [.lit (.bool false)], args := [d1, d2, d3, d4] }
  | _ => none }
def RequestParsesWrongFalsely : Prop := requestParsesRow.holds Tryd.pinned (OpenSpec.ofChange requestParsesWrong)

/-- 'rondellaw09.RequestWrites': WHATEVER THE INPUT: true; the input reads as it did. -/
def requestWritesSpec : ChangeSpec := { name := "requestWrites", fn := fun _ => fun
  | [d1, d2] => { results := [.lit (.bool true)], args := [d1, d2] }
  | _ => none }
def requestWritesRow : OpenClaim := { program := "ytinnaiofgbjicaadoor", sum := "ee11c9af7d9892b0e0732f25de06cd3067467e1a24f6e6f8bcafe5015fde7f6b", func := "rondel/rondellaw09.RequestWrites", spec := "requestWrites", inPlace := ["internal/abi.NoEscape", "internal/bytealg.IndexByteString", "internal/bytealg.IndexString"], unfollowed := true, recurses := true, named := ["unicode/utf8.first", "unicode/utf8.acceptRanges", "internal/bytealg.MaxLen"], apart := false, laid := [("unicode/utf8.acceptRanges", laid_unicode_utf8_acceptRanges), ("unicode/utf8.first", laid_unicode_utf8_first)] }
def RequestWritesSaid : Prop := requestWritesRow.holds Tryd.pinned (OpenSpec.ofChange requestWritesSpec)

/-- ITS FALSE NEIGHBOUR: 'it returns false'. Refute it at one input. -/
def requestWritesWrong : ChangeSpec := { name := "requestWrites", fn := fun _ => fun
  | [d1, d2] => { results := [.lit (.bool false)], args := [d1, d2] }
  | _ => none }
def RequestWritesWrongFalsely : Prop := requestWritesRow.holds Tryd.pinned (OpenSpec.ofChange requestWritesWrong)

/-- 'rondellaw09.RequestBounds': WHATEVER THE INPUT: true; the input reads as it did. -/
def requestBoundsSpec : ChangeSpec := { name := "requestBounds", fn := fun _ => fun
  | [d1, d2, d3] => { results := [.lit (.bool true)], args := [d1, d2, d3] }
  | _ => none }
def requestBoundsRow : OpenClaim := { program := "ytinnaiofgbjicaadoor", sum := "ee11c9af7d9892b0e0732f25de06cd3067467e1a24f6e6f8bcafe5015fde7f6b", func := "rondel/rondellaw09.RequestBounds", spec := "requestBounds", inPlace := ["internal/abi.NoEscape", "internal/bytealg.IndexByteString", "internal/bytealg.IndexString"], unfollowed := true, recurses := true, named := ["unicode/utf8.first", "unicode/utf8.acceptRanges", "internal/bytealg.MaxLen"], apart := false, laid := [("unicode/utf8.acceptRanges", laid_unicode_utf8_acceptRanges), ("unicode/utf8.first", laid_unicode_utf8_first)] }
def RequestBoundsSaid : Prop := requestBoundsRow.holds Tryd.pinned (OpenSpec.ofChange requestBoundsSpec)

/-- ITS FALSE NEIGHBOUR: 'it returns false'. Refute it at one input. -/
def requestBoundsWrong : ChangeSpec := { name := "requestBounds", fn := fun _ => fun
  | [d1, d2, d3] => { results := [.lit (.bool false)], args := [d1, d2, d3] }
  | _ => none }
def RequestBoundsWrongFalsely : Prop := requestBoundsRow.holds Tryd.pinned (OpenSpec.ofChange requestBoundsWrong)

/-- 'rondellaw09.RequestApart': WHATEVER THE INPUT: true; the input reads as it did. -/
def requestApartSpec : ChangeSpec := { name := "requestApart", fn := fun _ => fun
  | [d1, d2] => { results := [.lit (.bool true)], args := [d1, d2] }
  | _ => none }
def requestApartRow : OpenClaim := { program := "ytinnaiofgbjicaadoor", sum := "ee11c9af7d9892b0e0732f25de06cd3067467e1a24f6e6f8bcafe5015fde7f6b", func := "rondel/rondellaw09.RequestApart", spec := "requestApart", inPlace := ["internal/abi.NoEscape", "internal/bytealg.IndexByteString", "internal/bytealg.IndexString"], unfollowed := true, recurses := true, named := ["unicode/utf8.first", "unicode/utf8.acceptRanges", "internal/bytealg.MaxLen"], apart := false, laid := [("unicode/utf8.acceptRanges", laid_unicode_utf8_acceptRanges), ("unicode/utf8.first", laid_unicode_utf8_first)] }
def RequestApartSaid : Prop := requestApartRow.holds Tryd.pinned (OpenSpec.ofChange requestApartSpec)

/-- ITS FALSE NEIGHBOUR: 'it returns false'. Refute it at one input. -/
def requestApartWrong : ChangeSpec := { name := "requestApart", fn := fun _ => fun
  | [d1, d2] => { results := [.lit (.bool false)], args := [d1, d2] }
  | _ => none }
def RequestApartWrongFalsely : Prop := requestApartRow.holds Tryd.pinned (OpenSpec.ofChange requestApartWrong)

/- THE SECOND FORM. 'bulk': how many values and letters a reading holds, each counted each time it is reached (what is shared counts as often as it is met; a slice's spare places count too). A statement '..UptoSaid' is the law's where the arguments, and the package variables that the reading takes, are together of bulk at most 1048576: NARROWER than '..Said'. Prove '..Said' where nothing that the law and all that it calls make is longer than what came in: it says more and counts as full. Else prove '..UptoSaid'. A law counts once. -/
mutual
def uptoBulk {H : Type} : DataW H → Nat
  | .lit (.string bytes) => bytes.length + 1
  | .lit _ => 1
  | .nil => 1
  | .ptr d => uptoBulk d + 1
  | .slice elems spare => uptoBulkAll elems + uptoBulkAll spare + 1
  | .agg parts => uptoBulkAll parts + 1
  | .iface _ d => uptoBulk d + 1
  | .map entries => uptoBulkEntries entries + 1
  | .held _ => 1
def uptoBulkAll {H : Type} : List (DataW H) → Nat
  | [] => 0
  | d :: r => uptoBulk d + uptoBulkAll r
def uptoBulkEntries {H : Type} : List (Lit × DataW H) → Nat
  | [] => 0
  | x :: r => uptoBulkEntry x + uptoBulkEntries r
def uptoBulkEntry {H : Type} : Lit × DataW H → Nat
  | (.string bytes, d) => bytes.length + uptoBulk d + 1
  | (_, d) => uptoBulk d + 1
 end
def uptoSmall : (H : Type) → List (DataW H) → Bool := fun _ ds => decide (uptoBulkAll ds ≤ 1048576)
def OpenSpec.upto (s : _root_.Go.ChangeSpec) : _root_.Go.OpenSpec := { _root_.Go.OpenSpec.ofChange s with cond := some uptoSmall }

/-- 'rondellaw09.RequestReads', WHERE WHAT IT READS IS OF BULK AT MOST 1048576: true; the input reads as it did. -/
def requestReadsUptoRow : OpenClaim := { program := "ytinnaiofgbjicaadoor", sum := "ee11c9af7d9892b0e0732f25de06cd3067467e1a24f6e6f8bcafe5015fde7f6b", func := "rondel/rondellaw09.RequestReads", spec := "requestReads", inPlace := ["internal/abi.NoEscape", "internal/bytealg.IndexByteString", "internal/bytealg.IndexString"], unfollowed := true, recurses := true, named := ["unicode/utf8.first", "unicode/utf8.acceptRanges", "internal/bytealg.MaxLen"], apart := false, laid := [("unicode/utf8.acceptRanges", laid_unicode_utf8_acceptRanges), ("unicode/utf8.first", laid_unicode_utf8_first)], narrowed := true }
def RequestReadsUptoSaid : Prop := requestReadsUptoRow.holds Tryd.pinned (OpenSpec.upto requestReadsSpec)

/-- 'rondellaw09.RequestNames', WHERE WHAT IT READS IS OF BULK AT MOST 1048576: true; the input reads as it did. -/
def requestNamesUptoRow : OpenClaim := { program := "ytinnaiofgbjicaadoor", sum := "ee11c9af7d9892b0e0732f25de06cd3067467e1a24f6e6f8bcafe5015fde7f6b", func := "rondel/rondellaw09.RequestNames", spec := "requestNames", inPlace := ["internal/abi.NoEscape", "internal/bytealg.IndexByteString", "internal/bytealg.IndexString"], unfollowed := true, recurses := true, named := ["unicode/utf8.first", "unicode/utf8.acceptRanges", "internal/bytealg.MaxLen"], apart := false, laid := [("unicode/utf8.acceptRanges", laid_unicode_utf8_acceptRanges), ("unicode/utf8.first", laid_unicode_utf8_first)], narrowed := true }
def RequestNamesUptoSaid : Prop := requestNamesUptoRow.holds Tryd.pinned (OpenSpec.upto requestNamesSpec)

/-- 'rondellaw10.EventWords', WHERE WHAT IT READS IS OF BULK AT MOST 1048576: true; the input reads as it did. -/
def eventWordsUptoRow : OpenClaim := { program := "ytinnaiofgbjicaadoor", sum := "ee11c9af7d9892b0e0732f25de06cd3067467e1a24f6e6f8bcafe5015fde7f6b", func := "rondel/rondellaw10.EventWords", spec := "eventWords", inPlace := ["internal/bytealg.IndexByteString", "internal/bytealg.IndexString"], recurses := true, named := ["internal/strconv.uint64pow10", "math/bits.deBruijn32tab", "math/bits.deBruijn64tab", "internal/bytealg.MaxLen"], apart := false, laid := [("math/bits.deBruijn32tab", laid_math_bits_deBruijn32tab), ("math/bits.deBruijn64tab", laid_math_bits_deBruijn64tab), ("internal/strconv.uint64pow10", laid_internal_strconv_uint64pow10)], narrowed := true }
def EventWordsUptoSaid : Prop := eventWordsUptoRow.holds Tryd.pinned (OpenSpec.upto eventWordsSpec)

/-- 'rondellaw10.EventShows', WHERE WHAT IT READS IS OF BULK AT MOST 1048576: true; the input reads as it did. -/
def eventShowsUptoRow : OpenClaim := { program := "ytinnaiofgbjicaadoor", sum := "ee11c9af7d9892b0e0732f25de06cd3067467e1a24f6e6f8bcafe5015fde7f6b", func := "rondel/rondellaw10.EventShows", spec := "eventShows", inPlace := ["internal/bytealg.IndexByteString", "internal/bytealg.IndexString"], recurses := true, named := ["internal/strconv.uint64pow10", "math/bits.deBruijn32tab", "math/bits.deBruijn64tab", "internal/bytealg.MaxLen"], apart := false, laid := [("math/bits.deBruijn32tab", laid_math_bits_deBruijn32tab), ("math/bits.deBruijn64tab", laid_math_bits_deBruijn64tab), ("internal/strconv.uint64pow10", laid_internal_strconv_uint64pow10)], narrowed := true }
def EventShowsUptoSaid : Prop := eventShowsUptoRow.holds Tryd.pinned (OpenSpec.upto eventShowsSpec)

/-- 'rondellaw09.RequestParses', WHERE WHAT IT READS IS OF BULK AT MOST 1048576: true; the input reads as it did. -/
def requestParsesUptoRow : OpenClaim := { program := "ytinnaiofgbjicaadoor", sum := "ee11c9af7d9892b0e0732f25de06cd3067467e1a24f6e6f8bcafe5015fde7f6b", func := "rondel/rondellaw09.RequestParses", spec := "requestParses", inPlace := ["internal/abi.NoEscape", "internal/bytealg.IndexByteString", "internal/bytealg.IndexString"], unfollowed := true, recurses := true, named := ["unicode/utf8.first", "unicode/utf8.acceptRanges", "internal/bytealg.MaxLen"], apart := false, laid := [("unicode/utf8.acceptRanges", laid_unicode_utf8_acceptRanges), ("unicode/utf8.first", laid_unicode_utf8_first)], narrowed := true }
def RequestParsesUptoSaid : Prop := requestParsesUptoRow.holds Tryd.pinned (OpenSpec.upto requestParsesSpec)

/-- 'rondellaw09.RequestWrites', WHERE WHAT IT READS IS OF BULK AT MOST 1048576: true; the input reads as it did. -/
def requestWritesUptoRow : OpenClaim := { program := "ytinnaiofgbjicaadoor", sum := "ee11c9af7d9892b0e0732f25de06cd3067467e1a24f6e6f8bcafe5015fde7f6b", func := "rondel/rondellaw09.RequestWrites", spec := "requestWrites", inPlace := ["internal/abi.NoEscape", "internal/bytealg.IndexByteString", "internal/bytealg.IndexString"], unfollowed := true, recurses := true, named := ["unicode/utf8.first", "unicode/utf8.acceptRanges", "internal/bytealg.MaxLen"], apart := false, laid := [("unicode/utf8.acceptRanges", laid_unicode_utf8_acceptRanges), ("unicode/utf8.first", laid_unicode_utf8_first)], narrowed := true }
def RequestWritesUptoSaid : Prop := requestWritesUptoRow.holds Tryd.pinned (OpenSpec.upto requestWritesSpec)

/-- 'rondellaw09.RequestBounds', WHERE WHAT IT READS IS OF BULK AT MOST 1048576: true; the input reads as it did. -/
def requestBoundsUptoRow : OpenClaim := { program := "ytinnaiofgbjicaadoor", sum := "ee11c9af7d9892b0e0732f25de06cd3067467e1a24f6e6f8bcafe5015fde7f6b", func := "rondel/rondellaw09.RequestBounds", spec := "requestBounds", inPlace := ["internal/abi.NoEscape", "internal/bytealg.IndexByteString", "internal/bytealg.IndexString"], unfollowed := true, recurses := true, named := ["unicode/utf8.first", "unicode/utf8.acceptRanges", "internal/bytealg.MaxLen"], apart := false, laid := [("unicode/utf8.acceptRanges", laid_unicode_utf8_acceptRanges), ("unicode/utf8.first", laid_unicode_utf8_first)], narrowed := true }
def RequestBoundsUptoSaid : Prop := requestBoundsUptoRow.holds Tryd.pinned (OpenSpec.upto requestBoundsSpec)

/-- 'rondellaw09.RequestApart', WHERE WHAT IT READS IS OF BULK AT MOST 1048576: true; the input reads as it did. -/
def requestApartUptoRow : OpenClaim := { program := "ytinnaiofgbjicaadoor", sum := "ee11c9af7d9892b0e0732f25de06cd3067467e1a24f6e6f8bcafe5015fde7f6b", func := "rondel/rondellaw09.RequestApart", spec := "requestApart", inPlace := ["internal/abi.NoEscape", "internal/bytealg.IndexByteString", "internal/bytealg.IndexString"], unfollowed := true, recurses := true, named := ["unicode/utf8.first", "unicode/utf8.acceptRanges", "internal/bytealg.MaxLen"], apart := false, laid := [("unicode/utf8.acceptRanges", laid_unicode_utf8_acceptRanges), ("unicode/utf8.first", laid_unicode_utf8_first)], narrowed := true }
def RequestApartUptoSaid : Prop := requestApartUptoRow.holds Tryd.pinned (OpenSpec.upto requestApartSpec)

end Rows
end Go.Proofs.YtinnaiofgbjicaaDoor
