/-
  No cell of these rows narrows 'for every input' (looked for: loops, veiled, ifaces, maps, wideKeys, modest, calm, conditions, laid).
  DERIVED. THE GIVEN ROWS OF THIS SEAT. 8 by the template 'for every input the law returns true; each argument reads behind the call as it read before'; 0 by the template 'total and deterministic' (their statements: YtmchgchhmhhnkaaTotals.lean).
  GIVEN WITH THE SEED: the statements are not yours to turn. If you find one false, say at which input.
  Laid BY PROGRAM, IN A SANDBOX (cutbox-rows.mjs): the forced cells as the released guide's own fill.sh prints them over the translation 5ec7b7e5f61c7bc3… (all of the seat's roots in one cut). By AI agents, Wed Nov 11 2026. No macro, syntax, notation, axiom, sorry.
-/
import Derived.Test.YtmchgchhmhhnkaaChecked
import GoSem.Claim
import GoSem.ClaimJoined
import GoSem.ClaimMapViews
import Derived.JoinedTies
import Derived.KernelRfl
namespace Go.Proofs.Ytmchgchhmhhnkaa
/- THE CELL 'sum', in the pinned program and in every row, IS THE sha256 OF THE DUMP (.gsa) THAT YtmchgchhmhhnkaaProg.lean LOADS. Nothing in Lean hashes anything: it is a label: what it is worth is what the hold of that sum in a sandbox is worth. -/
noncomputable def Try.pinned : Pinned := { name := "ytmchgchhmhhnkaa", sum := "5ec7b7e5f61c7bc3316750ff8146e3b5b4095748a762f63d8a6da301366dda6b", checked := Try.checked }
namespace Rows
def none {H : Type} : Left H := { results := [], args := [] }

/-- 'rondellaw03.ColorPart': WHATEVER THE INPUT: true; the input reads as it did. -/
def colorPartSpec : ChangeSpec := { name := "colorPart", fn := fun _ => fun
  | [d1, d2] => { results := [.lit (.bool true)], args := [d1, d2] }
  | _ => none }
def colorPartRow : OpenClaim := { program := "ytmchgchhmhhnkaa", sum := "5ec7b7e5f61c7bc3316750ff8146e3b5b4095748a762f63d8a6da301366dda6b", func := "rondel/rondellaw03.ColorPart", spec := "colorPart", unfollowed := true, recurses := true, apart := false }
def ColorPartSaid : Prop := colorPartRow.holds Try.pinned (OpenSpec.ofChange colorPartSpec)

/-- ITS FALSE NEIGHBOUR: 'it returns false'. Refute it at one input. -/
def colorPartWrong : ChangeSpec := { name := "colorPart", fn := fun _ => fun
  | [d1, d2] => { results := [.lit (.bool false)], args := [d1, d2] }
  | _ => none }
def ColorPartWrongFalsely : Prop := colorPartRow.holds Try.pinned (OpenSpec.ofChange colorPartWrong)

/-- 'rondellaw03.ColorOrder': WHATEVER THE INPUT: true; the input reads as it did. -/
def colorOrderSpec : ChangeSpec := { name := "colorOrder", fn := fun _ => fun
  | [d1, d2, d3, d4] => { results := [.lit (.bool true)], args := [d1, d2, d3, d4] }
  | _ => none }
def colorOrderRow : OpenClaim := { program := "ytmchgchhmhhnkaa", sum := "5ec7b7e5f61c7bc3316750ff8146e3b5b4095748a762f63d8a6da301366dda6b", func := "rondel/rondellaw03.ColorOrder", spec := "colorOrder", unfollowed := true, recurses := true, apart := false }
def ColorOrderSaid : Prop := colorOrderRow.holds Try.pinned (OpenSpec.ofChange colorOrderSpec)

/-- ITS FALSE NEIGHBOUR: 'it returns false'. Refute it at one input. -/
def colorOrderWrong : ChangeSpec := { name := "colorOrder", fn := fun _ => fun
  | [d1, d2, d3, d4] => { results := [.lit (.bool false)], args := [d1, d2, d3, d4] }
  | _ => none }
def ColorOrderWrongFalsely : Prop := colorOrderRow.holds Try.pinned (OpenSpec.ofChange colorOrderWrong)

/-- 'rondellaw03.ColorBetween': WHATEVER THE INPUT: true; the input reads as it did. -/
def colorBetweenSpec : ChangeSpec := { name := "colorBetween", fn := fun _ => fun
  | [d] => { results := [.lit (.bool true)], args := [d] }
  | _ => none }
def colorBetweenRow : OpenClaim := { program := "ytmchgchhmhhnkaa", sum := "5ec7b7e5f61c7bc3316750ff8146e3b5b4095748a762f63d8a6da301366dda6b", func := "rondel/rondellaw03.ColorBetween", spec := "colorBetween", unfollowed := true, recurses := true, apart := false }
def ColorBetweenSaid : Prop := colorBetweenRow.holds Try.pinned (OpenSpec.ofChange colorBetweenSpec)

/-- ITS FALSE NEIGHBOUR: 'it returns false'. Refute it at one input. -/
def colorBetweenWrong : ChangeSpec := { name := "colorBetween", fn := fun _ => fun
  | [d] => { results := [.lit (.bool false)], args := [d] }
  | _ => none }
def ColorBetweenWrongFalsely : Prop := colorBetweenRow.holds Try.pinned (OpenSpec.ofChange colorBetweenWrong)

/-- 'rondellaw03.ColorCovers': WHATEVER THE INPUT: true; the input reads as it did. -/
def colorCoversSpec : ChangeSpec := { name := "colorCovers", fn := fun _ => fun
  | [d1, d2] => { results := [.lit (.bool true)], args := [d1, d2] }
  | _ => none }
def colorCoversRow : OpenClaim := { program := "ytmchgchhmhhnkaa", sum := "5ec7b7e5f61c7bc3316750ff8146e3b5b4095748a762f63d8a6da301366dda6b", func := "rondel/rondellaw03.ColorCovers", spec := "colorCovers", unfollowed := true, recurses := true, apart := false }
def ColorCoversSaid : Prop := colorCoversRow.holds Try.pinned (OpenSpec.ofChange colorCoversSpec)

/-- ITS FALSE NEIGHBOUR: 'it returns false'. Refute it at one input. -/
def colorCoversWrong : ChangeSpec := { name := "colorCovers", fn := fun _ => fun
  | [d1, d2] => { results := [.lit (.bool false)], args := [d1, d2] }
  | _ => none }
def ColorCoversWrongFalsely : Prop := colorCoversRow.holds Try.pinned (OpenSpec.ofChange colorCoversWrong)

/-- 'rondellaw03.ColorParts': WHATEVER THE INPUT: true; the input reads as it did. -/
def colorPartsSpec : ChangeSpec := { name := "colorParts", fn := fun _ => fun
  | [d1, d2] => { results := [.lit (.bool true)], args := [d1, d2] }
  | _ => none }
def colorPartsRow : OpenClaim := { program := "ytmchgchhmhhnkaa", sum := "5ec7b7e5f61c7bc3316750ff8146e3b5b4095748a762f63d8a6da301366dda6b", func := "rondel/rondellaw03.ColorParts", spec := "colorParts", unfollowed := true, recurses := true, apart := false }
def ColorPartsSaid : Prop := colorPartsRow.holds Try.pinned (OpenSpec.ofChange colorPartsSpec)

/-- ITS FALSE NEIGHBOUR: 'it returns false'. Refute it at one input. -/
def colorPartsWrong : ChangeSpec := { name := "colorParts", fn := fun _ => fun
  | [d1, d2] => { results := [.lit (.bool false)], args := [d1, d2] }
  | _ => none }
def ColorPartsWrongFalsely : Prop := colorPartsRow.holds Try.pinned (OpenSpec.ofChange colorPartsWrong)

/-- 'rondellaw03.ColorPre': WHATEVER THE INPUT: true; the input reads as it did. -/
def colorPreSpec : ChangeSpec := { name := "colorPre", fn := fun _ => fun
  | [d] => { results := [.lit (.bool true)], args := [d] }
  | _ => none }
def colorPreRow : OpenClaim := { program := "ytmchgchhmhhnkaa", sum := "5ec7b7e5f61c7bc3316750ff8146e3b5b4095748a762f63d8a6da301366dda6b", func := "rondel/rondellaw03.ColorPre", spec := "colorPre", unfollowed := true, recurses := true, apart := false }
def ColorPreSaid : Prop := colorPreRow.holds Try.pinned (OpenSpec.ofChange colorPreSpec)

/-- ITS FALSE NEIGHBOUR: 'it returns false'. Refute it at one input. -/
def colorPreWrong : ChangeSpec := { name := "colorPre", fn := fun _ => fun
  | [d] => { results := [.lit (.bool false)], args := [d] }
  | _ => none }
def ColorPreWrongFalsely : Prop := colorPreRow.holds Try.pinned (OpenSpec.ofChange colorPreWrong)

/-- 'rondellaw03.ColorOver': WHATEVER THE INPUT: true; the input reads as it did. -/
def colorOverSpec : ChangeSpec := { name := "colorOver", fn := fun _ => fun
  | [d1, d2, d3] => { results := [.lit (.bool true)], args := [d1, d2, d3] }
  | _ => none }
def colorOverRow : OpenClaim := { program := "ytmchgchhmhhnkaa", sum := "5ec7b7e5f61c7bc3316750ff8146e3b5b4095748a762f63d8a6da301366dda6b", func := "rondel/rondellaw03.ColorOver", spec := "colorOver", unfollowed := true, recurses := true, apart := false }
def ColorOverSaid : Prop := colorOverRow.holds Try.pinned (OpenSpec.ofChange colorOverSpec)

/-- ITS FALSE NEIGHBOUR: 'it returns false'. Refute it at one input. -/
def colorOverWrong : ChangeSpec := { name := "colorOver", fn := fun _ => fun
  | [d1, d2, d3] => { results := [.lit (.bool false)], args := [d1, d2, d3] }
  | _ => none }
def ColorOverWrongFalsely : Prop := colorOverRow.holds Try.pinned (OpenSpec.ofChange colorOverWrong)

/-- 'rondellaw03.ColorTexts': WHATEVER THE INPUT: true; the input reads as it did. -/
def colorTextsSpec : ChangeSpec := { name := "colorTexts", fn := fun _ => fun
  | [d1, d2] => { results := [.lit (.bool true)], args := [d1, d2] }
  | _ => none }
def colorTextsRow : OpenClaim := { program := "ytmchgchhmhhnkaa", sum := "5ec7b7e5f61c7bc3316750ff8146e3b5b4095748a762f63d8a6da301366dda6b", func := "rondel/rondellaw03.ColorTexts", spec := "colorTexts", inPlace := ["internal/abi.NoEscape", "internal/bytealg.IndexByteString", "internal/bytealg.IndexString"], unfollowed := true, recurses := true, named := ["internal/bytealg.MaxLen"], apart := false }
def ColorTextsSaid : Prop := colorTextsRow.holds Try.pinned (OpenSpec.ofChange colorTextsSpec)

/-- ITS FALSE NEIGHBOUR: 'it returns false'. Refute it at one input. -/
def colorTextsWrong : ChangeSpec := { name := "colorTexts", fn := fun _ => fun
  | [d1, d2] => { results := [.lit (.bool false)], args := [d1, d2] }
  | _ => none }
def ColorTextsWrongFalsely : Prop := colorTextsRow.holds Try.pinned (OpenSpec.ofChange colorTextsWrong)

/- THE SECOND FORM. 'bulk': how many values and letters a reading holds, each counted each time it is reached (what is shared counts as often as it is met; a slice's spare places count too). A statement '..UptoSaid' is the law's where the arguments, and the package variables that the reading takes, are together of bulk at most 1048576: NARROWER than '..Said'. Prove '..Said' where nothing that the law and all that it calls make is longer than what came in: it says more and counts as full. Else prove '..UptoSaid'. A law counts once. -/
mutual
def uptoBulk {H : Type} : DataW H → Nat
  | .lit (.string bytes) => bytes.length + 1
  | .lit _ => 1
  | .nil => 1
  | .ptr d => uptoBulk d + 1
  | .slice elems spare => uptoBulkAll elems + uptoBulkAll spare + 1
  | .agg parts => uptoBulkAll parts + 1
  | .iface _ d => uptoBulk d + 1
  | .map entries => uptoBulkEntries entries + 1
  | .held _ => 1
def uptoBulkAll {H : Type} : List (DataW H) → Nat
  | [] => 0
  | d :: r => uptoBulk d + uptoBulkAll r
def uptoBulkEntries {H : Type} : List (Lit × DataW H) → Nat
  | [] => 0
  | x :: r => uptoBulkEntry x + uptoBulkEntries r
def uptoBulkEntry {H : Type} : Lit × DataW H → Nat
  | (.string bytes, d) => bytes.length + uptoBulk d + 1
  | (_, d) => uptoBulk d + 1
 end
def uptoSmall : (H : Type) → List (DataW H) → Bool := fun _ ds => decide (uptoBulkAll ds ≤ 1048576)
def OpenSpec.upto (s : _root_.Go.ChangeSpec) : _root_.Go.OpenSpec := { _root_.Go.OpenSpec.ofChange s with cond := some uptoSmall }

/-- 'rondellaw03.ColorPart', WHERE WHAT IT READS IS OF BULK AT MOST 1048576: true; the input reads as it did. -/
def colorPartUptoRow : OpenClaim := { program := "ytmchgchhmhhnkaa", sum := "5ec7b7e5f61c7bc3316750ff8146e3b5b4095748a762f63d8a6da301366dda6b", func := "rondel/rondellaw03.ColorPart", spec := "colorPart", unfollowed := true, recurses := true, apart := false, narrowed := true }
def ColorPartUptoSaid : Prop := colorPartUptoRow.holds Try.pinned (OpenSpec.upto colorPartSpec)

/-- 'rondellaw03.ColorOrder', WHERE WHAT IT READS IS OF BULK AT MOST 1048576: true; the input reads as it did. -/
def colorOrderUptoRow : OpenClaim := { program := "ytmchgchhmhhnkaa", sum := "5ec7b7e5f61c7bc3316750ff8146e3b5b4095748a762f63d8a6da301366dda6b", func := "rondel/rondellaw03.ColorOrder", spec := "colorOrder", unfollowed := true, recurses := true, apart := false, narrowed := true }
def ColorOrderUptoSaid : Prop := colorOrderUptoRow.holds Try.pinned (OpenSpec.upto colorOrderSpec)

/-- 'rondellaw03.ColorBetween', WHERE WHAT IT READS IS OF BULK AT MOST 1048576: true; the input reads as it did. -/
def colorBetweenUptoRow : OpenClaim := { program := "ytmchgchhmhhnkaa", sum := "5ec7b7e5f61c7bc3316750ff8146e3b5b4095748a762f63d8a6da301366dda6b", func := "rondel/rondellaw03.ColorBetween", spec := "colorBetween", unfollowed := true, recurses := true, apart := false, narrowed := true }
def ColorBetweenUptoSaid : Prop := colorBetweenUptoRow.holds Try.pinned (OpenSpec.upto colorBetweenSpec)

/-- 'rondellaw03.ColorCovers', WHERE WHAT IT READS IS OF BULK AT MOST 1048576: true; the input reads as it did. -/
def colorCoversUptoRow : OpenClaim := { program := "ytmchgchhmhhnkaa", sum := "5ec7b7e5f61c7bc3316750ff8146e3b5b4095748a762f63d8a6da301366dda6b", func := "rondel/rondellaw03.ColorCovers", spec := "colorCovers", unfollowed := true, recurses := true, apart := false, narrowed := true }
def ColorCoversUptoSaid : Prop := colorCoversUptoRow.holds Try.pinned (OpenSpec.upto colorCoversSpec)

/-- 'rondellaw03.ColorParts', WHERE WHAT IT READS IS OF BULK AT MOST 1048576: true; the input reads as it did. -/
def colorPartsUptoRow : OpenClaim := { program := "ytmchgchhmhhnkaa", sum := "5ec7b7e5f61c7bc3316750ff8146e3b5b4095748a762f63d8a6da301366dda6b", func := "rondel/rondellaw03.ColorParts", spec := "colorParts", unfollowed := true, recurses := true, apart := false, narrowed := true }
def ColorPartsUptoSaid : Prop := colorPartsUptoRow.holds Try.pinned (OpenSpec.upto colorPartsSpec)

/-- 'rondellaw03.ColorPre', WHERE WHAT IT READS IS OF BULK AT MOST 1048576: true; the input reads as it did. -/
def colorPreUptoRow : OpenClaim := { program := "ytmchgchhmhhnkaa", sum := "5ec7b7e5f61c7bc3316750ff8146e3b5b4095748a762f63d8a6da301366dda6b", func := "rondel/rondellaw03.ColorPre", spec := "colorPre", unfollowed := true, recurses := true, apart := false, narrowed := true }
def ColorPreUptoSaid : Prop := colorPreUptoRow.holds Try.pinned (OpenSpec.upto colorPreSpec)

/-- 'rondellaw03.ColorOver', WHERE WHAT IT READS IS OF BULK AT MOST 1048576: true; the input reads as it did. -/
def colorOverUptoRow : OpenClaim := { program := "ytmchgchhmhhnkaa", sum := "5ec7b7e5f61c7bc3316750ff8146e3b5b4095748a762f63d8a6da301366dda6b", func := "rondel/rondellaw03.ColorOver", spec := "colorOver", unfollowed := true, recurses := true, apart := false, narrowed := true }
def ColorOverUptoSaid : Prop := colorOverUptoRow.holds Try.pinned (OpenSpec.upto colorOverSpec)

/-- 'rondellaw03.ColorTexts', WHERE WHAT IT READS IS OF BULK AT MOST 1048576: true; the input reads as it did. -/
def colorTextsUptoRow : OpenClaim := { program := "ytmchgchhmhhnkaa", sum := "5ec7b7e5f61c7bc3316750ff8146e3b5b4095748a762f63d8a6da301366dda6b", func := "rondel/rondellaw03.ColorTexts", spec := "colorTexts", inPlace := ["internal/abi.NoEscape", "internal/bytealg.IndexByteString", "internal/bytealg.IndexString"], unfollowed := true, recurses := true, named := ["internal/bytealg.MaxLen"], apart := false, narrowed := true }
def ColorTextsUptoSaid : Prop := colorTextsUptoRow.holds Try.pinned (OpenSpec.upto colorTextsSpec)

end Rows
end Go.Proofs.Ytmchgchhmhhnkaa
