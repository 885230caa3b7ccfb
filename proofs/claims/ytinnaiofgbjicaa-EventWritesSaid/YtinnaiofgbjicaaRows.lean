/-
  No cell of these rows narrows 'for every input' (looked for: loops, veiled, ifaces, maps, wideKeys, modest, calm, conditions, laid).
  DERIVED. THE GIVEN ROWS OF THIS SEAT. 3 by the template 'for every input the law returns true; each argument reads behind the call as it read before'; 0 by the template 'total and deterministic' (their statements: YtinnaiofgbjicaaTotals.lean).
  GIVEN WITH THE SEED: the statements are not yours to turn. If you find one false, say at which input.
  Laid BY PROGRAM, IN A SANDBOX (cutbox-rows.mjs): the forced cells as the released guide's own fill.sh prints them over the translation 066b0e733e073bcc… (all of the seat's roots in one cut). By AI agents, Wed Nov 11 2026. No macro, syntax, notation, axiom, sorry.
-/
import Derived.Test.YtinnaiofgbjicaaChecked
import GoSem.Claim
import GoSem.ClaimJoined
import GoSem.ClaimMapViews
import Derived.JoinedTies
import Derived.KernelRfl
namespace Go.Proofs.Ytinnaiofgbjicaa
/- THE CELL 'sum', in the pinned program and in every row, IS THE sha256 OF THE DUMP (.gsa) THAT YtinnaiofgbjicaaProg.lean LOADS. Nothing in Lean hashes anything: it is a label: what it is worth is what the hold of that sum in a sandbox is worth. -/
noncomputable def Try.pinned : Pinned := { name := "ytinnaiofgbjicaa", sum := "066b0e733e073bccb1af5036cb142a07d17ae94d3c4ac3b65bff3da7b106fc42", checked := Try.checked }
namespace Rows
def none {H : Type} : Left H := { results := [], args := [] }

/-- 'rondellaw10.EventRow': WHATEVER THE INPUT: true; the input reads as it did. -/
def eventRowSpec : ChangeSpec := { name := "eventRow", fn := fun _ => fun
  | [d] => { results := [.lit (.bool true)], args := [d] }
  | _ => none }
def eventRowRow : OpenClaim := { program := "ytinnaiofgbjicaa", sum := "066b0e733e073bccb1af5036cb142a07d17ae94d3c4ac3b65bff3da7b106fc42", func := "rondel/rondellaw10.EventRow", spec := "eventRow", inPlace := ["internal/bytealg.IndexByteString", "internal/bytealg.IndexString"], recurses := true, named := ["internal/bytealg.MaxLen"], apart := false }
def EventRowSaid : Prop := eventRowRow.holds Try.pinned (OpenSpec.ofChange eventRowSpec)

/-- ITS FALSE NEIGHBOUR: 'it returns false'. Refute it at one input. -/
def eventRowWrong : ChangeSpec := { name := "eventRow", fn := fun _ => fun
  | [d] => { results := [.lit (.bool false)], args := [d] }
  | _ => none }
def EventRowWrongFalsely : Prop := eventRowRow.holds Try.pinned (OpenSpec.ofChange eventRowWrong)

/-- 'rondellaw10.EventWrites': WHATEVER THE INPUT: true; the input reads as it did. -/
def eventWritesSpec : ChangeSpec := { name := "eventWrites", fn := fun _ => fun
  | [d] => { results := [.lit (.bool true)], args := [d] }
  | _ => none }
def eventWritesRow : OpenClaim := { program := "ytinnaiofgbjicaa", sum := "066b0e733e073bccb1af5036cb142a07d17ae94d3c4ac3b65bff3da7b106fc42", func := "rondel/rondellaw10.EventWrites", spec := "eventWrites", inPlace := ["internal/bytealg.IndexByteString", "internal/bytealg.IndexString"], recurses := true, named := ["internal/bytealg.MaxLen"], apart := false }
def EventWritesSaid : Prop := eventWritesRow.holds Try.pinned (OpenSpec.ofChange eventWritesSpec)

/-- ITS FALSE NEIGHBOUR: 'it returns false'. Refute it at one input. -/
def eventWritesWrong : ChangeSpec := { name := "eventWrites", fn := fun _ => fun
  | [d] => { results := [.lit (.bool false)], args := [d] }
  | _ => none }
def EventWritesWrongFalsely : Prop := eventWritesRow.holds Try.pinned (OpenSpec.ofChange eventWritesWrong)

/-- 'rondellaw10.EventReads': WHATEVER THE INPUT: true; the input reads as it did. -/
def eventReadsSpec : ChangeSpec := { name := "eventReads", fn := fun _ => fun
  | [d1, d2, d3, d4] => { results := [.lit (.bool true)], args := [d1, d2, d3, d4] }
  | _ => none }
def eventReadsRow : OpenClaim := { program := "ytinnaiofgbjicaa", sum := "066b0e733e073bccb1af5036cb142a07d17ae94d3c4ac3b65bff3da7b106fc42", func := "rondel/rondellaw10.EventReads", spec := "eventReads", inPlace := ["internal/bytealg.IndexByteString", "internal/bytealg.IndexString"], recurses := true, named := ["internal/bytealg.MaxLen"], apart := false }
def EventReadsSaid : Prop := eventReadsRow.holds Try.pinned (OpenSpec.ofChange eventReadsSpec)

/-- ITS FALSE NEIGHBOUR: 'it returns false'. Refute it at one input. -/
def eventReadsWrong : ChangeSpec := { name := "eventReads", fn := fun _ => fun
  | [d1, d2, d3, d4] => { results := [.lit (.bool false)], args := [d1, d2, d3, d4] }
  | _ => none }
def EventReadsWrongFalsely : Prop := eventReadsRow.holds Try.pinned (OpenSpec.ofChange eventReadsWrong)

/- THE SECOND FORM. 'bulk': how many values and letters a reading holds, each counted each time it is reached (what is shared counts as often as it is met; a slice's spare places count too). A statement '..UptoSaid' is the law's where the arguments, and the package variables that the reading takes, are together of bulk at most 1048576: NARROWER than '..Said'. Prove '..Said' where nothing that the law and all that it calls make is longer than what came in: it says more and counts as full. Else prove '..UptoSaid'. A law counts once. -/
mutual
def uptoBulk {H : Type} : DataW H → Nat
  | .lit (.string bytes) => bytes.length + 1
  | .lit _ => 1
  | .nil => 1
  | .ptr d => uptoBulk d + 1
  | .slice elems spare => uptoBulkAll elems + uptoBulkAll spare + 1
  | .agg parts => uptoBulkAll parts + 1
  | .iface _ d => uptoBulk d + 1
  | .map entries => uptoBulkEntries entries + 1
  | .held _ => 1
def uptoBulkAll {H : Type} : List (DataW H) → Nat
  | [] => 0
  | d :: r => uptoBulk d + uptoBulkAll r
def uptoBulkEntries {H : Type} : List (Lit × DataW H) → Nat
  | [] => 0
  | x :: r => uptoBulkEntry x + uptoBulkEntries r
def uptoBulkEntry {H : Type} : Lit × DataW H → Nat
  | (.string bytes, d) => bytes.length + uptoBulk d + 1
  | (_, d) => uptoBulk d + 1
 end
def uptoSmall : (H : Type) → List (DataW H) → Bool := fun _ ds => decide (uptoBulkAll ds ≤ 1048576)
def OpenSpec.upto (s : _root_.Go.ChangeSpec) : _root_.Go.OpenSpec := { _root_.Go.OpenSpec.ofChange s with cond := some uptoSmall }

/-- 'rondellaw10.EventRow', WHERE WHAT IT READS IS OF BULK AT MOST 1048576: true; the input reads as it did. -/
def eventRowUptoRow : OpenClaim := { program := "ytinnaiofgbjicaa", sum := "066b0e733e073bccb1af5036cb142a07d17ae94d3c4ac3b65bff3da7b106fc42", func := "rondel/rondellaw10.EventRow", spec := "eventRow", inPlace := ["internal/bytealg.IndexByteString", "internal/bytealg.IndexString"], recurses := true, named := ["internal/bytealg.MaxLen"], apart := false, narrowed := true }
def EventRowUptoSaid : Prop := eventRowUptoRow.holds Try.pinned (OpenSpec.upto eventRowSpec)

/-- 'rondellaw10.EventWrites', WHERE WHAT IT READS IS OF BULK AT MOST 1048576: true; the input reads as it did. -/
def eventWritesUptoRow : OpenClaim := { program := "ytinnaiofgbjicaa", sum := "066b0e733e073bccb1af5036cb142a07d17ae94d3c4ac3b65bff3da7b106fc42", func := "rondel/rondellaw10.EventWrites", spec := "eventWrites", inPlace := ["internal/bytealg.IndexByteString", "internal/bytealg.IndexString"], recurses := true, named := ["internal/bytealg.MaxLen"], apart := false, narrowed := true }
def EventWritesUptoSaid : Prop := eventWritesUptoRow.holds Try.pinned (OpenSpec.upto eventWritesSpec)

/-- 'rondellaw10.EventReads', WHERE WHAT IT READS IS OF BULK AT MOST 1048576: true; the input reads as it did. -/
def eventReadsUptoRow : OpenClaim := { program := "ytinnaiofgbjicaa", sum := "066b0e733e073bccb1af5036cb142a07d17ae94d3c4ac3b65bff3da7b106fc42", func := "rondel/rondellaw10.EventReads", spec := "eventReads", inPlace := ["internal/bytealg.IndexByteString", "internal/bytealg.IndexString"], recurses := true, named := ["internal/bytealg.MaxLen"], apart := false, narrowed := true }
def EventReadsUptoSaid : Prop := eventReadsUptoRow.holds Try.pinned (OpenSpec.upto eventReadsSpec)

end Rows
end Go.Proofs.Ytinnaiofgbjicaa
