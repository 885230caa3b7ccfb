/-
  No cell of these rows narrows 'for every input' (looked for: loops, veiled, ifaces, maps, wideKeys, modest, calm, conditions, laid).
  DERIVED. THE GIVEN ROWS OF THIS SEAT. 11 by the template 'for every input the law returns true; each argument reads behind the call as it read before'; 0 by the template 'total and deterministic' (their statements: YteldbnelfeiifaaTotals.lean).
  GIVEN WITH THE SEED: the statements are not yours to turn. If you find one false, say at which input.
  Laid BY PROGRAM, IN A SANDBOX (cutbox-rows.mjs): the forced cells as the released guide's own fill.sh prints them over the translation d5ce71dd0e65f874… (all of the seat's roots in one cut). By AI agents, Wed Nov 11 2026. No macro, syntax, notation, axiom, sorry.
-/
import Derived.Test.YteldbnelfeiifaaChecked
import GoSem.Claim
import GoSem.ClaimJoined
import GoSem.ClaimMapViews
import Derived.JoinedTies
import Derived.KernelRfl
namespace Go.Proofs.Yteldbnelfeiifaa
/- THE CELL 'sum', in the pinned program and in every row, IS THE sha256 OF THE DUMP (.gsa) THAT YteldbnelfeiifaaProg.lean LOADS. Nothing in Lean hashes anything: it is a label: what it is worth is what the hold of that sum in a sandbox is worth. -/
noncomputable def Try.pinned : Pinned := { name := "yteldbnelfeiifaa", sum := "d5ce71dd0e65f8747341022643ed5bf83432b4336c7b217dc7e2c7b61d25092b", checked := Try.checked }
namespace Rows
def none {H : Type} : Left H := { results := [], args := [] }

/-- 'rondellaw08.ArgsPack': WHATEVER THE INPUT: true; the input reads as it did. -/
def argsPackSpec : ChangeSpec := { name := "argsPack", fn := fun _ => fun
  | [d1, d2] => { results := [.lit (.bool true)], args := [d1, d2] }
  | _ => none }
def argsPackRow : OpenClaim := { program := "yteldbnelfeiifaa", sum := "d5ce71dd0e65f8747341022643ed5bf83432b4336c7b217dc7e2c7b61d25092b", func := "rondel/rondellaw08.ArgsPack", spec := "argsPack", inPlace := ["internal/bytealg.IndexByteString", "internal/bytealg.IndexString"], recurses := true, named := ["internal/bytealg.MaxLen"], apart := false }
def ArgsPackSaid : Prop := argsPackRow.holds Try.pinned (OpenSpec.ofChange argsPackSpec)

/-- ITS FALSE NEIGHBOUR: 'it returns false'. Refute it at one input. -/
def argsPackWrong : ChangeSpec := { name := "argsPack", fn := fun _ => fun
  | [d1, d2] => { results := [.lit (.bool false)], args := [d1, d2] }
  | _ => none }
def ArgsPackWrongFalsely : Prop := argsPackRow.holds Try.pinned (OpenSpec.ofChange argsPackWrong)

/-- 'rondellaw08.ArgsApart': WHATEVER THE INPUT: true; the input reads as it did. -/
def argsApartSpec : ChangeSpec := { name := "argsApart", fn := fun _ => fun
  | [d1, d2, d3, d4] => { results := [.lit (.bool true)], args := [d1, d2, d3, d4] }
  | _ => none }
def argsApartRow : OpenClaim := { program := "yteldbnelfeiifaa", sum := "d5ce71dd0e65f8747341022643ed5bf83432b4336c7b217dc7e2c7b61d25092b", func := "rondel/rondellaw08.ArgsApart", spec := "argsApart", inPlace := ["internal/bytealg.IndexByteString", "internal/bytealg.IndexString"], recurses := true, named := ["internal/bytealg.MaxLen"], apart := false }
def ArgsApartSaid : Prop := argsApartRow.holds Try.pinned (OpenSpec.ofChange argsApartSpec)

/-- ITS FALSE NEIGHBOUR: 'it returns false'. Refute it at one input. -/
def argsApartWrong : ChangeSpec := { name := "argsApart", fn := fun _ => fun
  | [d1, d2, d3, d4] => { results := [.lit (.bool false)], args := [d1, d2, d3, d4] }
  | _ => none }
def ArgsApartWrongFalsely : Prop := argsApartRow.holds Try.pinned (OpenSpec.ofChange argsApartWrong)

/-- 'rondellaw08.ArgsTypes': WHATEVER THE INPUT: true; the input reads as it did. -/
def argsTypesSpec : ChangeSpec := { name := "argsTypes", fn := fun _ => fun
  | [d] => { results := [.lit (.bool true)], args := [d] }
  | _ => none }
def argsTypesRow : OpenClaim := { program := "yteldbnelfeiifaa", sum := "d5ce71dd0e65f8747341022643ed5bf83432b4336c7b217dc7e2c7b61d25092b", func := "rondel/rondellaw08.ArgsTypes", spec := "argsTypes", inPlace := ["internal/bytealg.IndexByteString", "internal/bytealg.IndexString"], recurses := true, named := ["internal/bytealg.MaxLen"], apart := false }
def ArgsTypesSaid : Prop := argsTypesRow.holds Try.pinned (OpenSpec.ofChange argsTypesSpec)

/-- ITS FALSE NEIGHBOUR: 'it returns false'. Refute it at one input. -/
def argsTypesWrong : ChangeSpec := { name := "argsTypes", fn := fun _ => fun
  | [d] => { results := [.lit (.bool false)], args := [d] }
  | _ => none }
def ArgsTypesWrongFalsely : Prop := argsTypesRow.holds Try.pinned (OpenSpec.ofChange argsTypesWrong)

/-- 'rondellaw14.StackBack': WHATEVER THE INPUT: true; the input reads as it did. -/
def stackBackSpec : ChangeSpec := { name := "stackBack", fn := fun _ => fun
  | [d1, d2] => { results := [.lit (.bool true)], args := [d1, d2] }
  | _ => none }
def stackBackRow : OpenClaim := { program := "yteldbnelfeiifaa", sum := "d5ce71dd0e65f8747341022643ed5bf83432b4336c7b217dc7e2c7b61d25092b", func := "rondel/rondellaw14.StackBack", spec := "stackBack", inPlace := ["slices.overlaps[rondel/stack.Key]"], unfollowed := true, recurses := true, apart := false }
def StackBackSaid : Prop := stackBackRow.holds Try.pinned (OpenSpec.ofChange stackBackSpec)

/-- ITS FALSE NEIGHBOUR: 'it returns false'. Refute it at one input. -/
def stackBackWrong : ChangeSpec := { name := "stackBack", fn := fun _ => fun
  | [d1, d2] => { results := [.lit (.bool false)], args := [d1, d2] }
  | _ => none }
def StackBackWrongFalsely : Prop := stackBackRow.holds Try.pinned (OpenSpec.ofChange stackBackWrong)

/-- 'rondellaw14.StackRow': WHATEVER THE INPUT: true; the input reads as it did. -/
def stackRowSpec : ChangeSpec := { name := "stackRow", fn := fun _ => fun
  | [d1, d2, d3, d4] => { results := [.lit (.bool true)], args := [d1, d2, d3, d4] }
  | _ => none }
def stackRowRow : OpenClaim := { program := "yteldbnelfeiifaa", sum := "d5ce71dd0e65f8747341022643ed5bf83432b4336c7b217dc7e2c7b61d25092b", func := "rondel/rondellaw14.StackRow", spec := "stackRow", inPlace := ["slices.overlaps[rondel/stack.Key]"], unfollowed := true, recurses := true, apart := false }
def StackRowSaid : Prop := stackRowRow.holds Try.pinned (OpenSpec.ofChange stackRowSpec)

/-- ITS FALSE NEIGHBOUR: 'it returns false'. Refute it at one input. -/
def stackRowWrong : ChangeSpec := { name := "stackRow", fn := fun _ => fun
  | [d1, d2, d3, d4] => { results := [.lit (.bool false)], args := [d1, d2, d3, d4] }
  | _ => none }
def StackRowWrongFalsely : Prop := stackRowRow.holds Try.pinned (OpenSpec.ofChange stackRowWrong)

/-- 'rondellaw14.StackAll': WHATEVER THE INPUT: true; the input reads as it did. -/
def stackAllSpec : ChangeSpec := { name := "stackAll", fn := fun _ => fun
  | [d] => { results := [.lit (.bool true)], args := [d] }
  | _ => none }
def stackAllRow : OpenClaim := { program := "yteldbnelfeiifaa", sum := "d5ce71dd0e65f8747341022643ed5bf83432b4336c7b217dc7e2c7b61d25092b", func := "rondel/rondellaw14.StackAll", spec := "stackAll", inPlace := ["slices.overlaps[rondel/stack.Key]"], unfollowed := true, recurses := true, apart := false }
def StackAllSaid : Prop := stackAllRow.holds Try.pinned (OpenSpec.ofChange stackAllSpec)

/-- ITS FALSE NEIGHBOUR: 'it returns false'. Refute it at one input. -/
def stackAllWrong : ChangeSpec := { name := "stackAll", fn := fun _ => fun
  | [d] => { results := [.lit (.bool false)], args := [d] }
  | _ => none }
def StackAllWrongFalsely : Prop := stackAllRow.holds Try.pinned (OpenSpec.ofChange stackAllWrong)

/-- 'rondellaw14.StackDown': WHATEVER THE INPUT: true; the input reads as it did. -/
def stackDownSpec : ChangeSpec := { name := "stackDown", fn := fun _ => fun
  | [d1, d2] => { results := [.lit (.bool true)], args := [d1, d2] }
  | _ => none }
def stackDownRow : OpenClaim := { program := "yteldbnelfeiifaa", sum := "d5ce71dd0e65f8747341022643ed5bf83432b4336c7b217dc7e2c7b61d25092b", func := "rondel/rondellaw14.StackDown", spec := "stackDown", inPlace := ["slices.overlaps[rondel/stack.Key]"], unfollowed := true, recurses := true, apart := false }
def StackDownSaid : Prop := stackDownRow.holds Try.pinned (OpenSpec.ofChange stackDownSpec)

/-- ITS FALSE NEIGHBOUR: 'it returns false'. Refute it at one input. -/
def stackDownWrong : ChangeSpec := { name := "stackDown", fn := fun _ => fun
  | [d1, d2] => { results := [.lit (.bool false)], args := [d1, d2] }
  | _ => none }
def StackDownWrongFalsely : Prop := stackDownRow.holds Try.pinned (OpenSpec.ofChange stackDownWrong)

/-- 'rondellaw14.StackPlays': WHATEVER THE INPUT: true; the input reads as it did. -/
def stackPlaysSpec : ChangeSpec := { name := "stackPlays", fn := fun _ => fun
  | [d1, d2] => { results := [.lit (.bool true)], args := [d1, d2] }
  | _ => none }
def stackPlaysRow : OpenClaim := { program := "yteldbnelfeiifaa", sum := "d5ce71dd0e65f8747341022643ed5bf83432b4336c7b217dc7e2c7b61d25092b", func := "rondel/rondellaw14.StackPlays", spec := "stackPlays", inPlace := ["slices.overlaps[rondel/stack.Key]"], unfollowed := true, recurses := true, apart := false }
def StackPlaysSaid : Prop := stackPlaysRow.holds Try.pinned (OpenSpec.ofChange stackPlaysSpec)

/-- ITS FALSE NEIGHBOUR: 'it returns false'. Refute it at one input. -/
def stackPlaysWrong : ChangeSpec := { name := "stackPlays", fn := fun _ => fun
  | [d1, d2] => { results := [.lit (.bool false)], args := [d1, d2] }
  | _ => none }
def StackPlaysWrongFalsely : Prop := stackPlaysRow.holds Try.pinned (OpenSpec.ofChange stackPlaysWrong)

/-- 'rondellaw08.ArgsUnpack': WHATEVER THE INPUT: true; the input reads as it did. -/
def argsUnpackSpec : ChangeSpec := { name := "argsUnpack", fn := fun _ => fun
  | [d1, d2] => { results := [.lit (.bool true)], args := [d1, d2] }
  | _ => none }
def argsUnpackRow : OpenClaim := { program := "yteldbnelfeiifaa", sum := "d5ce71dd0e65f8747341022643ed5bf83432b4336c7b217dc7e2c7b61d25092b", func := "rondel/rondellaw08.ArgsUnpack", spec := "argsUnpack", inPlace := ["internal/bytealg.IndexByteString", "internal/bytealg.IndexString"], recurses := true, named := ["internal/bytealg.MaxLen"], apart := false }
def ArgsUnpackSaid : Prop := argsUnpackRow.holds Try.pinned (OpenSpec.ofChange argsUnpackSpec)

/-- ITS FALSE NEIGHBOUR: 'it returns false'. Refute it at one input. -/
def argsUnpackWrong : ChangeSpec := { name := "argsUnpack", fn := fun _ => fun
  | [d1, d2] => { results := [.lit (.bool false)], args := [d1, d2] }
  | _ => none }
def ArgsUnpackWrongFalsely : Prop := argsUnpackRow.holds Try.pinned (OpenSpec.ofChange argsUnpackWrong)

/-- 'rondellaw08.ArgsRound': WHATEVER THE INPUT: true; the input reads as it did. -/
def argsRoundSpec : ChangeSpec := { name := "argsRound", fn := fun _ => fun
  | [d1, d2, d3] => { results := [.lit (.bool true)], args := [d1, d2, d3] }
  | _ => none }
def argsRoundRow : OpenClaim := { program := "yteldbnelfeiifaa", sum := "d5ce71dd0e65f8747341022643ed5bf83432b4336c7b217dc7e2c7b61d25092b", func := "rondel/rondellaw08.ArgsRound", spec := "argsRound", inPlace := ["internal/bytealg.IndexByteString", "internal/bytealg.IndexString"], recurses := true, named := ["internal/bytealg.MaxLen"], apart := false }
def ArgsRoundSaid : Prop := argsRoundRow.holds Try.pinned (OpenSpec.ofChange argsRoundSpec)

/-- ITS FALSE NEIGHBOUR: 'it returns false'. Refute it at one input. -/
def argsRoundWrong : ChangeSpec := { name := "argsRound", fn := fun _ => fun
  | [d1, d2, d3] => { results := [.lit (.bool false)], args := [d1, d2, d3] }
  | _ => none }
def ArgsRoundWrongFalsely : Prop := argsRoundRow.holds Try.pinned (OpenSpec.ofChange argsRoundWrong)

/-- 'rondellaw08.ArgsSizes': WHATEVER THE INPUT: true; the input reads as it did. -/
def argsSizesSpec : ChangeSpec := { name := "argsSizes", fn := fun _ => fun
  | [d1, d2] => { results := [.lit (.bool true)], args := [d1, d2] }
  | _ => none }
def argsSizesRow : OpenClaim := { program := "yteldbnelfeiifaa", sum := "d5ce71dd0e65f8747341022643ed5bf83432b4336c7b217dc7e2c7b61d25092b", func := "rondel/rondellaw08.ArgsSizes", spec := "argsSizes", inPlace := ["internal/bytealg.IndexByteString", "internal/bytealg.IndexString", "internal/bytealg.CountString"], recurses := true, named := ["internal/bytealg.MaxLen"], apart := false }
def ArgsSizesSaid : Prop := argsSizesRow.holds Try.pinned (OpenSpec.ofChange argsSizesSpec)

/-- ITS FALSE NEIGHBOUR: 'it returns false'. Refute it at one input. -/
def argsSizesWrong : ChangeSpec := { name := "argsSizes", fn := fun _ => fun
  | [d1, d2] => { results := [.lit (.bool false)], args := [d1, d2] }
  | _ => none }
def ArgsSizesWrongFalsely : Prop := argsSizesRow.holds Try.pinned (OpenSpec.ofChange argsSizesWrong)

/- THE SECOND FORM. 'bulk': how many values and letters a reading holds, each counted each time it is reached (what is shared counts as often as it is met; a slice's spare places count too). A statement '..UptoSaid' is the law's where the arguments, and the package variables that the reading takes, are together of bulk at most 1048576: NARROWER than '..Said'. Prove '..Said' where nothing that the law and all that it calls make is longer than what came in: it says more and counts as full. Else prove '..UptoSaid'. A law counts once. -/
mutual
def uptoBulk {H : Type} : DataW H → Nat
  | .lit (.string bytes) => bytes.length + 1
  | .lit _ => 1
  | .nil => 1
  | .ptr d => uptoBulk d + 1
  | .slice elems spare => uptoBulkAll elems + uptoBulkAll spare + 1
  | .agg parts => uptoBulkAll parts + 1
  | .iface _ d => uptoBulk d + 1
  | .map entries => uptoBulkEntries entries + 1
  | .held _ => 1
def uptoBulkAll {H : Type} : List (DataW H) → Nat
  | [] => 0
  | d :: r => uptoBulk d + uptoBulkAll r
def uptoBulkEntries {H : Type} : List (Lit × DataW H) → Nat
  | [] => 0
  | x :: r => uptoBulkEntry x + uptoBulkEntries r
def uptoBulkEntry {H : Type} : Lit × DataW H → Nat
  | (.string bytes, d) => bytes.length + uptoBulk d + 1
  | (_, d) => uptoBulk d + 1
 end
def uptoSmall : (H : Type) → List (DataW H) → Bool := fun _ ds => decide (uptoBulkAll ds ≤ 1048576)
def OpenSpec.upto (s : _root_.Go.ChangeSpec) : _root_.Go.OpenSpec := { _root_.Go.OpenSpec.ofChange s with cond := some uptoSmall }

/-- 'rondellaw08.ArgsPack', WHERE WHAT IT READS IS OF BULK AT MOST 1048576: true; the input reads as it did. -/
def argsPackUptoRow : OpenClaim := { program := "yteldbnelfeiifaa", sum := "d5ce71dd0e65f8747341022643ed5bf83432b4336c7b217dc7e2c7b61d25092b", func := "rondel/rondellaw08.ArgsPack", spec := "argsPack", inPlace := ["internal/bytealg.IndexByteString", "internal/bytealg.IndexString"], recurses := true, named := ["internal/bytealg.MaxLen"], apart := false, narrowed := true }
def ArgsPackUptoSaid : Prop := argsPackUptoRow.holds Try.pinned (OpenSpec.upto argsPackSpec)

/-- 'rondellaw08.ArgsApart', WHERE WHAT IT READS IS OF BULK AT MOST 1048576: true; the input reads as it did. -/
def argsApartUptoRow : OpenClaim := { program := "yteldbnelfeiifaa", sum := "d5ce71dd0e65f8747341022643ed5bf83432b4336c7b217dc7e2c7b61d25092b", func := "rondel/rondellaw08.ArgsApart", spec := "argsApart", inPlace := ["internal/bytealg.IndexByteString", "internal/bytealg.IndexString"], recurses := true, named := ["internal/bytealg.MaxLen"], apart := false, narrowed := true }
def ArgsApartUptoSaid : Prop := argsApartUptoRow.holds Try.pinned (OpenSpec.upto argsApartSpec)

/-- 'rondellaw08.ArgsTypes', WHERE WHAT IT READS IS OF BULK AT MOST 1048576: true; the input reads as it did. -/
def argsTypesUptoRow : OpenClaim := { program := "yteldbnelfeiifaa", sum := "d5ce71dd0e65f8747341022643ed5bf83432b4336c7b217dc7e2c7b61d25092b", func := "rondel/rondellaw08.ArgsTypes", spec := "argsTypes", inPlace := ["internal/bytealg.IndexByteString", "internal/bytealg.IndexString"], recurses := true, named := ["internal/bytealg.MaxLen"], apart := false, narrowed := true }
def ArgsTypesUptoSaid : Prop := argsTypesUptoRow.holds Try.pinned (OpenSpec.upto argsTypesSpec)

/-- 'rondellaw14.StackBack', WHERE WHAT IT READS IS OF BULK AT MOST 1048576: true; the input reads as it did. -/
def stackBackUptoRow : OpenClaim := { program := "yteldbnelfeiifaa", sum := "d5ce71dd0e65f8747341022643ed5bf83432b4336c7b217dc7e2c7b61d25092b", func := "rondel/rondellaw14.StackBack", spec := "stackBack", inPlace := ["slices.overlaps[rondel/stack.Key]"], unfollowed := true, recurses := true, apart := false, narrowed := true }
def StackBackUptoSaid : Prop := stackBackUptoRow.holds Try.pinned (OpenSpec.upto stackBackSpec)

/-- 'rondellaw14.StackRow', WHERE WHAT IT READS IS OF BULK AT MOST 1048576: true; the input reads as it did. -/
def stackRowUptoRow : OpenClaim := { program := "yteldbnelfeiifaa", sum := "d5ce71dd0e65f8747341022643ed5bf83432b4336c7b217dc7e2c7b61d25092b", func := "rondel/rondellaw14.StackRow", spec := "stackRow", inPlace := ["slices.overlaps[rondel/stack.Key]"], unfollowed := true, recurses := true, apart := false, narrowed := true }
def StackRowUptoSaid : Prop := stackRowUptoRow.holds Try.pinned (OpenSpec.upto stackRowSpec)

/-- 'rondellaw14.StackAll', WHERE WHAT IT READS IS OF BULK AT MOST 1048576: true; the input reads as it did. -/
def stackAllUptoRow : OpenClaim := { program := "yteldbnelfeiifaa", sum := "d5ce71dd0e65f8747341022643ed5bf83432b4336c7b217dc7e2c7b61d25092b", func := "rondel/rondellaw14.StackAll", spec := "stackAll", inPlace := ["slices.overlaps[rondel/stack.Key]"], unfollowed := true, recurses := true, apart := false, narrowed := true }
def StackAllUptoSaid : Prop := stackAllUptoRow.holds Try.pinned (OpenSpec.upto stackAllSpec)

/-- 'rondellaw14.StackDown', WHERE WHAT IT READS IS OF BULK AT MOST 1048576: true; the input reads as it did. -/
def stackDownUptoRow : OpenClaim := { program := "yteldbnelfeiifaa", sum := "d5ce71dd0e65f8747341022643ed5bf83432b4336c7b217dc7e2c7b61d25092b", func := "rondel/rondellaw14.StackDown", spec := "stackDown", inPlace := ["slices.overlaps[rondel/stack.Key]"], unfollowed := true, recurses := true, apart := false, narrowed := true }
def StackDownUptoSaid : Prop := stackDownUptoRow.holds Try.pinned (OpenSpec.upto stackDownSpec)

/-- 'rondellaw14.StackPlays', WHERE WHAT IT READS IS OF BULK AT MOST 1048576: true; the input reads as it did. -/
def stackPlaysUptoRow : OpenClaim := { program := "yteldbnelfeiifaa", sum := "d5ce71dd0e65f8747341022643ed5bf83432b4336c7b217dc7e2c7b61d25092b", func := "rondel/rondellaw14.StackPlays", spec := "stackPlays", inPlace := ["slices.overlaps[rondel/stack.Key]"], unfollowed := true, recurses := true, apart := false, narrowed := true }
def StackPlaysUptoSaid : Prop := stackPlaysUptoRow.holds Try.pinned (OpenSpec.upto stackPlaysSpec)

/-- 'rondellaw08.ArgsUnpack', WHERE WHAT IT READS IS OF BULK AT MOST 1048576: true; the input reads as it did. -/
def argsUnpackUptoRow : OpenClaim := { program := "yteldbnelfeiifaa", sum := "d5ce71dd0e65f8747341022643ed5bf83432b4336c7b217dc7e2c7b61d25092b", func := "rondel/rondellaw08.ArgsUnpack", spec := "argsUnpack", inPlace := ["internal/bytealg.IndexByteString", "internal/bytealg.IndexString"], recurses := true, named := ["internal/bytealg.MaxLen"], apart := false, narrowed := true }
def ArgsUnpackUptoSaid : Prop := argsUnpackUptoRow.holds Try.pinned (OpenSpec.upto argsUnpackSpec)

/-- 'rondellaw08.ArgsRound', WHERE WHAT IT READS IS OF BULK AT MOST 1048576: true; the input reads as it did. -/
def argsRoundUptoRow : OpenClaim := { program := "yteldbnelfeiifaa", sum := "d5ce71dd0e65f8747341022643ed5bf83432b4336c7b217dc7e2c7b61d25092b", func := "rondel/rondellaw08.ArgsRound", spec := "argsRound", inPlace := ["internal/bytealg.IndexByteString", "internal/bytealg.IndexString"], recurses := true, named := ["internal/bytealg.MaxLen"], apart := false, narrowed := true }
def ArgsRoundUptoSaid : Prop := argsRoundUptoRow.holds Try.pinned (OpenSpec.upto argsRoundSpec)

/-- 'rondellaw08.ArgsSizes', WHERE WHAT IT READS IS OF BULK AT MOST 1048576: true; the input reads as it did. -/
def argsSizesUptoRow : OpenClaim := { program := "yteldbnelfeiifaa", sum := "d5ce71dd0e65f8747341022643ed5bf83432b4336c7b217dc7e2c7b61d25092b", func := "rondel/rondellaw08.ArgsSizes", spec := "argsSizes", inPlace := ["internal/bytealg.IndexByteString", "internal/bytealg.IndexString", "internal/bytealg.CountString"], recurses := true, named := ["internal/bytealg.MaxLen"], apart := false, narrowed := true }
def ArgsSizesUptoSaid : Prop := argsSizesUptoRow.holds Try.pinned (OpenSpec.upto argsSizesSpec)

end Rows
end Go.Proofs.Yteldbnelfeiifaa
