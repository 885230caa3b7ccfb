/-
  No cell of these rows narrows 'for every input' (looked for: loops, veiled, ifaces, maps, wideKeys, modest, calm, conditions, laid).
  DERIVED. THE GIVEN ROWS OF THIS SEAT. 7 by the template 'for every input the law returns true; each argument reads behind the call as it read before'; 0 by the template 'total and deterministic' (their statements: YtbngkeaelfdknaaTotals.lean).
  GIVEN WITH THE SEED: the statements are not yours to turn. If you find one false, say at which input.
  Laid BY PROGRAM, IN A SANDBOX (cutbox-rows.mjs): the forced cells as the released guide's own fill.sh prints them over the translation ec56653fa54ec2ab… (all of the seat's roots in one cut). By AI agents, Wed Nov 11 2026. No macro, syntax, notation, axiom, sorry.
-/
import Derived.Test.YtbngkeaelfdknaaChecked
import GoSem.Claim
import GoSem.ClaimJoined
import GoSem.ClaimMapViews
import Derived.JoinedTies
import Derived.KernelRfl
namespace Go.Proofs.Ytbngkeaelfdknaa
/- THE CELL 'sum', in the pinned program and in every row, IS THE sha256 OF THE DUMP (.gsa) THAT YtbngkeaelfdknaaProg.lean LOADS. Nothing in Lean hashes anything: it is a label: what it is worth is what the hold of that sum in a sandbox is worth. -/
noncomputable def Try.pinned : Pinned := { name := "ytbngkeaelfdknaa", sum := "ec56653fa54ec2ab7651abc74c23b99d58dcbf8f84ab59b188f90683fa390c0e", checked := Try.checked }
namespace Rows
def none {H : Type} : Left H := { results := [], args := [] }

/-- 'rondellaw01.RectCuts': WHATEVER THE INPUT: true; the input reads as it did. -/
def rectCutsSpec : ChangeSpec := { name := "rectCuts", fn := fun _ => fun
  | [d1, d2, d3, d4] => { results := [.lit (.bool true)], args := [d1, d2, d3, d4] }
  | _ => none }
def rectCutsRow : OpenClaim := { program := "ytbngkeaelfdknaa", sum := "ec56653fa54ec2ab7651abc74c23b99d58dcbf8f84ab59b188f90683fa390c0e", func := "rondel/rondellaw01.RectCuts", spec := "rectCuts", apart := false }
def RectCutsSaid : Prop := rectCutsRow.holds Try.pinned (OpenSpec.ofChange rectCutsSpec)

/-- ITS FALSE NEIGHBOUR: 'it returns false'. Refute it at one input. -/
def rectCutsWrong : ChangeSpec := { name := "rectCuts", fn := fun _ => fun
  | [d1, d2, d3, d4] => { results := [.lit (.bool false)], args := [d1, d2, d3, d4] }
  | _ => none }
def RectCutsWrongFalsely : Prop := rectCutsRow.holds Try.pinned (OpenSpec.ofChange rectCutsWrong)

/-- 'rondellaw01.RectPoints': WHATEVER THE INPUT: true; the input reads as it did. -/
def rectPointsSpec : ChangeSpec := { name := "rectPoints", fn := fun _ => fun
  | [d1, d2, d3] => { results := [.lit (.bool true)], args := [d1, d2, d3] }
  | _ => none }
def rectPointsRow : OpenClaim := { program := "ytbngkeaelfdknaa", sum := "ec56653fa54ec2ab7651abc74c23b99d58dcbf8f84ab59b188f90683fa390c0e", func := "rondel/rondellaw01.RectPoints", spec := "rectPoints", apart := false }
def RectPointsSaid : Prop := rectPointsRow.holds Try.pinned (OpenSpec.ofChange rectPointsSpec)

/-- ITS FALSE NEIGHBOUR: 'it returns false'. Refute it at one input. -/
def rectPointsWrong : ChangeSpec := { name := "rectPoints", fn := fun _ => fun
  | [d1, d2, d3] => { results := [.lit (.bool false)], args := [d1, d2, d3] }
  | _ => none }
def RectPointsWrongFalsely : Prop := rectPointsRow.holds Try.pinned (OpenSpec.ofChange rectPointsWrong)

/-- 'rondellaw01.RectHulls': WHATEVER THE INPUT: true; the input reads as it did. -/
def rectHullsSpec : ChangeSpec := { name := "rectHulls", fn := fun _ => fun
  | [d] => { results := [.lit (.bool true)], args := [d] }
  | _ => none }
def rectHullsRow : OpenClaim := { program := "ytbngkeaelfdknaa", sum := "ec56653fa54ec2ab7651abc74c23b99d58dcbf8f84ab59b188f90683fa390c0e", func := "rondel/rondellaw01.RectHulls", spec := "rectHulls", apart := false }
def RectHullsSaid : Prop := rectHullsRow.holds Try.pinned (OpenSpec.ofChange rectHullsSpec)

/-- ITS FALSE NEIGHBOUR: 'it returns false'. Refute it at one input. -/
def rectHullsWrong : ChangeSpec := { name := "rectHulls", fn := fun _ => fun
  | [d] => { results := [.lit (.bool false)], args := [d] }
  | _ => none }
def RectHullsWrongFalsely : Prop := rectHullsRow.holds Try.pinned (OpenSpec.ofChange rectHullsWrong)

/-- 'rondellaw01.RectBack': WHATEVER THE INPUT: true; the input reads as it did. -/
def rectBackSpec : ChangeSpec := { name := "rectBack", fn := fun _ => fun
  | [d1, d2, d3, d4] => { results := [.lit (.bool true)], args := [d1, d2, d3, d4] }
  | _ => none }
def rectBackRow : OpenClaim := { program := "ytbngkeaelfdknaa", sum := "ec56653fa54ec2ab7651abc74c23b99d58dcbf8f84ab59b188f90683fa390c0e", func := "rondel/rondellaw01.RectBack", spec := "rectBack", unfollowed := true, recurses := true, apart := false }
def RectBackSaid : Prop := rectBackRow.holds Try.pinned (OpenSpec.ofChange rectBackSpec)

/-- ITS FALSE NEIGHBOUR: 'it returns false'. Refute it at one input. -/
def rectBackWrong : ChangeSpec := { name := "rectBack", fn := fun _ => fun
  | [d1, d2, d3, d4] => { results := [.lit (.bool false)], args := [d1, d2, d3, d4] }
  | _ => none }
def RectBackWrongFalsely : Prop := rectBackRow.holds Try.pinned (OpenSpec.ofChange rectBackWrong)

/-- 'rondellaw01.RectScales': WHATEVER THE INPUT: true; the input reads as it did. -/
def rectScalesSpec : ChangeSpec := { name := "rectScales", fn := fun _ => fun
  | [d1, d2, d3, d4] => { results := [.lit (.bool true)], args := [d1, d2, d3, d4] }
  | _ => none }
def rectScalesRow : OpenClaim := { program := "ytbngkeaelfdknaa", sum := "ec56653fa54ec2ab7651abc74c23b99d58dcbf8f84ab59b188f90683fa390c0e", func := "rondel/rondellaw01.RectScales", spec := "rectScales", apart := false }
def RectScalesSaid : Prop := rectScalesRow.holds Try.pinned (OpenSpec.ofChange rectScalesSpec)

/-- ITS FALSE NEIGHBOUR: 'it returns false'. Refute it at one input. -/
def rectScalesWrong : ChangeSpec := { name := "rectScales", fn := fun _ => fun
  | [d1, d2, d3, d4] => { results := [.lit (.bool false)], args := [d1, d2, d3, d4] }
  | _ => none }
def RectScalesWrongFalsely : Prop := rectScalesRow.holds Try.pinned (OpenSpec.ofChange rectScalesWrong)

/-- 'rondellaw01.RectMoves': WHATEVER THE INPUT: true; the input reads as it did. -/
def rectMovesSpec : ChangeSpec := { name := "rectMoves", fn := fun _ => fun
  | [d1, d2, d3, d4] => { results := [.lit (.bool true)], args := [d1, d2, d3, d4] }
  | _ => none }
def rectMovesRow : OpenClaim := { program := "ytbngkeaelfdknaa", sum := "ec56653fa54ec2ab7651abc74c23b99d58dcbf8f84ab59b188f90683fa390c0e", func := "rondel/rondellaw01.RectMoves", spec := "rectMoves", unfollowed := true, recurses := true, apart := false }
def RectMovesSaid : Prop := rectMovesRow.holds Try.pinned (OpenSpec.ofChange rectMovesSpec)

/-- ITS FALSE NEIGHBOUR: 'it returns false'. Refute it at one input. -/
def rectMovesWrong : ChangeSpec := { name := "rectMoves", fn := fun _ => fun
  | [d1, d2, d3, d4] => { results := [.lit (.bool false)], args := [d1, d2, d3, d4] }
  | _ => none }
def RectMovesWrongFalsely : Prop := rectMovesRow.holds Try.pinned (OpenSpec.ofChange rectMovesWrong)

/-- 'rondellaw01.RectRow': WHATEVER THE INPUT: true; the input reads as it did. -/
def rectRowSpec : ChangeSpec := { name := "rectRow", fn := fun _ => fun
  | [d1, d2, d3] => { results := [.lit (.bool true)], args := [d1, d2, d3] }
  | _ => none }
def rectRowRow : OpenClaim := { program := "ytbngkeaelfdknaa", sum := "ec56653fa54ec2ab7651abc74c23b99d58dcbf8f84ab59b188f90683fa390c0e", func := "rondel/rondellaw01.RectRow", spec := "rectRow", apart := false }
def RectRowSaid : Prop := rectRowRow.holds Try.pinned (OpenSpec.ofChange rectRowSpec)

/-- ITS FALSE NEIGHBOUR: 'it returns false'. Refute it at one input. -/
def rectRowWrong : ChangeSpec := { name := "rectRow", fn := fun _ => fun
  | [d1, d2, d3] => { results := [.lit (.bool false)], args := [d1, d2, d3] }
  | _ => none }
def RectRowWrongFalsely : Prop := rectRowRow.holds Try.pinned (OpenSpec.ofChange rectRowWrong)

/- THE SECOND FORM. 'bulk': how many values and letters a reading holds, each counted each time it is reached (what is shared counts as often as it is met; a slice's spare places count too). A statement '..UptoSaid' is the law's where the arguments, and the package variables that the reading takes, are together of bulk at most 1048576: NARROWER than '..Said'. Prove '..Said' where nothing that the law and all that it calls make is longer than what came in: it says more and counts as full. Else prove '..UptoSaid'. A law counts once. -/
mutual
def uptoBulk {H : Type} : DataW H → Nat
  | .lit (.string bytes) => bytes.length + 1
  | .lit _ => 1
  | .nil => 1
  | .ptr d => uptoBulk d + 1
  | .slice elems spare => uptoBulkAll elems + uptoBulkAll spare + 1
  | .agg parts => uptoBulkAll parts + 1
  | .iface _ d => uptoBulk d + 1
  | .map entries => uptoBulkEntries entries + 1
  | .held _ => 1
def uptoBulkAll {H : Type} : List (DataW H) → Nat
  | [] => 0
  | d :: r => uptoBulk d + uptoBulkAll r
def uptoBulkEntries {H : Type} : List (Lit × DataW H) → Nat
  | [] => 0
  | x :: r => uptoBulkEntry x + uptoBulkEntries r
def uptoBulkEntry {H : Type} : Lit × DataW H → Nat
  | (.string bytes, d) => bytes.length + uptoBulk d + 1
  | (_, d) => uptoBulk d + 1
 end
def uptoSmall : (H : Type) → List (DataW H) → Bool := fun _ ds => decide (uptoBulkAll ds ≤ 1048576)
def OpenSpec.upto (s : _root_.Go.ChangeSpec) : _root_.Go.OpenSpec := { _root_.Go.OpenSpec.ofChange s with cond := some uptoSmall }

/-- 'rondellaw01.RectCuts', WHERE WHAT IT READS IS OF BULK AT MOST 1048576: true; the input reads as it did. -/
def rectCutsUptoRow : OpenClaim := { program := "ytbngkeaelfdknaa", sum := "ec56653fa54ec2ab7651abc74c23b99d58dcbf8f84ab59b188f90683fa390c0e", func := "rondel/rondellaw01.RectCuts", spec := "rectCuts", apart := false, narrowed := true }
def RectCutsUptoSaid : Prop := rectCutsUptoRow.holds Try.pinned (OpenSpec.upto rectCutsSpec)

/-- 'rondellaw01.RectPoints', WHERE WHAT IT READS IS OF BULK AT MOST 1048576: true; the input reads as it did. -/
def rectPointsUptoRow : OpenClaim := { program := "ytbngkeaelfdknaa", sum := "ec56653fa54ec2ab7651abc74c23b99d58dcbf8f84ab59b188f90683fa390c0e", func := "rondel/rondellaw01.RectPoints", spec := "rectPoints", apart := false, narrowed := true }
def RectPointsUptoSaid : Prop := rectPointsUptoRow.holds Try.pinned (OpenSpec.upto rectPointsSpec)

/-- 'rondellaw01.RectHulls', WHERE WHAT IT READS IS OF BULK AT MOST 1048576: true; the input reads as it did. -/
def rectHullsUptoRow : OpenClaim := { program := "ytbngkeaelfdknaa", sum := "ec56653fa54ec2ab7651abc74c23b99d58dcbf8f84ab59b188f90683fa390c0e", func := "rondel/rondellaw01.RectHulls", spec := "rectHulls", apart := false, narrowed := true }
def RectHullsUptoSaid : Prop := rectHullsUptoRow.holds Try.pinned (OpenSpec.upto rectHullsSpec)

/-- 'rondellaw01.RectBack', WHERE WHAT IT READS IS OF BULK AT MOST 1048576: true; the input reads as it did. -/
def rectBackUptoRow : OpenClaim := { program := "ytbngkeaelfdknaa", sum := "ec56653fa54ec2ab7651abc74c23b99d58dcbf8f84ab59b188f90683fa390c0e", func := "rondel/rondellaw01.RectBack", spec := "rectBack", unfollowed := true, recurses := true, apart := false, narrowed := true }
def RectBackUptoSaid : Prop := rectBackUptoRow.holds Try.pinned (OpenSpec.upto rectBackSpec)

/-- 'rondellaw01.RectScales', WHERE WHAT IT READS IS OF BULK AT MOST 1048576: true; the input reads as it did. -/
def rectScalesUptoRow : OpenClaim := { program := "ytbngkeaelfdknaa", sum := "ec56653fa54ec2ab7651abc74c23b99d58dcbf8f84ab59b188f90683fa390c0e", func := "rondel/rondellaw01.RectScales", spec := "rectScales", apart := false, narrowed := true }
def RectScalesUptoSaid : Prop := rectScalesUptoRow.holds Try.pinned (OpenSpec.upto rectScalesSpec)

/-- 'rondellaw01.RectMoves', WHERE WHAT IT READS IS OF BULK AT MOST 1048576: true; the input reads as it did. -/
def rectMovesUptoRow : OpenClaim := { program := "ytbngkeaelfdknaa", sum := "ec56653fa54ec2ab7651abc74c23b99d58dcbf8f84ab59b188f90683fa390c0e", func := "rondel/rondellaw01.RectMoves", spec := "rectMoves", unfollowed := true, recurses := true, apart := false, narrowed := true }
def RectMovesUptoSaid : Prop := rectMovesUptoRow.holds Try.pinned (OpenSpec.upto rectMovesSpec)

/-- 'rondellaw01.RectRow', WHERE WHAT IT READS IS OF BULK AT MOST 1048576: true; the input reads as it did. -/
def rectRowUptoRow : OpenClaim := { program := "ytbngkeaelfdknaa", sum := "ec56653fa54ec2ab7651abc74c23b99d58dcbf8f84ab59b188f90683fa390c0e", func := "rondel/rondellaw01.RectRow", spec := "rectRow", apart := false, narrowed := true }
def RectRowUptoSaid : Prop := rectRowUptoRow.holds Try.pinned (OpenSpec.upto rectRowSpec)

end Rows
end Go.Proofs.Ytbngkeaelfdknaa
