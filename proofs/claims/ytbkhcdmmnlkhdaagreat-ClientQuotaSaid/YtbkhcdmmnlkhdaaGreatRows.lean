/-
  No cell of these rows narrows 'for every input' (looked for: loops, veiled, ifaces, maps, wideKeys, modest, calm, conditions, laid).
  DERIVED. THE GIVEN ROWS OF THIS SEAT. 5 by the template 'for every input the law returns true; each argument reads behind the call as it read before'; 0 by the template 'total and deterministic' (their statements: YtbkhcdmmnlkhdaaGreatTotals.lean).
  GIVEN WITH THE SEED: the statements are not yours to turn. If you find one false, say at which input.
  Laid BY PROGRAM, IN A SANDBOX (cutbox-rows.mjs): the forced cells as the released guide's own fill.sh prints them over the translation e83a2221e561d228… (all of the seat's roots in one cut). By AI agents, Wed Nov 11 2026. No macro, syntax, notation, axiom, sorry.
-/
import Derived.Test.YtbkhcdmmnlkhdaaGreatChecked
import GoSem.Claim
import GoSem.ClaimJoined
import GoSem.ClaimMapViews
import Derived.JoinedTies
import Derived.KernelRfl
namespace Go.Proofs.YtbkhcdmmnlkhdaaGreat
/- THE CELL 'sum', in the pinned program and in every row, IS THE sha256 OF THE DUMP (.gsa) THAT YtbkhcdmmnlkhdaaGreatProg.lean LOADS. Nothing in Lean hashes anything: it is a label: what it is worth is what the hold of that sum in a sandbox is worth. -/
noncomputable def Tryz.pinned : Pinned := { name := "ytbkhcdmmnlkhdaagreat", sum := "e83a2221e561d22855ace8b4d973d7e16a3b5381f5cc27b4b86508ec959bfa7e", checked := Tryz.checked }
namespace Rows
def none {H : Type} : Left H := { results := [], args := [] }

/-- 'rondellaw15.ClientQuota': WHATEVER THE INPUT: true; the input reads as it did. -/
def clientQuotaSpec : ChangeSpec := { name := "clientQuota", fn := fun _ => fun
  | [d1, d2] => { results := [.lit (.bool true)], args := [d1, d2] }
  | _ => none }
def clientQuotaRow : OpenClaim := { program := "ytbkhcdmmnlkhdaagreat", sum := "e83a2221e561d22855ace8b4d973d7e16a3b5381f5cc27b4b86508ec959bfa7e", func := "rondel/rondellaw15.ClientQuota", spec := "clientQuota", unfollowed := true, recurses := true, apart := false }
def ClientQuotaSaid : Prop := clientQuotaRow.holds Tryz.pinned (OpenSpec.ofChange clientQuotaSpec)

/-- ITS FALSE NEIGHBOUR: 'it returns false'. Refute it at one input. -/
def clientQuotaWrong : ChangeSpec := { name := "clientQuota", fn := fun _ => fun
  | [d1, d2] => { results := [.lit (.bool false)], args := [d1, d2] }
  | _ => none }
def ClientQuotaWrongFalsely : Prop := clientQuotaRow.holds Tryz.pinned (OpenSpec.ofChange clientQuotaWrong)

/-- 'rondellaw15.ClientReleases': WHATEVER THE INPUT: true; the input reads as it did. -/
def clientReleasesSpec : ChangeSpec := { name := "clientReleases", fn := fun _ => fun
  | [d] => { results := [.lit (.bool true)], args := [d] }
  | _ => none }
def clientReleasesRow : OpenClaim := { program := "ytbkhcdmmnlkhdaagreat", sum := "e83a2221e561d22855ace8b4d973d7e16a3b5381f5cc27b4b86508ec959bfa7e", func := "rondel/rondellaw15.ClientReleases", spec := "clientReleases", unfollowed := true, recurses := true, apart := false }
def ClientReleasesSaid : Prop := clientReleasesRow.holds Tryz.pinned (OpenSpec.ofChange clientReleasesSpec)

/-- ITS FALSE NEIGHBOUR: 'it returns false'. Refute it at one input. -/
def clientReleasesWrong : ChangeSpec := { name := "clientReleases", fn := fun _ => fun
  | [d] => { results := [.lit (.bool false)], args := [d] }
  | _ => none }
def ClientReleasesWrongFalsely : Prop := clientReleasesRow.holds Tryz.pinned (OpenSpec.ofChange clientReleasesWrong)

/-- 'rondellaw15.ClientRaw': WHATEVER THE INPUT: true; the input reads as it did. -/
def clientRawSpec : ChangeSpec := { name := "clientRaw", fn := fun _ => fun
  | [d] => { results := [.lit (.bool true)], args := [d] }
  | _ => none }
def clientRawRow : OpenClaim := { program := "ytbkhcdmmnlkhdaagreat", sum := "e83a2221e561d22855ace8b4d973d7e16a3b5381f5cc27b4b86508ec959bfa7e", func := "rondel/rondellaw15.ClientRaw", spec := "clientRaw", unfollowed := true, recurses := true, apart := false }
def ClientRawSaid : Prop := clientRawRow.holds Tryz.pinned (OpenSpec.ofChange clientRawSpec)

/-- ITS FALSE NEIGHBOUR: 'it returns false'. Refute it at one input. -/
def clientRawWrong : ChangeSpec := { name := "clientRaw", fn := fun _ => fun
  | [d] => { results := [.lit (.bool false)], args := [d] }
  | _ => none }
def ClientRawWrongFalsely : Prop := clientRawRow.holds Tryz.pinned (OpenSpec.ofChange clientRawWrong)

/-- 'rondellaw15.ClientCloses': WHATEVER THE INPUT: true; the input reads as it did. -/
def clientClosesSpec : ChangeSpec := { name := "clientCloses", fn := fun _ => fun
  | [d1, d2] => { results := [.lit (.bool true)], args := [d1, d2] }
  | _ => none }
def clientClosesRow : OpenClaim := { program := "ytbkhcdmmnlkhdaagreat", sum := "e83a2221e561d22855ace8b4d973d7e16a3b5381f5cc27b4b86508ec959bfa7e", func := "rondel/rondellaw15.ClientCloses", spec := "clientCloses", unfollowed := true, recurses := true, apart := false }
def ClientClosesSaid : Prop := clientClosesRow.holds Tryz.pinned (OpenSpec.ofChange clientClosesSpec)

/-- ITS FALSE NEIGHBOUR: 'it returns false'. Refute it at one input. -/
def clientClosesWrong : ChangeSpec := { name := "clientCloses", fn := fun _ => fun
  | [d1, d2] => { results := [.lit (.bool false)], args := [d1, d2] }
  | _ => none }
def ClientClosesWrongFalsely : Prop := clientClosesRow.holds Tryz.pinned (OpenSpec.ofChange clientClosesWrong)

/-- 'rondellaw15.ClientErrors': WHATEVER THE INPUT: true; the input reads as it did. -/
def clientErrorsSpec : ChangeSpec := { name := "clientErrors", fn := fun _ => fun
  | [d] => { results := [.lit (.bool true)], args := [d] }
  | _ => none }
def clientErrorsRow : OpenClaim := { program := "ytbkhcdmmnlkhdaagreat", sum := "e83a2221e561d22855ace8b4d973d7e16a3b5381f5cc27b4b86508ec959bfa7e", func := "rondel/rondellaw15.ClientErrors", spec := "clientErrors", unfollowed := true, recurses := true, apart := false }
def ClientErrorsSaid : Prop := clientErrorsRow.holds Tryz.pinned (OpenSpec.ofChange clientErrorsSpec)

/-- ITS FALSE NEIGHBOUR: 'it returns false'. Refute it at one input. -/
def clientErrorsWrong : ChangeSpec := { name := "clientErrors", fn := fun _ => fun
  | [d] => { results := [.lit (.bool false)], args := [d] }
  | _ => none }
def ClientErrorsWrongFalsely : Prop := clientErrorsRow.holds Tryz.pinned (OpenSpec.ofChange clientErrorsWrong)

/- THE SECOND FORM. 'bulk': how many values and letters a reading holds, each counted each time it is reached (what is shared counts as often as it is met; a slice's spare places count too). A statement '..UptoSaid' is the law's where the arguments, and the package variables that the reading takes, are together of bulk at most 1048576: NARROWER than '..Said'. Prove '..Said' where nothing that the law and all that it calls make is longer than what came in: it says more and counts as full. Else prove '..UptoSaid'. A law counts once. -/
mutual
def uptoBulk {H : Type} : DataW H → Nat
  | .lit (.string bytes) => bytes.length + 1
  | .lit _ => 1
  | .nil => 1
  | .ptr d => uptoBulk d + 1
  | .slice elems spare => uptoBulkAll elems + uptoBulkAll spare + 1
  | .agg parts => uptoBulkAll parts + 1
  | .iface _ d => uptoBulk d + 1
  | .map entries => uptoBulkEntries entries + 1
  | .held _ => 1
def uptoBulkAll {H : Type} : List (DataW H) → Nat
  | [] => 0
  | d :: r => uptoBulk d + uptoBulkAll r
def uptoBulkEntries {H : Type} : List (Lit × DataW H) → Nat
  | [] => 0
  | x :: r => uptoBulkEntry x + uptoBulkEntries r
def uptoBulkEntry {H : Type} : Lit × DataW H → Nat
  | (.string bytes, d) => bytes.length + uptoBulk d + 1
  | (_, d) => uptoBulk d + 1
 end
def uptoSmall : (H : Type) → List (DataW H) → Bool := fun _ ds => decide (uptoBulkAll ds ≤ 1048576)
def OpenSpec.upto (s : _root_.Go.ChangeSpec) : _root_.Go.OpenSpec := { _root_.Go.OpenSpec.ofChange s with cond := some uptoSmall }

/-- 'rondellaw15.ClientQuota', WHERE WHAT IT READS IS OF BULK AT MOST 1048576: true; the input reads as it did. -/
def clientQuotaUptoRow : OpenClaim := { program := "ytbkhcdmmnlkhdaagreat", sum := "e83a2221e561d22855ace8b4d973d7e16a3b5381f5cc27b4b86508ec959bfa7e", func := "rondel/rondellaw15.ClientQuota", spec := "clientQuota", unfollowed := true, recurses := true, apart := false, narrowed := true }
def ClientQuotaUptoSaid : Prop := clientQuotaUptoRow.holds Tryz.pinned (OpenSpec.upto clientQuotaSpec)

/-- 'rondellaw15.ClientReleases', WHERE WHAT IT READS IS OF BULK AT MOST 1048576: true; the input reads as it did. -/
def clientReleasesUptoRow : OpenClaim := { program := "ytbkhcdmmnlkhdaagreat", sum := "e83a2221e561d22855ace8b4d973d7e16a3b5381f5cc27b4b86508ec959bfa7e", func := "rondel/rondellaw15.ClientReleases", spec := "clientReleases", unfollowed := true, recurses := true, apart := false, narrowed := true }
def ClientReleasesUptoSaid : Prop := clientReleasesUptoRow.holds Tryz.pinned (OpenSpec.upto clientReleasesSpec)

/-- 'rondellaw15.ClientRaw', WHERE WHAT IT READS IS OF BULK AT MOST 1048576: true; the input reads as it did. -/
def clientRawUptoRow : OpenClaim := { program := "ytbkhcdmmnlkhdaagreat", sum := "e83a2221e561d22855ace8b4d973d7e16a3b5381f5cc27b4b86508ec959bfa7e", func := "rondel/rondellaw15.ClientRaw", spec := "clientRaw", unfollowed := true, recurses := true, apart := false, narrowed := true }
def ClientRawUptoSaid : Prop := clientRawUptoRow.holds Tryz.pinned (OpenSpec.upto clientRawSpec)

/-- 'rondellaw15.ClientCloses', WHERE WHAT IT READS IS OF BULK AT MOST 1048576: true; the input reads as it did. -/
def clientClosesUptoRow : OpenClaim := { program := "ytbkhcdmmnlkhdaagreat", sum := "e83a2221e561d22855ace8b4d973d7e16a3b5381f5cc27b4b86508ec959bfa7e", func := "rondel/rondellaw15.ClientCloses", spec := "clientCloses", unfollowed := true, recurses := true, apart := false, narrowed := true }
def ClientClosesUptoSaid : Prop := clientClosesUptoRow.holds Tryz.pinned (OpenSpec.upto clientClosesSpec)

/-- 'rondellaw15.ClientErrors', WHERE WHAT IT READS IS OF BULK AT MOST 1048576: true; the input reads as it did. -/
def clientErrorsUptoRow : OpenClaim := { program := "ytbkhcdmmnlkhdaagreat", sum := "e83a2221e561d22855ace8b4d973d7e16a3b5381f5cc27b4b86508ec959bfa7e", func := "rondel/rondellaw15.ClientErrors", spec := "clientErrors", unfollowed := true, recurses := true, apart := false, narrowed := true }
def ClientErrorsUptoSaid : Prop := clientErrorsUptoRow.holds Tryz.pinned (OpenSpec.upto clientErrorsSpec)

end Rows
end Go.Proofs.YtbkhcdmmnlkhdaaGreat
