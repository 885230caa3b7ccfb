/- The list of a request's arguments, walked. -/
import Derived.Test.YtinnaiofgbjicaaDoorReqO
import Derived.Deep.RegionHeld3
import Derived.Deep.AppendLies
import Derived.Lib.OthersKept
namespace Go.Proofs.YtinnaiofgbjicaaDoor
open Go.RowKit Go.Proofs.YtinnaiofgbjicaaDoorW.PrintWords
set_option linter.unusedSimpArgs false
set_option linter.unusedVariables false
set_option maxRecDepth 1000000
theorem iter_heap' (W : World) (f : ByteArray) (k : Nat) (h : W.heap.size = k) : (W.iter f 0).heap[k]? = some (.stringIter f 0) := by subst h; exact World.iter_heap _ _ _
end Go.Proofs.YtinnaiofgbjicaaDoor
