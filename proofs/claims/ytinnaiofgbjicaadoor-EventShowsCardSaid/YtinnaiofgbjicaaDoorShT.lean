/- The tables of the library: what the listed condition gives a walk, and a world that meets it. -/
import Derived.Test.YtinnaiofgbjicaaDoorRows
import Derived.Test.YtinnaiofgbjicaaDoorShB
import Derived.LaidMore
import Derived.MakeChecks
import Derived.Stop.LaidErr
namespace Go.Proofs.YtinnaiofgbjicaaDoor
open Go.RowKit
set_option linter.unusedVariables false
set_option maxRecDepth 1000000
def laid3 : List (String × DataW Unit) := [("math/bits.deBruijn32tab", Rows.laid_math_bits_deBruijn32tab), ("math/bits.deBruijn64tab", Rows.laid_math_bits_deBruijn64tab), ("internal/strconv.uint64pow10", Rows.laid_internal_strconv_uint64pow10)]
theorem door_met (os : Os) (args : Array Value) : laidMetH Tryd.prog laid3 ((World.doorLaid Tryd.prog 34 os).forCall (fun _ _ => 0) ⟨#[], args, []⟩).memory :=
  laidMetH_of_parts3 (fuel := 8) (laidMet_of_run' 8 (by kernel_rfl) (by kernel_rfl)) (by kernel_rfl) (by kernel_rfl)
theorem tab_of {W : World} (h : laidMetH Tryd.prog laid3 W) : Tab W := by
  rw [MakeChecks.laidMetH_plain _ _ _ (by kernel_rfl)] at h
  have h2 := (laidMet.tail (laidMet.tail h))
  have e : (Rows.laid_internal_strconv_uint64pow10 : DataW Unit) = Lib.tabData .u64 Lib.pow10Tab := by kernel_rfl
  rw [e] at h2
  exact Lib.tabBelow_of_tabIs (Lib.tabIs_of_head (g := 0) (t := 170) (e := 157) (n := 20) (by kernel_rfl) (by kernel_rfl) Tryd.underlying170 Tryd.underlying157 (by kernel_rfl) (by kernel_rfl) h2)
end Go.Proofs.YtinnaiofgbjicaaDoor
