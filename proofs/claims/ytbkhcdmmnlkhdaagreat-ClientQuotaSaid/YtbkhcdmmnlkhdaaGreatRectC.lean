/- The law RectCuts, walked. -/
import Derived.Test.YtbkhcdmmnlkhdaaGreatRectB
import Derived.Test.YtbkhcdmmnlkhdaaGreatMk
namespace Go.Proofs.YtbkhcdmmnlkhdaaGreat
open Go.RowKit
set_option linter.unusedSimpArgs false
set_option linter.unusedVariables false
attribute [local go_sem high] eqRect
attribute [local go_sem] rEq_self
theorem rCut_comm (a0 a1 a2 a3 b0 b1 b2 b3 : Int) : rCut a0 a1 a2 a3 b0 b1 b2 b3 = rCut b0 b1 b2 b3 a0 a1 a2 a3 := by
  simp only [rCut, Int.max_comm a0, Int.max_comm a1, Int.min_comm a2, Int.min_comm a3]
theorem rMeets_eq (a0 a1 a2 a3 b0 b1 b2 b3 : Int) : rMeets a0 a1 a2 a3 b0 b1 b2 b3 = !rEmpty (rCut a0 a1 a2 a3 b0 b1 b2 b3).x0 (rCut a0 a1 a2 a3 b0 b1 b2 b3).y0 (rCut a0 a1 a2 a3 b0 b1 b2 b3).x1 (rCut a0 a1 a2 a3 b0 b1 b2 b3).y1 := by
  unfold rMeets
  congr 1
  rw [Bool.eq_iff_iff, rEq_iff]
  unfold rCut
  split
  · simp [rEmpty]
  · rename_i h
    simp only [rEmpty, Bool.or_eq_true, decide_eq_true_eq] at h ⊢
    omega
theorem rHas_cut (a0 a1 a2 a3 b0 b1 b2 b3 x y : Int) : rHas (rCut a0 a1 a2 a3 b0 b1 b2 b3).x0 (rCut a0 a1 a2 a3 b0 b1 b2 b3).y0 (rCut a0 a1 a2 a3 b0 b1 b2 b3).x1 (rCut a0 a1 a2 a3 b0 b1 b2 b3).y1 x y = (rHas a0 a1 a2 a3 x y && rHas b0 b1 b2 b3 x y) := by
  rw [Bool.eq_iff_iff]
  unfold rCut
  split
  · rename_i h
    simp only [rEmpty, rHas, Bool.or_eq_true, Bool.and_eq_true, decide_eq_true_eq] at h ⊢
    omega
  · simp only [rHas, Bool.and_eq_true, decide_eq_true_eq]
    omega
theorem rect_CutS (a0 a1 a2 a3 b0 b1 b2 b3 : Int) (w : World) : Calls Tryz.prog 181 #[(.agg #[.int .i64 (b0), .int .i64 (b1), .int .i64 (b2), .int .i64 (b3)]), (.agg #[.int .i64 (a0), .int .i64 (a1), .int .i64 (a2), .int .i64 (a3)])] w fun e w' => e = .returned ((.agg #[.int .i64 (rCut a0 a1 a2 a3 b0 b1 b2 b3).x0, .int .i64 (rCut a0 a1 a2 a3 b0 b1 b2 b3).y0, .int .i64 (rCut a0 a1 a2 a3 b0 b1 b2 b3).x1, .int .i64 (rCut a0 a1 a2 a3 b0 b1 b2 b3).y1])) ∧ Below w.heap.size w w' := by
  rw [rCut_comm]; exact rect_Cut _ _ _ _ _ _ _ _ _
theorem rect_HasC (a0 a1 a2 a3 b0 b1 b2 b3 x y : Int) (w : World) : Calls Tryz.prog 127 #[(.agg #[.int .i64 (rCut a0 a1 a2 a3 b0 b1 b2 b3).x0, .int .i64 (rCut a0 a1 a2 a3 b0 b1 b2 b3).y0, .int .i64 (rCut a0 a1 a2 a3 b0 b1 b2 b3).x1, .int .i64 (rCut a0 a1 a2 a3 b0 b1 b2 b3).y1]), .int .i64 x, .int .i64 y] w fun e w' => e = .returned (.bool (rHas a0 a1 a2 a3 x y && rHas b0 b1 b2 b3 x y)) ∧ Below w.heap.size w w' := by
  rw [← rHas_cut]; exact rect_Has _ _ _ _ _ _ _
theorem ref_HasV {a0 a1 a2 a3 x y : Int} {v : Bool} (w : World) (h : rHas a0 a1 a2 a3 x y = v) : Calls Tryz.prog 121 #[(.agg #[.int .i64 (a0), .int .i64 (a1), .int .i64 (a2), .int .i64 (a3)]), .int .i64 x, .int .i64 y] w fun e w' => e = .returned (.bool v) ∧ Below w.heap.size w w' := by
  subst h; exact ref_Has _ _ _ _ _ _ _
theorem rect_HasCV {a0 a1 a2 a3 b0 b1 b2 b3 x y : Int} {u v : Bool} (w : World) (h : rHas a0 a1 a2 a3 x y = u) (h' : rHas b0 b1 b2 b3 x y = v) : Calls Tryz.prog 127 #[(.agg #[.int .i64 (rCut a0 a1 a2 a3 b0 b1 b2 b3).x0, .int .i64 (rCut a0 a1 a2 a3 b0 b1 b2 b3).y0, .int .i64 (rCut a0 a1 a2 a3 b0 b1 b2 b3).x1, .int .i64 (rCut a0 a1 a2 a3 b0 b1 b2 b3).y1]), .int .i64 x, .int .i64 y] w fun e w' => e = .returned (.bool (u && v)) ∧ Below w.heap.size w w' := by
  subst h h'; exact rect_HasC _ _ _ _ _ _ _ _ _ _ _
end Go.Proofs.YtbkhcdmmnlkhdaaGreat
