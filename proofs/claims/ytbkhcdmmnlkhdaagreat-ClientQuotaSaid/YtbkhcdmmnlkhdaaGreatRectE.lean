/- The laws RectRow and RectBack, walked. -/
import Derived.Test.YtbkhcdmmnlkhdaaGreatRectD
import Derived.Test.YtbkhcdmmnlkhdaaGreatRectC
namespace Go.Proofs.YtbkhcdmmnlkhdaaGreat
open Go.RowKit
set_option linter.unusedSimpArgs false
set_option linter.unusedVariables false
attribute [local go_sem high] eqRect
attribute [local go_sem] rEq_self
theorem cmpI_neg (x y : Int) : cmpI y x = -cmpI x y := by unfold cmpI; (repeat' split) <;> omega
theorem rCompare_neg (a0 a1 a2 a3 b0 b1 b2 b3 : Int) : rCompare b0 b1 b2 b3 a0 a1 a2 a3 = -rCompare a0 a1 a2 a3 b0 b1 b2 b3 := by
  unfold rCompare orI
  rw [cmpI_neg a0, cmpI_neg a1, cmpI_neg a2, cmpI_neg a3]
  (repeat' split) <;> omega
theorem cmpI_zero {x y : Int} : cmpI x y = 0 ↔ x = y := by unfold cmpI; (repeat' split) <;> omega
theorem cmpI_bd (x y : Int) : -1 ≤ cmpI x y ∧ cmpI x y ≤ 1 := by unfold cmpI; (repeat' split) <;> omega
theorem rCompare_bd (a0 a1 a2 a3 b0 b1 b2 b3 : Int) : -1 ≤ rCompare a0 a1 a2 a3 b0 b1 b2 b3 ∧ rCompare a0 a1 a2 a3 b0 b1 b2 b3 ≤ 1 := by
  have h0 := cmpI_bd a0 b0
  have h1 := cmpI_bd a1 b1
  have h2 := cmpI_bd a2 b2
  have h3 := cmpI_bd a3 b3
  unfold rCompare orI; (repeat' split) <;> omega
theorem rCompare_zero (a0 a1 a2 a3 b0 b1 b2 b3 : Int) : ((rCompare a0 a1 a2 a3 b0 b1 b2 b3 : Int) == 0) = rEq a0 a1 a2 a3 b0 b1 b2 b3 := by
  rw [Bool.eq_iff_iff, beq_iff_eq, rEq_iff]
  have h0 := @cmpI_zero a0 b0
  have h1 := @cmpI_zero a1 b1
  have h2 := @cmpI_zero a2 b2
  have h3 := @cmpI_zero a3 b3
  unfold rCompare orI; (repeat' split) <;> omega
theorem cmpI_le {x y : Int} : cmpI x y ≤ 0 ↔ x ≤ y := by unfold cmpI; (repeat' split) <;> omega
theorem rCompare_le {a0 a1 a2 a3 b0 b1 b2 b3 : Int} : rCompare a0 a1 a2 a3 b0 b1 b2 b3 ≤ 0 ↔ (a1 < b1 ∨ a1 = b1 ∧ (a0 < b0 ∨ a0 = b0 ∧ (a3 < b3 ∨ a3 = b3 ∧ a2 ≤ b2))) := by
  have h0 := @cmpI_zero a0 b0
  have h1 := @cmpI_zero a1 b1
  have h3 := @cmpI_zero a3 b3
  have l0 := @cmpI_le a0 b0
  have l1 := @cmpI_le a1 b1
  have l2 := @cmpI_le a2 b2
  have l3 := @cmpI_le a3 b3
  unfold rCompare orI; (repeat' split) <;> omega
theorem rCompare_trans {a0 a1 a2 a3 b0 b1 b2 b3 c0 c1 c2 c3 : Int} (h : rCompare a0 a1 a2 a3 b0 b1 b2 b3 ≤ 0) (k : rCompare b0 b1 b2 b3 c0 c1 c2 c3 ≤ 0) : rCompare a0 a1 a2 a3 c0 c1 c2 c3 ≤ 0 := by
  rw [rCompare_le] at *; omega
theorem rSmall_bd (x0 y0 x1 y1 : Int) : -4 ≤ (rSmall x0 y0 x1 y1).x0 ∧ (rSmall x0 y0 x1 y1).x0 ≤ 19 ∧ -4 ≤ (rSmall x0 y0 x1 y1).y0 ∧ (rSmall x0 y0 x1 y1).y0 ≤ 19 ∧
    (rSmall x0 y0 x1 y1).x0 ≤ (rSmall x0 y0 x1 y1).x1 ∧ (rSmall x0 y0 x1 y1).x1 ≤ 31 ∧ (rSmall x0 y0 x1 y1).y0 ≤ (rSmall x0 y0 x1 y1).y1 ∧ (rSmall x0 y0 x1 y1).y1 ≤ 31 := by
  have h1 := around_bd x0 24 (by omega)
  have h2 := around_bd y0 24 (by omega)
  have h3 := around_bd x1 13 (by omega)
  have h4 := around_bd y1 13 (by omega)
  simp only [rSmall]; omega
theorem chk_may {x0 y0 x1 y1 : Int} (h : rMay x0 y0 x1 y1 = true) : chkR x0 y0 x1 y1 = ⟨x0, y0, x1, y1⟩ ∧ chkE x0 y0 x1 y1 = 0 := by
  simp [chkR, chkE, h]
/-- A move that is let, its outcome written out. -/
theorem move_ok {x0 y0 x1 y1 dx dy u0 v0 u1 v1 : Int} (hm : rMay u0 v0 u1 v1 = true) (hdx : -2000000 ≤ dx ∧ dx ≤ 2000000) (hdy : -2000000 ≤ dy ∧ dy ≤ 2000000) (e0 : x0 + dx = u0) (f0 : y0 + dy = v0) (e1 : x1 + dx = u1) (f1 : y1 + dy = v1) (w : World) :
    Calls Tryz.prog 203 #[(.agg #[.int .i64 (x0), .int .i64 (y0), .int .i64 (x1), .int .i64 (y1)]), .int .i64 dx, .int .i64 dy] w fun e w' => e = .returned (.tuple #[(.agg #[.int .i64 (u0), .int .i64 (v0), .int .i64 (u1), .int .i64 (v1)]), .int .i64 0]) ∧ Below w.heap.size w w' := by
  have hb := rMay_iff.1 hm
  have h := rect_Move x0 y0 x1 y1 dx dy w (by omega) (by omega) (by omega) (by omega)
  have e2 : farI dx = dx := by unfold farI; omega
  have e3 : farI dy = dy := by unfold farI; omega
  rw [e2, e3, e0, f0, e1, f1, (chk_may hm).1, (chk_may hm).2] at h
  exact h
theorem rMeets_iff (a0 a1 a2 a3 b0 b1 b2 b3 : Int) : rMeets a0 a1 a2 a3 b0 b1 b2 b3 = !rEmpty (max a0 b0) (max a1 b1) (min a2 b2) (min a3 b3) := by
  rw [rMeets_eq]
  cases h : rEmpty (max a0 b0) (max a1 b1) (min a2 b2) (min a3 b3)
  · simp only [rCut, h, Bool.false_eq_true, if_false]
  · simp only [rCut, h, if_true]; rfl
theorem rEmpty_move {x0 y0 x1 y1 u0 v0 u1 v1 dx dy : Int} (e0 : x0 + dx = u0) (f0 : y0 + dy = v0) (e1 : x1 + dx = u1) (f1 : y1 + dy = v1) : rEmpty u0 v0 u1 v1 = rEmpty x0 y0 x1 y1 := by
  rw [Bool.eq_iff_iff]; simp only [rEmpty, Bool.or_eq_true, decide_eq_true_eq]; omega
theorem rMeets_move {a0 a1 a2 a3 b0 b1 b2 b3 dx dy : Int} : rMeets (a0 + dx) (a1 + dy) (a2 + dx) (a3 + dy) (b0 + dx) (b1 + dy) (b2 + dx) (b3 + dy) = rMeets a0 a1 a2 a3 b0 b1 b2 b3 := by
  rw [rMeets_iff, rMeets_iff]; congr 1
  exact rEmpty_move (dx := dx) (dy := dy) (by omega) (by omega) (by omega) (by omega)
theorem rCovers_move {a0 a1 a2 a3 b0 b1 b2 b3 dx dy : Int} : rCovers (a0 + dx) (a1 + dy) (a2 + dx) (a3 + dy) (b0 + dx) (b1 + dy) (b2 + dx) (b3 + dy) = rCovers a0 a1 a2 a3 b0 b1 b2 b3 := by
  have he : rEmpty (b0 + dx) (b1 + dy) (b2 + dx) (b3 + dy) = rEmpty b0 b1 b2 b3 := rEmpty_move rfl rfl rfl rfl
  cases h : rEmpty b0 b1 b2 b3
  · rw [covers_plain h, covers_plain (he.trans h), Bool.eq_iff_iff]; simp only [Bool.and_eq_true, decide_eq_true_eq]; omega
  · simp [rCovers, h, he]
theorem covers_move {a0 a1 a2 a3 b0 b1 b2 b3 dx dy : Int} (w : World) : Calls Tryz.prog 198 #[(.agg #[.int .i64 (a0 + dx), .int .i64 (a1 + dy), .int .i64 (a2 + dx), .int .i64 (a3 + dy)]), (.agg #[.int .i64 (b0 + dx), .int .i64 (b1 + dy), .int .i64 (b2 + dx), .int .i64 (b3 + dy)])] w fun e w' => e = .returned (.bool (rCovers a0 a1 a2 a3 b0 b1 b2 b3)) ∧ Below w.heap.size w w' := by
  rw [← rCovers_move (dx := dx) (dy := dy)]; exact rect_Covers _ _ _ _ _ _ _ _ _
end Go.Proofs.YtbkhcdmmnlkhdaaGreat
