/- Rectangles that are moved and scaled, their area, their row. -/
import Derived.Test.YtbkhcdmmnlkhdaaGreatRectB
import Derived.Test.YtbkhcdmmnlkhdaaGreatMk
namespace Go.Proofs.YtbkhcdmmnlkhdaaGreat
open Go.RowKit
set_option linter.unusedSimpArgs false
set_option linter.unusedVariables false
attribute [local go_sem high] eqRect
attribute [local go_sem] rEq_self
def chkE (x0 y0 x1 y1 : Int) : Int := if rMay x0 y0 x1 y1 then 0 else 4
def chkR (x0 y0 x1 y1 : Int) : R := if rMay x0 y0 x1 y1 then ⟨x0, y0, x1, y1⟩ else ⟨0, 0, 0, 0⟩
theorem rect_checked (x0 y0 x1 y1 : Int) (w : World) : Calls Tryz.prog 214 #[(.agg #[.int .i64 (x0), .int .i64 (y0), .int .i64 (x1), .int .i64 (y1)])] w fun e w' => e = .returned (.tuple #[(.agg #[.int .i64 (chkR x0 y0 x1 y1).x0, .int .i64 (chkR x0 y0 x1 y1).y0, .int .i64 (chkR x0 y0 x1 y1).x1, .int .i64 (chkR x0 y0 x1 y1).y1]), .int .i64 (chkE x0 y0 x1 y1)]) ∧ Below w.heap.size w w' := by
  go_enter Tryz.func214, Tryz.ntmps214
  go_wp2_with (first | (go_at_call 174; refine (rect_May _ _ _ _ _).mono ?_; rintro e w1 ⟨rfl, hb1⟩; obtain ⟨hc1, hf1⟩ := bcell hb1; have hz1 := hb1.size; (try simp only [World.size_alloc, World.size_setCell, World.size_drew] at hz1)))
  all_goals (refine bodyPost_ret (by simp [results, Tryz.results214, go_sem, ↓IntWalk.iteOmega, *]; rfl) rfl ⟨?_, by (repeat (first | (with_reducible exact Below.refl _ _) | ((with_reducible refine Below.alloc ?_ ?hB _); (case hB => (first | omega | (simp; done) | (simp; omega)))) | ((with_reducible refine Below.setCell ?_ ?hB _); (case hB => (first | omega | (simp; done) | (simp; omega)))) | (with_reducible refine Below.drew ?_) | ((with_reducible refine below_ext_of ?_ ?hB); (case hB => (first | omega | (simp; done) | (simp; omega)))) | ((with_reducible refine Below.trans ?_ (Below.mono (by assumption) ?hB)); (case hB => (first | omega | (simp; done) | (simp; omega))))))⟩; simp_all [chkR, chkE])
def farI (n : Int) : Int := min (max n (-4194304)) 4194304
theorem farI_bd (n : Int) : -4194304 ≤ farI n ∧ farI n ≤ 4194304 := by unfold farI; omega
theorem rect_Move1 (n : Int) (w : World) : Calls Tryz.prog 215 #[.int .i64 n] w fun e w' => e = .returned (.int .i64 (farI n)) ∧ w = w' := by
  go_enter Tryz.func215, Tryz.ntmps215
  go_wp2
  go_ret; exact ⟨rfl, rfl⟩
theorem rect_Move (x0 y0 x1 y1 dx dy : Int) (w : World) (hx0 : -4194304 ≤ x0 ∧ x0 ≤ 4194304) (hy0 : -4194304 ≤ y0 ∧ y0 ≤ 4194304) (hx1 : -4194304 ≤ x1 ∧ x1 ≤ 4194304) (hy1 : -4194304 ≤ y1 ∧ y1 ≤ 4194304) : Calls Tryz.prog 203 #[(.agg #[.int .i64 (x0), .int .i64 (y0), .int .i64 (x1), .int .i64 (y1)]), .int .i64 dx, .int .i64 dy] w fun e w' => e = .returned (.tuple #[(.agg #[.int .i64 (chkR (x0 + farI dx) (y0 + farI dy) (x1 + farI dx) (y1 + farI dy)).x0, .int .i64 (chkR (x0 + farI dx) (y0 + farI dy) (x1 + farI dx) (y1 + farI dy)).y0, .int .i64 (chkR (x0 + farI dx) (y0 + farI dy) (x1 + farI dx) (y1 + farI dy)).x1, .int .i64 (chkR (x0 + farI dx) (y0 + farI dy) (x1 + farI dx) (y1 + farI dy)).y1]), .int .i64 (chkE (x0 + farI dx) (y0 + farI dy) (x1 + farI dx) (y1 + farI dy))]) ∧ Below w.heap.size w w' := by
  have hf1 := farI_bd dx
  have hf2 := farI_bd dy
  go_enter Tryz.func203, Tryz.ntmps203
  go_wp2_with (first | (go_at_call 215; refine (rect_Move1 _ _).mono ?_; rintro e w1 ⟨rfl, rfl⟩) | (go_at_call 214; refine (rect_checked _ _ _ _ _).mono ?_; rintro e w1 ⟨rfl, hb1⟩; obtain ⟨hc1, hf1⟩ := bcell hb1; have hz1 := hb1.size; (try simp only [World.size_alloc, World.size_setCell, World.size_drew] at hz1)))
  (refine bodyPost_ret (by simp [results, Tryz.results203, go_sem, ↓IntWalk.iteOmega, *]; rfl) rfl ⟨?_, by (repeat (first | (with_reducible exact Below.refl _ _) | ((with_reducible refine Below.alloc ?_ ?hB _); (case hB => (first | omega | (simp; done) | (simp; omega)))) | ((with_reducible refine Below.setCell ?_ ?hB _); (case hB => (first | omega | (simp; done) | (simp; omega)))) | (with_reducible refine Below.drew ?_) | ((with_reducible refine below_ext_of ?_ ?hB); (case hB => (first | omega | (simp; done) | (simp; omega)))) | ((with_reducible refine Below.trans ?_ (Below.mono (by assumption) ?hB)); (case hB => (first | omega | (simp; done) | (simp; omega))))))⟩; rfl)
def rArea (x0 y0 x1 y1 : Int) : Int := if rEmpty x0 y0 x1 y1 then 0 else (x1 - x0) * (y1 - y0)
theorem cmp_isNaN (n : Int) (w : World) : Calls Tryz.prog 196 #[.int .i64 n] w fun e w' => e = .returned (.bool false) ∧ w = w' := by
  go_enter Tryz.func196, Tryz.ntmps196
  go_wp2
  go_ret; exact ⟨by simp, rfl⟩
def cmpI (x y : Int) : Int := if x < y then -1 else if y < x then 1 else 0
theorem mul_bd (a b : Int) (ha : 0 ≤ a ∧ a ≤ 8388608) (hb : 0 ≤ b ∧ b ≤ 8388608) : 0 ≤ a * b ∧ a * b ≤ 70368744177664 := by
  refine ⟨Int.mul_nonneg ha.1 hb.1, ?_⟩
  have h1 : a * b ≤ 8388608 * b := Int.mul_le_mul_of_nonneg_right ha.2 hb.1
  omega
theorem mul8_bd (x n : Int) (hx : -1048576 ≤ x ∧ x ≤ 1048576) (hn : 1 ≤ n ∧ n ≤ 8) : -8388608 ≤ x * n ∧ x * n ≤ 8388608 := by
  obtain rfl | rfl | rfl | rfl | rfl | rfl | rfl | rfl : n = 1 ∨ n = 2 ∨ n = 3 ∨ n = 4 ∨ n = 5 ∨ n = 6 ∨ n = 7 ∨ n = 8 := by omega
  all_goals omega
theorem rMay_iff {x0 y0 x1 y1 : Int} : rMay x0 y0 x1 y1 = true ↔ (-1048576 ≤ x0 ∧ x0 ≤ 1048576 ∧ -1048576 ≤ y0 ∧ y0 ≤ 1048576 ∧ -1048576 ≤ x1 ∧ x1 ≤ 1048576 ∧ -1048576 ≤ y1 ∧ y1 ≤ 1048576 ∧ x0 ≤ x1 ∧ y0 ≤ y1) := by simp [rMay]
theorem rect_Area (x0 y0 x1 y1 : Int) (w : World) (hx0 : -2097152 ≤ x0 ∧ x0 ≤ 2097152) (hy0 : -2097152 ≤ y0 ∧ y0 ≤ 2097152) (hx1 : -2097152 ≤ x1 ∧ x1 ≤ 2097152) (hy1 : -2097152 ≤ y1 ∧ y1 ≤ 2097152) : Calls Tryz.prog 169 #[(.agg #[.int .i64 (x0), .int .i64 (y0), .int .i64 (x1), .int .i64 (y1)])] w fun e w' => e = .returned (.int .i64 (rArea x0 y0 x1 y1)) ∧ Below w.heap.size w w' := by
  cases hE : rEmpty x0 y0 x1 y1
  · have hp := Lib.hid (show 0 < x1 - x0 ∧ 0 < y1 - y0 by simp only [rEmpty, Bool.or_eq_false_iff, decide_eq_false_iff_not] at hE; omega)
    have hm := mul_bd (x1 - x0) (y1 - y0) (by have := hp.out; omega) (by have := hp.out; omega)
    have hA := Lib.hid (show rArea x0 y0 x1 y1 = (x1 - x0) * (y1 - y0) by simp [rArea, hE])
    go_enter Tryz.func169, Tryz.ntmps169
    go_wp2_with (first | (go_at_call 185; refine (rect_Empty _ _ _ _ _).mono ?_; rintro e w1 ⟨rfl, hb1⟩; obtain ⟨hc1, hf1⟩ := bcell hb1; have hz1 := hb1.size; (try simp only [World.size_alloc, World.size_setCell, World.size_drew] at hz1)))
    (go_ret; refine ⟨?_, by (repeat (first | (with_reducible exact Below.refl _ _) | ((with_reducible refine Below.alloc ?_ ?hB _); (case hB => (first | omega | (simp; done) | (simp; omega)))) | ((with_reducible refine Below.setCell ?_ ?hB _); (case hB => (first | omega | (simp; done) | (simp; omega)))) | (with_reducible refine Below.drew ?_) | ((with_reducible refine below_ext_of ?_ ?hB); (case hB => (first | omega | (simp; done) | (simp; omega)))) | ((with_reducible refine Below.trans ?_ (Below.mono (by assumption) ?hB)); (case hB => (first | omega | (simp; done) | (simp; omega))))))⟩); exact congrArg (fun x => Ending.returned (.int .i64 x)) hA.out.symm
  · have hA := Lib.hid (show rArea x0 y0 x1 y1 = 0 by simp [rArea, hE])
    go_enter Tryz.func169, Tryz.ntmps169
    go_wp2_with (first | (go_at_call 185; refine (rect_Empty _ _ _ _ _).mono ?_; rintro e w1 ⟨rfl, hb1⟩; obtain ⟨hc1, hf1⟩ := bcell hb1; have hz1 := hb1.size; (try simp only [World.size_alloc, World.size_setCell, World.size_drew] at hz1)))
    (go_ret; refine ⟨?_, by (repeat (first | (with_reducible exact Below.refl _ _) | ((with_reducible refine Below.alloc ?_ ?hB _); (case hB => (first | omega | (simp; done) | (simp; omega)))) | ((with_reducible refine Below.setCell ?_ ?hB _); (case hB => (first | omega | (simp; done) | (simp; omega)))) | (with_reducible refine Below.drew ?_) | ((with_reducible refine below_ext_of ?_ ?hB); (case hB => (first | omega | (simp; done) | (simp; omega)))) | ((with_reducible refine Below.trans ?_ (Below.mono (by assumption) ?hB)); (case hB => (first | omega | (simp; done) | (simp; omega))))))⟩); exact congrArg (fun x => Ending.returned (.int .i64 x)) hA.out.symm
theorem ref_Area (x0 y0 x1 y1 : Int) (w : World) (hx0 : -2097152 ≤ x0 ∧ x0 ≤ 2097152) (hy0 : -2097152 ≤ y0 ∧ y0 ≤ 2097152) (hx1 : -2097152 ≤ x1 ∧ x1 ≤ 2097152) (hy1 : -2097152 ≤ y1 ∧ y1 ≤ 2097152) : Calls Tryz.prog 158 #[(.agg #[.int .i64 (x0), .int .i64 (y0), .int .i64 (x1), .int .i64 (y1)])] w fun e w' => e = .returned (.int .i64 (rArea x0 y0 x1 y1)) ∧ Below w.heap.size w w' := by
  cases hE : rEmpty x0 y0 x1 y1
  · have hp := Lib.hid (show 0 < x1 - x0 ∧ 0 < y1 - y0 by simp only [rEmpty, Bool.or_eq_false_iff, decide_eq_false_iff_not] at hE; omega)
    have hm := mul_bd (x1 - x0) (y1 - y0) (by have := hp.out; omega) (by have := hp.out; omega)
    have hA := Lib.hid (show rArea x0 y0 x1 y1 = (x1 - x0) * (y1 - y0) by simp [rArea, hE])
    go_enter Tryz.func158, Tryz.ntmps158
    go_wp2_with (first | (go_at_call 157; refine (ref_Empty _ _ _ _ _).mono ?_; rintro e w1 ⟨rfl, hb1⟩; obtain ⟨hc1, hf1⟩ := bcell hb1; have hz1 := hb1.size; (try simp only [World.size_alloc, World.size_setCell, World.size_drew] at hz1)))
    (go_ret; refine ⟨?_, by (repeat (first | (with_reducible exact Below.refl _ _) | ((with_reducible refine Below.alloc ?_ ?hB _); (case hB => (first | omega | (simp; done) | (simp; omega)))) | ((with_reducible refine Below.setCell ?_ ?hB _); (case hB => (first | omega | (simp; done) | (simp; omega)))) | (with_reducible refine Below.drew ?_) | ((with_reducible refine below_ext_of ?_ ?hB); (case hB => (first | omega | (simp; done) | (simp; omega)))) | ((with_reducible refine Below.trans ?_ (Below.mono (by assumption) ?hB)); (case hB => (first | omega | (simp; done) | (simp; omega))))))⟩); exact congrArg (fun x => Ending.returned (.int .i64 x)) hA.out.symm
  · have hA := Lib.hid (show rArea x0 y0 x1 y1 = 0 by simp [rArea, hE])
    go_enter Tryz.func158, Tryz.ntmps158
    go_wp2_with (first | (go_at_call 157; refine (ref_Empty _ _ _ _ _).mono ?_; rintro e w1 ⟨rfl, hb1⟩; obtain ⟨hc1, hf1⟩ := bcell hb1; have hz1 := hb1.size; (try simp only [World.size_alloc, World.size_setCell, World.size_drew] at hz1)))
    (go_ret; refine ⟨?_, by (repeat (first | (with_reducible exact Below.refl _ _) | ((with_reducible refine Below.alloc ?_ ?hB _); (case hB => (first | omega | (simp; done) | (simp; omega)))) | ((with_reducible refine Below.setCell ?_ ?hB _); (case hB => (first | omega | (simp; done) | (simp; omega)))) | (with_reducible refine Below.drew ?_) | ((with_reducible refine below_ext_of ?_ ?hB); (case hB => (first | omega | (simp; done) | (simp; omega)))) | ((with_reducible refine Below.trans ?_ (Below.mono (by assumption) ?hB)); (case hB => (first | omega | (simp; done) | (simp; omega))))))⟩); exact congrArg (fun x => Ending.returned (.int .i64 x)) hA.out.symm
def rScaleE (x0 y0 x1 y1 n : Int) : Int := if n < 1 ∨ 8 < n then 1 else if rMay x0 y0 x1 y1 then chkE (x0 * n) (y0 * n) (x1 * n) (y1 * n) else 4
def rScaleR (x0 y0 x1 y1 n : Int) : R := if n < 1 ∨ 8 < n then ⟨0, 0, 0, 0⟩ else if rMay x0 y0 x1 y1 then chkR (x0 * n) (y0 * n) (x1 * n) (y1 * n) else ⟨0, 0, 0, 0⟩
theorem rect_Scale (x0 y0 x1 y1 n : Int) (w : World) : Calls Tryz.prog 202 #[(.agg #[.int .i64 (x0), .int .i64 (y0), .int .i64 (x1), .int .i64 (y1)]), .int .i64 n] w fun e w' => e = .returned (.tuple #[(.agg #[.int .i64 (rScaleR x0 y0 x1 y1 n).x0, .int .i64 (rScaleR x0 y0 x1 y1 n).y0, .int .i64 (rScaleR x0 y0 x1 y1 n).x1, .int .i64 (rScaleR x0 y0 x1 y1 n).y1]), .int .i64 (rScaleE x0 y0 x1 y1 n)]) ∧ Below w.heap.size w w' := by
  by_cases hn : n < 1 ∨ 8 < n
  · have hE := Lib.hid (show rScaleE x0 y0 x1 y1 n = 1 by simp only [rScaleE, if_pos hn])
    have hR := Lib.hid (show rScaleR x0 y0 x1 y1 n = ⟨0, 0, 0, 0⟩ by simp only [rScaleR, if_pos hn])
    go_enter Tryz.func202, Tryz.ntmps202
    go_wp2_with (first | (go_at_call 174; refine (rect_May _ _ _ _ _).mono ?_; rintro e w1 ⟨rfl, hb1⟩; obtain ⟨hc1, hf1⟩ := bcell hb1; have hz1 := hb1.size; (try simp only [World.size_alloc, World.size_setCell, World.size_drew] at hz1)) | (go_at_call 214; refine (rect_checked _ _ _ _ _).mono ?_; rintro e w1 ⟨rfl, hb1⟩; obtain ⟨hc1, hf1⟩ := bcell hb1; have hz1 := hb1.size; (try simp only [World.size_alloc, World.size_setCell, World.size_drew] at hz1)))
    all_goals (refine bodyPost_ret (by simp [results, Tryz.results202, go_sem, ↓IntWalk.iteOmega, *]; rfl) rfl ⟨?_, by (repeat (first | (with_reducible exact Below.refl _ _) | ((with_reducible refine Below.alloc ?_ ?hB _); (case hB => (first | omega | (simp; done) | (simp; omega)))) | ((with_reducible refine Below.setCell ?_ ?hB _); (case hB => (first | omega | (simp; done) | (simp; omega)))) | (with_reducible refine Below.drew ?_) | ((with_reducible refine below_ext_of ?_ ?hB); (case hB => (first | omega | (simp; done) | (simp; omega)))) | ((with_reducible refine Below.trans ?_ (Below.mono (by assumption) ?hB)); (case hB => (first | omega | (simp; done) | (simp; omega))))))⟩; rw [hE.out, hR.out])
  · have hn1 : 1 ≤ n ∧ n ≤ 8 := by omega
    cases hM : rMay x0 y0 x1 y1
    · have hE := Lib.hid (show rScaleE x0 y0 x1 y1 n = 4 by simp only [rScaleE, if_neg hn, hM]; rfl)
      have hR := Lib.hid (show rScaleR x0 y0 x1 y1 n = ⟨0, 0, 0, 0⟩ by simp only [rScaleR, if_neg hn, hM]; rfl)
      go_enter Tryz.func202, Tryz.ntmps202
      go_wp2_with (first | (go_at_call 174; refine (rect_May _ _ _ _ _).mono ?_; rintro e w1 ⟨rfl, hb1⟩; obtain ⟨hc1, hf1⟩ := bcell hb1; have hz1 := hb1.size; (try simp only [World.size_alloc, World.size_setCell, World.size_drew] at hz1)) | (go_at_call 214; refine (rect_checked _ _ _ _ _).mono ?_; rintro e w1 ⟨rfl, hb1⟩; obtain ⟨hc1, hf1⟩ := bcell hb1; have hz1 := hb1.size; (try simp only [World.size_alloc, World.size_setCell, World.size_drew] at hz1)))
      all_goals (refine bodyPost_ret (by simp [results, Tryz.results202, go_sem, ↓IntWalk.iteOmega, *]; rfl) rfl ⟨?_, by (repeat (first | (with_reducible exact Below.refl _ _) | ((with_reducible refine Below.alloc ?_ ?hB _); (case hB => (first | omega | (simp; done) | (simp; omega)))) | ((with_reducible refine Below.setCell ?_ ?hB _); (case hB => (first | omega | (simp; done) | (simp; omega)))) | (with_reducible refine Below.drew ?_) | ((with_reducible refine below_ext_of ?_ ?hB); (case hB => (first | omega | (simp; done) | (simp; omega)))) | ((with_reducible refine Below.trans ?_ (Below.mono (by assumption) ?hB)); (case hB => (first | omega | (simp; done) | (simp; omega))))))⟩; rw [hE.out, hR.out])
    · have hE := Lib.hid (show rScaleE x0 y0 x1 y1 n = chkE (x0 * n) (y0 * n) (x1 * n) (y1 * n) by simp only [rScaleE, if_neg hn, hM, if_true])
      have hR := Lib.hid (show rScaleR x0 y0 x1 y1 n = chkR (x0 * n) (y0 * n) (x1 * n) (y1 * n) by simp only [rScaleR, if_neg hn, hM, if_true])
      have hb := rMay_iff.1 hM
      have b0 := mul8_bd x0 n (by omega) hn1
      have b1 := mul8_bd y0 n (by omega) hn1
      have b2 := mul8_bd x1 n (by omega) hn1
      have b3 := mul8_bd y1 n (by omega) hn1
      go_enter Tryz.func202, Tryz.ntmps202
      go_wp2_with (first | (go_at_call 174; refine (rect_May _ _ _ _ _).mono ?_; rintro e w1 ⟨rfl, hb1⟩; obtain ⟨hc1, hf1⟩ := bcell hb1; have hz1 := hb1.size; (try simp only [World.size_alloc, World.size_setCell, World.size_drew] at hz1)) | (go_at_call 214; refine (rect_checked _ _ _ _ _).mono ?_; rintro e w1 ⟨rfl, hb1⟩; obtain ⟨hc1, hf1⟩ := bcell hb1; have hz1 := hb1.size; (try simp only [World.size_alloc, World.size_setCell, World.size_drew] at hz1)))
      all_goals (refine bodyPost_ret (by simp [results, Tryz.results202, go_sem, ↓IntWalk.iteOmega, *]; rfl) rfl ⟨?_, by (repeat (first | (with_reducible exact Below.refl _ _) | ((with_reducible refine Below.alloc ?_ ?hB _); (case hB => (first | omega | (simp; done) | (simp; omega)))) | ((with_reducible refine Below.setCell ?_ ?hB _); (case hB => (first | omega | (simp; done) | (simp; omega)))) | (with_reducible refine Below.drew ?_) | ((with_reducible refine below_ext_of ?_ ?hB); (case hB => (first | omega | (simp; done) | (simp; omega)))) | ((with_reducible refine Below.trans ?_ (Below.mono (by assumption) ?hB)); (case hB => (first | omega | (simp; done) | (simp; omega))))))⟩; rw [hE.out, hR.out])
def orI (v0 v1 v2 v3 : Int) : Int := if v0 = 0 then if v1 = 0 then if v2 = 0 then v3 else v2 else v1 else v0
def rCompare (a0 a1 a2 a3 b0 b1 b2 b3 : Int) : Int := orI (cmpI a1 b1) (cmpI a0 b0) (cmpI a3 b3) (cmpI a2 b2)
end Go.Proofs.YtbkhcdmmnlkhdaaGreat
