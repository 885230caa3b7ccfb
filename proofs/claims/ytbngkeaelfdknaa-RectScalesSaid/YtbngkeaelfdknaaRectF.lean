/- The laws RectScales and RectMoves, walked. -/
import Derived.Test.YtbngkeaelfdknaaRectE
namespace Go.Proofs.Ytbngkeaelfdknaa
open Go.RowKit
set_option linter.unusedSimpArgs false
set_option linter.unusedVariables false
attribute [local go_sem high] eqRect
attribute [local go_sem] rEq_self
theorem scale_ok {x0 y0 x1 y1 n : Int} (hn : 1 ≤ n ∧ n ≤ 8) (h : rMay x0 y0 x1 y1 = true) (h' : rMay (x0 * n) (y0 * n) (x1 * n) (y1 * n) = true) (w : World) :
    Calls Try.prog 28 #[(.agg #[.int .i64 (x0), .int .i64 (y0), .int .i64 (x1), .int .i64 (y1)]), .int .i64 n] w fun e w' => e = .returned (.tuple #[(.agg #[.int .i64 (x0 * n), .int .i64 (y0 * n), .int .i64 (x1 * n), .int .i64 (y1 * n)]), .int .i64 0]) ∧ Below w.heap.size w w' := by
  have c := rect_Scale x0 y0 x1 y1 n w
  have e1 : rScaleR x0 y0 x1 y1 n = ⟨x0 * n, y0 * n, x1 * n, y1 * n⟩ := by
    simp only [rScaleR, if_neg (show ¬ (n < 1 ∨ 8 < n) by omega), h, if_true]; exact (chk_may h').1
  have e2 : rScaleE x0 y0 x1 y1 n = 0 := by
    simp only [rScaleE, if_neg (show ¬ (n < 1 ∨ 8 < n) by omega), h, if_true]; exact (chk_may h').2
  rw [e1, e2] at c
  exact c
theorem rHas_scale {x0 y0 x1 y1 x y n : Int} (hn : 1 ≤ n ∧ n ≤ 8) : rHas (x0 * n) (y0 * n) (x1 * n) (y1 * n) (x * n) (y * n) = rHas x0 y0 x1 y1 x y := by
  rw [Bool.eq_iff_iff]; simp only [rHas, Bool.and_eq_true, decide_eq_true_eq]
  obtain rfl | rfl | rfl | rfl | rfl | rfl | rfl | rfl : n = 1 ∨ n = 2 ∨ n = 3 ∨ n = 4 ∨ n = 5 ∨ n = 6 ∨ n = 7 ∨ n = 8 := by omega
  all_goals omega
theorem rHas_scale' {x0 y0 x1 y1 x y n : Int} (hn : 1 ≤ n ∧ n ≤ 8) : rHas (x0 * n) (y0 * n) (x1 * n) (y1 * n) (x * n + n - 1) (y * n + n - 1) = rHas x0 y0 x1 y1 x y := by
  rw [Bool.eq_iff_iff]; simp only [rHas, Bool.and_eq_true, decide_eq_true_eq]
  obtain rfl | rfl | rfl | rfl | rfl | rfl | rfl | rfl : n = 1 ∨ n = 2 ∨ n = 3 ∨ n = 4 ∨ n = 5 ∨ n = 6 ∨ n = 7 ∨ n = 8 := by omega
  all_goals omega
theorem has_scale {x0 y0 x1 y1 x y n : Int} (hn : 1 ≤ n ∧ n ≤ 8) (w : World) : Calls Try.prog 16 #[(.agg #[.int .i64 (x0 * n), .int .i64 (y0 * n), .int .i64 (x1 * n), .int .i64 (y1 * n)]), .int .i64 (x * n), .int .i64 (y * n)] w fun e w' => e = .returned (.bool (rHas x0 y0 x1 y1 x y)) ∧ Below w.heap.size w w' := by
  rw [← rHas_scale hn]; exact rect_Has _ _ _ _ _ _ _
theorem has_scale' {x0 y0 x1 y1 x y n : Int} (hn : 1 ≤ n ∧ n ≤ 8) (w : World) : Calls Try.prog 16 #[(.agg #[.int .i64 (x0 * n), .int .i64 (y0 * n), .int .i64 (x1 * n), .int .i64 (y1 * n)]), .int .i64 (x * n + n - 1), .int .i64 (y * n + n - 1)] w fun e w' => e = .returned (.bool (rHas x0 y0 x1 y1 x y)) ∧ Below w.heap.size w w' := by
  rw [← rHas_scale' hn]; exact rect_Has _ _ _ _ _ _ _
set_option maxHeartbeats 4000000 in
theorem walk_RectScales (a0 a1 a2 a3 x y n : Int) (w : World) (ha0 : -9223372036854775808 ≤ a0 ∧ a0 ≤ 9223372036854775807) (ha1 : -9223372036854775808 ≤ a1 ∧ a1 ≤ 9223372036854775807) (ha2 : -9223372036854775808 ≤ a2 ∧ a2 ≤ 9223372036854775807) (ha3 : -9223372036854775808 ≤ a3 ∧ a3 ≤ 9223372036854775807) (hx : -9223372036854775808 ≤ x ∧ x ≤ 9223372036854775807) (hy : -9223372036854775808 ≤ y ∧ y ≤ 9223372036854775807) (hn : -9223372036854775808 ≤ n ∧ n ≤ 9223372036854775807) :
    Calls Try.prog 7 #[(.agg #[.int .i64 (a0), .int .i64 (a1), .int .i64 (a2), .int .i64 (a3)]), .int .i64 x, .int .i64 y, .int .i64 n] w fun e w' => e = .returned (.bool true) ∧ Below w.heap.size w w' := by
  have cP := fun w => ref_Small a0 a1 a2 a3 w ha0 ha1 ha2 ha3
  have hP := rSmall_bd a0 a1 a2 a3
  generalize (rSmall a0 a1 a2 a3).x0 = p0 at cP hP
  generalize (rSmall a0 a1 a2 a3).y0 = p1 at cP hP
  generalize (rSmall a0 a1 a2 a3).x1 = p2 at cP hP
  generalize (rSmall a0 a1 a2 a3).y1 = p3 at cP hP
  have cN := fun w => ref_Around n 8 w (by omega) (by omega) (by omega) (by omega)
  have cX := fun w => ref_Around x 40 w (by omega) (by omega) (by omega) (by omega)
  have cY := fun w => ref_Around y 40 w (by omega) (by omega) (by omega) (by omega)
  have hN := around_bd n 8 (by omega)
  have hX := around_bd x 40 (by omega)
  have hY := around_bd y 40 (by omega)
  generalize around n 8 = N at cN hN
  generalize around x 40 = X at cX hX
  generalize around y 40 = Y at cY hY
  have hK : 1 ≤ 1 + N ∧ 1 + N ≤ 8 := by omega
  have b0 := mul8_bd (X - 10) (1 + N) (by omega) hK
  have b1 := mul8_bd (Y - 10) (1 + N) (by omega) hK
  have hM' : rMay (p0 * (1 + N)) (p1 * (1 + N)) (p2 * (1 + N)) (p3 * (1 + N)) = true := by
    rw [rMay_iff]
    obtain rfl | rfl | rfl | rfl | rfl | rfl | rfl | rfl : N = 0 ∨ N = 1 ∨ N = 2 ∨ N = 3 ∨ N = 4 ∨ N = 5 ∨ N = 6 ∨ N = 7 := by omega
    all_goals omega
  have cS := fun w => scale_ok (x0 := p0) (y0 := p1) (x1 := p2) (y1 := p3) hK (rMay_iff.2 (by omega)) hM' w
  have cH := fun w => has_scale (x0 := p0) (y0 := p1) (x1 := p2) (y1 := p3) (x := X - 10) (y := Y - 10) hK w
  have cH' := fun w => has_scale' (x0 := p0) (y0 := p1) (x1 := p2) (y1 := p3) (x := X - 10) (y := Y - 10) hK w
  have cR := fun w => ref_Has p0 p1 p2 p3 (X - 10) (Y - 10) w
  generalize hg : rHas p0 p1 p2 p3 (X - 10) (Y - 10) = g at cH cH' cR
  clear ha0 ha1 ha2 ha3 hx hy hn hM' hg
  go_enter Try.func7, Try.ntmps7
  go_wp2_with (first | (go_at_call 11; (with_reducible refine (cP _).mono ?_); rintro e w1 ⟨rfl, hb1⟩; obtain ⟨hc1, hf1⟩ := bcell hb1; have hz1 := hb1.size; (try simp only [World.size_alloc, World.size_setCell, World.size_drew] at hz1)) | (go_at_call 26; (with_reducible refine (cN _).mono ?_); rintro e w1 ⟨rfl, rfl⟩) | (go_at_call 26; (with_reducible refine (cX _).mono ?_); rintro e w1 ⟨rfl, rfl⟩) | (go_at_call 26; (with_reducible refine (cY _).mono ?_); rintro e w1 ⟨rfl, rfl⟩) | (go_at_call 28; (with_reducible refine (cS _).mono ?_); rintro e w1 ⟨rfl, hb1⟩; obtain ⟨hc1, hf1⟩ := bcell hb1; have hz1 := hb1.size; (try simp only [World.size_alloc, World.size_setCell, World.size_drew] at hz1)))
  (refine wp_region_ext_lit (by kernel_rfl) (by kernel_rfl) ?_; (repeat (go_big_quiet_step ((first | (go_at_call 16; with_reducible exact ext_call (cH _)) | (go_at_call 16; with_reducible exact ext_call (cH' _)) | (go_at_call 17; with_reducible exact ext_call (cR _)) | (go_at_call 20; exact ext_call (lives_true _)))))); refine wpQuiet_nil ?_; intro w9 hb_w9; obtain ⟨hc_w9, hf_w9⟩ := bcell hb_w9; have hz_w9 := hb_w9.size; (try simp only [World.size_alloc, World.size_setCell, World.size_drew] at hz_w9))
  go_wp2
  (go_ret; refine ⟨?_, by (repeat (first | (with_reducible exact Below.refl _ _) | ((with_reducible refine Below.alloc ?_ ?hB _); (case hB => (first | omega | (simp; done) | (simp; omega)))) | ((with_reducible refine Below.setCell ?_ ?hB _); (case hB => (first | omega | (simp; done) | (simp; omega)))) | (with_reducible refine Below.drew ?_) | ((with_reducible refine Below.trans ?_ (Below.mono (by assumption) ?hB)); (case hB => (first | omega | (simp; done) | (simp; omega))))))⟩); rfl
theorem ref_Move {x0 y0 x1 y1 : Int} (dx dy : Int) (w : World) (h : rMay x0 y0 x1 y1 = true) : Calls Try.prog 29 #[(.agg #[.int .i64 (x0), .int .i64 (y0), .int .i64 (x1), .int .i64 (y1)]), .int .i64 dx, .int .i64 dy] w fun e w' => e = .returned (.tuple #[(.agg #[.int .i64 (chkR (x0 + farI dx) (y0 + farI dy) (x1 + farI dx) (y1 + farI dy)).x0, .int .i64 (chkR (x0 + farI dx) (y0 + farI dy) (x1 + farI dx) (y1 + farI dy)).y0, .int .i64 (chkR (x0 + farI dx) (y0 + farI dy) (x1 + farI dx) (y1 + farI dy)).x1, .int .i64 (chkR (x0 + farI dx) (y0 + farI dy) (x1 + farI dx) (y1 + farI dy)).y1]), .int .i64 (chkE (x0 + farI dx) (y0 + farI dy) (x1 + farI dx) (y1 + farI dy))]) ∧ Below w.heap.size w w' := by
  have hb := rMay_iff.1 h
  clear h
  by_cases hd : dx < -2097152 ∨ 2097152 < dx ∨ dy < -2097152 ∨ 2097152 < dy
  · have hM := Lib.hid (show rMay (x0 + farI dx) (y0 + farI dy) (x1 + farI dx) (y1 + farI dy) = false by
      rw [← Bool.not_eq_true, rMay_iff]; unfold farI; omega)
    go_enter Try.func29, Try.ntmps29
    go_wp2_with fail
    all_goals (refine bodyPost_ret (by simp [results, Try.results29, go_sem, ↓IntWalk.iteOmega, *]; rfl) rfl ⟨?_, by (repeat (first | (with_reducible exact Below.refl _ _) | ((with_reducible refine Below.alloc ?_ ?hB _); (case hB => (first | omega | (simp; done) | (simp; omega)))) | ((with_reducible refine Below.setCell ?_ ?hB _); (case hB => (first | omega | (simp; done) | (simp; omega)))) | (with_reducible refine Below.drew ?_) | ((with_reducible refine Below.trans ?_ (Below.mono (by assumption) ?hB)); (case hB => (first | omega | (simp; done) | (simp; omega))))))⟩; simp [chkR, chkE, hM.out])
  · have e1 := Lib.hid (show farI dx = dx by unfold farI; omega)
    have e2 := Lib.hid (show farI dy = dy by unfold farI; omega)
    have hd1 : -2097152 ≤ dx ∧ dx ≤ 2097152 := by omega
    have hd2 : -2097152 ≤ dy ∧ dy ≤ 2097152 := by omega
    clear hd
    cases hM : rMay (x0 + dx) (y0 + dy) (x1 + dx) (y1 + dy)
    · have hM' := Lib.hid hM
      go_enter Try.func29, Try.ntmps29
      go_wp2_with (first | (go_at_call 22; (with_reducible refine (ref_May _ _ _ _ _).mono ?_); rintro e w1 ⟨rfl, hb1⟩; obtain ⟨hc1, hf1⟩ := bcell hb1; have hz1 := hb1.size; (try simp only [World.size_alloc, World.size_setCell, World.size_drew] at hz1)))
      all_goals (refine bodyPost_ret (by simp [results, Try.results29, go_sem, ↓IntWalk.iteOmega, *]; rfl) rfl ⟨?_, by (repeat (first | (with_reducible exact Below.refl _ _) | ((with_reducible refine Below.alloc ?_ ?hB _); (case hB => (first | omega | (simp; done) | (simp; omega)))) | ((with_reducible refine Below.setCell ?_ ?hB _); (case hB => (first | omega | (simp; done) | (simp; omega)))) | (with_reducible refine Below.drew ?_) | ((with_reducible refine Below.trans ?_ (Below.mono (by assumption) ?hB)); (case hB => (first | omega | (simp; done) | (simp; omega))))))⟩; simp [chkR, chkE, hM'.out, e1.out, e2.out])
    · have hM' := Lib.hid hM
      go_enter Try.func29, Try.ntmps29
      go_wp2_with (first | (go_at_call 22; (with_reducible refine (ref_May _ _ _ _ _).mono ?_); rintro e w1 ⟨rfl, hb1⟩; obtain ⟨hc1, hf1⟩ := bcell hb1; have hz1 := hb1.size; (try simp only [World.size_alloc, World.size_setCell, World.size_drew] at hz1)))
      all_goals (refine bodyPost_ret (by simp [results, Try.results29, go_sem, ↓IntWalk.iteOmega, *]; rfl) rfl ⟨?_, by (repeat (first | (with_reducible exact Below.refl _ _) | ((with_reducible refine Below.alloc ?_ ?hB _); (case hB => (first | omega | (simp; done) | (simp; omega)))) | ((with_reducible refine Below.setCell ?_ ?hB _); (case hB => (first | omega | (simp; done) | (simp; omega)))) | (with_reducible refine Below.drew ?_) | ((with_reducible refine Below.trans ?_ (Below.mono (by assumption) ?hB)); (case hB => (first | omega | (simp; done) | (simp; omega))))))⟩; simp [chkR, chkE, hM'.out, e1.out, e2.out])
theorem rGood_may (x0 y0 x1 y1 : Int) : rMay (rGood x0 y0 x1 y1).x0 (rGood x0 y0 x1 y1).y0 (rGood x0 y0 x1 y1).x1 (rGood x0 y0 x1 y1).y1 = true := by
  rw [rMay_iff]; simp only [rGood, cutI]; omega
theorem area_move {x0 y0 x1 y1 dx dy : Int} : rArea (x0 + dx) (y0 + dy) (x1 + dx) (y1 + dy) = rArea x0 y0 x1 y1 := by
  have h : rEmpty (x0 + dx) (y0 + dy) (x1 + dx) (y1 + dy) = rEmpty x0 y0 x1 y1 := rEmpty_move rfl rfl rfl rfl
  unfold rArea
  rw [h, show x1 + dx - (x0 + dx) = x1 - x0 by omega, show y1 + dy - (y0 + dy) = y1 - y0 by omega]
theorem area_scale {x0 y0 x1 y1 n : Int} (hn : 1 ≤ n ∧ n ≤ 8) : rArea (x0 * n) (y0 * n) (x1 * n) (y1 * n) = n * n * rArea x0 y0 x1 y1 := by
  have h : rEmpty (x0 * n) (y0 * n) (x1 * n) (y1 * n) = rEmpty x0 y0 x1 y1 := by
    rw [Bool.eq_iff_iff]; simp only [rEmpty, Bool.or_eq_true, decide_eq_true_eq]
    obtain rfl | rfl | rfl | rfl | rfl | rfl | rfl | rfl : n = 1 ∨ n = 2 ∨ n = 3 ∨ n = 4 ∨ n = 5 ∨ n = 6 ∨ n = 7 ∨ n = 8 := by omega
    all_goals omega
  unfold rArea
  rw [h]
  split
  · rw [Int.mul_zero]
  · rw [← Int.sub_mul, ← Int.sub_mul, Int.mul_assoc n n, Int.mul_comm (x1 - x0) n, Int.mul_comm (y1 - y0) n, Int.mul_assoc, ← Int.mul_assoc (x1 - x0) n (y1 - y0), Int.mul_comm (x1 - x0) n, Int.mul_assoc]
theorem area_bd {x0 y0 x1 y1 : Int} (h : rMay x0 y0 x1 y1 = true) : 0 ≤ rArea x0 y0 x1 y1 ∧ rArea x0 y0 x1 y1 ≤ 70368744177664 := by
  have hb := rMay_iff.1 h
  unfold rArea
  split
  · omega
  · exact mul_bd _ _ (by omega) (by omega)
theorem chk_bd (x0 y0 x1 y1 : Int) : -1048576 ≤ (chkR x0 y0 x1 y1).x0 ∧ (chkR x0 y0 x1 y1).x0 ≤ 1048576 ∧ -1048576 ≤ (chkR x0 y0 x1 y1).y0 ∧ (chkR x0 y0 x1 y1).y0 ≤ 1048576 ∧ -1048576 ≤ (chkR x0 y0 x1 y1).x1 ∧ (chkR x0 y0 x1 y1).x1 ≤ 1048576 ∧ -1048576 ≤ (chkR x0 y0 x1 y1).y1 ∧ (chkR x0 y0 x1 y1).y1 ≤ 1048576 := by
  unfold chkR
  split
  · have := rMay_iff.1 ‹_›; dsimp only; omega
  · dsimp only; omega
theorem chk_zero {x0 y0 x1 y1 : Int} (h : chkE x0 y0 x1 y1 = 0) : chkR x0 y0 x1 y1 = ⟨x0, y0, x1, y1⟩ := by
  unfold chkE at h; unfold chkR
  split at h
  · simp [*]
  · omega
theorem moved_area {g0 g1 g2 g3 dx dy : Int} (h : chkE (g0 + dx) (g1 + dy) (g2 + dx) (g3 + dy) = 0) (w : World) :
    Calls Try.prog 31 #[(.agg #[.int .i64 (chkR (g0 + dx) (g1 + dy) (g2 + dx) (g3 + dy)).x0, .int .i64 (chkR (g0 + dx) (g1 + dy) (g2 + dx) (g3 + dy)).y0, .int .i64 (chkR (g0 + dx) (g1 + dy) (g2 + dx) (g3 + dy)).x1, .int .i64 (chkR (g0 + dx) (g1 + dy) (g2 + dx) (g3 + dy)).y1])] w fun e w' => e = .returned (.int .i64 (rArea g0 g1 g2 g3)) ∧ Below w.heap.size w w' := by
  have hb := chk_bd (g0 + dx) (g1 + dy) (g2 + dx) (g3 + dy)
  have c := rect_Area (chkR (g0 + dx) (g1 + dy) (g2 + dx) (g3 + dy)).x0 (chkR (g0 + dx) (g1 + dy) (g2 + dx) (g3 + dy)).y0 (chkR (g0 + dx) (g1 + dy) (g2 + dx) (g3 + dy)).x1 (chkR (g0 + dx) (g1 + dy) (g2 + dx) (g3 + dy)).y1 w (by omega) (by omega) (by omega) (by omega)
  have e : rArea (chkR (g0 + dx) (g1 + dy) (g2 + dx) (g3 + dy)).x0 (chkR (g0 + dx) (g1 + dy) (g2 + dx) (g3 + dy)).y0 (chkR (g0 + dx) (g1 + dy) (g2 + dx) (g3 + dy)).x1 (chkR (g0 + dx) (g1 + dy) (g2 + dx) (g3 + dy)).y1 = rArea g0 g1 g2 g3 := by
    rw [chk_zero h]; exact area_move
  rw [e] at c; exact c
theorem scaled_zero {g0 g1 g2 g3 n : Int} (h : rScaleE g0 g1 g2 g3 n = 0) : (1 ≤ n ∧ n ≤ 8) ∧ rScaleR g0 g1 g2 g3 n = ⟨g0 * n, g1 * n, g2 * n, g3 * n⟩ ∧ rMay (g0 * n) (g1 * n) (g2 * n) (g3 * n) = true := by
  unfold rScaleE at h
  split at h
  · omega
  · rename_i hn
    split at h
    · rename_i hM
      refine ⟨by omega, ?_, ?_⟩
      · simp only [rScaleR, if_neg hn, if_pos hM]; exact chk_zero h
      · unfold chkE at h
        split at h
        · assumption
        · omega
    · omega
theorem scaled_area {g0 g1 g2 g3 n : Int} (h : rScaleE g0 g1 g2 g3 n = 0) (w : World) :
    Calls Try.prog 31 #[(.agg #[.int .i64 (rScaleR g0 g1 g2 g3 n).x0, .int .i64 (rScaleR g0 g1 g2 g3 n).y0, .int .i64 (rScaleR g0 g1 g2 g3 n).x1, .int .i64 (rScaleR g0 g1 g2 g3 n).y1])] w fun e w' => e = .returned (.int .i64 (n * n * rArea g0 g1 g2 g3)) ∧ Below w.heap.size w w' := by
  obtain ⟨hn, e, hM⟩ := scaled_zero h
  have hb := rMay_iff.1 hM
  rw [e, ← area_scale hn]
  exact rect_Area _ _ _ _ w (by dsimp only; omega) (by dsimp only; omega) (by dsimp only; omega) (by dsimp only; omega)
theorem scale_zero {g0 g1 g2 g3 n : Int} {w : World} (c : Calls Try.prog 28 #[(.agg #[.int .i64 (g0), .int .i64 (g1), .int .i64 (g2), .int .i64 (g3)]), .int .i64 n] w fun e w' => e = .returned (.tuple #[(.agg #[.int .i64 (rScaleR g0 g1 g2 g3 n).x0, .int .i64 (rScaleR g0 g1 g2 g3 n).y0, .int .i64 (rScaleR g0 g1 g2 g3 n).x1, .int .i64 (rScaleR g0 g1 g2 g3 n).y1]), .int .i64 (rScaleE g0 g1 g2 g3 n)]) ∧ Below w.heap.size w w') (h : rScaleE g0 g1 g2 g3 n = 0) :
    Calls Try.prog 28 #[(.agg #[.int .i64 (g0), .int .i64 (g1), .int .i64 (g2), .int .i64 (g3)]), .int .i64 n] w fun e w' => e = .returned (.tuple #[(.agg #[.int .i64 (rScaleR g0 g1 g2 g3 n).x0, .int .i64 (rScaleR g0 g1 g2 g3 n).y0, .int .i64 (rScaleR g0 g1 g2 g3 n).x1, .int .i64 (rScaleR g0 g1 g2 g3 n).y1]), .int .i64 0]) ∧ Below w.heap.size w w' := by
  rw [h] at c; exact c
theorem scale_zero' {g0 g1 g2 g3 n : Int} {w : World} (c : Calls Try.prog 30 #[(.agg #[.int .i64 (g0), .int .i64 (g1), .int .i64 (g2), .int .i64 (g3)]), .int .i64 n] w fun e w' => e = .returned (.tuple #[(.agg #[.int .i64 (rScaleR g0 g1 g2 g3 n).x0, .int .i64 (rScaleR g0 g1 g2 g3 n).y0, .int .i64 (rScaleR g0 g1 g2 g3 n).x1, .int .i64 (rScaleR g0 g1 g2 g3 n).y1]), .int .i64 (rScaleE g0 g1 g2 g3 n)]) ∧ Below w.heap.size w w') (h : rScaleE g0 g1 g2 g3 n = 0) :
    Calls Try.prog 30 #[(.agg #[.int .i64 (g0), .int .i64 (g1), .int .i64 (g2), .int .i64 (g3)]), .int .i64 n] w fun e w' => e = .returned (.tuple #[(.agg #[.int .i64 (rScaleR g0 g1 g2 g3 n).x0, .int .i64 (rScaleR g0 g1 g2 g3 n).y0, .int .i64 (rScaleR g0 g1 g2 g3 n).x1, .int .i64 (rScaleR g0 g1 g2 g3 n).y1]), .int .i64 0]) ∧ Below w.heap.size w w' := by
  rw [h] at c; exact c
set_option maxHeartbeats 8000000 in
theorem walk_RectMoves (a0 a1 a2 a3 dx dy n : Int) (w : World) :
    Calls Try.prog 8 #[(.agg #[.int .i64 (a0), .int .i64 (a1), .int .i64 (a2), .int .i64 (a3)]), .int .i64 dx, .int .i64 dy, .int .i64 n] w fun e w' => e = .returned (.bool true) ∧ Below w.heap.size w w' := by
  have cG := fun w => ref_Good a0 a1 a2 a3 w
  have hG := rGood_may a0 a1 a2 a3
  generalize (rGood a0 a1 a2 a3).x0 = g0 at cG hG
  generalize (rGood a0 a1 a2 a3).y0 = g1 at cG hG
  generalize (rGood a0 a1 a2 a3).x1 = g2 at cG hG
  generalize (rGood a0 a1 a2 a3).y1 = g3 at cG hG
  have hb := rMay_iff.1 hG
  have cM := fun w => rect_Move g0 g1 g2 g3 dx dy w (by omega) (by omega) (by omega) (by omega)
  have cM' := fun w => ref_Move (x0 := g0) (y0 := g1) (x1 := g2) (y1 := g3) dx dy w hG
  have cA := fun w => ref_Area g0 g1 g2 g3 w (by omega) (by omega) (by omega) (by omega)
  have hA := area_bd hG
  have cAm := fun (h : chkE (g0 + farI dx) (g1 + farI dy) (g2 + farI dx) (g3 + farI dy) = 0) w => moved_area (g0 := g0) (g1 := g1) (g2 := g2) (g3 := g3) h w
  have cAs := fun (h : rScaleE g0 g1 g2 g3 n = 0) w => scaled_area h w
  have hn := fun (h : rScaleE g0 g1 g2 g3 n = 0) => (scaled_zero h).1
  generalize rArea g0 g1 g2 g3 = A at cA hA cAm cAs
  generalize chkR (g0 + farI dx) (g1 + farI dy) (g2 + farI dx) (g3 + farI dy) = m at cM cM' cAm
  generalize chkE (g0 + farI dx) (g1 + farI dy) (g2 + farI dx) (g3 + farI dy) = mE at cM cM' cAm
  clear hG hb
  by_cases hm : mE = 0
  · subst hm
    replace cAm := cAm rfl
    by_cases hs : rScaleE g0 g1 g2 g3 n = 0
    · replace cAs := cAs hs
      replace hn := hn hs
      have hnn := mul_bd n n (by omega) (by omega)
      have hnA : 0 ≤ n * n * A ∧ n * n * A ≤ 9007199254740992 := by
        refine ⟨Int.mul_nonneg hnn.1 hA.1, ?_⟩
        have h64 : n * n ≤ 64 := by
          obtain rfl | rfl | rfl | rfl | rfl | rfl | rfl | rfl : n = 1 ∨ n = 2 ∨ n = 3 ∨ n = 4 ∨ n = 5 ∨ n = 6 ∨ n = 7 ∨ n = 8 := by omega
          all_goals omega
        have h1 : n * n * A ≤ 64 * A := Int.mul_le_mul_of_nonneg_right h64 hA.1
        omega
      have cS := fun w => scale_zero (rect_Scale g0 g1 g2 g3 n w) hs
      have cS' := fun w => scale_zero' (ref_Scale g0 g1 g2 g3 n w) hs
      clear hs
      go_enter Try.func8, Try.ntmps8
      go_wp2_with (first | (go_at_call 28; (with_reducible refine (cS _).mono ?_); rintro e w1 ⟨rfl, hb1⟩; obtain ⟨hc1, hf1⟩ := bcell hb1; have hz1 := hb1.size; (try simp only [World.size_alloc, World.size_setCell, World.size_drew] at hz1)) | (go_at_call 30; (with_reducible refine (cS' _).mono ?_); rintro e w1 ⟨rfl, hb1⟩; obtain ⟨hc1, hf1⟩ := bcell hb1; have hz1 := hb1.size; (try simp only [World.size_alloc, World.size_setCell, World.size_drew] at hz1)) | (go_at_call 10; (with_reducible refine (cG _).mono ?_); rintro e w1 ⟨rfl, hb1⟩; obtain ⟨hc1, hf1⟩ := bcell hb1; have hz1 := hb1.size; (try simp only [World.size_alloc, World.size_setCell, World.size_drew] at hz1)) | (go_at_call 27; (with_reducible refine (cM _).mono ?_); rintro e w1 ⟨rfl, hb1⟩; obtain ⟨hc1, hf1⟩ := bcell hb1; have hz1 := hb1.size; (try simp only [World.size_alloc, World.size_setCell, World.size_drew] at hz1)) | (go_at_call 29; (with_reducible refine (cM' _).mono ?_); rintro e w1 ⟨rfl, hb1⟩; obtain ⟨hc1, hf1⟩ := bcell hb1; have hz1 := hb1.size; (try simp only [World.size_alloc, World.size_setCell, World.size_drew] at hz1)) | (go_at_call 28; (with_reducible refine (rect_Scale _ _ _ _ _ _).mono ?_); rintro e w1 ⟨rfl, hb1⟩; obtain ⟨hc1, hf1⟩ := bcell hb1; have hz1 := hb1.size; (try simp only [World.size_alloc, World.size_setCell, World.size_drew] at hz1)) | (go_at_call 30; (with_reducible refine (ref_Scale _ _ _ _ _ _).mono ?_); rintro e w1 ⟨rfl, hb1⟩; obtain ⟨hc1, hf1⟩ := bcell hb1; have hz1 := hb1.size; (try simp only [World.size_alloc, World.size_setCell, World.size_drew] at hz1)))
      (refine wp_region_ext_lit (by kernel_rfl) (by kernel_rfl) ?_; (repeat (go_big_quiet_step ((first | (go_at_call 31; with_reducible exact ext_call (cAm _)) | (go_at_call 32; with_reducible exact ext_call (cA _)))))); refine wpQuiet_nil ?_; intro w8 hb_w8; obtain ⟨hc_w8, hf_w8⟩ := bcell hb_w8; have hz_w8 := hb_w8.size; (try simp only [World.size_alloc, World.size_setCell, World.size_drew] at hz_w8))
      go_wp2_with fail
      (refine wp_region_ext_lit (by kernel_rfl) (by kernel_rfl) ?_; (repeat (go_big_quiet_step ((first | (go_at_call 31; with_reducible exact ext_call (cAs _)) | (go_at_call 32; with_reducible exact ext_call (cA _)) | (go_at_call 20; exact ext_call (lives_true _)))))); refine wpQuiet_nil ?_; intro w9 hb_w9; obtain ⟨hc_w9, hf_w9⟩ := bcell hb_w9; have hz_w9 := hb_w9.size; (try simp only [World.size_alloc, World.size_setCell, World.size_drew] at hz_w9))
      go_wp2
      (go_ret; refine ⟨?_, by (repeat (first | (with_reducible exact Below.refl _ _) | ((with_reducible refine Below.alloc ?_ ?hB _); (case hB => (first | omega | (simp; done) | (simp; omega)))) | ((with_reducible refine Below.setCell ?_ ?hB _); (case hB => (first | omega | (simp; done) | (simp; omega)))) | (with_reducible refine Below.drew ?_) | ((with_reducible refine Below.trans ?_ (Below.mono (by assumption) ?hB)); (case hB => (first | omega | (simp; done) | (simp; omega))))))⟩); rfl
    · have hs' : ((rScaleE g0 g1 g2 g3 n : Int) == 0) = false := by simpa using hs
      have hs2 : ((rScaleE g0 g1 g2 g3 n : Int) != 0) = true := by simpa using hs
      clear hs cAs hn
      go_enter Try.func8, Try.ntmps8
      go_wp2_with (first | (go_at_call 10; (with_reducible refine (cG _).mono ?_); rintro e w1 ⟨rfl, hb1⟩; obtain ⟨hc1, hf1⟩ := bcell hb1; have hz1 := hb1.size; (try simp only [World.size_alloc, World.size_setCell, World.size_drew] at hz1)) | (go_at_call 27; (with_reducible refine (cM _).mono ?_); rintro e w1 ⟨rfl, hb1⟩; obtain ⟨hc1, hf1⟩ := bcell hb1; have hz1 := hb1.size; (try simp only [World.size_alloc, World.size_setCell, World.size_drew] at hz1)) | (go_at_call 29; (with_reducible refine (cM' _).mono ?_); rintro e w1 ⟨rfl, hb1⟩; obtain ⟨hc1, hf1⟩ := bcell hb1; have hz1 := hb1.size; (try simp only [World.size_alloc, World.size_setCell, World.size_drew] at hz1)) | (go_at_call 28; (with_reducible refine (rect_Scale _ _ _ _ _ _).mono ?_); rintro e w1 ⟨rfl, hb1⟩; obtain ⟨hc1, hf1⟩ := bcell hb1; have hz1 := hb1.size; (try simp only [World.size_alloc, World.size_setCell, World.size_drew] at hz1)) | (go_at_call 30; (with_reducible refine (ref_Scale _ _ _ _ _ _).mono ?_); rintro e w1 ⟨rfl, hb1⟩; obtain ⟨hc1, hf1⟩ := bcell hb1; have hz1 := hb1.size; (try simp only [World.size_alloc, World.size_setCell, World.size_drew] at hz1)))
      (refine wp_region_ext_lit (by kernel_rfl) (by kernel_rfl) ?_; (repeat (go_big_quiet_step ((first | (go_at_call 31; with_reducible exact ext_call (cAm _)) | (go_at_call 32; with_reducible exact ext_call (cA _)))))); refine wpQuiet_nil ?_; intro w8 hb_w8; obtain ⟨hc_w8, hf_w8⟩ := bcell hb_w8; have hz_w8 := hb_w8.size; (try simp only [World.size_alloc, World.size_setCell, World.size_drew] at hz_w8))
      go_wp2_with fail
      (refine wp_region_ext_lit (by kernel_rfl) (by kernel_rfl) ?_; (repeat (go_big_quiet_step ((first | (go_at_call 31; with_reducible exact ext_call (cAs _)) | (go_at_call 32; with_reducible exact ext_call (cA _)) | (go_at_call 20; exact ext_call (lives_true _)))))); refine wpQuiet_nil ?_; intro w9 hb_w9; obtain ⟨hc_w9, hf_w9⟩ := bcell hb_w9; have hz_w9 := hb_w9.size; (try simp only [World.size_alloc, World.size_setCell, World.size_drew] at hz_w9))
      go_wp2
      (go_ret; refine ⟨?_, by (repeat (first | (with_reducible exact Below.refl _ _) | ((with_reducible refine Below.alloc ?_ ?hB _); (case hB => (first | omega | (simp; done) | (simp; omega)))) | ((with_reducible refine Below.setCell ?_ ?hB _); (case hB => (first | omega | (simp; done) | (simp; omega)))) | (with_reducible refine Below.drew ?_) | ((with_reducible refine Below.trans ?_ (Below.mono (by assumption) ?hB)); (case hB => (first | omega | (simp; done) | (simp; omega))))))⟩); rfl
  · have hm' : ((mE : Int) == 0) = false := by simpa using hm
    clear hm cAm
    by_cases hs : rScaleE g0 g1 g2 g3 n = 0
    · replace cAs := cAs hs
      replace hn := hn hs
      have hnn := mul_bd n n (by omega) (by omega)
      have hnA : 0 ≤ n * n * A ∧ n * n * A ≤ 9007199254740992 := by
        refine ⟨Int.mul_nonneg hnn.1 hA.1, ?_⟩
        have h64 : n * n ≤ 64 := by
          obtain rfl | rfl | rfl | rfl | rfl | rfl | rfl | rfl : n = 1 ∨ n = 2 ∨ n = 3 ∨ n = 4 ∨ n = 5 ∨ n = 6 ∨ n = 7 ∨ n = 8 := by omega
          all_goals omega
        have h1 : n * n * A ≤ 64 * A := Int.mul_le_mul_of_nonneg_right h64 hA.1
        omega
      have cS := fun w => scale_zero (rect_Scale g0 g1 g2 g3 n w) hs
      have cS' := fun w => scale_zero' (ref_Scale g0 g1 g2 g3 n w) hs
      clear hs
      go_enter Try.func8, Try.ntmps8
      go_wp2_with (first | (go_at_call 28; (with_reducible refine (cS _).mono ?_); rintro e w1 ⟨rfl, hb1⟩; obtain ⟨hc1, hf1⟩ := bcell hb1; have hz1 := hb1.size; (try simp only [World.size_alloc, World.size_setCell, World.size_drew] at hz1)) | (go_at_call 30; (with_reducible refine (cS' _).mono ?_); rintro e w1 ⟨rfl, hb1⟩; obtain ⟨hc1, hf1⟩ := bcell hb1; have hz1 := hb1.size; (try simp only [World.size_alloc, World.size_setCell, World.size_drew] at hz1)) | (go_at_call 10; (with_reducible refine (cG _).mono ?_); rintro e w1 ⟨rfl, hb1⟩; obtain ⟨hc1, hf1⟩ := bcell hb1; have hz1 := hb1.size; (try simp only [World.size_alloc, World.size_setCell, World.size_drew] at hz1)) | (go_at_call 27; (with_reducible refine (cM _).mono ?_); rintro e w1 ⟨rfl, hb1⟩; obtain ⟨hc1, hf1⟩ := bcell hb1; have hz1 := hb1.size; (try simp only [World.size_alloc, World.size_setCell, World.size_drew] at hz1)) | (go_at_call 29; (with_reducible refine (cM' _).mono ?_); rintro e w1 ⟨rfl, hb1⟩; obtain ⟨hc1, hf1⟩ := bcell hb1; have hz1 := hb1.size; (try simp only [World.size_alloc, World.size_setCell, World.size_drew] at hz1)) | (go_at_call 28; (with_reducible refine (rect_Scale _ _ _ _ _ _).mono ?_); rintro e w1 ⟨rfl, hb1⟩; obtain ⟨hc1, hf1⟩ := bcell hb1; have hz1 := hb1.size; (try simp only [World.size_alloc, World.size_setCell, World.size_drew] at hz1)) | (go_at_call 30; (with_reducible refine (ref_Scale _ _ _ _ _ _).mono ?_); rintro e w1 ⟨rfl, hb1⟩; obtain ⟨hc1, hf1⟩ := bcell hb1; have hz1 := hb1.size; (try simp only [World.size_alloc, World.size_setCell, World.size_drew] at hz1)))
      (refine wp_region_ext_lit (by kernel_rfl) (by kernel_rfl) ?_; (repeat (go_big_quiet_step ((fail)))); refine wpQuiet_nil ?_; intro w8 hb_w8; obtain ⟨hc_w8, hf_w8⟩ := bcell hb_w8; have hz_w8 := hb_w8.size; (try simp only [World.size_alloc, World.size_setCell, World.size_drew] at hz_w8))
      go_wp2_with fail
      (refine wp_region_ext_lit (by kernel_rfl) (by kernel_rfl) ?_; (repeat (go_big_quiet_step ((first | (go_at_call 31; with_reducible exact ext_call (cAs _)) | (go_at_call 32; with_reducible exact ext_call (cA _)) | (go_at_call 20; exact ext_call (lives_true _)))))); refine wpQuiet_nil ?_; intro w9 hb_w9; obtain ⟨hc_w9, hf_w9⟩ := bcell hb_w9; have hz_w9 := hb_w9.size; (try simp only [World.size_alloc, World.size_setCell, World.size_drew] at hz_w9))
      go_wp2
      (go_ret; refine ⟨?_, by (repeat (first | (with_reducible exact Below.refl _ _) | ((with_reducible refine Below.alloc ?_ ?hB _); (case hB => (first | omega | (simp; done) | (simp; omega)))) | ((with_reducible refine Below.setCell ?_ ?hB _); (case hB => (first | omega | (simp; done) | (simp; omega)))) | (with_reducible refine Below.drew ?_) | ((with_reducible refine Below.trans ?_ (Below.mono (by assumption) ?hB)); (case hB => (first | omega | (simp; done) | (simp; omega))))))⟩); rfl
    · have hs' : ((rScaleE g0 g1 g2 g3 n : Int) == 0) = false := by simpa using hs
      have hs2 : ((rScaleE g0 g1 g2 g3 n : Int) != 0) = true := by simpa using hs
      clear hs cAs hn
      go_enter Try.func8, Try.ntmps8
      go_wp2_with (first | (go_at_call 10; (with_reducible refine (cG _).mono ?_); rintro e w1 ⟨rfl, hb1⟩; obtain ⟨hc1, hf1⟩ := bcell hb1; have hz1 := hb1.size; (try simp only [World.size_alloc, World.size_setCell, World.size_drew] at hz1)) | (go_at_call 27; (with_reducible refine (cM _).mono ?_); rintro e w1 ⟨rfl, hb1⟩; obtain ⟨hc1, hf1⟩ := bcell hb1; have hz1 := hb1.size; (try simp only [World.size_alloc, World.size_setCell, World.size_drew] at hz1)) | (go_at_call 29; (with_reducible refine (cM' _).mono ?_); rintro e w1 ⟨rfl, hb1⟩; obtain ⟨hc1, hf1⟩ := bcell hb1; have hz1 := hb1.size; (try simp only [World.size_alloc, World.size_setCell, World.size_drew] at hz1)) | (go_at_call 28; (with_reducible refine (rect_Scale _ _ _ _ _ _).mono ?_); rintro e w1 ⟨rfl, hb1⟩; obtain ⟨hc1, hf1⟩ := bcell hb1; have hz1 := hb1.size; (try simp only [World.size_alloc, World.size_setCell, World.size_drew] at hz1)) | (go_at_call 30; (with_reducible refine (ref_Scale _ _ _ _ _ _).mono ?_); rintro e w1 ⟨rfl, hb1⟩; obtain ⟨hc1, hf1⟩ := bcell hb1; have hz1 := hb1.size; (try simp only [World.size_alloc, World.size_setCell, World.size_drew] at hz1)))
      (refine wp_region_ext_lit (by kernel_rfl) (by kernel_rfl) ?_; (repeat (go_big_quiet_step ((fail)))); refine wpQuiet_nil ?_; intro w8 hb_w8; obtain ⟨hc_w8, hf_w8⟩ := bcell hb_w8; have hz_w8 := hb_w8.size; (try simp only [World.size_alloc, World.size_setCell, World.size_drew] at hz_w8))
      go_wp2_with fail
      (refine wp_region_ext_lit (by kernel_rfl) (by kernel_rfl) ?_; (repeat (go_big_quiet_step ((first | (go_at_call 20; exact ext_call (lives_true _)))))); refine wpQuiet_nil ?_; intro w9 hb_w9; obtain ⟨hc_w9, hf_w9⟩ := bcell hb_w9; have hz_w9 := hb_w9.size; (try simp only [World.size_alloc, World.size_setCell, World.size_drew] at hz_w9))
      go_wp2
      (go_ret; refine ⟨?_, by (repeat (first | (with_reducible exact Below.refl _ _) | ((with_reducible refine Below.alloc ?_ ?hB _); (case hB => (first | omega | (simp; done) | (simp; omega)))) | ((with_reducible refine Below.setCell ?_ ?hB _); (case hB => (first | omega | (simp; done) | (simp; omega)))) | (with_reducible refine Below.drew ?_) | ((with_reducible refine Below.trans ?_ (Below.mono (by assumption) ?hB)); (case hB => (first | omega | (simp; done) | (simp; omega))))))⟩); rfl
end Go.Proofs.Ytbngkeaelfdknaa
