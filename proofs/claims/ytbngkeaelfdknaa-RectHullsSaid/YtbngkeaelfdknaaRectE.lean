/- The laws RectRow and RectBack, walked. -/
import Derived.Test.YtbngkeaelfdknaaRectD
import Derived.Test.YtbngkeaelfdknaaRectC
namespace Go.Proofs.Ytbngkeaelfdknaa
open Go.RowKit
set_option linter.unusedSimpArgs false
set_option linter.unusedVariables false
attribute [local go_sem high] eqRect
attribute [local go_sem] rEq_self
theorem cmpI_neg (x y : Int) : cmpI y x = -cmpI x y := by unfold cmpI; (repeat' split) <;> omega
theorem rCompare_neg (a0 a1 a2 a3 b0 b1 b2 b3 : Int) : rCompare b0 b1 b2 b3 a0 a1 a2 a3 = -rCompare a0 a1 a2 a3 b0 b1 b2 b3 := by
  unfold rCompare orI
  rw [cmpI_neg a0, cmpI_neg a1, cmpI_neg a2, cmpI_neg a3]
  (repeat' split) <;> omega
theorem cmpI_zero {x y : Int} : cmpI x y = 0 ↔ x = y := by unfold cmpI; (repeat' split) <;> omega
theorem cmpI_bd (x y : Int) : -1 ≤ cmpI x y ∧ cmpI x y ≤ 1 := by unfold cmpI; (repeat' split) <;> omega
theorem rCompare_bd (a0 a1 a2 a3 b0 b1 b2 b3 : Int) : -1 ≤ rCompare a0 a1 a2 a3 b0 b1 b2 b3 ∧ rCompare a0 a1 a2 a3 b0 b1 b2 b3 ≤ 1 := by
  have h0 := cmpI_bd a0 b0
  have h1 := cmpI_bd a1 b1
  have h2 := cmpI_bd a2 b2
  have h3 := cmpI_bd a3 b3
  unfold rCompare orI; (repeat' split) <;> omega
theorem rCompare_zero (a0 a1 a2 a3 b0 b1 b2 b3 : Int) : ((rCompare a0 a1 a2 a3 b0 b1 b2 b3 : Int) == 0) = rEq a0 a1 a2 a3 b0 b1 b2 b3 := by
  rw [Bool.eq_iff_iff, beq_iff_eq, rEq_iff]
  have h0 := @cmpI_zero a0 b0
  have h1 := @cmpI_zero a1 b1
  have h2 := @cmpI_zero a2 b2
  have h3 := @cmpI_zero a3 b3
  unfold rCompare orI; (repeat' split) <;> omega
theorem cmpI_le {x y : Int} : cmpI x y ≤ 0 ↔ x ≤ y := by unfold cmpI; (repeat' split) <;> omega
theorem rCompare_le {a0 a1 a2 a3 b0 b1 b2 b3 : Int} : rCompare a0 a1 a2 a3 b0 b1 b2 b3 ≤ 0 ↔ (a1 < b1 ∨ a1 = b1 ∧ (a0 < b0 ∨ a0 = b0 ∧ (a3 < b3 ∨ a3 = b3 ∧ a2 ≤ b2))) := by
  have h0 := @cmpI_zero a0 b0
  have h1 := @cmpI_zero a1 b1
  have h3 := @cmpI_zero a3 b3
  have l0 := @cmpI_le a0 b0
  have l1 := @cmpI_le a1 b1
  have l2 := @cmpI_le a2 b2
  have l3 := @cmpI_le a3 b3
  unfold rCompare orI; (repeat' split) <;> omega
theorem rCompare_trans {a0 a1 a2 a3 b0 b1 b2 b3 c0 c1 c2 c3 : Int} (h : rCompare a0 a1 a2 a3 b0 b1 b2 b3 ≤ 0) (k : rCompare b0 b1 b2 b3 c0 c1 c2 c3 ≤ 0) : rCompare a0 a1 a2 a3 c0 c1 c2 c3 ≤ 0 := by
  rw [rCompare_le] at *; omega
theorem rect_CompareS (a0 a1 a2 a3 b0 b1 b2 b3 : Int) (w : World) : Calls Try.prog 33 #[(.agg #[.int .i64 (b0), .int .i64 (b1), .int .i64 (b2), .int .i64 (b3)]), (.agg #[.int .i64 (a0), .int .i64 (a1), .int .i64 (a2), .int .i64 (a3)])] w fun e w' => e = .returned (.int .i64 (-rCompare a0 a1 a2 a3 b0 b1 b2 b3)) ∧ Below w.heap.size w w' := by
  rw [← rCompare_neg]; exact rect_Compare _ _ _ _ _ _ _ _ _
set_option maxHeartbeats 2000000 in
theorem walk_RectRow (a0 a1 a2 a3 b0 b1 b2 b3 c0 c1 c2 c3 : Int) (w : World) : Calls Try.prog 9 #[(.agg #[.int .i64 (a0), .int .i64 (a1), .int .i64 (a2), .int .i64 (a3)]), (.agg #[.int .i64 (b0), .int .i64 (b1), .int .i64 (b2), .int .i64 (b3)]), (.agg #[.int .i64 (c0), .int .i64 (c1), .int .i64 (c2), .int .i64 (c3)])] w fun e w' => e = .returned (.bool true) ∧ Below w.heap.size w w' := by
  have hz := rCompare_zero a0 a1 a2 a3 b0 b1 b2 b3
  have hb := rCompare_bd a0 a1 a2 a3 b0 b1 b2 b3
  have ht := Lib.hid (@rCompare_trans a0 a1 a2 a3 b0 b1 b2 b3 c0 c1 c2 c3)
  by_cases h1 : 0 < rCompare a0 a1 a2 a3 b0 b1 b2 b3
  · go_enter Try.func9, Try.ntmps9
    go_wp2_with (first | (go_at_call 33; (with_reducible refine (rect_CompareS a0 a1 a2 a3 b0 b1 b2 b3 _).mono ?_); rintro e w1 ⟨rfl, hb1⟩; obtain ⟨hc1, hf1⟩ := bcell hb1; have hz1 := hb1.size; (try simp only [World.size_alloc, World.size_setCell, World.size_drew] at hz1)) | (go_at_call 33; (with_reducible refine (rect_Compare _ _ _ _ _ _ _ _ _).mono ?_); rintro e w1 ⟨rfl, hb1⟩; obtain ⟨hc1, hf1⟩ := bcell hb1; have hz1 := hb1.size; (try simp only [World.size_alloc, World.size_setCell, World.size_drew] at hz1)) | (go_at_call 34; (with_reducible refine (ref_Compare _ _ _ _ _ _ _ _ _).mono ?_); rintro e w1 ⟨rfl, hb1⟩; obtain ⟨hc1, hf1⟩ := bcell hb1; have hz1 := hb1.size; (try simp only [World.size_alloc, World.size_setCell, World.size_drew] at hz1)) | (go_at_call 20; (with_reducible refine (lives_true _).mono ?_); rintro e w1 ⟨rfl, hb1⟩; obtain ⟨hc1, hf1⟩ := bcell hb1; have hz1 := hb1.size; (try simp only [World.size_alloc, World.size_setCell, World.size_drew] at hz1)))
    (go_ret; refine ⟨?_, by (repeat (first | (with_reducible exact Below.refl _ _) | ((with_reducible refine Below.alloc ?_ ?hB _); (case hB => (first | omega | (simp; done) | (simp; omega)))) | ((with_reducible refine Below.setCell ?_ ?hB _); (case hB => (first | omega | (simp; done) | (simp; omega)))) | (with_reducible refine Below.drew ?_) | ((with_reducible refine Below.trans ?_ (Below.mono (by assumption) ?hB)); (case hB => (first | omega | (simp; done) | (simp; omega))))))⟩); rfl
  · by_cases h2 : 0 < rCompare b0 b1 b2 b3 c0 c1 c2 c3
    · go_enter Try.func9, Try.ntmps9
      go_wp2_with (first | (go_at_call 33; (with_reducible refine (rect_CompareS a0 a1 a2 a3 b0 b1 b2 b3 _).mono ?_); rintro e w1 ⟨rfl, hb1⟩; obtain ⟨hc1, hf1⟩ := bcell hb1; have hz1 := hb1.size; (try simp only [World.size_alloc, World.size_setCell, World.size_drew] at hz1)) | (go_at_call 33; (with_reducible refine (rect_Compare _ _ _ _ _ _ _ _ _).mono ?_); rintro e w1 ⟨rfl, hb1⟩; obtain ⟨hc1, hf1⟩ := bcell hb1; have hz1 := hb1.size; (try simp only [World.size_alloc, World.size_setCell, World.size_drew] at hz1)) | (go_at_call 34; (with_reducible refine (ref_Compare _ _ _ _ _ _ _ _ _).mono ?_); rintro e w1 ⟨rfl, hb1⟩; obtain ⟨hc1, hf1⟩ := bcell hb1; have hz1 := hb1.size; (try simp only [World.size_alloc, World.size_setCell, World.size_drew] at hz1)) | (go_at_call 20; (with_reducible refine (lives_true _).mono ?_); rintro e w1 ⟨rfl, hb1⟩; obtain ⟨hc1, hf1⟩ := bcell hb1; have hz1 := hb1.size; (try simp only [World.size_alloc, World.size_setCell, World.size_drew] at hz1)))
      (go_ret; refine ⟨?_, by (repeat (first | (with_reducible exact Below.refl _ _) | ((with_reducible refine Below.alloc ?_ ?hB _); (case hB => (first | omega | (simp; done) | (simp; omega)))) | ((with_reducible refine Below.setCell ?_ ?hB _); (case hB => (first | omega | (simp; done) | (simp; omega)))) | (with_reducible refine Below.drew ?_) | ((with_reducible refine Below.trans ?_ (Below.mono (by assumption) ?hB)); (case hB => (first | omega | (simp; done) | (simp; omega))))))⟩); rfl
    · have h3 := ht.out (by omega) (by omega)
      go_enter Try.func9, Try.ntmps9
      go_wp2_with (first | (go_at_call 33; (with_reducible refine (rect_CompareS a0 a1 a2 a3 b0 b1 b2 b3 _).mono ?_); rintro e w1 ⟨rfl, hb1⟩; obtain ⟨hc1, hf1⟩ := bcell hb1; have hz1 := hb1.size; (try simp only [World.size_alloc, World.size_setCell, World.size_drew] at hz1)) | (go_at_call 33; (with_reducible refine (rect_Compare _ _ _ _ _ _ _ _ _).mono ?_); rintro e w1 ⟨rfl, hb1⟩; obtain ⟨hc1, hf1⟩ := bcell hb1; have hz1 := hb1.size; (try simp only [World.size_alloc, World.size_setCell, World.size_drew] at hz1)) | (go_at_call 34; (with_reducible refine (ref_Compare _ _ _ _ _ _ _ _ _).mono ?_); rintro e w1 ⟨rfl, hb1⟩; obtain ⟨hc1, hf1⟩ := bcell hb1; have hz1 := hb1.size; (try simp only [World.size_alloc, World.size_setCell, World.size_drew] at hz1)) | (go_at_call 20; (with_reducible refine (lives_true _).mono ?_); rintro e w1 ⟨rfl, hb1⟩; obtain ⟨hc1, hf1⟩ := bcell hb1; have hz1 := hb1.size; (try simp only [World.size_alloc, World.size_setCell, World.size_drew] at hz1)))
      (go_ret; refine ⟨?_, by (repeat (first | (with_reducible exact Below.refl _ _) | ((with_reducible refine Below.alloc ?_ ?hB _); (case hB => (first | omega | (simp; done) | (simp; omega)))) | ((with_reducible refine Below.setCell ?_ ?hB _); (case hB => (first | omega | (simp; done) | (simp; omega)))) | (with_reducible refine Below.drew ?_) | ((with_reducible refine Below.trans ?_ (Below.mono (by assumption) ?hB)); (case hB => (first | omega | (simp; done) | (simp; omega))))))⟩); rfl
theorem rSmall_bd (x0 y0 x1 y1 : Int) : -4 ≤ (rSmall x0 y0 x1 y1).x0 ∧ (rSmall x0 y0 x1 y1).x0 ≤ 19 ∧ -4 ≤ (rSmall x0 y0 x1 y1).y0 ∧ (rSmall x0 y0 x1 y1).y0 ≤ 19 ∧
    (rSmall x0 y0 x1 y1).x0 ≤ (rSmall x0 y0 x1 y1).x1 ∧ (rSmall x0 y0 x1 y1).x1 ≤ 31 ∧ (rSmall x0 y0 x1 y1).y0 ≤ (rSmall x0 y0 x1 y1).y1 ∧ (rSmall x0 y0 x1 y1).y1 ≤ 31 := by
  have h1 := around_bd x0 24 (by omega)
  have h2 := around_bd y0 24 (by omega)
  have h3 := around_bd x1 13 (by omega)
  have h4 := around_bd y1 13 (by omega)
  simp only [rSmall]; omega
theorem chk_may {x0 y0 x1 y1 : Int} (h : rMay x0 y0 x1 y1 = true) : chkR x0 y0 x1 y1 = ⟨x0, y0, x1, y1⟩ ∧ chkE x0 y0 x1 y1 = 0 := by
  simp [chkR, chkE, h]
/-- A move that is let, its outcome written out. -/
theorem move_ok {x0 y0 x1 y1 dx dy u0 v0 u1 v1 : Int} (hm : rMay u0 v0 u1 v1 = true) (hdx : -2000000 ≤ dx ∧ dx ≤ 2000000) (hdy : -2000000 ≤ dy ∧ dy ≤ 2000000) (e0 : x0 + dx = u0) (f0 : y0 + dy = v0) (e1 : x1 + dx = u1) (f1 : y1 + dy = v1) (w : World) :
    Calls Try.prog 27 #[(.agg #[.int .i64 (x0), .int .i64 (y0), .int .i64 (x1), .int .i64 (y1)]), .int .i64 dx, .int .i64 dy] w fun e w' => e = .returned (.tuple #[(.agg #[.int .i64 (u0), .int .i64 (v0), .int .i64 (u1), .int .i64 (v1)]), .int .i64 0]) ∧ Below w.heap.size w w' := by
  have hb := rMay_iff.1 hm
  have h := rect_Move x0 y0 x1 y1 dx dy w (by omega) (by omega) (by omega) (by omega)
  have e2 : farI dx = dx := by unfold farI; omega
  have e3 : farI dy = dy := by unfold farI; omega
  rw [e2, e3, e0, f0, e1, f1, (chk_may hm).1, (chk_may hm).2] at h
  exact h
theorem rMeets_iff (a0 a1 a2 a3 b0 b1 b2 b3 : Int) : rMeets a0 a1 a2 a3 b0 b1 b2 b3 = !rEmpty (max a0 b0) (max a1 b1) (min a2 b2) (min a3 b3) := by
  rw [rMeets_eq]
  cases h : rEmpty (max a0 b0) (max a1 b1) (min a2 b2) (min a3 b3)
  · simp only [rCut, h, Bool.false_eq_true, if_false]
  · simp only [rCut, h, if_true]; rfl
theorem rEmpty_move {x0 y0 x1 y1 u0 v0 u1 v1 dx dy : Int} (e0 : x0 + dx = u0) (f0 : y0 + dy = v0) (e1 : x1 + dx = u1) (f1 : y1 + dy = v1) : rEmpty u0 v0 u1 v1 = rEmpty x0 y0 x1 y1 := by
  rw [Bool.eq_iff_iff]; simp only [rEmpty, Bool.or_eq_true, decide_eq_true_eq]; omega
theorem rMeets_move {a0 a1 a2 a3 b0 b1 b2 b3 dx dy : Int} : rMeets (a0 + dx) (a1 + dy) (a2 + dx) (a3 + dy) (b0 + dx) (b1 + dy) (b2 + dx) (b3 + dy) = rMeets a0 a1 a2 a3 b0 b1 b2 b3 := by
  rw [rMeets_iff, rMeets_iff]; congr 1
  exact rEmpty_move (dx := dx) (dy := dy) (by omega) (by omega) (by omega) (by omega)
theorem rCovers_move {a0 a1 a2 a3 b0 b1 b2 b3 dx dy : Int} : rCovers (a0 + dx) (a1 + dy) (a2 + dx) (a3 + dy) (b0 + dx) (b1 + dy) (b2 + dx) (b3 + dy) = rCovers a0 a1 a2 a3 b0 b1 b2 b3 := by
  have he : rEmpty (b0 + dx) (b1 + dy) (b2 + dx) (b3 + dy) = rEmpty b0 b1 b2 b3 := rEmpty_move rfl rfl rfl rfl
  cases h : rEmpty b0 b1 b2 b3
  · rw [covers_plain h, covers_plain (he.trans h), Bool.eq_iff_iff]; simp only [Bool.and_eq_true, decide_eq_true_eq]; omega
  · simp [rCovers, h, he]
theorem meets_move {a0 a1 a2 a3 b0 b1 b2 b3 dx dy : Int} (w : World) : Calls Try.prog 14 #[(.agg #[.int .i64 (a0 + dx), .int .i64 (a1 + dy), .int .i64 (a2 + dx), .int .i64 (a3 + dy)]), (.agg #[.int .i64 (b0 + dx), .int .i64 (b1 + dy), .int .i64 (b2 + dx), .int .i64 (b3 + dy)])] w fun e w' => e = .returned (.bool (rMeets a0 a1 a2 a3 b0 b1 b2 b3)) ∧ Below w.heap.size w w' := by
  rw [← rMeets_move (dx := dx) (dy := dy)]; exact rect_Meets _ _ _ _ _ _ _ _ _
theorem covers_move {a0 a1 a2 a3 b0 b1 b2 b3 dx dy : Int} (w : World) : Calls Try.prog 18 #[(.agg #[.int .i64 (a0 + dx), .int .i64 (a1 + dy), .int .i64 (a2 + dx), .int .i64 (a3 + dy)]), (.agg #[.int .i64 (b0 + dx), .int .i64 (b1 + dy), .int .i64 (b2 + dx), .int .i64 (b3 + dy)])] w fun e w' => e = .returned (.bool (rCovers a0 a1 a2 a3 b0 b1 b2 b3)) ∧ Below w.heap.size w w' := by
  rw [← rCovers_move (dx := dx) (dy := dy)]; exact rect_Covers _ _ _ _ _ _ _ _ _
set_option maxHeartbeats 4000000 in
theorem walk_RectBack (a0 a1 a2 a3 b0 b1 b2 b3 dx dy : Int) (w : World) (ha0 : -9223372036854775808 ≤ a0 ∧ a0 ≤ 9223372036854775807) (ha1 : -9223372036854775808 ≤ a1 ∧ a1 ≤ 9223372036854775807) (ha2 : -9223372036854775808 ≤ a2 ∧ a2 ≤ 9223372036854775807) (ha3 : -9223372036854775808 ≤ a3 ∧ a3 ≤ 9223372036854775807) (hb0 : -9223372036854775808 ≤ b0 ∧ b0 ≤ 9223372036854775807) (hb1 : -9223372036854775808 ≤ b1 ∧ b1 ≤ 9223372036854775807) (hb2 : -9223372036854775808 ≤ b2 ∧ b2 ≤ 9223372036854775807) (hb3 : -9223372036854775808 ≤ b3 ∧ b3 ≤ 9223372036854775807) (hdx : -9223372036854775808 ≤ dx ∧ dx ≤ 9223372036854775807) (hdy : -9223372036854775808 ≤ dy ∧ dy ≤ 9223372036854775807) :
    Calls Try.prog 6 #[(.agg #[.int .i64 (a0), .int .i64 (a1), .int .i64 (a2), .int .i64 (a3)]), (.agg #[.int .i64 (b0), .int .i64 (b1), .int .i64 (b2), .int .i64 (b3)]), .int .i64 dx, .int .i64 dy] w fun e w' => e = .returned (.bool true) ∧ Below w.heap.size w w' := by
  have cP := fun w => ref_Small a0 a1 a2 a3 w ha0 ha1 ha2 ha3
  have cQ := fun w => ref_Small b0 b1 b2 b3 w hb0 hb1 hb2 hb3
  have hP := rSmall_bd a0 a1 a2 a3
  have hQ := rSmall_bd b0 b1 b2 b3
  generalize (rSmall a0 a1 a2 a3).x0 = p0 at cP hP
  generalize (rSmall a0 a1 a2 a3).y0 = p1 at cP hP
  generalize (rSmall a0 a1 a2 a3).x1 = p2 at cP hP
  generalize (rSmall a0 a1 a2 a3).y1 = p3 at cP hP
  generalize (rSmall b0 b1 b2 b3).x0 = q0 at cQ hQ
  generalize (rSmall b0 b1 b2 b3).y0 = q1 at cQ hQ
  generalize (rSmall b0 b1 b2 b3).x1 = q2 at cQ hQ
  generalize (rSmall b0 b1 b2 b3).y1 = q3 at cQ hQ
  have cX := fun w => ref_Around dx 2001 w (by omega) (by omega) (by omega) (by omega)
  have cY := fun w => ref_Around dy 2001 w (by omega) (by omega) (by omega) (by omega)
  have hX := around_bd dx 2001 (by omega)
  have hY := around_bd dy 2001 (by omega)
  generalize around dx 2001 = X at cX hX
  generalize around dy 2001 = Y at cY hY
  have cM := fun w => move_ok (x0 := p0) (y0 := p1) (x1 := p2) (y1 := p3) (dx := X - 1000) (dy := Y - 1000) (rMay_iff.2 (by omega)) (by omega) (by omega) rfl rfl rfl rfl w
  have cN := fun w => move_ok (x0 := q0) (y0 := q1) (x1 := q2) (y1 := q3) (dx := X - 1000) (dy := Y - 1000) (rMay_iff.2 (by omega)) (by omega) (by omega) rfl rfl rfl rfl w
  have cB := fun w => move_ok (x0 := p0 + (X - 1000)) (y0 := p1 + (Y - 1000)) (x1 := p2 + (X - 1000)) (y1 := p3 + (Y - 1000)) (dx := -(X - 1000)) (dy := -(Y - 1000)) (u0 := p0) (v0 := p1) (u1 := p2) (v1 := p3) (rMay_iff.2 (by omega)) (by omega) (by omega) (by omega) (by omega) (by omega) (by omega) w
  clear ha0 ha1 ha2 ha3 hb0 hb1 hb2 hb3 hdx hdy
  go_enter Try.func6, Try.ntmps6
  go_wp2_with (first | (go_at_call 11; (with_reducible refine (cP _).mono ?_); rintro e w1 ⟨rfl, hb1⟩; obtain ⟨hc1, hf1⟩ := bcell hb1; have hz1 := hb1.size; (try simp only [World.size_alloc, World.size_setCell, World.size_drew] at hz1)) | (go_at_call 11; (with_reducible refine (cQ _).mono ?_); rintro e w1 ⟨rfl, hb1⟩; obtain ⟨hc1, hf1⟩ := bcell hb1; have hz1 := hb1.size; (try simp only [World.size_alloc, World.size_setCell, World.size_drew] at hz1)) | (go_at_call 26; (with_reducible refine (cX _).mono ?_); rintro e w1 ⟨rfl, rfl⟩) | (go_at_call 26; (with_reducible refine (cY _).mono ?_); rintro e w1 ⟨rfl, rfl⟩) | (go_at_call 27; (with_reducible refine (cM _).mono ?_); rintro e w1 ⟨rfl, hb1⟩; obtain ⟨hc1, hf1⟩ := bcell hb1; have hz1 := hb1.size; (try simp only [World.size_alloc, World.size_setCell, World.size_drew] at hz1)) | (go_at_call 27; (with_reducible refine (cN _).mono ?_); rintro e w1 ⟨rfl, hb1⟩; obtain ⟨hc1, hf1⟩ := bcell hb1; have hz1 := hb1.size; (try simp only [World.size_alloc, World.size_setCell, World.size_drew] at hz1)) | (go_at_call 27; (with_reducible refine (cB _).mono ?_); rintro e w1 ⟨rfl, hb1⟩; obtain ⟨hc1, hf1⟩ := bcell hb1; have hz1 := hb1.size; (try simp only [World.size_alloc, World.size_setCell, World.size_drew] at hz1)))
  (refine wp_region_ext_lit (by kernel_rfl) (by kernel_rfl) ?_; (repeat (go_big_quiet_step ((first | (go_at_call 14; with_reducible exact ext_call (meets_move _)) | (go_at_call 14; with_reducible exact ext_call (rect_Meets _ _ _ _ _ _ _ _ _)) | (go_at_call 18; with_reducible exact ext_call (covers_move _)) | (go_at_call 18; with_reducible exact ext_call (rect_Covers _ _ _ _ _ _ _ _ _)) | (go_at_call 20; exact ext_call (lives_true _)))))); refine wpQuiet_nil ?_; intro w9 hb_w9; obtain ⟨hc_w9, hf_w9⟩ := bcell hb_w9; have hz_w9 := hb_w9.size; (try simp only [World.size_alloc, World.size_setCell, World.size_drew] at hz_w9))
  go_wp2
  (go_ret; refine ⟨?_, by (repeat (first | (with_reducible exact Below.refl _ _) | ((with_reducible refine Below.alloc ?_ ?hB _); (case hB => (first | omega | (simp; done) | (simp; omega)))) | ((with_reducible refine Below.setCell ?_ ?hB _); (case hB => (first | omega | (simp; done) | (simp; omega)))) | (with_reducible refine Below.drew ?_) | ((with_reducible refine Below.trans ?_ (Below.mono (by assumption) ?hB)); (case hB => (first | omega | (simp; done) | (simp; omega))))))⟩); rfl
end Go.Proofs.Ytbngkeaelfdknaa
