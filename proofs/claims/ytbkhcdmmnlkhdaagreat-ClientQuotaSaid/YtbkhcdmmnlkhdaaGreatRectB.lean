/- More of the small functions on rectangles. -/
import Derived.Test.YtbkhcdmmnlkhdaaGreatRectA
namespace Go.Proofs.YtbkhcdmmnlkhdaaGreat
open Go.RowKit
set_option linter.unusedSimpArgs false
set_option linter.unusedVariables false
attribute [local go_sem high] eqRect
set_option maxHeartbeats 1000000 in
theorem ref_Small (x0 y0 x1 y1 : Int) (w : World) (hx0 : -9223372036854775808 ≤ x0 ∧ x0 ≤ 9223372036854775807) (hy0 : -9223372036854775808 ≤ y0 ∧ y0 ≤ 9223372036854775807) (hx1 : -9223372036854775808 ≤ x1 ∧ x1 ≤ 9223372036854775807) (hy1 : -9223372036854775808 ≤ y1 ∧ y1 ≤ 9223372036854775807) : Calls Tryz.prog 47 #[(.agg #[.int .i64 (x0), .int .i64 (y0), .int .i64 (x1), .int .i64 (y1)])] w fun e w' => e = .returned ((.agg #[.int .i64 (rSmall x0 y0 x1 y1).x0, .int .i64 (rSmall x0 y0 x1 y1).y0, .int .i64 (rSmall x0 y0 x1 y1).x1, .int .i64 (rSmall x0 y0 x1 y1).y1])) ∧ Below w.heap.size w w' := by
  have hb0 := around_bd x0 24 (by omega)
  have hb1 := around_bd y0 24 (by omega)
  have hb2 := around_bd x1 13 (by omega)
  have hb3 := around_bd y1 13 (by omega)
  go_enter Tryz.func47, Tryz.ntmps47
  go_wp2_with (first | (go_at_call 9; refine (ref_Around _ _ _ (by omega) (by omega) (by omega) (by omega)).mono ?_; rintro e w1 ⟨rfl, rfl⟩))
  (refine wp_region_ext_tail 13 (by kernel_rfl) (by kernel_rfl) ?_; simp only [List.take_succ_cons, List.take_zero, List.drop_succ_cons, List.drop_zero]; (repeat (go_big_quiet_step ((first | (go_at_call 9; exact ext_same (ref_Around _ _ _ (by omega) (by omega) (by omega) (by omega))))))); refine wpQuiet_nil ?_; intro w1 hb_w1; obtain ⟨hc_w1, hf_w1⟩ := bcell hb_w1; have hz_w1 := hb_w1.size; (try simp only [World.size_alloc, World.size_setCell, World.size_drew] at hz_w1))
  go_wp2
  (refine bodyPost_ret (by simp [results, Tryz.results47, go_sem, ↓IntWalk.iteOmega, *]; rfl) rfl ⟨?_, by (repeat (first | (with_reducible exact Below.refl _ _) | ((with_reducible refine Below.alloc ?_ ?hB _); (case hB => (first | omega | (simp; done) | (simp; omega)))) | ((with_reducible refine Below.setCell ?_ ?hB _); (case hB => (first | omega | (simp; done) | (simp; omega)))) | (with_reducible refine Below.drew ?_) | ((with_reducible refine below_ext_of ?_ ?hB); (case hB => (first | omega | (simp; done) | (simp; omega)))) | ((with_reducible refine Below.trans ?_ (Below.mono (by assumption) ?hB)); (case hB => (first | omega | (simp; done) | (simp; omega))))))⟩; rfl)
theorem rect_Covers (a0 a1 a2 a3 b0 b1 b2 b3 : Int) (w : World) : Calls Tryz.prog 198 #[(.agg #[.int .i64 (a0), .int .i64 (a1), .int .i64 (a2), .int .i64 (a3)]), (.agg #[.int .i64 (b0), .int .i64 (b1), .int .i64 (b2), .int .i64 (b3)])] w fun e w' => e = .returned (.bool (rCovers a0 a1 a2 a3 b0 b1 b2 b3)) ∧ Below w.heap.size w w' := by
  cases hE : rEmpty b0 b1 b2 b3
  · have cE := fun w => hE ▸ rect_Empty b0 b1 b2 b3 w
    go_enter Tryz.func198, Tryz.ntmps198
    go_wp2_with fail
    (refine wp_region_ext_lit (by kernel_rfl) (by kernel_rfl) ?_; (repeat (go_big_quiet_step ((first | (go_at_call 185; exact ext_call (cE _)) | (go_at_call 181; exact ext_call (rect_Cut _ _ _ _ _ _ _ _ _)))))); refine wpQuiet_nil ?_; intro w1 hb_w1; obtain ⟨hc_w1, hf_w1⟩ := bcell hb_w1; have hz_w1 := hb_w1.size; (try simp only [World.size_alloc, World.size_setCell, World.size_drew] at hz_w1))
    go_wp2
    all_goals (go_ret; refine ⟨congrArg (fun x => Ending.returned (.bool x)) ?_, by (repeat (first | (with_reducible exact Below.refl _ _) | ((with_reducible refine Below.alloc ?_ ?hB _); (case hB => (first | omega | (simp; done) | (simp; omega)))) | ((with_reducible refine Below.setCell ?_ ?hB _); (case hB => (first | omega | (simp; done) | (simp; omega)))) | (with_reducible refine Below.drew ?_) | ((with_reducible refine below_ext_of ?_ ?hB); (case hB => (first | omega | (simp; done) | (simp; omega)))) | ((with_reducible refine Below.trans ?_ (Below.mono (by assumption) ?hB)); (case hB => (first | omega | (simp; done) | (simp; omega))))))⟩; simp [rCovers, hE])
  · have cE := fun w => hE ▸ rect_Empty b0 b1 b2 b3 w
    go_enter Tryz.func198, Tryz.ntmps198
    go_wp2_with fail
    (refine wp_region_ext_lit (by kernel_rfl) (by kernel_rfl) ?_; (repeat (go_big_quiet_step ((first | (go_at_call 185; exact ext_call (cE _)) | (go_at_call 181; exact ext_call (rect_Cut _ _ _ _ _ _ _ _ _)))))); refine wpQuiet_nil ?_; intro w1 hb_w1; obtain ⟨hc_w1, hf_w1⟩ := bcell hb_w1; have hz_w1 := hb_w1.size; (try simp only [World.size_alloc, World.size_setCell, World.size_drew] at hz_w1))
    go_wp2
    all_goals (go_ret; refine ⟨congrArg (fun x => Ending.returned (.bool x)) ?_, by (repeat (first | (with_reducible exact Below.refl _ _) | ((with_reducible refine Below.alloc ?_ ?hB _); (case hB => (first | omega | (simp; done) | (simp; omega)))) | ((with_reducible refine Below.setCell ?_ ?hB _); (case hB => (first | omega | (simp; done) | (simp; omega)))) | (with_reducible refine Below.drew ?_) | ((with_reducible refine below_ext_of ?_ ?hB); (case hB => (first | omega | (simp; done) | (simp; omega)))) | ((with_reducible refine Below.trans ?_ (Below.mono (by assumption) ?hB)); (case hB => (first | omega | (simp; done) | (simp; omega))))))⟩; simp [rCovers, hE])
theorem hasNot (x0 y0 x1 y1 x y : Int) : (!rEmpty x0 y0 x1 y1 || !rHas x0 y0 x1 y1 x y) = true := by
  rw [Bool.or_eq_true]; simp [rEmpty, rHas]; omega
end Go.Proofs.YtbkhcdmmnlkhdaaGreat
