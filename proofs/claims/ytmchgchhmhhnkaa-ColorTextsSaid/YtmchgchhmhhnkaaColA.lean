/- What the small functions on colors give, by walking them. -/
import Derived.Test.YtmchgchhmhhnkaaProg
import Derived.Test.YtmchgchhmhhnkaaMk
namespace Go.Proofs.Ytmchgchhmhhnkaa
open Go.RowKit
set_option linter.unusedSimpArgs false
set_option linter.unusedVariables false
def cutC (n : Int) : Int := min (max n 0) 255
theorem cutC_bd (n : Int) : 0 ≤ cutC n ∧ cutC n ≤ 255 := by unfold cutC; omega
def partC (p q : Int) : Int := (cutC p * cutC q + 127) / 255
theorem mulC_bd (a b : Int) (ha : 0 ≤ a ∧ a ≤ 255) (hb : 0 ≤ b ∧ b ≤ 255) : 0 ≤ a * b ∧ a * b ≤ 65025 := by
  refine ⟨Int.mul_nonneg ha.1 hb.1, ?_⟩
  have h1 : a * b ≤ 255 * b := Int.mul_le_mul_of_nonneg_right ha.2 hb.1
  omega
theorem partC_bd (p q : Int) : 0 ≤ partC p q ∧ partC p q ≤ 255 := by
  have := mulC_bd _ _ (cutC_bd p) (cutC_bd q)
  unfold partC; omega
theorem col_cut (n : Int) (w : World) : Calls Try.prog 32 #[.int .i64 n] w fun e w' => e = .returned (.int .i64 (cutC n)) ∧ w = w' := by
  go_enter Try.func32, Try.ntmps32
  go_wp2
  (go_ret; refine ⟨?_, rfl⟩); rfl
theorem col_Part (p q : Int) (w : World) : Calls Try.prog 11 #[.int .i64 p, .int .i64 q] w fun e w' => e = .returned (.int .i64 (partC p q)) ∧ w = w' := by
  have h := mulC_bd _ _ (cutC_bd p) (cutC_bd q)
  go_enter Try.func11, Try.ntmps11
  go_wp2_with (first | (go_at_call 32; (with_reducible refine (col_cut _ _).mono ?_); rintro e w1 ⟨rfl, rfl⟩))
  (go_ret; refine ⟨?_, rfl⟩); rfl
theorem ref_Part (p q : Int) (w : World) : Calls Try.prog 12 #[.int .i64 p, .int .i64 q] w fun e w' => e = .returned (.int .i64 (partC p q)) ∧ w = w' := by
  have h := mulC_bd _ _ (cutC_bd p) (cutC_bd q)
  have h2 := h
  unfold cutC at h2
  go_enter Try.func12, Try.ntmps12
  go_wp2
  (go_ret; refine ⟨?_, rfl⟩); rfl
theorem wraps_u32 (n : Int) (h₀ : 0 ≤ n) (h₁ : n < 2 ^ 32) : IntKind.u32.wrap n = n := by rw [IntKind.wrap_u32]; omega
theorem and255 (x : Int) (h₀ : 0 ≤ x) (h₁ : x < 4294967296) : bits .and .u32 x 255 = x % 256 := bits_mask .u32 32 (by decide) wraps_u32 8 (by decide) x h₀ (by omega)
theorem or256 (x y : Int) (h₀ : 0 ≤ x) (hx : x % 256 = 0) (h₁ : x < 4294967296) (hy₀ : 0 ≤ y) (hy : y < 256) : bits .or .u32 x y = x + y :=
  bits_join .u32 32 (by decide) wraps_u32 8 x y h₀ (by omega) (by omega) hy₀ (by omega) (by omega)
theorem col_Parts (c : Int) (w : World) (hc : 0 ≤ c ∧ c ≤ 4294967295) : Calls Try.prog 15 #[.int .u32 c] w fun e w' => e = .returned (.agg #[.int .i64 (c / 16777216), .int .i64 (c / 65536 % 256), .int .i64 (c / 256 % 256), .int .i64 (c % 256)]) ∧ Below w.heap.size w w' := by
  have m0 : bits .and .u32 (c / 16777216) 255 = c / 16777216 := by rw [and255 _ (by omega) (by omega)]; omega
  have m1 := and255 (c / 65536) (by omega) (by omega)
  have m2 := and255 (c / 256) (by omega) (by omega)
  have m3 := and255 c (by omega) (by omega)
  go_enter Try.func15, Try.ntmps15
  go_wp2
  refine wp_loop_rounds 5 ?_
  iterate 5 (rw [rounds_succ]; go_wp2)
  (refine bodyPost_ret (by simp [results, Try.results15, go_sem, ↓IntWalk.iteOmega, *]; rfl) rfl ⟨?_, by (repeat (first | (with_reducible exact Below.refl _ _) | ((with_reducible refine Below.alloc ?_ ?hB _); (case hB => (first | omega | (simp; done) | (simp; omega)))) | ((with_reducible refine Below.setCell ?_ ?hB _); (case hB => (first | omega | (simp; done) | (simp; omega)))) | (with_reducible refine Below.drew ?_) | ((with_reducible refine below_ext_of ?_ ?hB); (case hB => (first | omega | (simp; done) | (simp; omega)))) | ((with_reducible refine Below.trans ?_ (Below.mono (by assumption) ?hB)); (case hB => (first | omega | (simp; done) | (simp; omega))))))⟩; rfl)
theorem ref_Parts (c : Int) (w : World) (hc : 0 ≤ c ∧ c ≤ 4294967295) : Calls Try.prog 18 #[.int .u32 c] w fun e w' => e = .returned (.agg #[.int .i64 (c / 16777216), .int .i64 (c / 65536 % 256), .int .i64 (c / 256 % 256), .int .i64 (c % 256)]) ∧ Below w.heap.size w w' := by
  go_enter Try.func18, Try.ntmps18
  go_wp2
  (refine bodyPost_ret (by simp [results, Try.results18, go_sem, ↓IntWalk.iteOmega, *]; rfl) rfl ⟨?_, by (repeat (first | (with_reducible exact Below.refl _ _) | ((with_reducible refine Below.alloc ?_ ?hB _); (case hB => (first | omega | (simp; done) | (simp; omega)))) | ((with_reducible refine Below.setCell ?_ ?hB _); (case hB => (first | omega | (simp; done) | (simp; omega)))) | (with_reducible refine Below.drew ?_) | ((with_reducible refine below_ext_of ?_ ?hB); (case hB => (first | omega | (simp; done) | (simp; omega)))) | ((with_reducible refine Below.trans ?_ (Below.mono (by assumption) ?hB)); (case hB => (first | omega | (simp; done) | (simp; omega))))))⟩; rfl)
def mkC (a r g b : Int) : Int := cutC a * 16777216 + cutC r * 65536 + cutC g * 256 + cutC b
theorem mkC_bd (a r g b : Int) : 0 ≤ mkC a r g b ∧ mkC a r g b ≤ 4294967295 := by
  have h0 := cutC_bd a; have h1 := cutC_bd r; have h2 := cutC_bd g; have h3 := cutC_bd b
  unfold mkC; omega
theorem ref_Make (a r g b : Int) (w : World) : Calls Try.prog 17 #[.int .i64 a, .int .i64 r, .int .i64 g, .int .i64 b] w fun e w' => e = .returned (.int .u32 (mkC a r g b)) ∧ w = w' := by
  go_enter Try.func17, Try.ntmps17
  go_wp2
  (go_ret; refine ⟨?_, rfl⟩); rfl
theorem mk_bits (a r g b : Int) (h0 : 0 ≤ cutC a ∧ cutC a ≤ 255) (h1 : 0 ≤ cutC r ∧ cutC r ≤ 255) (h2 : 0 ≤ cutC g ∧ cutC g ≤ 255) (h3 : 0 ≤ cutC b ∧ cutC b ≤ 255) :
    bits .or .u32 (bits .or .u32 (bits .or .u32 (bits .or .u32 0 (cutC a) * 256 % 4294967296) (cutC r) * 256 % 4294967296) (cutC g) * 256 % 4294967296) (cutC b) = mkC a r g b := by
  rw [or256 0 (cutC a) (by omega) (by omega) (by omega) (by omega) (by omega)]
  rw [or256 _ (cutC r) (by omega) (by omega) (by omega) (by omega) (by omega)]
  rw [or256 _ (cutC g) (by omega) (by omega) (by omega) (by omega) (by omega)]
  rw [or256 _ (cutC b) (by omega) (by omega) (by omega) (by omega) (by omega)]
  unfold mkC; omega
def mayC (c : Int) : Bool := decide (c / 65536 % 256 ≤ c / 16777216 ∧ c / 256 % 256 ≤ c / 16777216 ∧ c % 256 ≤ c / 16777216)
def solidC (c : Int) : Bool := decide (c / 16777216 = 255)
theorem idx0 (a b c d : Int) (w : World) : (Instr.index 28 (.agg #[.int .i64 (a), .int .i64 (b), .int .i64 (c), .int .i64 (d)]) (.int .i64 0)).run Try.prog w = .ok (.int .i64 a) w := by kernel_rfl
theorem col_Make (a r g b : Int) (w : World) : Calls Try.prog 20 #[.int .i64 a, .int .i64 r, .int .i64 g, .int .i64 b] w fun e w' => e = .returned (.int .u32 (mkC a r g b)) ∧ w = w' := by
  have i0 : ∀ w, (Instr.index 28 (.agg #[.int .i64 (a), .int .i64 (r), .int .i64 (g), .int .i64 (b)]) (.int .i64 0)).run Try.prog w = .ok (.int .i64 a) w := fun _ => by kernel_rfl
  have i1 : ∀ w, (Instr.index 28 (.agg #[.int .i64 (a), .int .i64 (r), .int .i64 (g), .int .i64 (b)]) (.int .i64 1)).run Try.prog w = .ok (.int .i64 r) w := fun _ => by kernel_rfl
  have i2 : ∀ w, (Instr.index 28 (.agg #[.int .i64 (a), .int .i64 (r), .int .i64 (g), .int .i64 (b)]) (.int .i64 2)).run Try.prog w = .ok (.int .i64 g) w := fun _ => by kernel_rfl
  have i3 : ∀ w, (Instr.index 28 (.agg #[.int .i64 (a), .int .i64 (r), .int .i64 (g), .int .i64 (b)]) (.int .i64 3)).run Try.prog w = .ok (.int .i64 b) w := fun _ => by kernel_rfl
  have h0 := cutC_bd a; have h1 := cutC_bd r; have h2 := cutC_bd g; have h3 := cutC_bd b
  go_enter Try.func20, Try.ntmps20
  go_wp2
  refine wp_loop_rounds 5 ?_
  iterate 5 (rw [rounds_succ]; go_wp2_with (first | (go_at_call 32; (with_reducible refine (col_cut _ _).mono ?_); rintro e w1 ⟨rfl, rfl⟩)))
  (go_ret; refine ⟨?_, rfl⟩); exact congrArg (fun x => Ending.returned (.int .u32 x)) (mk_bits _ _ _ _ h0 h1 h2 h3)
theorem col_May (c : Int) (w : World) (hc : 0 ≤ c ∧ c ≤ 4294967295) : Calls Try.prog 21 #[.int .u32 c] w fun e w' => e = .returned (.bool (mayC c)) ∧ Below w.heap.size w w' := by
  go_enter Try.func21, Try.ntmps21
  go_wp2_with (first | (go_at_call 15; refine (col_Parts _ _ (by omega)).mono ?_; rintro e w1 ⟨rfl, hb1⟩; obtain ⟨hc1, hf1⟩ := bcell hb1; have hz1 := hb1.size; (try simp only [World.size_alloc, World.size_setCell, World.size_drew] at hz1)))
  (go_ret; refine ⟨congrArg (fun x => Ending.returned (.bool x)) ?_, by (repeat (first | (with_reducible exact Below.refl _ _) | ((with_reducible refine Below.alloc ?_ ?hB _); (case hB => (first | omega | (simp; done) | (simp; omega)))) | ((with_reducible refine Below.setCell ?_ ?hB _); (case hB => (first | omega | (simp; done) | (simp; omega)))) | (with_reducible refine Below.drew ?_) | ((with_reducible refine below_ext_of ?_ ?hB); (case hB => (first | omega | (simp; done) | (simp; omega)))) | ((with_reducible refine Below.trans ?_ (Below.mono (by assumption) ?hB)); (case hB => (first | omega | (simp; done) | (simp; omega))))))⟩; (first | rfl | (rw [Bool.eq_iff_iff]; simp [mayC]; done) | (rw [Bool.eq_iff_iff]; simp [mayC]; omega)))
theorem ref_May (c : Int) (w : World) (hc : 0 ≤ c ∧ c ≤ 4294967295) : Calls Try.prog 22 #[.int .u32 c] w fun e w' => e = .returned (.bool (mayC c)) ∧ Below w.heap.size w w' := by
  go_enter Try.func22, Try.ntmps22
  go_wp2_with (first | (go_at_call 18; refine (ref_Parts _ _ (by omega)).mono ?_; rintro e w1 ⟨rfl, hb1⟩; obtain ⟨hc1, hf1⟩ := bcell hb1; have hz1 := hb1.size; (try simp only [World.size_alloc, World.size_setCell, World.size_drew] at hz1)))
  all_goals (go_ret; refine ⟨congrArg (fun x => Ending.returned (.bool x)) ?_, by (repeat (first | (with_reducible exact Below.refl _ _) | ((with_reducible refine Below.alloc ?_ ?hB _); (case hB => (first | omega | (simp; done) | (simp; omega)))) | ((with_reducible refine Below.setCell ?_ ?hB _); (case hB => (first | omega | (simp; done) | (simp; omega)))) | (with_reducible refine Below.drew ?_) | ((with_reducible refine below_ext_of ?_ ?hB); (case hB => (first | omega | (simp; done) | (simp; omega)))) | ((with_reducible refine Below.trans ?_ (Below.mono (by assumption) ?hB)); (case hB => (first | omega | (simp; done) | (simp; omega))))))⟩; (first | rfl | (rw [Bool.eq_iff_iff]; simp [mayC]; done) | (rw [Bool.eq_iff_iff]; simp [mayC]; omega)))
theorem col_Solid (c : Int) (w : World) (hc : 0 ≤ c ∧ c ≤ 4294967295) : Calls Try.prog 23 #[.int .u32 c] w fun e w' => e = .returned (.bool (solidC c)) ∧ Below w.heap.size w w' := by
  have i0 := fun (a b c d : Int) (w : World) => idx0 a b c d w
  go_enter Try.func23, Try.ntmps23
  go_wp2_with (first | (go_at_call 15; refine (col_Parts _ _ (by omega)).mono ?_; rintro e w1 ⟨rfl, hb1⟩; obtain ⟨hc1, hf1⟩ := bcell hb1; have hz1 := hb1.size; (try simp only [World.size_alloc, World.size_setCell, World.size_drew] at hz1)))
  (go_ret; refine ⟨congrArg (fun x => Ending.returned (.bool x)) ?_, by (repeat (first | (with_reducible exact Below.refl _ _) | ((with_reducible refine Below.alloc ?_ ?hB _); (case hB => (first | omega | (simp; done) | (simp; omega)))) | ((with_reducible refine Below.setCell ?_ ?hB _); (case hB => (first | omega | (simp; done) | (simp; omega)))) | (with_reducible refine Below.drew ?_) | ((with_reducible refine below_ext_of ?_ ?hB); (case hB => (first | omega | (simp; done) | (simp; omega)))) | ((with_reducible refine Below.trans ?_ (Below.mono (by assumption) ?hB)); (case hB => (first | omega | (simp; done) | (simp; omega))))))⟩; (first | rfl | (rw [Bool.eq_iff_iff]; simp [solidC]; done) | (rw [Bool.eq_iff_iff]; simp [solidC]; omega)))
end Go.Proofs.Ytmchgchhmhhnkaa
