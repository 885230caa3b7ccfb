/- The laws ColorPart, ColorPre, ColorCovers, ColorOver, walked. -/
import Derived.Test.YtmchgchhmhhnkaaColB
namespace Go.Proofs.Ytmchgchhmhhnkaa
open Go.RowKit
set_option linter.unusedSimpArgs false
set_option linter.unusedVariables false
theorem mk_parts (a r g b : Int) : ((mkC a r g b) / 16777216) = cutC a ∧ ((mkC a r g b) / 65536 % 256) = cutC r ∧ ((mkC a r g b) / 256 % 256) = cutC g ∧ ((mkC a r g b) % 256) = cutC b := by
  have h0 := cutC_bd a; have h1 := cutC_bd r; have h2 := cutC_bd g; have h3 := cutC_bd b
  unfold mkC; omega
theorem parts_mk (c : Int) (hc : 0 ≤ c ∧ c ≤ 4294967295) : mkC (c / 16777216) (c / 65536 % 256) (c / 256 % 256) (c % 256) = c := by unfold mkC cutC; omega
theorem cutC_id {n : Int} (h : 0 ≤ n ∧ n ≤ 255) : cutC n = n := by unfold cutC; omega
theorem partC_comm (p q : Int) : partC q p = partC p q := by unfold partC; rw [Int.mul_comm]
theorem cut0 : cutC 0 = 0 := by decide
theorem cut255 : cutC 255 = 255 := by decide
theorem partC_255 (p : Int) : partC p 255 = cutC p := by
  have := cutC_bd p; unfold partC; rw [cut255]; omega
theorem partC_0 (p : Int) : partC p 0 = 0 := by unfold partC; rw [cut0]; omega
theorem partC_0' (p : Int) : partC 0 p = 0 := by rw [partC_comm]; exact partC_0 p
theorem partC_255' (p : Int) : partC 255 p = cutC p := by rw [partC_comm]; exact partC_255 p
theorem partC_mono {p q r : Int} (h : q ≤ r) : partC p q ≤ partC p r := by
  have h0 := cutC_bd p
  have h1 : cutC q ≤ cutC r := by unfold cutC; omega
  have h2 : cutC p * cutC q ≤ cutC p * cutC r := Int.mul_le_mul_of_nonneg_left h1 h0.1
  unfold partC; omega
theorem partC_le (p q : Int) : partC p q ≤ cutC p := by
  have h : partC p q ≤ partC p (max q 255) := partC_mono (by omega)
  have e : partC p (max q 255) = partC p 255 := by
    unfold partC; rw [show cutC (max q 255) = cutC 255 by unfold cutC; omega]
  rw [e, partC_255] at h; exact h
def okC (c : Int) : Prop := (0 ≤ c ∧ c ≤ 4294967295) ∧ c / 65536 % 256 ≤ c / 16777216 ∧ c / 256 % 256 ≤ c / 16777216 ∧ c % 256 ≤ c / 16777216
theorem good_ok (c : Int) (hc : 0 ≤ c ∧ c ≤ 4294967295) : okC (goodC c) := by
  have hb := mkC_bd (c / 16777216) (min (c / 65536 % 256) (c / 16777216)) (min (c / 256 % 256) (c / 16777216)) (min (c % 256) (c / 16777216))
  have hp := mk_parts (c / 16777216) (min (c / 65536 % 256) (c / 16777216)) (min (c / 256 % 256) (c / 16777216)) (min (c % 256) (c / 16777216))
  unfold okC goodC
  refine ⟨hb, ?_⟩
  rw [hp.1, hp.2.1, hp.2.2.1, hp.2.2.2]
  unfold cutC; omega
theorem may_of_ok {c : Int} (h : okC c) : mayC c = true := by
  unfold mayC; simp only [decide_eq_true_eq]; exact h.2
theorem over_bd (c d : Int) : 0 ≤ overC c d ∧ overC c d ≤ 4294967295 := mkC_bd _ _ _ _
theorem fade_bd (c d : Int) : 0 ≤ fadeC c d ∧ fadeC c d ≤ 4294967295 := mkC_bd _ _ _ _
theorem mk_ok {a r g b : Int} (h1 : r ≤ a) (h2 : g ≤ a) (h3 : b ≤ a) : okC (mkC a r g b) := by
  refine ⟨mkC_bd _ _ _ _, ?_⟩
  have hp := mk_parts a r g b
  rw [hp.1, hp.2.1, hp.2.2.1, hp.2.2.2]
  unfold cutC; omega
theorem partC_mono1 {p q r : Int} (h : p ≤ q) : partC p r ≤ partC q r := by rw [partC_comm r, partC_comm r]; exact partC_mono h
theorem over_ok {c d : Int} (hc : okC c) (hd : okC d) : okC (overC c d) := by
  obtain ⟨_, c1, c2, c3⟩ := hc
  obtain ⟨_, d1, d2, d3⟩ := hd
  have m1 := partC_mono1 (r := 255 - (c / 16777216)) d1
  have m2 := partC_mono1 (r := 255 - (c / 16777216)) d2
  have m3 := partC_mono1 (r := 255 - (c / 16777216)) d3
  exact mk_ok (by omega) (by omega) (by omega)
theorem fade_ok {c : Int} (al : Int) (hc : okC c) : okC (fadeC c al) := by
  obtain ⟨_, c1, c2, c3⟩ := hc
  exact mk_ok (partC_mono1 c1) (partC_mono1 c2) (partC_mono1 c3)
theorem pre_ok (a r g b : Int) : okC (preC a r g b) := by
  refine ⟨mkC_bd _ _ _ _, ?_⟩
  have hp := mk_parts a (partC r a) (partC g a) (partC b a)
  unfold preC
  rw [hp.1, hp.2.1, hp.2.2.1, hp.2.2.2, cutC_id (partC_bd r a), cutC_id (partC_bd g a), cutC_id (partC_bd b a)]
  have h1 := partC_le a r; have h2 := partC_le a g; have h3 := partC_le a b
  rw [partC_comm] at h1 h2 h3
  exact ⟨h1, h2, h3⟩
theorem over_solid {c d : Int} (hc : 0 ≤ c ∧ c ≤ 4294967295) (hs : (c / 16777216) = 255) : overC c d = c := by
  unfold overC
  rw [hs, show (255 : Int) - 255 = 0 by omega, partC_0, partC_0, partC_0, partC_0]
  have := parts_mk c hc
  rw [hs] at this
  simpa using this
theorem over_none {d : Int} (hd : 0 ≤ d ∧ d ≤ 4294967295) : overC 0 d = d := by
  unfold overC
  rw [show (0 : Int) / 16777216 = 0 by decide, show (0 : Int) / 65536 % 256 = 0 by decide, show (0 : Int) / 256 % 256 = 0 by decide, show (0 : Int) % 256 = 0 by decide, show (255 : Int) - 0 = 255 by omega, partC_255, partC_255, partC_255, partC_255, Int.zero_add, Int.zero_add, Int.zero_add, Int.zero_add,
    cutC_id (by omega), cutC_id (by omega), cutC_id (by omega), cutC_id (by omega)]
  exact parts_mk d hd
theorem over_zero {c : Int} (hc : 0 ≤ c ∧ c ≤ 4294967295) : overC c 0 = c := by
  unfold overC
  rw [show (0 : Int) / 16777216 = 0 by decide, show (0 : Int) / 65536 % 256 = 0 by decide, show (0 : Int) / 256 % 256 = 0 by decide, show (0 : Int) % 256 = 0 by decide, partC_0', Int.add_zero, Int.add_zero, Int.add_zero, Int.add_zero]
  exact parts_mk c hc
theorem fade_full {c : Int} (hc : 0 ≤ c ∧ c ≤ 4294967295) : fadeC c 255 = c := by
  unfold fadeC
  rw [partC_255, partC_255, partC_255, partC_255, cutC_id (by omega), cutC_id (by omega), cutC_id (by omega), cutC_id (by omega)]
  exact parts_mk c hc
theorem fade_none (c : Int) : fadeC c 0 = 0 := by
  unfold fadeC; rw [partC_0, partC_0, partC_0, partC_0]; decide
theorem col_PartS (p q : Int) (w : World) : Calls Try.prog 11 #[.int .i64 q, .int .i64 p] w fun e w' => e = .returned (.int .i64 (partC p q)) ∧ w = w' := by
  rw [← partC_comm]; exact col_Part _ _ _
theorem col_Part255 (p : Int) (w : World) : Calls Try.prog 11 #[.int .i64 p, .int .i64 255] w fun e w' => e = .returned (.int .i64 (min (max p 0) 255)) ∧ w = w' := by
  have h := col_Part p 255 w; rw [partC_255] at h; exact h
theorem col_Part0 (p : Int) (w : World) : Calls Try.prog 11 #[.int .i64 p, .int .i64 0] w fun e w' => e = .returned (.int .i64 0) ∧ w = w' := by
  have h := col_Part p 0 w; rw [partC_0] at h; exact h
theorem walk_ColorPart (p q : Int) (w : World) : Calls Try.prog 3 #[.int .i64 p, .int .i64 q] w fun e w' => e = .returned (.bool true) ∧ Below w.heap.size w w' := by
  have h1 : partC p q ≤ min (max p 0) 255 := partC_le p q
  go_enter Try.func3, Try.ntmps3
  go_wp2_with (first | (go_at_call 11; (with_reducible refine (col_Part p q _).mono ?_); rintro e w1 ⟨rfl, rfl⟩) | (go_at_call 11; (with_reducible refine (col_PartS p q _).mono ?_); rintro e w1 ⟨rfl, rfl⟩) | (go_at_call 11; (with_reducible refine (col_Part255 p _).mono ?_); rintro e w1 ⟨rfl, rfl⟩) | (go_at_call 11; (with_reducible refine (col_Part0 p _).mono ?_); rintro e w1 ⟨rfl, rfl⟩) | (go_at_call 12; (with_reducible refine (ref_Part _ _ _).mono ?_); rintro e w1 ⟨rfl, rfl⟩) | (go_at_call 13; (with_reducible refine (lives_true _).mono ?_); rintro e w1 ⟨rfl, hb1⟩; obtain ⟨hc1, hf1⟩ := bcell hb1; have hz1 := hb1.size; (try simp only [World.size_alloc, World.size_setCell, World.size_drew] at hz1)))
  (go_ret; refine ⟨?_, by (repeat (first | (with_reducible exact Below.refl _ _) | ((with_reducible refine Below.alloc ?_ ?hB _); (case hB => (first | omega | (simp; done) | (simp; omega)))) | ((with_reducible refine Below.setCell ?_ ?hB _); (case hB => (first | omega | (simp; done) | (simp; omega)))) | (with_reducible refine Below.drew ?_) | ((with_reducible refine below_ext_of ?_ ?hB); (case hB => (first | omega | (simp; done) | (simp; omega)))) | ((with_reducible refine Below.trans ?_ (Below.mono (by assumption) ?hB)); (case hB => (first | omega | (simp; done) | (simp; omega))))))⟩); rfl
theorem walk_ColorPre (a r g b : Int) (w : World) : Calls Try.prog 8 #[(.agg #[.int .i64 (a), .int .i64 (r), .int .i64 (g), .int .i64 (b)])] w fun e w' => e = .returned (.bool true) ∧ Below w.heap.size w w' := by
  have hk := pre_ok a r g b
  have cM := fun w => col_May (preC a r g b) w hk.1
  rw [may_of_ok hk] at cM
  clear hk
  go_enter Try.func8, Try.ntmps8
  go_wp2_with (first | (go_at_call 24; (with_reducible refine (col_Pre _ _ _ _ _).mono ?_); rintro e w1 ⟨rfl, rfl⟩) | (go_at_call 25; (with_reducible refine (ref_Pre _ _ _ _ _).mono ?_); rintro e w1 ⟨rfl, rfl⟩) | (go_at_call 21; (with_reducible refine (cM _).mono ?_); rintro e w1 ⟨rfl, hb1⟩; obtain ⟨hc1, hf1⟩ := bcell hb1; have hz1 := hb1.size; (try simp only [World.size_alloc, World.size_setCell, World.size_drew] at hz1)) | (go_at_call 13; (with_reducible refine (lives_true _).mono ?_); rintro e w1 ⟨rfl, hb1⟩; obtain ⟨hc1, hf1⟩ := bcell hb1; have hz1 := hb1.size; (try simp only [World.size_alloc, World.size_setCell, World.size_drew] at hz1)))
  (go_ret; refine ⟨?_, by (repeat (first | (with_reducible exact Below.refl _ _) | ((with_reducible refine Below.alloc ?_ ?hB _); (case hB => (first | omega | (simp; done) | (simp; omega)))) | ((with_reducible refine Below.setCell ?_ ?hB _); (case hB => (first | omega | (simp; done) | (simp; omega)))) | (with_reducible refine Below.drew ?_) | ((with_reducible refine below_ext_of ?_ ?hB); (case hB => (first | omega | (simp; done) | (simp; omega)))) | ((with_reducible refine Below.trans ?_ (Below.mono (by assumption) ?hB)); (case hB => (first | omega | (simp; done) | (simp; omega))))))⟩); rfl
theorem walk_ColorCovers (c d : Int) (w : World) (hc : 0 ≤ c ∧ c ≤ 4294967295) (hd : 0 ≤ d ∧ d ≤ 4294967295) : Calls Try.prog 6 #[.int .u32 c, .int .u32 d] w fun e w' => e = .returned (.bool true) ∧ Below w.heap.size w w' := by
  have cX := fun w => ref_Good c w hc
  have cY := fun w => ref_Good d w hd
  have hX := good_ok c hc
  have hY := good_ok d hd
  generalize goodC c = X at cX hX
  generalize goodC d = Y at cY hY
  have cP := fun w => ref_Parts X w hX.1
  have hS := mkC_bd 255 (X / 65536 % 256) (X / 256 % 256) (X % 256)
  have hS0 := (mk_parts 255 (X / 65536 % 256) (X / 256 % 256) (X % 256)).1
  have cMk := fun w => ref_Make 255 (X / 65536 % 256) (X / 256 % 256) (X % 256) w
  generalize mkC 255 (X / 65536 % 256) (X / 256 % 256) (X % 256) = Sd at cMk hS hS0
  have c1 := fun w => col_Over Sd Y w hS hY.1
  rw [over_solid hS hS0] at c1
  have c2 := fun w => col_Over 0 Y w (by omega) hY.1
  rw [over_none hY.1] at c2
  have c3 := fun w => col_Over X 0 w hX.1 (by omega)
  rw [over_zero hX.1] at c3
  have c4 := fun w => col_Fade X 255 w hX.1
  rw [fade_full hX.1] at c4
  have c5 := fun w => col_Fade X 0 w hX.1
  rw [fade_none] at c5
  clear hX hY hS hS0 hc hd
  go_enter Try.func6, Try.ntmps6
  go_wp2_with (first | (go_at_call 14; (with_reducible refine (cX _).mono ?_); rintro e w1 ⟨rfl, hb1⟩; obtain ⟨hc1, hf1⟩ := bcell hb1; have hz1 := hb1.size; (try simp only [World.size_alloc, World.size_setCell, World.size_drew] at hz1)) | (go_at_call 14; (with_reducible refine (cY _).mono ?_); rintro e w1 ⟨rfl, hb1⟩; obtain ⟨hc1, hf1⟩ := bcell hb1; have hz1 := hb1.size; (try simp only [World.size_alloc, World.size_setCell, World.size_drew] at hz1)) | (go_at_call 18; (with_reducible refine (cP _).mono ?_); rintro e w1 ⟨rfl, hb1⟩; obtain ⟨hc1, hf1⟩ := bcell hb1; have hz1 := hb1.size; (try simp only [World.size_alloc, World.size_setCell, World.size_drew] at hz1)) | (go_at_call 17; (with_reducible refine (cMk _).mono ?_); rintro e w1 ⟨rfl, rfl⟩) | (go_at_call 16; (with_reducible refine (c1 _).mono ?_); rintro e w1 ⟨rfl, hb1⟩; obtain ⟨hc1, hf1⟩ := bcell hb1; have hz1 := hb1.size; (try simp only [World.size_alloc, World.size_setCell, World.size_drew] at hz1)) | (go_at_call 16; (with_reducible refine (c2 _).mono ?_); rintro e w1 ⟨rfl, hb1⟩; obtain ⟨hc1, hf1⟩ := bcell hb1; have hz1 := hb1.size; (try simp only [World.size_alloc, World.size_setCell, World.size_drew] at hz1)) | (go_at_call 16; (with_reducible refine (c3 _).mono ?_); rintro e w1 ⟨rfl, hb1⟩; obtain ⟨hc1, hf1⟩ := bcell hb1; have hz1 := hb1.size; (try simp only [World.size_alloc, World.size_setCell, World.size_drew] at hz1)) | (go_at_call 19; (with_reducible refine (c4 _).mono ?_); rintro e w1 ⟨rfl, hb1⟩; obtain ⟨hc1, hf1⟩ := bcell hb1; have hz1 := hb1.size; (try simp only [World.size_alloc, World.size_setCell, World.size_drew] at hz1)) | (go_at_call 19; (with_reducible refine (c5 _).mono ?_); rintro e w1 ⟨rfl, hb1⟩; obtain ⟨hc1, hf1⟩ := bcell hb1; have hz1 := hb1.size; (try simp only [World.size_alloc, World.size_setCell, World.size_drew] at hz1)) | (go_at_call 13; (with_reducible refine (lives_true _).mono ?_); rintro e w1 ⟨rfl, hb1⟩; obtain ⟨hc1, hf1⟩ := bcell hb1; have hz1 := hb1.size; (try simp only [World.size_alloc, World.size_setCell, World.size_drew] at hz1)))
  (go_ret; refine ⟨?_, by (repeat (first | (with_reducible exact Below.refl _ _) | ((with_reducible refine Below.alloc ?_ ?hB _); (case hB => (first | omega | (simp; done) | (simp; omega)))) | ((with_reducible refine Below.setCell ?_ ?hB _); (case hB => (first | omega | (simp; done) | (simp; omega)))) | (with_reducible refine Below.drew ?_) | ((with_reducible refine below_ext_of ?_ ?hB); (case hB => (first | omega | (simp; done) | (simp; omega)))) | ((with_reducible refine Below.trans ?_ (Below.mono (by assumption) ?hB)); (case hB => (first | omega | (simp; done) | (simp; omega))))))⟩); rfl
end Go.Proofs.Ytmchgchhmhhnkaa
