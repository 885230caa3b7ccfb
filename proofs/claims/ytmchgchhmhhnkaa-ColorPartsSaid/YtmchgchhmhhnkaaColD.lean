/- The laws ColorOver, ColorOrder, ColorBetween, ColorParts, walked. -/
import Derived.Test.YtmchgchhmhhnkaaColC
import Derived.ChangeKeysEq
namespace Go.Proofs.Ytmchgchhmhhnkaa
open Go.RowKit
set_option linter.unusedSimpArgs false
set_option linter.unusedVariables false
theorem solidV {c : Int} {v : Bool} (w : World) (hc : 0 ≤ c ∧ c ≤ 4294967295) (h : solidC c = v) : Calls Try.prog 23 #[.int .u32 c] w fun e w' => e = .returned (.bool v) ∧ Below w.heap.size w w' := by
  subst h; exact col_Solid c w hc
theorem mayV {c : Int} (w : World) (hc : okC c) : Calls Try.prog 21 #[.int .u32 c] w fun e w' => e = .returned (.bool true) ∧ Below w.heap.size w w' := by
  have h := col_May c w hc.1; rw [may_of_ok hc] at h; exact h
theorem rmayV {c : Int} (w : World) (hc : okC c) : Calls Try.prog 22 #[.int .u32 c] w fun e w' => e = .returned (.bool true) ∧ Below w.heap.size w w' := by
  have h := ref_May c w hc.1; rw [may_of_ok hc] at h; exact h
theorem solid_over {c d : Int} (hd : 0 ≤ d ∧ d ≤ 4294967295) (h : solidC d = true) (hc : 0 ≤ c ∧ c ≤ 4294967295) : solidC (overC c d) = true := by
  unfold solidC at *
  simp only [decide_eq_true_eq] at *
  unfold overC
  rw [(mk_parts _ _ _ _).1, h, partC_255', cutC_id (n := 255 - (c / 16777216)) (by omega)]
  unfold cutC; omega
set_option maxHeartbeats 4000000 in
theorem walk_ColorOver (c d al : Int) (w : World) (hc : 0 ≤ c ∧ c ≤ 4294967295) (hd : 0 ≤ d ∧ d ≤ 4294967295) : Calls Try.prog 9 #[.int .u32 c, .int .u32 d, .int .i64 al] w fun e w' => e = .returned (.bool true) ∧ Below w.heap.size w w' := by
  have cX := fun w => ref_Good c w hc
  have cY := fun w => ref_Good d w hd
  have hX := good_ok c hc
  have hY := good_ok d hd
  generalize goodC c = X at cX hX
  generalize goodC d = Y at cY hY
  have cO := fun w => col_Over X Y w hX.1 hY.1
  have cO3 := fun w => ref_Over X Y w hX.1 hY.1
  have cF := fun w => col_Fade X al w hX.1
  have cO1 := fun w => col_Over c d w hc hd
  have cO2 := fun w => ref_Over c d w hc hd
  have cF1 := fun w => col_Fade c al w hc
  have cF2 := fun w => ref_Fade c al w hc
  have mO := fun w => rmayV w (over_ok hX hY)
  have mO' := fun w => mayV w (over_ok hX hY)
  have mF := fun w => rmayV w (fade_ok al hX)
  have cSO := fun v (h : solidC (overC X Y) = v) w => solidV w (over_bd X Y) h
  have hSO := fun h => solid_over (c := X) hY.1 h hX.1
  have cSY := fun v (h : solidC Y = v) w => solidV w hY.1 h
  generalize overC X Y = O at cO cO3 mO mO' cSO hSO
  generalize fadeC X al = F at cF mF
  generalize overC c d = O2 at cO1 cO2
  generalize fadeC c al = F2 at cF1 cF2
  cases hS : solidC Y
  · have cS := cSY _ hS
    have cS2 := fun w : World => trivial
    clear hS hX hY hc hd cSO hSO cSY
    go_enter Try.func9, Try.ntmps9
    go_wp2_with (first | (go_at_call 14; (with_reducible refine (cX _).mono ?_); rintro e w1 ⟨rfl, hb1⟩; obtain ⟨hc1, hf1⟩ := bcell hb1; have hz1 := hb1.size; (try simp only [World.size_alloc, World.size_setCell, World.size_drew] at hz1)) | (go_at_call 14; (with_reducible refine (cY _).mono ?_); rintro e w1 ⟨rfl, hb1⟩; obtain ⟨hc1, hf1⟩ := bcell hb1; have hz1 := hb1.size; (try simp only [World.size_alloc, World.size_setCell, World.size_drew] at hz1)) | (go_at_call 16; (with_reducible refine (cO _).mono ?_); rintro e w1 ⟨rfl, hb1⟩; obtain ⟨hc1, hf1⟩ := bcell hb1; have hz1 := hb1.size; (try simp only [World.size_alloc, World.size_setCell, World.size_drew] at hz1)) | (go_at_call 19; (with_reducible refine (cF _).mono ?_); rintro e w1 ⟨rfl, hb1⟩; obtain ⟨hc1, hf1⟩ := bcell hb1; have hz1 := hb1.size; (try simp only [World.size_alloc, World.size_setCell, World.size_drew] at hz1)) | (go_at_call 16; (with_reducible refine (cO1 _).mono ?_); rintro e w1 ⟨rfl, hb1⟩; obtain ⟨hc1, hf1⟩ := bcell hb1; have hz1 := hb1.size; (try simp only [World.size_alloc, World.size_setCell, World.size_drew] at hz1)) | (go_at_call 26; (with_reducible refine (cO2 _).mono ?_); rintro e w1 ⟨rfl, hb1⟩; obtain ⟨hc1, hf1⟩ := bcell hb1; have hz1 := hb1.size; (try simp only [World.size_alloc, World.size_setCell, World.size_drew] at hz1)) | (go_at_call 26; (with_reducible refine (cO3 _).mono ?_); rintro e w1 ⟨rfl, hb1⟩; obtain ⟨hc1, hf1⟩ := bcell hb1; have hz1 := hb1.size; (try simp only [World.size_alloc, World.size_setCell, World.size_drew] at hz1)) | (go_at_call 19; (with_reducible refine (cF1 _).mono ?_); rintro e w1 ⟨rfl, hb1⟩; obtain ⟨hc1, hf1⟩ := bcell hb1; have hz1 := hb1.size; (try simp only [World.size_alloc, World.size_setCell, World.size_drew] at hz1)) | (go_at_call 27; (with_reducible refine (cF2 _).mono ?_); rintro e w1 ⟨rfl, hb1⟩; obtain ⟨hc1, hf1⟩ := bcell hb1; have hz1 := hb1.size; (try simp only [World.size_alloc, World.size_setCell, World.size_drew] at hz1)) | (go_at_call 22; (with_reducible refine (mO _).mono ?_); rintro e w1 ⟨rfl, hb1⟩; obtain ⟨hc1, hf1⟩ := bcell hb1; have hz1 := hb1.size; (try simp only [World.size_alloc, World.size_setCell, World.size_drew] at hz1)) | (go_at_call 22; (with_reducible refine (mF _).mono ?_); rintro e w1 ⟨rfl, hb1⟩; obtain ⟨hc1, hf1⟩ := bcell hb1; have hz1 := hb1.size; (try simp only [World.size_alloc, World.size_setCell, World.size_drew] at hz1)) | (go_at_call 21; (with_reducible refine (mO' _).mono ?_); rintro e w1 ⟨rfl, hb1⟩; obtain ⟨hc1, hf1⟩ := bcell hb1; have hz1 := hb1.size; (try simp only [World.size_alloc, World.size_setCell, World.size_drew] at hz1)) | (go_at_call 23; (with_reducible refine (cS _).mono ?_); rintro e w1 ⟨rfl, hb1⟩; obtain ⟨hc1, hf1⟩ := bcell hb1; have hz1 := hb1.size; (try simp only [World.size_alloc, World.size_setCell, World.size_drew] at hz1)) | (go_at_call 13; (with_reducible refine (lives_true _).mono ?_); rintro e w1 ⟨rfl, hb1⟩; obtain ⟨hc1, hf1⟩ := bcell hb1; have hz1 := hb1.size; (try simp only [World.size_alloc, World.size_setCell, World.size_drew] at hz1)))
    (go_ret; refine ⟨?_, by (repeat (first | (with_reducible exact Below.refl _ _) | ((with_reducible refine Below.alloc ?_ ?hB _); (case hB => (first | omega | (simp; done) | (simp; omega)))) | ((with_reducible refine Below.setCell ?_ ?hB _); (case hB => (first | omega | (simp; done) | (simp; omega)))) | (with_reducible refine Below.drew ?_) | ((with_reducible refine below_ext_of ?_ ?hB); (case hB => (first | omega | (simp; done) | (simp; omega)))) | ((with_reducible refine Below.trans ?_ (Below.mono (by assumption) ?hB)); (case hB => (first | omega | (simp; done) | (simp; omega))))))⟩); rfl
  · have cS := cSY _ hS
    have cS2 := cSO _ (hSO hS)
    clear hS hX hY hc hd cSO hSO cSY
    go_enter Try.func9, Try.ntmps9
    go_wp2_with (first | (go_at_call 14; (with_reducible refine (cX _).mono ?_); rintro e w1 ⟨rfl, hb1⟩; obtain ⟨hc1, hf1⟩ := bcell hb1; have hz1 := hb1.size; (try simp only [World.size_alloc, World.size_setCell, World.size_drew] at hz1)) | (go_at_call 14; (with_reducible refine (cY _).mono ?_); rintro e w1 ⟨rfl, hb1⟩; obtain ⟨hc1, hf1⟩ := bcell hb1; have hz1 := hb1.size; (try simp only [World.size_alloc, World.size_setCell, World.size_drew] at hz1)) | (go_at_call 16; (with_reducible refine (cO _).mono ?_); rintro e w1 ⟨rfl, hb1⟩; obtain ⟨hc1, hf1⟩ := bcell hb1; have hz1 := hb1.size; (try simp only [World.size_alloc, World.size_setCell, World.size_drew] at hz1)) | (go_at_call 19; (with_reducible refine (cF _).mono ?_); rintro e w1 ⟨rfl, hb1⟩; obtain ⟨hc1, hf1⟩ := bcell hb1; have hz1 := hb1.size; (try simp only [World.size_alloc, World.size_setCell, World.size_drew] at hz1)) | (go_at_call 16; (with_reducible refine (cO1 _).mono ?_); rintro e w1 ⟨rfl, hb1⟩; obtain ⟨hc1, hf1⟩ := bcell hb1; have hz1 := hb1.size; (try simp only [World.size_alloc, World.size_setCell, World.size_drew] at hz1)) | (go_at_call 26; (with_reducible refine (cO2 _).mono ?_); rintro e w1 ⟨rfl, hb1⟩; obtain ⟨hc1, hf1⟩ := bcell hb1; have hz1 := hb1.size; (try simp only [World.size_alloc, World.size_setCell, World.size_drew] at hz1)) | (go_at_call 26; (with_reducible refine (cO3 _).mono ?_); rintro e w1 ⟨rfl, hb1⟩; obtain ⟨hc1, hf1⟩ := bcell hb1; have hz1 := hb1.size; (try simp only [World.size_alloc, World.size_setCell, World.size_drew] at hz1)) | (go_at_call 19; (with_reducible refine (cF1 _).mono ?_); rintro e w1 ⟨rfl, hb1⟩; obtain ⟨hc1, hf1⟩ := bcell hb1; have hz1 := hb1.size; (try simp only [World.size_alloc, World.size_setCell, World.size_drew] at hz1)) | (go_at_call 27; (with_reducible refine (cF2 _).mono ?_); rintro e w1 ⟨rfl, hb1⟩; obtain ⟨hc1, hf1⟩ := bcell hb1; have hz1 := hb1.size; (try simp only [World.size_alloc, World.size_setCell, World.size_drew] at hz1)) | (go_at_call 22; (with_reducible refine (mO _).mono ?_); rintro e w1 ⟨rfl, hb1⟩; obtain ⟨hc1, hf1⟩ := bcell hb1; have hz1 := hb1.size; (try simp only [World.size_alloc, World.size_setCell, World.size_drew] at hz1)) | (go_at_call 22; (with_reducible refine (mF _).mono ?_); rintro e w1 ⟨rfl, hb1⟩; obtain ⟨hc1, hf1⟩ := bcell hb1; have hz1 := hb1.size; (try simp only [World.size_alloc, World.size_setCell, World.size_drew] at hz1)) | (go_at_call 21; (with_reducible refine (mO' _).mono ?_); rintro e w1 ⟨rfl, hb1⟩; obtain ⟨hc1, hf1⟩ := bcell hb1; have hz1 := hb1.size; (try simp only [World.size_alloc, World.size_setCell, World.size_drew] at hz1)) | (go_at_call 23; (with_reducible refine (cS _).mono ?_); rintro e w1 ⟨rfl, hb1⟩; obtain ⟨hc1, hf1⟩ := bcell hb1; have hz1 := hb1.size; (try simp only [World.size_alloc, World.size_setCell, World.size_drew] at hz1)) | (go_at_call 23; (with_reducible refine (cS2 _).mono ?_); rintro e w1 ⟨rfl, hb1⟩; obtain ⟨hc1, hf1⟩ := bcell hb1; have hz1 := hb1.size; (try simp only [World.size_alloc, World.size_setCell, World.size_drew] at hz1)) | (go_at_call 13; (with_reducible refine (lives_true _).mono ?_); rintro e w1 ⟨rfl, hb1⟩; obtain ⟨hc1, hf1⟩ := bcell hb1; have hz1 := hb1.size; (try simp only [World.size_alloc, World.size_setCell, World.size_drew] at hz1)))
    (go_ret; refine ⟨?_, by (repeat (first | (with_reducible exact Below.refl _ _) | ((with_reducible refine Below.alloc ?_ ?hB _); (case hB => (first | omega | (simp; done) | (simp; omega)))) | ((with_reducible refine Below.setCell ?_ ?hB _); (case hB => (first | omega | (simp; done) | (simp; omega)))) | (with_reducible refine Below.drew ?_) | ((with_reducible refine below_ext_of ?_ ?hB); (case hB => (first | omega | (simp; done) | (simp; omega)))) | ((with_reducible refine Below.trans ?_ (Below.mono (by assumption) ?hB)); (case hB => (first | omega | (simp; done) | (simp; omega))))))⟩); rfl
/-- The parts of a color over another one. -/
theorem over_parts (c d : Int) (w : World) : Calls Try.prog 15 #[.int .u32 (overC c d)] w fun e w' => e = .returned (.agg #[.int .i64 (cutC ((c / 16777216) + partC (d / 16777216) (255 - (c / 16777216)))), .int .i64 (cutC ((c / 65536 % 256) + partC (d / 65536 % 256) (255 - (c / 16777216)))), .int .i64 (cutC ((c / 256 % 256) + partC (d / 256 % 256) (255 - (c / 16777216)))), .int .i64 (cutC ((c % 256) + partC (d % 256) (255 - (c / 16777216))))]) ∧ Below w.heap.size w w' := by
  have h := col_Parts (overC c d) w (over_bd c d)
  have e := mk_parts ((c / 16777216) + partC (d / 16777216) (255 - (c / 16777216))) ((c / 65536 % 256) + partC (d / 65536 % 256) (255 - (c / 16777216))) ((c / 256 % 256) + partC (d / 256 % 256) (255 - (c / 16777216))) ((c % 256) + partC (d % 256) (255 - (c / 16777216)))
  unfold overC at *
  rw [e.1, e.2.1, e.2.2.1, e.2.2.2] at h
  exact h
set_option maxHeartbeats 4000000 in
theorem walk_ColorBetween (c : Int) (w : World) (hc : 0 ≤ c ∧ c ≤ 4294967295) : Calls Try.prog 5 #[.int .u32 c] w fun e w' => e = .returned (.bool true) ∧ Below w.heap.size w w' := by
  have cX := fun w => ref_Good c w hc
  have hX := good_ok c hc
  generalize goodC c = X at cX hX
  have cP := fun w => ref_Parts X w hX.1
  have cW := fun w => col_Over X 4294967295 w hX.1 (by omega)
  have cB := fun w => col_Over X 4278190080 w hX.1 (by omega)
  have pW := fun w => over_parts X 4294967295 w
  have pB := fun w => over_parts X 4278190080 w
  obtain ⟨hu, x1, x2, x3⟩ := hX
  have eW : ∀ p, 0 ≤ p → p ≤ (X / 16777216) → cutC (p + partC 255 (255 - (X / 16777216))) = p + (255 - (X / 16777216)) := by
    intro p h0 h1; rw [partC_255', cutC_id (n := 255 - (X / 16777216)) (by omega), cutC_id (by omega)]
  have eB : ∀ p, 0 ≤ p → p ≤ (X / 16777216) → cutC (p + partC 0 (255 - (X / 16777216))) = p := by
    intro p h0 h1; rw [partC_0', Int.add_zero, cutC_id (by omega)]
  rw [show (4294967295 : Int) / 16777216 = 255 by decide, show (4294967295 : Int) / 65536 % 256 = 255 by decide, show (4294967295 : Int) / 256 % 256 = 255 by decide, show (4294967295 : Int) % 256 = 255 by decide, eW (X / 16777216) (by omega) (by omega), eW (X / 65536 % 256) (by omega) (by omega), eW (X / 256 % 256) (by omega) (by omega), eW (X % 256) (by omega) (by omega)] at pW
  rw [show (4278190080 : Int) / 16777216 = 255 by decide, show (4278190080 : Int) / 65536 % 256 = 0 by decide, show (4278190080 : Int) / 256 % 256 = 0 by decide, show (4278190080 : Int) % 256 = 0 by decide, eW (X / 16777216) (by omega) (by omega), eB (X / 65536 % 256) (by omega) (by omega), eB (X / 256 % 256) (by omega) (by omega), eB (X % 256) (by omega) (by omega)] at pB
  have hx0 : 0 ≤ (X / 16777216) ∧ (X / 16777216) ≤ 255 := by omega
  have hx1 : 0 ≤ (X / 65536 % 256) ∧ (X / 65536 % 256) ≤ 255 := by omega
  have hx2 : 0 ≤ (X / 256 % 256) ∧ (X / 256 % 256) ≤ 255 := by omega
  have hx3 : 0 ≤ (X % 256) ∧ (X % 256) ≤ 255 := by omega
  generalize overC X 4294967295 = OW at cW pW
  generalize overC X 4278190080 = OB at cB pB
  generalize (X / 16777216) = q0 at *
  generalize (X / 65536 % 256) = q1 at *
  generalize (X / 256 % 256) = q2 at *
  generalize (X % 256) = q3 at *
  have t1 : ((q1 + (255 - q0) - q1 : Int) != 255 - q0) = false := by simp; omega
  have t2 : ((q2 + (255 - q0) - q2 : Int) != 255 - q0) = false := by simp; omega
  have t3 : ((q3 + (255 - q0) - q3 : Int) != 255 - q0) = false := by simp; omega
  have t0 : ((q0 + (255 - q0) : Int) == 255) = true := by simp; omega
  clear eW eB hc hu
  go_enter Try.func5, Try.ntmps5
  go_wp2_with (first | (go_at_call 14; (with_reducible refine (cX _).mono ?_); rintro e w1 ⟨rfl, hb1⟩; obtain ⟨hc1, hf1⟩ := bcell hb1; have hz1 := hb1.size; (try simp only [World.size_alloc, World.size_setCell, World.size_drew] at hz1)) | (go_at_call 18; (with_reducible refine (cP _).mono ?_); rintro e w1 ⟨rfl, hb1⟩; obtain ⟨hc1, hf1⟩ := bcell hb1; have hz1 := hb1.size; (try simp only [World.size_alloc, World.size_setCell, World.size_drew] at hz1)) | (go_at_call 16; (with_reducible refine (cW _).mono ?_); rintro e w1 ⟨rfl, hb1⟩; obtain ⟨hc1, hf1⟩ := bcell hb1; have hz1 := hb1.size; (try simp only [World.size_alloc, World.size_setCell, World.size_drew] at hz1)) | (go_at_call 16; (with_reducible refine (cB _).mono ?_); rintro e w1 ⟨rfl, hb1⟩; obtain ⟨hc1, hf1⟩ := bcell hb1; have hz1 := hb1.size; (try simp only [World.size_alloc, World.size_setCell, World.size_drew] at hz1)) | (go_at_call 15; (with_reducible refine (pW _).mono ?_); rintro e w1 ⟨rfl, hb1⟩; obtain ⟨hc1, hf1⟩ := bcell hb1; have hz1 := hb1.size; (try simp only [World.size_alloc, World.size_setCell, World.size_drew] at hz1)) | (go_at_call 15; (with_reducible refine (pB _).mono ?_); rintro e w1 ⟨rfl, hb1⟩; obtain ⟨hc1, hf1⟩ := bcell hb1; have hz1 := hb1.size; (try simp only [World.size_alloc, World.size_setCell, World.size_drew] at hz1)))
  refine wp_loop_rounds 4 ?_
  iterate 3 (rw [rounds_succ]; go_wp2_with fail; (refine wp_region_ext_lit (by kernel_rfl) (by kernel_rfl) ?_; (repeat (go_big_quiet_step ((fail)))); refine wpQuiet_nil ?_; intro w2 hb_w2; obtain ⟨hc_w2, hf_w2⟩ := bcell hb_w2; have hz_w2 := hb_w2.size; (try simp only [World.size_alloc, World.size_setCell, World.size_drew] at hz_w2)); go_wp2_with fail)
  rw [rounds_succ]; go_wp2_with (first | (go_at_call 13; (with_reducible refine (lives_true _).mono ?_); rintro e w1 ⟨rfl, hb1⟩; obtain ⟨hc1, hf1⟩ := bcell hb1; have hz1 := hb1.size; (try simp only [World.size_alloc, World.size_setCell, World.size_drew] at hz1)))
  (go_ret; refine ⟨?_, by (repeat (first | (with_reducible exact Below.refl _ _) | ((with_reducible refine Below.alloc ?_ ?hB _); (case hB => (first | omega | (simp; done) | (simp; omega)))) | ((with_reducible refine Below.setCell ?_ ?hB _); (case hB => (first | omega | (simp; done) | (simp; omega)))) | (with_reducible refine Below.drew ?_) | ((with_reducible refine below_ext_of ?_ ?hB); (case hB => (first | omega | (simp; done) | (simp; omega)))) | ((with_reducible refine Below.trans ?_ (Below.mono (by assumption) ?hB)); (case hB => (first | omega | (simp; done) | (simp; omega))))))⟩); rfl
set_option maxHeartbeats 4000000 in
theorem walk_ColorOrder (p q r c : Int) (w : World) (hc : 0 ≤ c ∧ c ≤ 4294967295) : Calls Try.prog 4 #[.int .i64 p, .int .i64 q, .int .i64 r, .int .u32 c] w fun e w' => e = .returned (.bool true) ∧ Below w.heap.size w w' := by
  have cX := fun w => ref_Good c w hc
  have hX := (good_ok c hc).1
  generalize goodC c = X at cX hX
  have e1 : cutC (min (max (min q r) 0) 255) = min (max (min q r) 0) 255 := cutC_id (by omega)
  have e2 : cutC (min (max q (max r 0)) 255) = min (max q (max r 0)) 255 := cutC_id (by omega)
  have hA := mk_parts 255 (min (max (min q r) 0) 255) (min (max (min q r) 0) 255) (min (max (min q r) 0) 255)
  have hB := mk_parts 255 (min (max q (max r 0)) 255) (min (max q (max r 0)) 255) (min (max q (max r 0)) 255)
  have cA := fun w => ref_Make 255 (min (max (min q r) 0) 255) (min (max (min q r) 0) 255) (min (max (min q r) 0) 255) w
  have cB := fun w => ref_Make 255 (min (max q (max r 0)) 255) (min (max q (max r 0)) 255) (min (max q (max r 0)) 255) w
  have bA := mkC_bd 255 (min (max (min q r) 0) 255) (min (max (min q r) 0) 255) (min (max (min q r) 0) 255)
  have bB := mkC_bd 255 (min (max q (max r 0)) 255) (min (max q (max r 0)) 255) (min (max q (max r 0)) 255)
  generalize mkC 255 (min (max (min q r) 0) 255) (min (max (min q r) 0) 255) (min (max (min q r) 0) 255) = A at cA hA bA
  generalize mkC 255 (min (max q (max r 0)) 255) (min (max q (max r 0)) 255) (min (max q (max r 0)) 255) = B at cB hB bB
  have oA := fun w => col_Over X A w hX bA
  have oB := fun w => col_Over X B w hX bB
  have pA := fun w => over_parts X A w
  have pB := fun w => over_parts X B w
  have hle : min (max (min q r) 0) 255 ≤ min (max q (max r 0)) 255 := by omega
  have f0 : cutC ((X / 16777216) + partC (A / 16777216) (255 - (X / 16777216))) ≤ cutC ((X / 16777216) + partC (B / 16777216) (255 - (X / 16777216))) := by rw [hA.1, hB.1]; exact Int.le_refl _
  have fm : ∀ x y v : Int, x ≤ y → cutC (v + partC x (255 - (X / 16777216))) ≤ cutC (v + partC y (255 - (X / 16777216))) := by
    intro x y v h
    have := partC_mono1 (r := 255 - (X / 16777216)) h
    unfold cutC; omega
  have f1 := fm (A / 65536 % 256) (B / 65536 % 256) (X / 65536 % 256) (by rw [hA.2.1, hB.2.1, e1, e2]; exact hle)
  have f2 := fm (A / 256 % 256) (B / 256 % 256) (X / 256 % 256) (by rw [hA.2.2.1, hB.2.2.1, e1, e2]; exact hle)
  have f3 := fm (A % 256) (B % 256) (X % 256) (by rw [hA.2.2.2, hB.2.2.2, e1, e2]; exact hle)
  have f4 : partC p (min q r) ≤ partC p (max q r) := partC_mono (by omega)
  generalize overC X A = OA at oA pA
  generalize overC X B = OB at oB pB
  generalize cutC ((X / 16777216) + partC (A / 16777216) (255 - (X / 16777216))) = a0 at pA f0
  generalize cutC ((X / 65536 % 256) + partC (A / 65536 % 256) (255 - (X / 16777216))) = a1 at pA f1
  generalize cutC ((X / 256 % 256) + partC (A / 256 % 256) (255 - (X / 16777216))) = a2 at pA f2
  generalize cutC ((X % 256) + partC (A % 256) (255 - (X / 16777216))) = a3 at pA f3
  generalize cutC ((X / 16777216) + partC (B / 16777216) (255 - (X / 16777216))) = b0 at pB f0
  generalize cutC ((X / 65536 % 256) + partC (B / 65536 % 256) (255 - (X / 16777216))) = b1 at pB f1
  generalize cutC ((X / 256 % 256) + partC (B / 256 % 256) (255 - (X / 16777216))) = b2 at pB f2
  generalize cutC ((X % 256) + partC (B % 256) (255 - (X / 16777216))) = b3 at pB f3
  clear fm hA hB bA bB e1 e2 hle hc hX
  go_enter Try.func4, Try.ntmps4
  go_wp2_with (first | (go_at_call 14; (with_reducible refine (cX _).mono ?_); rintro e w1 ⟨rfl, hb1⟩; obtain ⟨hc1, hf1⟩ := bcell hb1; have hz1 := hb1.size; (try simp only [World.size_alloc, World.size_setCell, World.size_drew] at hz1)) | (go_at_call 17; (with_reducible refine (cA _).mono ?_); rintro e w1 ⟨rfl, rfl⟩) | (go_at_call 17; (with_reducible refine (cB _).mono ?_); rintro e w1 ⟨rfl, rfl⟩) | (go_at_call 16; (with_reducible refine (oA _).mono ?_); rintro e w1 ⟨rfl, hb1⟩; obtain ⟨hc1, hf1⟩ := bcell hb1; have hz1 := hb1.size; (try simp only [World.size_alloc, World.size_setCell, World.size_drew] at hz1)) | (go_at_call 16; (with_reducible refine (oB _).mono ?_); rintro e w1 ⟨rfl, hb1⟩; obtain ⟨hc1, hf1⟩ := bcell hb1; have hz1 := hb1.size; (try simp only [World.size_alloc, World.size_setCell, World.size_drew] at hz1)) | (go_at_call 15; (with_reducible refine (pA _).mono ?_); rintro e w1 ⟨rfl, hb1⟩; obtain ⟨hc1, hf1⟩ := bcell hb1; have hz1 := hb1.size; (try simp only [World.size_alloc, World.size_setCell, World.size_drew] at hz1)) | (go_at_call 15; (with_reducible refine (pB _).mono ?_); rintro e w1 ⟨rfl, hb1⟩; obtain ⟨hc1, hf1⟩ := bcell hb1; have hz1 := hb1.size; (try simp only [World.size_alloc, World.size_setCell, World.size_drew] at hz1)))
  refine wp_loop_rounds 5 ?_
  iterate 4 (rw [rounds_succ]; go_wp2_with fail; (refine wp_region_ext_lit (by kernel_rfl) (by kernel_rfl) ?_; (repeat (go_big_quiet_step ((fail)))); refine wpQuiet_nil ?_; intro w2 hb_w2; obtain ⟨hc_w2, hf_w2⟩ := bcell hb_w2; have hz_w2 := hb_w2.size; (try simp only [World.size_alloc, World.size_setCell, World.size_drew] at hz_w2)); go_wp2_with fail)
  rw [rounds_succ]; go_wp2_with (first | (go_at_call 13; (with_reducible refine (lives_true _).mono ?_); rintro e w1 ⟨rfl, hb1⟩; obtain ⟨hc1, hf1⟩ := bcell hb1; have hz1 := hb1.size; (try simp only [World.size_alloc, World.size_setCell, World.size_drew] at hz1)) | (go_at_call 11; (with_reducible refine (col_Part _ _ _).mono ?_); rintro e w1 ⟨rfl, rfl⟩))
  (go_ret; refine ⟨?_, by (repeat (first | (with_reducible exact Below.refl _ _) | ((with_reducible refine Below.alloc ?_ ?hB _); (case hB => (first | omega | (simp; done) | (simp; omega)))) | ((with_reducible refine Below.setCell ?_ ?hB _); (case hB => (first | omega | (simp; done) | (simp; omega)))) | (with_reducible refine Below.drew ?_) | ((with_reducible refine below_ext_of ?_ ?hB); (case hB => (first | omega | (simp; done) | (simp; omega)))) | ((with_reducible refine Below.trans ?_ (Below.mono (by assumption) ?hB)); (case hB => (first | omega | (simp; done) | (simp; omega))))))⟩); rfl
theorem cells_int : Try.prog.cellsOf 3 = 1 := by kernel_rfl
theorem eqArr (d : Nat) (w : World) (a b c e : Int) : (Op.equalIn (d + 2) 28 (.agg #[.int .i64 (a), .int .i64 (b), .int .i64 (c), .int .i64 (e)]) (.agg #[.int .i64 (a), .int .i64 (b), .int .i64 (c), .int .i64 (e)])).run Try.prog w = .ok true w := by
  have hi : ∃ i, Try.prog.info? 3 = some i := by
    cases h : Try.prog.info? 3 with
    | none => have hb : (Try.prog.info? 3).isSome = true := by kernel_rfl
              rw [h] at hb; cases hb
    | some i => exact ⟨i, rfl⟩
  obtain ⟨i, hi⟩ := hi
  rw [run_equalIn_array w (d + 1) _ _ Try.underlying28 hi, cells_int]
  simp [Op.eqItems, List.range, List.range.loop, go_sem]
attribute [local go_sem high] eqArr
theorem parts_make {c : Int} (w : World) (hc : 0 ≤ c ∧ c ≤ 4294967295) : Calls Try.prog 20 #[.int .i64 (c / 16777216), .int .i64 (c / 65536 % 256), .int .i64 (c / 256 % 256), .int .i64 (c % 256)] w fun e w' => e = .returned (.int .u32 c) ∧ w = w' := by
  have h := col_Make (c / 16777216) (c / 65536 % 256) (c / 256 % 256) (c % 256) w
  rw [parts_mk c hc] at h; exact h
theorem walk_ColorParts (c a r g b : Int) (w : World) (hc : 0 ≤ c ∧ c ≤ 4294967295) : Calls Try.prog 7 #[.int .u32 c, (.agg #[.int .i64 (a), .int .i64 (r), .int .i64 (g), .int .i64 (b)])] w fun e w' => e = .returned (.bool true) ∧ Below w.heap.size w w' := by
  have hs : solidC c = (((c / 16777216) : Int) == 255) := by rw [Bool.eq_iff_iff]; simp [solidC]
  have cS := fun w => solidV w hc hs
  go_enter Try.func7, Try.ntmps7
  go_wp2_with (first | (go_at_call 15; (with_reducible refine (col_Parts _ _ hc).mono ?_); rintro e w1 ⟨rfl, hb1⟩; obtain ⟨hc1, hf1⟩ := bcell hb1; have hz1 := hb1.size; (try simp only [World.size_alloc, World.size_setCell, World.size_drew] at hz1)))
  (refine wp_region_ext_lit (by kernel_rfl) (by kernel_rfl) ?_; (repeat (go_big_quiet_step ((first | (go_at_call 18; with_reducible exact ext_call (ref_Parts _ _ hc)) | (go_at_call 20; with_reducible exact ext_same (parts_make _ hc)) | (go_at_call 20; with_reducible exact ext_same (col_Make _ _ _ _ _)) | (go_at_call 17; with_reducible exact ext_same (ref_Make _ _ _ _ _)) | (go_at_call 21; with_reducible exact ext_call (col_May _ _ hc)) | (go_at_call 22; with_reducible exact ext_call (ref_May _ _ hc)) | (go_at_call 23; with_reducible exact ext_call (cS _)) | (go_at_call 13; with_reducible exact ext_call (lives_true _)))))); refine wpQuiet_nil ?_; intro w2 hb_w2; obtain ⟨hc_w2, hf_w2⟩ := bcell hb_w2; have hz_w2 := hb_w2.size; (try simp only [World.size_alloc, World.size_setCell, World.size_drew] at hz_w2))
  go_wp2
  (go_ret; refine ⟨?_, by (repeat (first | (with_reducible exact Below.refl _ _) | ((with_reducible refine Below.alloc ?_ ?hB _); (case hB => (first | omega | (simp; done) | (simp; omega)))) | ((with_reducible refine Below.setCell ?_ ?hB _); (case hB => (first | omega | (simp; done) | (simp; omega)))) | (with_reducible refine Below.drew ?_) | ((with_reducible refine below_ext_of ?_ ?hB); (case hB => (first | omega | (simp; done) | (simp; omega)))) | ((with_reducible refine Below.trans ?_ (Below.mono (by assumption) ?hB)); (case hB => (first | omega | (simp; done) | (simp; omega))))))⟩); rfl
end Go.Proofs.Ytmchgchhmhhnkaa
