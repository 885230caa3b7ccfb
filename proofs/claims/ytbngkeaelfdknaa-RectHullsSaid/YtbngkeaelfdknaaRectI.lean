/- The law RectHulls, walked. -/
import Derived.Test.YtbngkeaelfdknaaRectH
import Derived.Test.YtbngkeaelfdknaaOwn
namespace Go.Proofs.Ytbngkeaelfdknaa
open Go.RowKit
set_option linter.unusedSimpArgs false
set_option linter.unusedVariables false
attribute [local go_sem high] eqRect
attribute [local go_sem] rEq_self
theorem sliceRect : SliceT Try.prog 25 23 (.agg #[.int .i64 (0), .int .i64 (0), .int .i64 (0), .int .i64 (0)]) 4 32 :=
  ⟨Try.underlying25, by kernel_rfl, rfl, by omega, by omega⟩
def flat (f : Nat → R) : Nat → List Value
  | 0 => []
  | k + 1 => flat f k ++ [.int .i64 (f k).x0, .int .i64 (f k).y0, .int .i64 (f k).x1, .int .i64 (f k).y1]
theorem flat_len (f : Nat → R) (k : Nat) : (flat f k).length = k * 4 := by
  induction k with
  | zero => rfl
  | succ k ih => simp only [flat, List.length_append, ih, List.length_cons, List.length_nil]; omega
theorem flat_get (f : Nat → R) (k i : Nat) (h : i < k) : (flat f k)[i * 4]? = some (.int .i64 (f i).x0) ∧ (flat f k)[i * 4 + 1]? = some (.int .i64 (f i).y0) ∧ (flat f k)[i * 4 + 2]? = some (.int .i64 (f i).x1) ∧ (flat f k)[i * 4 + 3]? = some (.int .i64 (f i).y1) := by
  induction k with
  | zero => omega
  | succ k ih =>
    have hl := flat_len f k
    by_cases e : i = k
    · subst e
      refine ⟨?_, ?_, ?_, ?_⟩ <;> (simp only [flat]; rw [List.getElem?_append_right (by omega)]; simp [hl])
    · obtain ⟨h0, h1, h2, h3⟩ := ih (by omega)
      refine ⟨?_, ?_, ?_, ?_⟩ <;> (simp only [flat]; rw [List.getElem?_append_left (by omega)]; assumption)
theorem row_of_own {w : World} {base g n cap : Nat} {f : Nat → R} (h : w.ownsRow base 23 4 (.slice (some ⟨g, 0, none⟩) n cap) n (flat f n)) : RowAt w g 0 f n := by
  intro i hi
  obtain ⟨h0, h1, h2, h3⟩ := flat_get f n i hi
  refine ⟨?_, ?_, ?_, ?_⟩
  · rw [Nat.zero_add, h.cellAt _ (by omega)]; exact h0
  · rw [Nat.zero_add, h.cellAt _ (by omega)]; exact h1
  · rw [Nat.zero_add, h.cellAt _ (by omega)]; exact h2
  · rw [Nat.zero_add, h.cellAt _ (by omega)]; exact h3
theorem lt_of_own {w : World} {base g n cap : Nat} {e : TypeId} {size : Nat} {xs : List Value} (h : w.ownsRow base e size (.slice (some ⟨g, 0, none⟩) n cap) n xs) : base ≤ g ∧ g < w.heap.size := h.lt g rfl
def smallF (f : Nat → R) (i : Nat) : R := rSmall (f i).x0 (f i).y0 (f i).x1 (f i).y1
theorem rCovers_trans {a0 a1 a2 a3 b0 b1 b2 b3 c0 c1 c2 c3 : Int} (h0 : a0 ≤ b0) (h1 : a1 ≤ b1) (h2 : b2 ≤ a2) (h3 : b3 ≤ a3) (h : rCovers b0 b1 b2 b3 c0 c1 c2 c3 = true) : rCovers a0 a1 a2 a3 c0 c1 c2 c3 = true := by
  cases hE : rEmpty c0 c1 c2 c3
  · rw [covers_plain hE] at *; simp only [Bool.and_eq_true, decide_eq_true_eq] at *; omega
  · simp [rCovers, hE]
theorem hull_covers (f : Nat → R) (n i : Nat) (h : i < n) (hok : True) : rCovers (hullF f n).x0 (hullF f n).y0 (hullF f n).x1 (hullF f n).y1 (f i).x0 (f i).y0 (f i).x1 (f i).y1 = true := by
  induction n with
  | zero => omega
  | succ n ih =>
    simp only [hullF, hstep]
    cases hE : rEmpty (f n).x0 (f n).y0 (f n).x1 (f n).y1
    · simp only [Bool.false_eq_true, if_false]
      have hself : rCovers (f n).x0 (f n).y0 (f n).x1 (f n).y1 (f n).x0 (f n).y0 (f n).x1 (f n).y1 = true := by rw [covers_plain hE]; simp
      cases hZ : rEq (hullF f n).x0 (hullF f n).y0 (hullF f n).x1 (hullF f n).y1 0 0 0 0
      · simp only [Bool.false_eq_true, if_false]
        by_cases e : i = n
        · subst e; exact rCovers_trans (by omega) (by omega) (by omega) (by omega) hself
        · exact rCovers_trans (by omega) (by omega) (by omega) (by omega) (ih (by omega))
      · simp only [if_true]
        by_cases e : i = n
        · subst e; exact hself
        · have hz := rEq_iff.1 hZ
          have := ih (by omega)
          cases hF : rEmpty (f i).x0 (f i).y0 (f i).x1 (f i).y1
          · rw [covers_plain hF] at this
            simp only [rEmpty, Bool.or_eq_false_iff, decide_eq_false_iff_not] at hF
            simp only [Bool.and_eq_true, decide_eq_true_eq] at this
            omega
          · simp [rCovers, hF]
    · simp only [if_true]
      by_cases e : i = n
      · subst e; simp [rCovers, hE]
      · exact ih (by omega)
theorem coversV {a0 a1 a2 a3 b0 b1 b2 b3 : Int} {v : Bool} (w : World) (h : rCovers a0 a1 a2 a3 b0 b1 b2 b3 = v) : Calls Try.prog 18 #[(.agg #[.int .i64 (a0), .int .i64 (a1), .int .i64 (a2), .int .i64 (a3)]), (.agg #[.int .i64 (b0), .int .i64 (b1), .int .i64 (b2), .int .i64 (b3)])] w fun e w' => e = .returned (.bool v) ∧ Below w.heap.size w w' := by
  subst h; exact rect_Covers _ _ _ _ _ _ _ _ _
theorem smallF_ok (f : Nat → R) (i : Nat) : True := trivial
set_option maxHeartbeats 4000000 in
theorem walk_RectHulls (b off len cap : Nat) (f : Nat → R) (w : World) (hl : 0 < len) (hlc : len ≤ cap) (hcm : cap ≤ maxLen) (hr : RowAt w b off f len) (hb : b < w.heap.size) (hw : ∀ i, i < len → (-9223372036854775808 ≤ (f i).x0 ∧ (f i).x0 ≤ 9223372036854775807) ∧ (-9223372036854775808 ≤ (f i).y0 ∧ (f i).y0 ≤ 9223372036854775807) ∧ (-9223372036854775808 ≤ (f i).x1 ∧ (f i).x1 ≤ 9223372036854775807) ∧ (-9223372036854775808 ≤ (f i).y1 ∧ (f i).y1 ≤ 9223372036854775807)) :
    Calls Try.prog 5 #[.slice (some ⟨b, off, none⟩) len cap] w fun e w' => e = .returned (.bool true) ∧ Below w.heap.size w w' := by
  unfold maxLen at hcm
  go_enter Try.func5, Try.ntmps5
  go_wp2
  go_loopw [3, 4] (fun v i wr => ∃ k : Nat, k ≤ len ∧ k ≤ 6 ∧ i = .int .i64 k ∧ Below w.heap.size w wr ∧ wr.ownsRow w.heap.size 23 4 v k (flat (smallF f) k)) (fun _ i _ => 6 - (intOf i).toNat)
  case atStart => exact ⟨0, by omega, by omega, rfl, by (repeat (first | (with_reducible exact Below.refl _ _) | ((with_reducible refine Below.alloc ?_ ?hB _); (case hB => (first | omega | (simp; done) | (simp; omega)))) | ((with_reducible refine Below.setCell ?_ ?hB _); (case hB => (first | omega | (simp; done) | (simp; omega)))) | (with_reducible refine Below.drew ?_) | ((with_reducible refine below_ext_of ?_ ?hB); (case hB => (first | omega | (simp; done) | (simp; omega)))) | ((with_reducible refine Below.trans ?_ (Below.mono (by assumption) ?hB)); (case hB => (first | omega | (simp; done) | (simp; omega)))))), World.ownsRow_nil _ _ _ _⟩
  case round =>
    obtain ⟨k, hk, hk6, rfl, hbr, hown⟩ := hrel
    obtain ⟨hcr, hfr⟩ := bcell hbr
    by_cases hlt : k < len ∧ k < 6
    · obtain ⟨hlt, hlt6⟩ := hlt
      obtain ⟨g0, g1, g2, g3⟩ := hr k hlt
      obtain ⟨b0, b1, b2, b3⟩ := hw k hlt
      have cS := fun w => ref_Small _ _ _ _ w b0 b1 b2 b3
      have hzr := hbr.size
      go_wp2_with (first | (go_at_call 11; (with_reducible refine (cS _).mono ?_); rintro e w1 ⟨rfl, hb1⟩; obtain ⟨hc1, hf1⟩ := bcell hb1; have hz1 := hb1.size; (try simp only [World.size_alloc, World.size_setCell, World.size_drew] at hz1)) | (at_builtin; refine app_own sliceRect rfl rfl (w.heap.size) rfl (own_below hown ?hbel) [.int .i64 (smallF f k).x0, .int .i64 (smallF f k).y0, .int .i64 (smallF f k).x1, .int .i64 (smallF f k).y1] rfl rfl ?hnews ?hone ?hlen ?hbase ?_; (case hbel => (repeat (first | (with_reducible exact Below.refl _ _) | ((with_reducible refine Below.alloc ?_ ?hB _); (case hB => (first | omega | (simp; done) | (simp; omega)))) | ((with_reducible refine Below.setCell ?_ ?hB _); (case hB => (first | omega | (simp; done) | (simp; omega)))) | (with_reducible refine Below.drew ?_) | ((with_reducible refine below_ext_of ?_ ?hB); (case hB => (first | omega | (simp; done) | (simp; omega)))) | ((with_reducible refine Below.trans ?_ (Below.mono (by assumption) ?hB)); (case hB => (first | omega | (simp; done) | (simp; omega))))))); (case hnews => exact news_new _ _ _); (case hone => simp [Value.oneCell']); (case hlen => omega); (case hbase => (first | omega | (simp; done) | (simp; omega))); intro v2 w2 hown2 hb2 hz2; (try simp only [World.size_alloc, World.size_setCell, World.size_drew] at hz2)))
      go_roundw
      case rel => exact ⟨k + 1, by omega, by omega, by go_num, by (repeat (first | (with_reducible exact Below.refl _ _) | ((with_reducible refine Below.alloc ?_ ?hB _); (case hB => (first | omega | (simp; done) | (simp; omega)))) | ((with_reducible refine Below.setCell ?_ ?hB _); (case hB => (first | omega | (simp; done) | (simp; omega)))) | (with_reducible refine Below.drew ?_) | ((with_reducible refine below_ext_of ?_ ?hB); (case hB => (first | omega | (simp; done) | (simp; omega)))) | ((with_reducible refine Below.trans ?_ (Below.mono (by assumption) ?hB)); (case hB => (first | omega | (simp; done) | (simp; omega)))))), hown2⟩
      case measure => simp [intOf]; omega
    · obtain ⟨n, rfl⟩ : ∃ n, n = k := ⟨_, rfl⟩
      have hn0 : 0 < n := by omega
      obtain ⟨g, cg, rfl, hg1, hg2, hg3, hg4⟩ := own_form hown hn0
      have hgood := row_of_own hown
      have hraw : RowAt wr b off f n := fun i hi => (hr.below hbr hb) i (by omega)
      have hcov := Lib.hid (fun i (hi : i < n) => hull_covers (smallF f) n i hi (smallF_ok f i))
      have hzr := hbr.size
      have hE : (n : Int) < 6 → ¬ (n : Int) < len := by omega
      unfold maxLen at hg4
      have hnl : n ≤ len := hk
      have hlt' : (¬ n < len) ∨ (n < len ∧ ¬ (n : Int) < 6) := by omega
      clear hk hlt hcr hfr hE
      rcases hlt' with ht | ⟨ht, ht2⟩
      all_goals
        go_wp2_with (first | (go_at_call 24; (with_reducible refine (rect_Hull b off n cap f _ (by omega) hraw (by omega)).mono ?_); rintro e w1 ⟨rfl, hb1⟩; obtain ⟨hc1, hf1⟩ := bcell hb1; have hz1 := hb1.size; (try simp only [World.size_alloc, World.size_setCell, World.size_drew] at hz1)) | (go_at_call 25; (with_reducible refine (ref_Hull b off n cap f _ (by omega) (hraw.below hb1 (by omega)) (by omega)).mono ?_); rintro e w1 ⟨rfl, hb1⟩; obtain ⟨hc1, hf1⟩ := bcell hb1; have hz1 := hb1.size; (try simp only [World.size_alloc, World.size_setCell, World.size_drew] at hz1)) | (go_at_call 24; (with_reducible refine (rect_Hull g 0 n cg (smallF f) _ (by omega) (hgood.below (by (repeat (first | (with_reducible exact Below.refl _ _) | ((with_reducible refine Below.alloc ?_ ?hB _); (case hB => (first | omega | (simp; done) | (simp; omega)))) | ((with_reducible refine Below.setCell ?_ ?hB _); (case hB => (first | omega | (simp; done) | (simp; omega)))) | (with_reducible refine Below.drew ?_) | ((with_reducible refine below_ext_of ?_ ?hB); (case hB => (first | omega | (simp; done) | (simp; omega)))) | ((with_reducible refine Below.trans ?_ (Below.mono (by assumption) ?hB)); (case hB => (first | omega | (simp; done) | (simp; omega))))))) (by omega)) (by omega)).mono ?_); rintro e w1 ⟨rfl, hb1⟩; obtain ⟨hc1, hf1⟩ := bcell hb1; have hz1 := hb1.size; (try simp only [World.size_alloc, World.size_setCell, World.size_drew] at hz1)))
        obtain ⟨wh, rfl⟩ : ∃ wh, wh = w1 := ⟨_, rfl⟩
        go_loopw [7] (fun i w2 => ∃ k : Nat, k ≤ n ∧ i = .int .i64 k ∧ Below (wh.alloc (.cells #[.int .i64 (hullF (smallF f) n).x0, .int .i64 (hullF (smallF f) n).y0, .int .i64 (hullF (smallF f) n).x1, .int .i64 (hullF (smallF f) n).y1] 23)).heap.size (wh.alloc (.cells #[.int .i64 (hullF (smallF f) n).x0, .int .i64 (hullF (smallF f) n).y0, .int .i64 (hullF (smallF f) n).x1, .int .i64 (hullF (smallF f) n).y1] 23)) w2) (fun i _ => n - (intOf i).toNat)
        case atStart => exact ⟨0, by omega, rfl, Below.refl _ _⟩
        case round =>
          obtain ⟨k, hk, rfl, hb2⟩ := hrel
          obtain ⟨hc2, hf2⟩ := bcell hb2
          have hz2 := hb2.size
          simp only [World.size_alloc] at hz2
          by_cases hlt : k < n
          · obtain ⟨g0, g1, g2, g3⟩ := hgood k hlt
            simp only [Nat.zero_add] at g0 g1 g2 g3
            have cV := fun w => coversV w (hcov.out k hlt)
            go_wp2_with fail
            (refine wp_region_ext_lit (by kernel_rfl) (by kernel_rfl) ?_; (repeat (go_big_quiet_step ((first | (go_at_call 18; with_reducible exact ext_call (cV _)))))); refine wpQuiet_nil ?_; intro w5 hb_w5; obtain ⟨hc_w5, hf_w5⟩ := bcell hb_w5; have hz_w5 := hb_w5.size; (try simp only [World.size_alloc, World.size_setCell, World.size_drew] at hz_w5))
            go_wp2_with fail
            go_roundw
            case rel => exact ⟨k + 1, by omega, by go_num, by (repeat (first | (with_reducible exact Below.refl _ _) | ((with_reducible refine Below.alloc ?_ ?hB _); (case hB => (first | omega | (simp; done) | (simp; omega)))) | ((with_reducible refine Below.setCell ?_ ?hB _); (case hB => (first | omega | (simp; done) | (simp; omega)))) | (with_reducible refine Below.drew ?_) | ((with_reducible refine below_ext_of ?_ ?hB); (case hB => (first | omega | (simp; done) | (simp; omega)))) | ((with_reducible refine Below.trans ?_ (Below.mono (by assumption) ?hB)); (case hB => (first | omega | (simp; done) | (simp; omega))))))⟩
            case measure => simp [intOf]; omega
          · obtain rfl : k = n := by omega
            go_wp2_with fail
            (refine wp_region_ext_lit (by kernel_rfl) (by kernel_rfl) ?_; (repeat (go_big_quiet_step ((first | (go_at_call 25; exact ext_call (ref_Hull g 0 k cg (smallF f) _ (by omega) (hgood.below (by (repeat (first | (with_reducible exact Below.refl _ _) | ((with_reducible refine Below.alloc ?_ ?hB _); (case hB => (first | omega | (simp; done) | (simp; omega)))) | ((with_reducible refine Below.setCell ?_ ?hB _); (case hB => (first | omega | (simp; done) | (simp; omega)))) | (with_reducible refine Below.drew ?_) | ((with_reducible refine below_ext_of ?_ ?hB); (case hB => (first | omega | (simp; done) | (simp; omega)))) | ((with_reducible refine Below.trans ?_ (Below.mono (by assumption) ?hB)); (case hB => (first | omega | (simp; done) | (simp; omega))))))) (by omega)) (by simp; omega))) | (go_at_call 20; exact ext_call (lives_true _)))))); refine wpQuiet_nil ?_; intro w5 hb_w5; obtain ⟨hc_w5, hf_w5⟩ := bcell hb_w5; have hz_w5 := hb_w5.size; (try simp only [World.size_alloc, World.size_setCell, World.size_drew] at hz_w5))
            go_wp2_with fail
            (go_ret; refine ⟨?_, by (repeat (first | (with_reducible exact Below.refl _ _) | ((with_reducible refine Below.alloc ?_ ?hB _); (case hB => (first | omega | (simp; done) | (simp; omega)))) | ((with_reducible refine Below.setCell ?_ ?hB _); (case hB => (first | omega | (simp; done) | (simp; omega)))) | (with_reducible refine Below.drew ?_) | ((with_reducible refine below_ext_of ?_ ?hB); (case hB => (first | omega | (simp; done) | (simp; omega)))) | ((with_reducible refine Below.trans ?_ (Below.mono (by assumption) ?hB)); (case hB => (first | omega | (simp; done) | (simp; omega))))))⟩); rfl
theorem walk_RectHulls0 (a : Option Addr) (cap : Nat) (w : World) : Calls Try.prog 5 #[.slice a 0 cap] w fun e w' => e = .returned (.bool true) ∧ Below w.heap.size w w' := by
  go_enter Try.func5, Try.ntmps5
  go_wp2
  refine wp_loop_rounds 1 ?_
  rw [rounds_succ]
  go_wp2_with (first | (go_at_call 24; (with_reducible refine (rect_HullNil _ _ _).mono ?_); rintro e w1 ⟨rfl, hb1⟩; obtain ⟨hc1, hf1⟩ := bcell hb1; have hz1 := hb1.size; (try simp only [World.size_alloc, World.size_setCell, World.size_drew] at hz1)) | (go_at_call 25; (with_reducible refine (ref_HullNil _ _ _).mono ?_); rintro e w1 ⟨rfl, hb1⟩; obtain ⟨hc1, hf1⟩ := bcell hb1; have hz1 := hb1.size; (try simp only [World.size_alloc, World.size_setCell, World.size_drew] at hz1)))
  refine wp_loop_rounds 1 ?_
  rw [rounds_succ]
  go_wp2_with fail
  (refine wp_region_ext_lit (by kernel_rfl) (by kernel_rfl) ?_; (repeat (go_big_quiet_step ((first | (go_at_call 25; with_reducible exact ext_call (ref_HullNil _ _ _)) | (go_at_call 20; exact ext_call (lives_true _)))))); refine wpQuiet_nil ?_; intro w5 hb_w5; obtain ⟨hc_w5, hf_w5⟩ := bcell hb_w5; have hz_w5 := hb_w5.size; (try simp only [World.size_alloc, World.size_setCell, World.size_drew] at hz_w5))
  go_wp2_with fail
  (go_ret; refine ⟨?_, by (repeat (first | (with_reducible exact Below.refl _ _) | ((with_reducible refine Below.alloc ?_ ?hB _); (case hB => (first | omega | (simp; done) | (simp; omega)))) | ((with_reducible refine Below.setCell ?_ ?hB _); (case hB => (first | omega | (simp; done) | (simp; omega)))) | (with_reducible refine Below.drew ?_) | ((with_reducible refine below_ext_of ?_ ?hB); (case hB => (first | omega | (simp; done) | (simp; omega)))) | ((with_reducible refine Below.trans ?_ (Below.mono (by assumption) ?hB)); (case hB => (first | omega | (simp; done) | (simp; omega))))))⟩); rfl
end Go.Proofs.Ytbngkeaelfdknaa
