/- The least rectangle round others, and the law RectHulls. -/
import Derived.Test.YtbkhcdmmnlkhdaaGreatRectE
import Derived.OwnWalk
import Derived.Deep.LoopGhost
namespace Go.Proofs.YtbkhcdmmnlkhdaaGreat
open Go.RowKit
set_option linter.unusedSimpArgs false
set_option linter.unusedVariables false
attribute [local go_sem high] eqRect
attribute [local go_sem] rEq_self
def hstep (o r : R) : R :=
  if rEmpty r.x0 r.y0 r.x1 r.y1 then o else if rEq o.x0 o.y0 o.x1 o.y1 0 0 0 0 then r else ⟨min o.x0 r.x0, min o.y0 r.y0, max o.x1 r.x1, max o.y1 r.y1⟩
def hullF (f : Nat → R) : Nat → R
  | 0 => ⟨0, 0, 0, 0⟩
  | k + 1 => hstep (hullF f k) (f k)
theorem refEmptyV {x0 y0 x1 y1 : Int} {v : Bool} (w : World) (h : rEmpty x0 y0 x1 y1 = v) : Calls Tryz.prog 157 #[(.agg #[.int .i64 (x0), .int .i64 (y0), .int .i64 (x1), .int .i64 (y1)])] w fun e w' => e = .returned (.bool v) ∧ Below w.heap.size w w' := by
  subst h; exact ref_Empty _ _ _ _ _
/-- A row of rectangles in memory: n of them, from a place on. -/
def RowAt (w : World) (b off : Nat) (f : Nat → R) (n : Nat) : Prop := ∀ i, i < n → w.cell? ⟨b, off + i * 4, none⟩ = some (.int .i64 (f i).x0) ∧ w.cell? ⟨b, off + i * 4 + 1, none⟩ = some (.int .i64 (f i).y0) ∧ w.cell? ⟨b, off + i * 4 + 2, none⟩ = some (.int .i64 (f i).x1) ∧ w.cell? ⟨b, off + i * 4 + 3, none⟩ = some (.int .i64 (f i).y1)
theorem RowAt.below {w w' : World} {b off n : Nat} {f : Nat → R} (h : RowAt w b off f n) (hb : Below w.heap.size w w') (hl : b < w.heap.size) : RowAt w' b off f n := by
  intro i hi
  obtain ⟨h0, h1, h2, h3⟩ := h i hi
  refine ⟨?_, ?_, ?_, ?_⟩
  · rw [hb.cell (p := ⟨b, off + i * 4, none⟩) hl]; exact h0
  · rw [hb.cell (p := ⟨b, off + i * 4 + 1, none⟩) hl]; exact h1
  · rw [hb.cell (p := ⟨b, off + i * 4 + 2, none⟩) hl]; exact h2
  · rw [hb.cell (p := ⟨b, off + i * 4 + 3, none⟩) hl]; exact h3
set_option maxHeartbeats 2000000 in
theorem rect_Hull (b off n cap : Nat) (f : Nat → R) (w : World) (hn : n ≤ 1000000000000) (hr : RowAt w b off f n) (hb : b < w.heap.size) :
    Calls Tryz.prog 189 #[.slice (some ⟨b, off, none⟩) n cap] w fun e w' => e = .returned ((.agg #[.int .i64 (hullF f n).x0, .int .i64 (hullF f n).y0, .int .i64 (hullF f n).x1, .int .i64 (hullF f n).y1])) ∧ Below w.heap.size w w' := by
  go_enter Tryz.func189, Tryz.ntmps189
  go_wp2
  go_loopw [8] (fun i wr => ∃ k : Nat, k ≤ n ∧ i = .int .i64 k ∧ Below (w.alloc (.cells #[.int .i64 0, .int .i64 0, .int .i64 0, .int .i64 0] 26)).heap.size (w.alloc (.cells #[.int .i64 0, .int .i64 0, .int .i64 0, .int .i64 0] 26)) wr ∧ w.heap.size + 2 ≤ wr.heap.size ∧ (cellOf wr (w.heap.size + 1) 0 = some (.int .i64 (hullF f k).x0) ∧ cellOf wr (w.heap.size + 1) 1 = some (.int .i64 (hullF f k).y0) ∧ cellOf wr (w.heap.size + 1) 2 = some (.int .i64 (hullF f k).x1) ∧ cellOf wr (w.heap.size + 1) 3 = some (.int .i64 (hullF f k).y1)) ∧ (∀ o, frozenOf wr (w.heap.size + 1) o = false)) (fun i _ => n - (intOf i).toNat)
  case atStart => exact ⟨0, by omega, rfl, by (repeat (first | (with_reducible exact Below.refl _ _) | ((with_reducible refine Below.alloc ?_ ?hB _); (case hB => (first | omega | (simp; done) | (simp; omega)))) | ((with_reducible refine Below.setCell ?_ ?hB _); (case hB => (first | omega | (simp; done) | (simp; omega)))) | (with_reducible refine Below.drew ?_) | ((with_reducible refine below_ext_of ?_ ?hB); (case hB => (first | omega | (simp; done) | (simp; omega)))) | ((with_reducible refine Below.trans ?_ (Below.mono (by assumption) ?hB)); (case hB => (first | omega | (simp; done) | (simp; omega)))))), by simp, ⟨by (unfold cellOf; simp [hullF, go_sem, ↓IntWalk.iteOmega, *]), by (unfold cellOf; simp [hullF, go_sem, ↓IntWalk.iteOmega, *]), by (unfold cellOf; simp [hullF, go_sem, ↓IntWalk.iteOmega, *]), by (unfold cellOf; simp [hullF, go_sem, ↓IntWalk.iteOmega, *])⟩, by (intro o; unfold frozenOf; simp [go_sem, ↓IntWalk.iteOmega, *])⟩
  case round =>
    obtain ⟨k, hk, rfl, hbr, hzr, ⟨h0, h1, h2, h3⟩, hf⟩ := hrel
    obtain ⟨hcr, hfr⟩ := bcell hbr
    by_cases hlt : k < n
    · obtain ⟨g0, g1, g2, g3⟩ := hr k hlt
      go_wp2_with (first | (go_at_call 185; (with_reducible refine (rect_Empty _ _ _ _ _).mono ?_); rintro e w1 ⟨rfl, hb1⟩; obtain ⟨hc1, hf1⟩ := bcell hb1; have hz1 := hb1.size; (try simp only [World.size_alloc, World.size_setCell, World.size_drew] at hz1)))
      all_goals
        go_roundw
        case rel => exact ⟨k + 1, by omega, by go_num, by (repeat (first | (with_reducible exact Below.refl _ _) | ((with_reducible refine Below.alloc ?_ ?hB _); (case hB => (first | omega | (simp; done) | (simp; omega)))) | ((with_reducible refine Below.setCell ?_ ?hB _); (case hB => (first | omega | (simp; done) | (simp; omega)))) | (with_reducible refine Below.drew ?_) | ((with_reducible refine below_ext_of ?_ ?hB); (case hB => (first | omega | (simp; done) | (simp; omega)))) | ((with_reducible refine Below.trans ?_ (Below.mono (by assumption) ?hB)); (case hB => (first | omega | (simp; done) | (simp; omega)))))), by (first | omega | (simp; done) | (simp; omega)), ⟨by (unfold cellOf; simp [hullF, hstep, go_sem, ↓IntWalk.iteOmega, *]), by (unfold cellOf; simp [hullF, hstep, go_sem, ↓IntWalk.iteOmega, *]), by (unfold cellOf; simp [hullF, hstep, go_sem, ↓IntWalk.iteOmega, *]), by (unfold cellOf; simp [hullF, hstep, go_sem, ↓IntWalk.iteOmega, *])⟩, by (intro o; unfold frozenOf; simp [go_sem, ↓IntWalk.iteOmega, *])⟩
        case measure => simp [intOf]; omega
    · obtain rfl : k = n := by omega
      go_wp2
      (refine bodyPost_ret (by simp [results, Tryz.results189, go_sem, ↓IntWalk.iteOmega, *]; rfl) rfl ⟨?_, by (repeat (first | (with_reducible exact Below.refl _ _) | ((with_reducible refine Below.alloc ?_ ?hB _); (case hB => (first | omega | (simp; done) | (simp; omega)))) | ((with_reducible refine Below.setCell ?_ ?hB _); (case hB => (first | omega | (simp; done) | (simp; omega)))) | (with_reducible refine Below.drew ?_) | ((with_reducible refine below_ext_of ?_ ?hB); (case hB => (first | omega | (simp; done) | (simp; omega)))) | ((with_reducible refine Below.trans ?_ (Below.mono (by assumption) ?hB)); (case hB => (first | omega | (simp; done) | (simp; omega))))))⟩; rfl)
theorem hull_ne {o r : R} (h : rEmpty r.x0 r.y0 r.x1 r.y1 = false) : rEq (hstep o r).x0 (hstep o r).y0 (hstep o r).x1 (hstep o r).y1 0 0 0 0 = false := by
  rw [← Bool.not_eq_true, rEq_iff]
  unfold hstep
  rw [h]
  simp only [rEmpty, Bool.or_eq_false_iff, decide_eq_false_iff_not] at h
  simp only [Bool.false_eq_true, if_false]
  split
  · omega
  · dsimp only; omega
set_option maxHeartbeats 4000000 in
theorem ref_Hull (b off n cap : Nat) (f : Nat → R) (w : World) (hn : n ≤ 1000000000000) (hr : RowAt w b off f n) (hb : b < w.heap.size) :
    Calls Tryz.prog 114 #[.slice (some ⟨b, off, none⟩) n cap] w fun e w' => e = .returned ((.agg #[.int .i64 (hullF f n).x0, .int .i64 (hullF f n).y0, .int .i64 (hullF f n).x1, .int .i64 (hullF f n).y1])) ∧ Below w.heap.size w w' := by
  go_enter Tryz.func114, Tryz.ntmps114
  go_wp2
  go_loopw [4, 5] (fun s i wr => ∃ k : Nat, k ≤ n ∧ i = .int .i64 k ∧ s = .bool (!rEq (hullF f k).x0 (hullF f k).y0 (hullF f k).x1 (hullF f k).y1 0 0 0 0) ∧ Below (w.alloc (.cells #[.int .i64 0, .int .i64 0, .int .i64 0, .int .i64 0] 26)).heap.size (w.alloc (.cells #[.int .i64 0, .int .i64 0, .int .i64 0, .int .i64 0] 26)) wr ∧ w.heap.size + 2 ≤ wr.heap.size ∧ (cellOf wr (w.heap.size + 1) 0 = some (.int .i64 (hullF f k).x0) ∧ cellOf wr (w.heap.size + 1) 1 = some (.int .i64 (hullF f k).y0) ∧ cellOf wr (w.heap.size + 1) 2 = some (.int .i64 (hullF f k).x1) ∧ cellOf wr (w.heap.size + 1) 3 = some (.int .i64 (hullF f k).y1)) ∧ (∀ o, frozenOf wr (w.heap.size + 1) o = false)) (fun _ i _ => n - (intOf i).toNat)
  case atStart => exact ⟨0, by omega, rfl, rfl, by (repeat (first | (with_reducible exact Below.refl _ _) | ((with_reducible refine Below.alloc ?_ ?hB _); (case hB => (first | omega | (simp; done) | (simp; omega)))) | ((with_reducible refine Below.setCell ?_ ?hB _); (case hB => (first | omega | (simp; done) | (simp; omega)))) | (with_reducible refine Below.drew ?_) | ((with_reducible refine below_ext_of ?_ ?hB); (case hB => (first | omega | (simp; done) | (simp; omega)))) | ((with_reducible refine Below.trans ?_ (Below.mono (by assumption) ?hB)); (case hB => (first | omega | (simp; done) | (simp; omega)))))), by simp, ⟨by (unfold cellOf; simp [hullF, go_sem, ↓IntWalk.iteOmega, *]), by (unfold cellOf; simp [hullF, go_sem, ↓IntWalk.iteOmega, *]), by (unfold cellOf; simp [hullF, go_sem, ↓IntWalk.iteOmega, *]), by (unfold cellOf; simp [hullF, go_sem, ↓IntWalk.iteOmega, *])⟩, by (intro o; unfold frozenOf; simp [go_sem, ↓IntWalk.iteOmega, *])⟩
  case round =>
    obtain ⟨k, hk, rfl, rfl, hbr, hzr, ⟨h0, h1, h2, h3⟩, hf⟩ := hrel
    obtain ⟨hcr, hfr⟩ := bcell hbr
    by_cases hlt : k < n
    · obtain ⟨g0, g1, g2, g3⟩ := hr k hlt
      cases hE : rEmpty (f k).x0 (f k).y0 (f k).x1 (f k).y1
      · have cE := fun w => refEmptyV w hE
        have hne := Lib.hid (hull_ne (o := hullF f k) hE)
        have hE' := Lib.hid hE
        clear hE
        cases hZ : rEq (hullF f k).x0 (hullF f k).y0 (hullF f k).x1 (hullF f k).y1 0 0 0 0
        all_goals
          go_wp2_with (first | (go_at_call 157; (with_reducible refine (cE _).mono ?_); rintro e w1 ⟨rfl, hb1⟩; obtain ⟨hc1, hf1⟩ := bcell hb1; have hz1 := hb1.size; (try simp only [World.size_alloc, World.size_setCell, World.size_drew] at hz1)))
          (refine wp_region_ext_tail 9 (by kernel_rfl) (by kernel_rfl) ?_; simp only [List.take_succ_cons, List.take_zero, List.drop_succ_cons, List.drop_zero]; (repeat (go_big_quiet_step ((fail)))); refine wpQuiet_nil ?_; intro w2 hb_w2; obtain ⟨hc_w2, hf_w2⟩ := bcell hb_w2; have hz_w2 := hb_w2.size; (try simp only [World.size_alloc, World.size_setCell, World.size_drew] at hz_w2))
          go_wp2_with fail
          (refine wp_region_ext_tail 9 (by kernel_rfl) (by kernel_rfl) ?_; simp only [List.take_succ_cons, List.take_zero, List.drop_succ_cons, List.drop_zero]; (repeat (go_big_quiet_step ((fail)))); refine wpQuiet_nil ?_; intro w3 hb_w3; obtain ⟨hc_w3, hf_w3⟩ := bcell hb_w3; have hz_w3 := hb_w3.size; (try simp only [World.size_alloc, World.size_setCell, World.size_drew] at hz_w3))
          go_wp2_with fail
          (refine wp_region_ext_tail 9 (by kernel_rfl) (by kernel_rfl) ?_; simp only [List.take_succ_cons, List.take_zero, List.drop_succ_cons, List.drop_zero]; (repeat (go_big_quiet_step ((fail)))); refine wpQuiet_nil ?_; intro w4 hb_w4; obtain ⟨hc_w4, hf_w4⟩ := bcell hb_w4; have hz_w4 := hb_w4.size; (try simp only [World.size_alloc, World.size_setCell, World.size_drew] at hz_w4))
          go_wp2_with fail
          (refine wp_region_ext_tail 9 (by kernel_rfl) (by kernel_rfl) ?_; simp only [List.take_succ_cons, List.take_zero, List.drop_succ_cons, List.drop_zero]; (repeat (go_big_quiet_step ((fail)))); refine wpQuiet_nil ?_; intro w5 hb_w5; obtain ⟨hc_w5, hf_w5⟩ := bcell hb_w5; have hz_w5 := hb_w5.size; (try simp only [World.size_alloc, World.size_setCell, World.size_drew] at hz_w5))
          go_wp2_with fail
          go_roundw
          case rel =>
            have hE := hE'.out
            exact ⟨k + 1, by omega, by go_num, by have h := hne.out; simp only [hullF]; rw [h]; rfl, by (repeat (first | (with_reducible exact Below.refl _ _) | ((with_reducible refine Below.alloc ?_ ?hB _); (case hB => (first | omega | (simp; done) | (simp; omega)))) | ((with_reducible refine Below.setCell ?_ ?hB _); (case hB => (first | omega | (simp; done) | (simp; omega)))) | (with_reducible refine Below.drew ?_) | ((with_reducible refine below_ext_of ?_ ?hB); (case hB => (first | omega | (simp; done) | (simp; omega)))) | ((with_reducible refine Below.trans ?_ (Below.mono (by assumption) ?hB)); (case hB => (first | omega | (simp; done) | (simp; omega)))))), by (first | omega | (simp; done) | (simp; omega)), ⟨by (unfold cellOf; simp [hullF, hstep, go_sem, ↓IntWalk.iteOmega, *]), by (unfold cellOf; simp [hullF, hstep, go_sem, ↓IntWalk.iteOmega, *]), by (unfold cellOf; simp [hullF, hstep, go_sem, ↓IntWalk.iteOmega, *]), by (unfold cellOf; simp [hullF, hstep, go_sem, ↓IntWalk.iteOmega, *])⟩, by (intro o; unfold frozenOf; simp [go_sem, ↓IntWalk.iteOmega, *])⟩
          case measure => simp [intOf]; omega
      · have cE := fun w => refEmptyV w hE
        go_wp2_with (first | (go_at_call 157; (with_reducible refine (cE _).mono ?_); rintro e w1 ⟨rfl, hb1⟩; obtain ⟨hc1, hf1⟩ := bcell hb1; have hz1 := hb1.size; (try simp only [World.size_alloc, World.size_setCell, World.size_drew] at hz1)))
        go_roundw
        case rel => exact ⟨k + 1, by omega, by go_num, by simp [hullF, hstep, hE], by (repeat (first | (with_reducible exact Below.refl _ _) | ((with_reducible refine Below.alloc ?_ ?hB _); (case hB => (first | omega | (simp; done) | (simp; omega)))) | ((with_reducible refine Below.setCell ?_ ?hB _); (case hB => (first | omega | (simp; done) | (simp; omega)))) | (with_reducible refine Below.drew ?_) | ((with_reducible refine below_ext_of ?_ ?hB); (case hB => (first | omega | (simp; done) | (simp; omega)))) | ((with_reducible refine Below.trans ?_ (Below.mono (by assumption) ?hB)); (case hB => (first | omega | (simp; done) | (simp; omega)))))), by (first | omega | (simp; done) | (simp; omega)), ⟨by (unfold cellOf; simp [hullF, hstep, go_sem, ↓IntWalk.iteOmega, *]), by (unfold cellOf; simp [hullF, hstep, go_sem, ↓IntWalk.iteOmega, *]), by (unfold cellOf; simp [hullF, hstep, go_sem, ↓IntWalk.iteOmega, *]), by (unfold cellOf; simp [hullF, hstep, go_sem, ↓IntWalk.iteOmega, *])⟩, by (intro o; unfold frozenOf; simp [go_sem, ↓IntWalk.iteOmega, *])⟩
        case measure => simp [intOf]; omega
    · obtain rfl : k = n := by omega
      go_wp2
      (refine bodyPost_ret (by simp [results, Tryz.results114, go_sem, ↓IntWalk.iteOmega, *]; rfl) rfl ⟨?_, by (repeat (first | (with_reducible exact Below.refl _ _) | ((with_reducible refine Below.alloc ?_ ?hB _); (case hB => (first | omega | (simp; done) | (simp; omega)))) | ((with_reducible refine Below.setCell ?_ ?hB _); (case hB => (first | omega | (simp; done) | (simp; omega)))) | (with_reducible refine Below.drew ?_) | ((with_reducible refine below_ext_of ?_ ?hB); (case hB => (first | omega | (simp; done) | (simp; omega)))) | ((with_reducible refine Below.trans ?_ (Below.mono (by assumption) ?hB)); (case hB => (first | omega | (simp; done) | (simp; omega))))))⟩; rfl)
theorem rect_HullNil (a : Option Addr) (cap : Nat) (w : World) : Calls Tryz.prog 189 #[.slice a 0 cap] w fun e w' => e = .returned ((.agg #[.int .i64 (0), .int .i64 (0), .int .i64 (0), .int .i64 (0)])) ∧ Below w.heap.size w w' := by
  go_enter Tryz.func189, Tryz.ntmps189
  go_wp2
  refine wp_loop_rounds 1 ?_
  rw [rounds_succ]
  go_wp2
  (refine bodyPost_ret (by simp [results, Tryz.results189, go_sem, ↓IntWalk.iteOmega, *]; rfl) rfl ⟨?_, by (repeat (first | (with_reducible exact Below.refl _ _) | ((with_reducible refine Below.alloc ?_ ?hB _); (case hB => (first | omega | (simp; done) | (simp; omega)))) | ((with_reducible refine Below.setCell ?_ ?hB _); (case hB => (first | omega | (simp; done) | (simp; omega)))) | (with_reducible refine Below.drew ?_) | ((with_reducible refine below_ext_of ?_ ?hB); (case hB => (first | omega | (simp; done) | (simp; omega)))) | ((with_reducible refine Below.trans ?_ (Below.mono (by assumption) ?hB)); (case hB => (first | omega | (simp; done) | (simp; omega))))))⟩; rfl)
theorem ref_HullNil (a : Option Addr) (cap : Nat) (w : World) : Calls Tryz.prog 114 #[.slice a 0 cap] w fun e w' => e = .returned ((.agg #[.int .i64 (0), .int .i64 (0), .int .i64 (0), .int .i64 (0)])) ∧ Below w.heap.size w w' := by
  go_enter Tryz.func114, Tryz.ntmps114
  go_wp2
  refine wp_loop_rounds 1 ?_
  rw [rounds_succ]
  go_wp2
  (refine bodyPost_ret (by simp [results, Tryz.results114, go_sem, ↓IntWalk.iteOmega, *]; rfl) rfl ⟨?_, by (repeat (first | (with_reducible exact Below.refl _ _) | ((with_reducible refine Below.alloc ?_ ?hB _); (case hB => (first | omega | (simp; done) | (simp; omega)))) | ((with_reducible refine Below.setCell ?_ ?hB _); (case hB => (first | omega | (simp; done) | (simp; omega)))) | (with_reducible refine Below.drew ?_) | ((with_reducible refine below_ext_of ?_ ?hB); (case hB => (first | omega | (simp; done) | (simp; omega)))) | ((with_reducible refine Below.trans ?_ (Below.mono (by assumption) ?hB)); (case hB => (first | omega | (simp; done) | (simp; omega))))))⟩; rfl)
end Go.Proofs.YtbkhcdmmnlkhdaaGreat
