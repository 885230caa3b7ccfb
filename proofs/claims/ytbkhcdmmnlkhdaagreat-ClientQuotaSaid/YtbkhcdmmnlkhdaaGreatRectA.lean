/- What the small functions on rectangles give, by walking them. -/
import Derived.Test.YtbkhcdmmnlkhdaaGreatProg
import Derived.Test.YtbkhcdmmnlkhdaaGreatTail
namespace Go.Proofs.YtbkhcdmmnlkhdaaGreat
open Go.RowKit
set_option linter.unusedSimpArgs false
set_option linter.unusedVariables false

structure R where
  x0 : Int
  y0 : Int
  x1 : Int
  y1 : Int
deriving DecidableEq

def rEmpty (x0 y0 x1 y1 : Int) : Bool := decide (x1 ≤ x0) || decide (y1 ≤ y0)
def rHas (x0 y0 x1 y1 x y : Int) : Bool := decide (x0 ≤ x) && decide (x < x1) && decide (y0 ≤ y) && decide (y < y1)
def rCut (a0 a1 a2 a3 b0 b1 b2 b3 : Int) : R :=
  if rEmpty (max a0 b0) (max a1 b1) (min a2 b2) (min a3 b3) then ⟨0, 0, 0, 0⟩ else ⟨max a0 b0, max a1 b1, min a2 b2, min a3 b3⟩

theorem rCut_t {a0 a1 a2 a3 b0 b1 b2 b3 m0 m1 m2 m3 : Int} (h : rEmpty m0 m1 m2 m3 = true) (h0 : m0 = max a0 b0) (h1 : m1 = max a1 b1) (h2 : m2 = min a2 b2) (h3 : m3 = min a3 b3) : rCut a0 a1 a2 a3 b0 b1 b2 b3 = ⟨0, 0, 0, 0⟩ := by
  subst h0 h1 h2 h3; simp [rCut, h]
theorem rCut_f {a0 a1 a2 a3 b0 b1 b2 b3 m0 m1 m2 m3 : Int} (h : rEmpty m0 m1 m2 m3 = false) (h0 : m0 = max a0 b0) (h1 : m1 = max a1 b1) (h2 : m2 = min a2 b2) (h3 : m3 = min a3 b3) : rCut a0 a1 a2 a3 b0 b1 b2 b3 = ⟨m0, m1, m2, m3⟩ := by
  subst h0 h1 h2 h3; simp [rCut, h]
def rEq (x0 x1 x2 x3 y0 y1 y2 y3 : Int) : Bool := decide (x0 = y0 ∧ x1 = y1 ∧ x2 = y2 ∧ x3 = y3)
theorem rEq_iff {x0 x1 x2 x3 y0 y1 y2 y3 : Int} : rEq x0 x1 x2 x3 y0 y1 y2 y3 = true ↔ (x0 = y0 ∧ x1 = y1 ∧ x2 = y2 ∧ x3 = y3) := by simp [rEq]
theorem rEq_self (x0 x1 x2 x3 : Int) : rEq x0 x1 x2 x3 x0 x1 x2 x3 = true := by simp [rEq]
theorem eqRect (d : Nat) (w : World) (x0 x1 x2 x3 y0 y1 y2 y3 : Int) :
    (Op.equalIn (d + 2) 26 (.agg #[.int .i64 (x0), .int .i64 (x1), .int .i64 (x2), .int .i64 (x3)]) (.agg #[.int .i64 (y0), .int .i64 (y1), .int .i64 (y2), .int .i64 (y3)])).run Tryz.prog w = .ok (rEq x0 x1 x2 x3 y0 y1 y2 y3) w := by
  have e : rEq x0 x1 x2 x3 y0 y1 y2 y3 = (x0 == y0 && (x1 == y1 && (x2 == y2 && (x3 == y3 && true)))) := by
    rw [Bool.eq_iff_iff]; simp [rEq]
  rw [e]
  refine eqA_of Tryz.underlying26 (by kernel_rfl) ?_
  refine eqf_cons (by rfl) (by go_simp; rfl) (by go_simp; rfl) (by go_simp) ?_
  refine eqf_cons (by rfl) (by go_simp; rfl) (by go_simp; rfl) (by go_simp) ?_
  refine eqf_cons (by rfl) (by go_simp; rfl) (by go_simp; rfl) (by go_simp) ?_
  refine eqf_cons (by rfl) (by go_simp; rfl) (by go_simp; rfl) (by go_simp) ?_
  exact eqf_nil
attribute [local go_sem high] eqRect
theorem rect_Empty (x0 y0 x1 y1 : Int) (w : World) : Calls Tryz.prog 185 #[(.agg #[.int .i64 (x0), .int .i64 (y0), .int .i64 (x1), .int .i64 (y1)])] w fun e w' => e = .returned (.bool (rEmpty x0 y0 x1 y1)) ∧ Below w.heap.size w w' := by
  go_enter Tryz.func185, Tryz.ntmps185
  go_wp2
  all_goals (go_ret; exact ⟨by simp [rEmpty, *], by (repeat (first | (with_reducible exact Below.refl _ _) | ((with_reducible refine Below.alloc ?_ ?hB _); (case hB => (first | omega | (simp; done) | (simp; omega)))) | ((with_reducible refine Below.setCell ?_ ?hB _); (case hB => (first | omega | (simp; done) | (simp; omega)))) | (with_reducible refine Below.drew ?_) | ((with_reducible refine below_ext_of ?_ ?hB); (case hB => (first | omega | (simp; done) | (simp; omega)))) | ((with_reducible refine Below.trans ?_ (Below.mono (by assumption) ?hB)); (case hB => (first | omega | (simp; done) | (simp; omega))))))⟩)
theorem ref_Empty (x0 y0 x1 y1 : Int) (w : World) : Calls Tryz.prog 157 #[(.agg #[.int .i64 (x0), .int .i64 (y0), .int .i64 (x1), .int .i64 (y1)])] w fun e w' => e = .returned (.bool (rEmpty x0 y0 x1 y1)) ∧ Below w.heap.size w w' := by
  go_enter Tryz.func157, Tryz.ntmps157
  go_wp2
  all_goals (go_ret; exact ⟨by simp [rEmpty, *], by (repeat (first | (with_reducible exact Below.refl _ _) | ((with_reducible refine Below.alloc ?_ ?hB _); (case hB => (first | omega | (simp; done) | (simp; omega)))) | ((with_reducible refine Below.setCell ?_ ?hB _); (case hB => (first | omega | (simp; done) | (simp; omega)))) | (with_reducible refine Below.drew ?_) | ((with_reducible refine below_ext_of ?_ ?hB); (case hB => (first | omega | (simp; done) | (simp; omega)))) | ((with_reducible refine Below.trans ?_ (Below.mono (by assumption) ?hB)); (case hB => (first | omega | (simp; done) | (simp; omega))))))⟩)
theorem rect_Has (x0 y0 x1 y1 x y : Int) (w : World) : Calls Tryz.prog 127 #[(.agg #[.int .i64 (x0), .int .i64 (y0), .int .i64 (x1), .int .i64 (y1)]), .int .i64 x, .int .i64 y] w fun e w' => e = .returned (.bool (rHas x0 y0 x1 y1 x y)) ∧ Below w.heap.size w w' := by
  go_enter Tryz.func127, Tryz.ntmps127
  go_wp2
  all_goals (go_ret; refine ⟨congrArg (fun x => Ending.returned (.bool x)) ?_, by (repeat (first | (with_reducible exact Below.refl _ _) | ((with_reducible refine Below.alloc ?_ ?hB _); (case hB => (first | omega | (simp; done) | (simp; omega)))) | ((with_reducible refine Below.setCell ?_ ?hB _); (case hB => (first | omega | (simp; done) | (simp; omega)))) | (with_reducible refine Below.drew ?_) | ((with_reducible refine below_ext_of ?_ ?hB); (case hB => (first | omega | (simp; done) | (simp; omega)))) | ((with_reducible refine Below.trans ?_ (Below.mono (by assumption) ?hB)); (case hB => (first | omega | (simp; done) | (simp; omega))))))⟩; (first | rfl | (rw [Bool.eq_iff_iff]; simp [rHas]; done) | (rw [Bool.eq_iff_iff]; simp [rHas]; omega)))
theorem ref_Has (x0 y0 x1 y1 x y : Int) (w : World) : Calls Tryz.prog 121 #[(.agg #[.int .i64 (x0), .int .i64 (y0), .int .i64 (x1), .int .i64 (y1)]), .int .i64 x, .int .i64 y] w fun e w' => e = .returned (.bool (rHas x0 y0 x1 y1 x y)) ∧ Below w.heap.size w w' := by
  go_enter Tryz.func121, Tryz.ntmps121
  go_wp2
  all_goals (go_ret; refine ⟨congrArg (fun x => Ending.returned (.bool x)) ?_, by (repeat (first | (with_reducible exact Below.refl _ _) | ((with_reducible refine Below.alloc ?_ ?hB _); (case hB => (first | omega | (simp; done) | (simp; omega)))) | ((with_reducible refine Below.setCell ?_ ?hB _); (case hB => (first | omega | (simp; done) | (simp; omega)))) | (with_reducible refine Below.drew ?_) | ((with_reducible refine below_ext_of ?_ ?hB); (case hB => (first | omega | (simp; done) | (simp; omega)))) | ((with_reducible refine Below.trans ?_ (Below.mono (by assumption) ?hB)); (case hB => (first | omega | (simp; done) | (simp; omega))))))⟩; (first | rfl | (rw [Bool.eq_iff_iff]; simp [rHas]; done) | (rw [Bool.eq_iff_iff]; simp [rHas]; omega)))

set_option maxHeartbeats 1000000 in
theorem rect_Cut (a0 a1 a2 a3 b0 b1 b2 b3 : Int) (w : World) : Calls Tryz.prog 181 #[(.agg #[.int .i64 (a0), .int .i64 (a1), .int .i64 (a2), .int .i64 (a3)]), (.agg #[.int .i64 (b0), .int .i64 (b1), .int .i64 (b2), .int .i64 (b3)])] w fun e w' => e = .returned ((.agg #[.int .i64 (rCut a0 a1 a2 a3 b0 b1 b2 b3).x0, .int .i64 (rCut a0 a1 a2 a3 b0 b1 b2 b3).y0, .int .i64 (rCut a0 a1 a2 a3 b0 b1 b2 b3).x1, .int .i64 (rCut a0 a1 a2 a3 b0 b1 b2 b3).y1])) ∧ Below w.heap.size w w' := by
  go_enter Tryz.func181, Tryz.ntmps181
  go_wp2_with (first | (go_at_call 185; refine (rect_Empty _ _ _ _ _).mono ?_; rintro e w1 ⟨rfl, hb1⟩; obtain ⟨hc1, hf1⟩ := bcell hb1; have hz1 := hb1.size; (try simp only [World.size_alloc, World.size_setCell, World.size_drew] at hz1)))
  all_goals (refine bodyPost_ret (by simp [results, Tryz.results181, go_sem, ↓IntWalk.iteOmega, *]; rfl) rfl ⟨?_, by (repeat (first | (with_reducible exact Below.refl _ _) | ((with_reducible refine Below.alloc ?_ ?hB _); (case hB => (first | omega | (simp; done) | (simp; omega)))) | ((with_reducible refine Below.setCell ?_ ?hB _); (case hB => (first | omega | (simp; done) | (simp; omega)))) | (with_reducible refine Below.drew ?_) | ((with_reducible refine below_ext_of ?_ ?hB); (case hB => (first | omega | (simp; done) | (simp; omega)))) | ((with_reducible refine Below.trans ?_ (Below.mono (by assumption) ?hB)); (case hB => (first | omega | (simp; done) | (simp; omega))))))⟩; first | rw [rCut_t ‹_› (by omega) (by omega) (by omega) (by omega)] | rw [rCut_f ‹_› (by omega) (by omega) (by omega) (by omega)])
set_option maxHeartbeats 4000000 in
theorem ref_Cut (a0 a1 a2 a3 b0 b1 b2 b3 : Int) (w : World) : Calls Tryz.prog 197 #[(.agg #[.int .i64 (a0), .int .i64 (a1), .int .i64 (a2), .int .i64 (a3)]), (.agg #[.int .i64 (b0), .int .i64 (b1), .int .i64 (b2), .int .i64 (b3)])] w fun e w' => e = .returned ((.agg #[.int .i64 (rCut a0 a1 a2 a3 b0 b1 b2 b3).x0, .int .i64 (rCut a0 a1 a2 a3 b0 b1 b2 b3).y0, .int .i64 (rCut a0 a1 a2 a3 b0 b1 b2 b3).x1, .int .i64 (rCut a0 a1 a2 a3 b0 b1 b2 b3).y1])) ∧ Below w.heap.size w w' := by
  go_enter Tryz.func197, Tryz.ntmps197
  go_wp2_with (first | (go_at_call 157; refine (ref_Empty _ _ _ _ _).mono ?_; rintro e w1 ⟨rfl, hb1⟩; obtain ⟨hc1, hf1⟩ := bcell hb1; have hz1 := hb1.size; (try simp only [World.size_alloc, World.size_setCell, World.size_drew] at hz1)))
  all_goals (refine bodyPost_ret (by simp [results, Tryz.results197, go_sem, ↓IntWalk.iteOmega, *]; rfl) rfl ⟨?_, by (repeat (first | (with_reducible exact Below.refl _ _) | ((with_reducible refine Below.alloc ?_ ?hB _); (case hB => (first | omega | (simp; done) | (simp; omega)))) | ((with_reducible refine Below.setCell ?_ ?hB _); (case hB => (first | omega | (simp; done) | (simp; omega)))) | (with_reducible refine Below.drew ?_) | ((with_reducible refine below_ext_of ?_ ?hB); (case hB => (first | omega | (simp; done) | (simp; omega)))) | ((with_reducible refine Below.trans ?_ (Below.mono (by assumption) ?hB)); (case hB => (first | omega | (simp; done) | (simp; omega))))))⟩; first | rw [rCut_t ‹_› (by omega) (by omega) (by omega) (by omega)] | rw [rCut_f ‹_› (by omega) (by omega) (by omega) (by omega)])
def R.zero : R := ⟨0, 0, 0, 0⟩
def rMeets (a0 a1 a2 a3 b0 b1 b2 b3 : Int) : Bool := !rEq (rCut a0 a1 a2 a3 b0 b1 b2 b3).x0 (rCut a0 a1 a2 a3 b0 b1 b2 b3).y0 (rCut a0 a1 a2 a3 b0 b1 b2 b3).x1 (rCut a0 a1 a2 a3 b0 b1 b2 b3).y1 0 0 0 0
def rCovers (a0 a1 a2 a3 b0 b1 b2 b3 : Int) : Bool := rEmpty b0 b1 b2 b3 || rEq (rCut a0 a1 a2 a3 b0 b1 b2 b3).x0 (rCut a0 a1 a2 a3 b0 b1 b2 b3).y0 (rCut a0 a1 a2 a3 b0 b1 b2 b3).x1 (rCut a0 a1 a2 a3 b0 b1 b2 b3).y1 b0 b1 b2 b3
theorem R.eta (r : R) : (⟨r.x0, r.y0, r.x1, r.y1⟩ : R) = r := rfl

theorem covers_plain {a0 a1 a2 a3 b0 b1 b2 b3 : Int} (hE : rEmpty b0 b1 b2 b3 = false) : rCovers a0 a1 a2 a3 b0 b1 b2 b3 = (decide (a0 ≤ b0) && decide (a1 ≤ b1) && decide (b2 ≤ a2) && decide (b3 ≤ a3)) := by
  have hE' := hE
  simp only [rEmpty, Bool.or_eq_false_iff, decide_eq_false_iff_not] at hE'
  rw [Bool.eq_iff_iff]
  simp only [rCovers, hE, Bool.false_or, rEq_iff, decide_eq_true_eq, Bool.and_eq_true]
  cases hc : rEmpty (max a0 b0) (max a1 b1) (min a2 b2) (min a3 b3)
  · simp only [rCut, hc, Bool.false_eq_true, if_false]; omega
  · simp only [rCut, hc, if_true]
    simp only [rEmpty, Bool.or_eq_true, decide_eq_true_eq] at hc
    omega
theorem ref_Covers (a0 a1 a2 a3 b0 b1 b2 b3 : Int) (w : World) : Calls Tryz.prog 156 #[(.agg #[.int .i64 (a0), .int .i64 (a1), .int .i64 (a2), .int .i64 (a3)]), (.agg #[.int .i64 (b0), .int .i64 (b1), .int .i64 (b2), .int .i64 (b3)])] w fun e w' => e = .returned (.bool (rCovers a0 a1 a2 a3 b0 b1 b2 b3)) ∧ Below w.heap.size w w' := by
  cases hE : rEmpty b0 b1 b2 b3
  · have hp := Lib.hid (covers_plain (a0 := a0) (a1 := a1) (a2 := a2) (a3 := a3) hE)
    go_enter Tryz.func156, Tryz.ntmps156
    go_wp2_with (first | (go_at_call 157; refine (ref_Empty _ _ _ _ _).mono ?_; rintro e w1 ⟨rfl, hb1⟩; obtain ⟨hc1, hf1⟩ := bcell hb1; have hz1 := hb1.size; (try simp only [World.size_alloc, World.size_setCell, World.size_drew] at hz1)))
    all_goals (go_ret; refine ⟨?_, by (repeat (first | (with_reducible exact Below.refl _ _) | ((with_reducible refine Below.alloc ?_ ?hB _); (case hB => (first | omega | (simp; done) | (simp; omega)))) | ((with_reducible refine Below.setCell ?_ ?hB _); (case hB => (first | omega | (simp; done) | (simp; omega)))) | (with_reducible refine Below.drew ?_) | ((with_reducible refine below_ext_of ?_ ?hB); (case hB => (first | omega | (simp; done) | (simp; omega)))) | ((with_reducible refine Below.trans ?_ (Below.mono (by assumption) ?hB)); (case hB => (first | omega | (simp; done) | (simp; omega))))))⟩; rw [hp.out]; simp; try omega)
  · go_enter Tryz.func156, Tryz.ntmps156
    go_wp2_with (first | (go_at_call 157; refine (ref_Empty _ _ _ _ _).mono ?_; rintro e w1 ⟨rfl, hb1⟩; obtain ⟨hc1, hf1⟩ := bcell hb1; have hz1 := hb1.size; (try simp only [World.size_alloc, World.size_setCell, World.size_drew] at hz1)))
    go_ret; exact ⟨by simp [rCovers, hE], by (repeat (first | (with_reducible exact Below.refl _ _) | ((with_reducible refine Below.alloc ?_ ?hB _); (case hB => (first | omega | (simp; done) | (simp; omega)))) | ((with_reducible refine Below.setCell ?_ ?hB _); (case hB => (first | omega | (simp; done) | (simp; omega)))) | (with_reducible refine Below.drew ?_) | ((with_reducible refine below_ext_of ?_ ?hB); (case hB => (first | omega | (simp; done) | (simp; omega)))) | ((with_reducible refine Below.trans ?_ (Below.mono (by assumption) ?hB)); (case hB => (first | omega | (simp; done) | (simp; omega))))))⟩

def rMay (x0 y0 x1 y1 : Int) : Bool := decide (-1048576 ≤ x0 ∧ x0 ≤ 1048576 ∧ -1048576 ≤ y0 ∧ y0 ≤ 1048576 ∧ -1048576 ≤ x1 ∧ x1 ≤ 1048576 ∧ -1048576 ≤ y1 ∧ y1 ≤ 1048576 ∧ x0 ≤ x1 ∧ y0 ≤ y1)
theorem rect_May (x0 y0 x1 y1 : Int) (w : World) : Calls Tryz.prog 174 #[(.agg #[.int .i64 (x0), .int .i64 (y0), .int .i64 (x1), .int .i64 (y1)])] w fun e w' => e = .returned (.bool (rMay x0 y0 x1 y1)) ∧ Below w.heap.size w w' := by
  go_enter Tryz.func174, Tryz.ntmps174
  go_wp2
  all_goals (go_ret; refine ⟨congrArg (fun x => Ending.returned (.bool x)) ?_, by (repeat (first | (with_reducible exact Below.refl _ _) | ((with_reducible refine Below.alloc ?_ ?hB _); (case hB => (first | omega | (simp; done) | (simp; omega)))) | ((with_reducible refine Below.setCell ?_ ?hB _); (case hB => (first | omega | (simp; done) | (simp; omega)))) | (with_reducible refine Below.drew ?_) | ((with_reducible refine below_ext_of ?_ ?hB); (case hB => (first | omega | (simp; done) | (simp; omega)))) | ((with_reducible refine Below.trans ?_ (Below.mono (by assumption) ?hB)); (case hB => (first | omega | (simp; done) | (simp; omega))))))⟩; (first | rfl | (rw [Bool.eq_iff_iff]; simp [rMay]; done) | (rw [Bool.eq_iff_iff]; simp [rMay]; omega)))
def inFar (n : Int) : Bool := decide (-1048576 ≤ n ∧ n ≤ 1048576)
def cutI (n : Int) : Int := min (max n (-1048576)) 1048576
def around (n m : Int) : Int := (if n < 0 then -(n + 1) else n) % m
theorem around_neg (n m : Int) (h : n < 0) : -(n + 1).tmod m = around n m := by
  simp only [around, if_pos h]
  rw [← Int.neg_tmod, Int.tmod_eq_emod_of_nonneg (by omega)]
theorem around_pos (n m : Int) (h : 0 ≤ n) : n % m = around n m := by
  simp only [around, if_neg (show ¬ n < 0 by omega)]
theorem around_bd (n m : Int) (hm : 0 < m) : 0 ≤ around n m ∧ around n m ≤ m - 1 := by
  have h1 := Int.emod_nonneg (if n < 0 then -(n + 1) else n) (show m ≠ 0 by omega)
  have h2 := Int.emod_lt_of_pos (if n < 0 then -(n + 1) else n) hm
  unfold around; omega
theorem ref_Around (n m : Int) (w : World) (h1 : -9223372036854775808 ≤ n) (h2 : n ≤ 9223372036854775807) (h3 : 0 < m) (h4 : m ≤ 9223372036854775807) : Calls Tryz.prog 9 #[.int .i64 n, .int .i64 m] w fun e w' => e = .returned (.int .i64 (around n m)) ∧ w = w' := by
  have e1 := Lib.hid (fun h : n < 0 => around_neg n m h)
  have e2 := Lib.hid (fun h : 0 ≤ n => around_pos n m h)
  go_enter Tryz.func9, Tryz.ntmps9
  go_wp2
  all_goals (go_ret; refine ⟨?_, rfl⟩; first | exact congrArg (fun x => Ending.returned (.int .i64 x)) (e1.out ‹_›) | exact congrArg (fun x => Ending.returned (.int .i64 x)) (e2.out ‹_›))
def rGood (x0 y0 x1 y1 : Int) : R := ⟨min (cutI x0) (cutI x1), min (cutI y0) (cutI y1), max (cutI x0) (cutI x1), max (cutI y0) (cutI y1)⟩
def rSmall (x0 y0 x1 y1 : Int) : R := ⟨around x0 24 - 4, around y0 24 - 4, around x0 24 - 4 + around x1 13, around y0 24 - 4 + around y1 13⟩
end Go.Proofs.YtbkhcdmmnlkhdaaGreat
