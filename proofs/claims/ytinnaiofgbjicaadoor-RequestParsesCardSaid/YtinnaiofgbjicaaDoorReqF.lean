/- Whether numbers lie between two, walked. -/
import Derived.Test.YtinnaiofgbjicaaDoorReqC
import Derived.Test.YtinnaiofgbjicaaDoorRectB
namespace Go.Proofs.YtinnaiofgbjicaaDoor
open Go.RowKit Go.Proofs.YtinnaiofgbjicaaDoorW.PrintWords
set_option linter.unusedSimpArgs false
set_option linter.unusedVariables false
set_option maxRecDepth 1000000
set_option maxHeartbeats 2000000 in
theorem btw1 (lo hi x : Int) (g : Nat) (w : World) (h : w.cell? ⟨g, 0, none⟩ = some (.int .i64 x)) (hg : g < w.heap.size) : Calls Tryd.prog 68 #[.int .i64 lo, .int .i64 hi, .slice (some ⟨g, 0, none⟩) 1 1] w fun e w' => e = .returned (.bool (decide (lo ≤ x ∧ x ≤ hi))) ∧ Below w.heap.size w w' := by
  by_cases h1 : lo ≤ x
  · by_cases h2 : x ≤ hi
    · rw [decide_eq_true ⟨h1, h2⟩]; (go_enter Tryd.func68, Tryd.ntmps68; go_wp2; refine wp_loop_rounds 3 ?_; (repeat (rw [rounds_succ]; go_wp2)); go_ret; exact ⟨rfl, by (repeat (first | (with_reducible exact Below.refl _ _) | ((with_reducible refine Below.alloc ?_ ?hB _); (case hB => (first | omega | (simp; done) | (simp; omega)))) | ((with_reducible refine Below.setCell ?_ ?hB _); (case hB => (first | omega | (simp; done) | (simp; omega)))) | (with_reducible refine Below.drew ?_) | ((with_reducible refine below_ext_of ?_ ?hB); (case hB => (first | omega | (simp; done) | (simp; omega)))) | ((with_reducible refine Below.trans ?_ (Below.mono (by assumption) ?hB)); (case hB => (first | omega | (simp; done) | (simp; omega))))))⟩)
    · replace h2 : hi < x := by omega
      rw [decide_eq_false (by omega)]; (go_enter Tryd.func68, Tryd.ntmps68; go_wp2; refine wp_loop_rounds 3 ?_; (repeat (rw [rounds_succ]; go_wp2)); go_ret; exact ⟨rfl, by (repeat (first | (with_reducible exact Below.refl _ _) | ((with_reducible refine Below.alloc ?_ ?hB _); (case hB => (first | omega | (simp; done) | (simp; omega)))) | ((with_reducible refine Below.setCell ?_ ?hB _); (case hB => (first | omega | (simp; done) | (simp; omega)))) | (with_reducible refine Below.drew ?_) | ((with_reducible refine below_ext_of ?_ ?hB); (case hB => (first | omega | (simp; done) | (simp; omega)))) | ((with_reducible refine Below.trans ?_ (Below.mono (by assumption) ?hB)); (case hB => (first | omega | (simp; done) | (simp; omega))))))⟩)
  · replace h1 : x < lo := by omega
    rw [decide_eq_false (by omega)]; (go_enter Tryd.func68, Tryd.ntmps68; go_wp2; refine wp_loop_rounds 3 ?_; (repeat (rw [rounds_succ]; go_wp2)); go_ret; exact ⟨rfl, by (repeat (first | (with_reducible exact Below.refl _ _) | ((with_reducible refine Below.alloc ?_ ?hB _); (case hB => (first | omega | (simp; done) | (simp; omega)))) | ((with_reducible refine Below.setCell ?_ ?hB _); (case hB => (first | omega | (simp; done) | (simp; omega)))) | (with_reducible refine Below.drew ?_) | ((with_reducible refine below_ext_of ?_ ?hB); (case hB => (first | omega | (simp; done) | (simp; omega)))) | ((with_reducible refine Below.trans ?_ (Below.mono (by assumption) ?hB)); (case hB => (first | omega | (simp; done) | (simp; omega))))))⟩)
set_option maxHeartbeats 2000000 in
theorem btw2 (lo hi x y : Int) (g : Nat) (w : World) (h : w.cell? ⟨g, 0, none⟩ = some (.int .i64 x)) (hy : w.cell? ⟨g, 1, none⟩ = some (.int .i64 y)) (hg : g < w.heap.size) : Calls Tryd.prog 68 #[.int .i64 lo, .int .i64 hi, .slice (some ⟨g, 0, none⟩) 2 2] w fun e w' => e = .returned (.bool (decide ((lo ≤ x ∧ x ≤ hi) ∧ (lo ≤ y ∧ y ≤ hi)))) ∧ Below w.heap.size w w' := by
  by_cases h1 : lo ≤ x
  · by_cases h2 : x ≤ hi
    · by_cases h3 : lo ≤ y
      · by_cases h4 : y ≤ hi
        · rw [decide_eq_true ⟨⟨h1, h2⟩, h3, h4⟩]; (go_enter Tryd.func68, Tryd.ntmps68; go_wp2; refine wp_loop_rounds 3 ?_; (repeat (rw [rounds_succ]; go_wp2)); go_ret; exact ⟨rfl, by (repeat (first | (with_reducible exact Below.refl _ _) | ((with_reducible refine Below.alloc ?_ ?hB _); (case hB => (first | omega | (simp; done) | (simp; omega)))) | ((with_reducible refine Below.setCell ?_ ?hB _); (case hB => (first | omega | (simp; done) | (simp; omega)))) | (with_reducible refine Below.drew ?_) | ((with_reducible refine below_ext_of ?_ ?hB); (case hB => (first | omega | (simp; done) | (simp; omega)))) | ((with_reducible refine Below.trans ?_ (Below.mono (by assumption) ?hB)); (case hB => (first | omega | (simp; done) | (simp; omega))))))⟩)
        · replace h4 : hi < y := by omega
          rw [decide_eq_false (by omega)]; (go_enter Tryd.func68, Tryd.ntmps68; go_wp2; refine wp_loop_rounds 3 ?_; (repeat (rw [rounds_succ]; go_wp2)); go_ret; exact ⟨rfl, by (repeat (first | (with_reducible exact Below.refl _ _) | ((with_reducible refine Below.alloc ?_ ?hB _); (case hB => (first | omega | (simp; done) | (simp; omega)))) | ((with_reducible refine Below.setCell ?_ ?hB _); (case hB => (first | omega | (simp; done) | (simp; omega)))) | (with_reducible refine Below.drew ?_) | ((with_reducible refine below_ext_of ?_ ?hB); (case hB => (first | omega | (simp; done) | (simp; omega)))) | ((with_reducible refine Below.trans ?_ (Below.mono (by assumption) ?hB)); (case hB => (first | omega | (simp; done) | (simp; omega))))))⟩)
      · replace h3 : y < lo := by omega
        rw [decide_eq_false (by omega)]; (go_enter Tryd.func68, Tryd.ntmps68; go_wp2; refine wp_loop_rounds 3 ?_; (repeat (rw [rounds_succ]; go_wp2)); go_ret; exact ⟨rfl, by (repeat (first | (with_reducible exact Below.refl _ _) | ((with_reducible refine Below.alloc ?_ ?hB _); (case hB => (first | omega | (simp; done) | (simp; omega)))) | ((with_reducible refine Below.setCell ?_ ?hB _); (case hB => (first | omega | (simp; done) | (simp; omega)))) | (with_reducible refine Below.drew ?_) | ((with_reducible refine below_ext_of ?_ ?hB); (case hB => (first | omega | (simp; done) | (simp; omega)))) | ((with_reducible refine Below.trans ?_ (Below.mono (by assumption) ?hB)); (case hB => (first | omega | (simp; done) | (simp; omega))))))⟩)
    · replace h2 : hi < x := by omega
      rw [decide_eq_false (by omega)]; (go_enter Tryd.func68, Tryd.ntmps68; go_wp2; refine wp_loop_rounds 3 ?_; (repeat (rw [rounds_succ]; go_wp2)); go_ret; exact ⟨rfl, by (repeat (first | (with_reducible exact Below.refl _ _) | ((with_reducible refine Below.alloc ?_ ?hB _); (case hB => (first | omega | (simp; done) | (simp; omega)))) | ((with_reducible refine Below.setCell ?_ ?hB _); (case hB => (first | omega | (simp; done) | (simp; omega)))) | (with_reducible refine Below.drew ?_) | ((with_reducible refine below_ext_of ?_ ?hB); (case hB => (first | omega | (simp; done) | (simp; omega)))) | ((with_reducible refine Below.trans ?_ (Below.mono (by assumption) ?hB)); (case hB => (first | omega | (simp; done) | (simp; omega))))))⟩)
  · replace h1 : x < lo := by omega
    rw [decide_eq_false (by omega)]; (go_enter Tryd.func68, Tryd.ntmps68; go_wp2; refine wp_loop_rounds 3 ?_; (repeat (rw [rounds_succ]; go_wp2)); go_ret; exact ⟨rfl, by (repeat (first | (with_reducible exact Below.refl _ _) | ((with_reducible refine Below.alloc ?_ ?hB _); (case hB => (first | omega | (simp; done) | (simp; omega)))) | ((with_reducible refine Below.setCell ?_ ?hB _); (case hB => (first | omega | (simp; done) | (simp; omega)))) | (with_reducible refine Below.drew ?_) | ((with_reducible refine below_ext_of ?_ ?hB); (case hB => (first | omega | (simp; done) | (simp; omega)))) | ((with_reducible refine Below.trans ?_ (Below.mono (by assumption) ?hB)); (case hB => (first | omega | (simp; done) | (simp; omega))))))⟩)
end Go.Proofs.YtinnaiofgbjicaaDoor
namespace Go.Proofs.YtinnaiofgbjicaaDoor
open Go.RowKit Go.Proofs.YtinnaiofgbjicaaDoorW.PrintWords
set_option linter.unusedSimpArgs false
set_option linter.unusedVariables false
set_option maxRecDepth 1000000
def inB (lo hi x : Int) : Bool := decide (lo ≤ x ∧ x ≤ hi)
def inB2 (lo hi x y : Int) : Bool := decide ((lo ≤ x ∧ x ≤ hi) ∧ (lo ≤ y ∧ y ≤ hi))
theorem bt1 (lo hi x : Int) (g : Nat) (w : World) (h : w.cell? ⟨g, 0, none⟩ = some (.int .i64 x)) (hg : g < w.heap.size) : Calls Tryd.prog 68 #[.int .i64 lo, .int .i64 hi, .slice (some ⟨g, 0, none⟩) 1 1] w fun e w' => e = .returned (.bool (inB lo hi x)) ∧ Below w.heap.size w w' := btw1 lo hi x g w h hg
theorem bt2 (lo hi x y : Int) (g : Nat) (w : World) (h : w.cell? ⟨g, 0, none⟩ = some (.int .i64 x)) (hy : w.cell? ⟨g, 1, none⟩ = some (.int .i64 y)) (hg : g < w.heap.size) : Calls Tryd.prog 68 #[.int .i64 lo, .int .i64 hi, .slice (some ⟨g, 0, none⟩) 2 2] w fun e w' => e = .returned (.bool (inB2 lo hi x y)) ∧ Below w.heap.size w w' := btw2 lo hi x y g w h hy hg
theorem may_1 (op id a b x0 y0 x1 y1 : Int) (s : ByteArray) (A : Option Addr) (n c : Nat) (w : World) : Calls Tryd.prog 67 #[(.agg #[.int .i64 op, .int .i64 id, .int .i64 a, .int .i64 b, .int .i64 x0, .int .i64 y0, .int .i64 x1, .int .i64 y1, .string s, .slice A n c])] w fun e w' => e = .returned (.bool (inB2 (-1048576) 1048576 a b)) ∧ Below w.heap.size w w' := by
  go_enter Tryd.func67, Tryd.ntmps67
  go_wp2_with (first | (go_at_call 68; (with_reducible refine (bt2 _ _ a b _ _ ?_ ?_ ?_).mono ?_); (focus (go_simp; done)); (focus (go_simp; done)); (focus (simp; done)); rintro en w1 ⟨rfl, hb1⟩; obtain ⟨hc1, hf1⟩ := bcell hb1; have hz1 := hb1.size; (try simp only [World.size_alloc, World.size_setCell, World.size_drew] at hz1)))
  (go_ret; refine ⟨?_, by (repeat (first | (with_reducible exact Below.refl _ _) | ((with_reducible refine Below.alloc ?_ ?hB _); (case hB => (first | omega | (simp; done) | (simp; omega)))) | ((with_reducible refine Below.setCell ?_ ?hB _); (case hB => (first | omega | (simp; done) | (simp; omega)))) | (with_reducible refine Below.drew ?_) | ((with_reducible refine below_ext_of ?_ ?hB); (case hB => (first | omega | (simp; done) | (simp; omega)))) | ((with_reducible refine Below.trans ?_ (Below.mono (by assumption) ?hB)); (case hB => (first | omega | (simp; done) | (simp; omega))))))⟩); rfl
theorem may_2 (op id a b x0 y0 x1 y1 : Int) (s : ByteArray) (A : Option Addr) (n c : Nat) (w : World) : Calls Tryd.prog 69 #[(.agg #[.int .i64 op, .int .i64 id, .int .i64 a, .int .i64 b, .int .i64 x0, .int .i64 y0, .int .i64 x1, .int .i64 y1, .string s, .slice A n c])] w fun e w' => e = .returned (.bool (rMay x0 y0 x1 y1)) ∧ Below w.heap.size w w' := by
  have c1 := rect_May x0 y0 x1 y1
  generalize rMay x0 y0 x1 y1 = m at *
  go_enter Tryd.func69, Tryd.ntmps69
  go_wp2_with (first | (go_at_call 70; (with_reducible refine (c1 _).mono ?_); rintro e w1 ⟨rfl, hb1⟩; obtain ⟨hc1, hf1⟩ := bcell hb1; have hz1 := hb1.size; (try simp only [World.size_alloc, World.size_setCell, World.size_drew] at hz1)))
  (go_ret; refine ⟨?_, by (repeat (first | (with_reducible exact Below.refl _ _) | ((with_reducible refine Below.alloc ?_ ?hB _); (case hB => (first | omega | (simp; done) | (simp; omega)))) | ((with_reducible refine Below.setCell ?_ ?hB _); (case hB => (first | omega | (simp; done) | (simp; omega)))) | (with_reducible refine Below.drew ?_) | ((with_reducible refine below_ext_of ?_ ?hB); (case hB => (first | omega | (simp; done) | (simp; omega)))) | ((with_reducible refine Below.trans ?_ (Below.mono (by assumption) ?hB)); (case hB => (first | omega | (simp; done) | (simp; omega))))))⟩); rfl
theorem may_3 (op id a b x0 y0 x1 y1 : Int) (s : ByteArray) (A : Option Addr) (n c : Nat) (w : World) : Calls Tryd.prog 71 #[(.agg #[.int .i64 op, .int .i64 id, .int .i64 a, .int .i64 b, .int .i64 x0, .int .i64 y0, .int .i64 x1, .int .i64 y1, .string s, .slice A n c])] w fun e w' => e = .returned (.bool true) ∧ Below w.heap.size w w' := by
  go_enter Tryd.func71, Tryd.ntmps71
  go_wp2
  (go_ret; refine ⟨?_, by (repeat (first | (with_reducible exact Below.refl _ _) | ((with_reducible refine Below.alloc ?_ ?hB _); (case hB => (first | omega | (simp; done) | (simp; omega)))) | ((with_reducible refine Below.setCell ?_ ?hB _); (case hB => (first | omega | (simp; done) | (simp; omega)))) | (with_reducible refine Below.drew ?_) | ((with_reducible refine below_ext_of ?_ ?hB); (case hB => (first | omega | (simp; done) | (simp; omega)))) | ((with_reducible refine Below.trans ?_ (Below.mono (by assumption) ?hB)); (case hB => (first | omega | (simp; done) | (simp; omega))))))⟩); rfl
theorem may_4 (op id a b x0 y0 x1 y1 : Int) (s : ByteArray) (A : Option Addr) (n c : Nat) (w : World) : Calls Tryd.prog 72 #[(.agg #[.int .i64 op, .int .i64 id, .int .i64 a, .int .i64 b, .int .i64 x0, .int .i64 y0, .int .i64 x1, .int .i64 y1, .string s, .slice A n c])] w fun e w' => e = .returned (.bool (inB2 1 256 a b)) ∧ Below w.heap.size w w' := by
  go_enter Tryd.func72, Tryd.ntmps72
  go_wp2_with (first | (go_at_call 68; (with_reducible refine (bt2 _ _ a b _ _ ?_ ?_ ?_).mono ?_); (focus (go_simp; done)); (focus (go_simp; done)); (focus (simp; done)); rintro en w1 ⟨rfl, hb1⟩; obtain ⟨hc1, hf1⟩ := bcell hb1; have hz1 := hb1.size; (try simp only [World.size_alloc, World.size_setCell, World.size_drew] at hz1)))
  (go_ret; refine ⟨?_, by (repeat (first | (with_reducible exact Below.refl _ _) | ((with_reducible refine Below.alloc ?_ ?hB _); (case hB => (first | omega | (simp; done) | (simp; omega)))) | ((with_reducible refine Below.setCell ?_ ?hB _); (case hB => (first | omega | (simp; done) | (simp; omega)))) | (with_reducible refine Below.drew ?_) | ((with_reducible refine below_ext_of ?_ ?hB); (case hB => (first | omega | (simp; done) | (simp; omega)))) | ((with_reducible refine Below.trans ?_ (Below.mono (by assumption) ?hB)); (case hB => (first | omega | (simp; done) | (simp; omega))))))⟩); rfl
theorem may_5 (op id a b x0 y0 x1 y1 : Int) (s : ByteArray) (A : Option Addr) (n c : Nat) (w : World) : Calls Tryd.prog 73 #[(.agg #[.int .i64 op, .int .i64 id, .int .i64 a, .int .i64 b, .int .i64 x0, .int .i64 y0, .int .i64 x1, .int .i64 y1, .string s, .slice A n c])] w fun e w' => e = .returned (.bool (rMay x0 y0 x1 y1 && !rEmpty x0 y0 x1 y1)) ∧ Below w.heap.size w w' := by
  have c1 := rect_May x0 y0 x1 y1
  have c2 := rect_Empty x0 y0 x1 y1
  generalize rEmpty x0 y0 x1 y1 = m2 at *
  cases hm : rMay x0 y0 x1 y1
  · rw [hm] at c1
    clear hm
    go_enter Tryd.func73, Tryd.ntmps73
    go_wp2_with (first | (go_at_call 70; (with_reducible refine (c1 _).mono ?_); rintro e w1 ⟨rfl, hb1⟩; obtain ⟨hc1, hf1⟩ := bcell hb1; have hz1 := hb1.size; (try simp only [World.size_alloc, World.size_setCell, World.size_drew] at hz1)) | (go_at_call 74; (with_reducible refine (c2 _).mono ?_); rintro e w1 ⟨rfl, hb1⟩; obtain ⟨hc1, hf1⟩ := bcell hb1; have hz1 := hb1.size; (try simp only [World.size_alloc, World.size_setCell, World.size_drew] at hz1)))
    (go_ret; refine ⟨?_, by (repeat (first | (with_reducible exact Below.refl _ _) | ((with_reducible refine Below.alloc ?_ ?hB _); (case hB => (first | omega | (simp; done) | (simp; omega)))) | ((with_reducible refine Below.setCell ?_ ?hB _); (case hB => (first | omega | (simp; done) | (simp; omega)))) | (with_reducible refine Below.drew ?_) | ((with_reducible refine below_ext_of ?_ ?hB); (case hB => (first | omega | (simp; done) | (simp; omega)))) | ((with_reducible refine Below.trans ?_ (Below.mono (by assumption) ?hB)); (case hB => (first | omega | (simp; done) | (simp; omega))))))⟩); rfl
  · rw [hm] at c1
    clear hm
    go_enter Tryd.func73, Tryd.ntmps73
    go_wp2_with (first | (go_at_call 70; (with_reducible refine (c1 _).mono ?_); rintro e w1 ⟨rfl, hb1⟩; obtain ⟨hc1, hf1⟩ := bcell hb1; have hz1 := hb1.size; (try simp only [World.size_alloc, World.size_setCell, World.size_drew] at hz1)) | (go_at_call 74; (with_reducible refine (c2 _).mono ?_); rintro e w1 ⟨rfl, hb1⟩; obtain ⟨hc1, hf1⟩ := bcell hb1; have hz1 := hb1.size; (try simp only [World.size_alloc, World.size_setCell, World.size_drew] at hz1)))
    (go_ret; refine ⟨?_, by (repeat (first | (with_reducible exact Below.refl _ _) | ((with_reducible refine Below.alloc ?_ ?hB _); (case hB => (first | omega | (simp; done) | (simp; omega)))) | ((with_reducible refine Below.setCell ?_ ?hB _); (case hB => (first | omega | (simp; done) | (simp; omega)))) | (with_reducible refine Below.drew ?_) | ((with_reducible refine below_ext_of ?_ ?hB); (case hB => (first | omega | (simp; done) | (simp; omega)))) | ((with_reducible refine Below.trans ?_ (Below.mono (by assumption) ?hB)); (case hB => (first | omega | (simp; done) | (simp; omega))))))⟩); rfl
theorem may_6 (op id a b x0 y0 x1 y1 : Int) (s : ByteArray) (A : Option Addr) (n c : Nat) (w : World) : Calls Tryd.prog 75 #[(.agg #[.int .i64 op, .int .i64 id, .int .i64 a, .int .i64 b, .int .i64 x0, .int .i64 y0, .int .i64 x1, .int .i64 y1, .string s, .slice A n c])] w fun e w' => e = .returned (.bool (inB 1 8 a)) ∧ Below w.heap.size w w' := by
  go_enter Tryd.func75, Tryd.ntmps75
  go_wp2_with (first | (go_at_call 68; (with_reducible refine (bt1 _ _ a _ _ ?_ ?_).mono ?_); (focus (go_simp; done)); (focus (simp; done)); rintro en w1 ⟨rfl, hb1⟩; obtain ⟨hc1, hf1⟩ := bcell hb1; have hz1 := hb1.size; (try simp only [World.size_alloc, World.size_setCell, World.size_drew] at hz1)))
  (go_ret; refine ⟨?_, by (repeat (first | (with_reducible exact Below.refl _ _) | ((with_reducible refine Below.alloc ?_ ?hB _); (case hB => (first | omega | (simp; done) | (simp; omega)))) | ((with_reducible refine Below.setCell ?_ ?hB _); (case hB => (first | omega | (simp; done) | (simp; omega)))) | (with_reducible refine Below.drew ?_) | ((with_reducible refine below_ext_of ?_ ?hB); (case hB => (first | omega | (simp; done) | (simp; omega)))) | ((with_reducible refine Below.trans ?_ (Below.mono (by assumption) ?hB)); (case hB => (first | omega | (simp; done) | (simp; omega))))))⟩); rfl
theorem may_7 (op id a b x0 y0 x1 y1 : Int) (s : ByteArray) (A : Option Addr) (n c : Nat) (w : World) : Calls Tryd.prog 76 #[(.agg #[.int .i64 op, .int .i64 id, .int .i64 a, .int .i64 b, .int .i64 x0, .int .i64 y0, .int .i64 x1, .int .i64 y1, .string s, .slice A n c])] w fun e w' => e = .returned (.bool (inB 0 255 a)) ∧ Below w.heap.size w w' := by
  go_enter Tryd.func76, Tryd.ntmps76
  go_wp2_with (first | (go_at_call 68; (with_reducible refine (bt1 _ _ a _ _ ?_ ?_).mono ?_); (focus (go_simp; done)); (focus (simp; done)); rintro en w1 ⟨rfl, hb1⟩; obtain ⟨hc1, hf1⟩ := bcell hb1; have hz1 := hb1.size; (try simp only [World.size_alloc, World.size_setCell, World.size_drew] at hz1)))
  (go_ret; refine ⟨?_, by (repeat (first | (with_reducible exact Below.refl _ _) | ((with_reducible refine Below.alloc ?_ ?hB _); (case hB => (first | omega | (simp; done) | (simp; omega)))) | ((with_reducible refine Below.setCell ?_ ?hB _); (case hB => (first | omega | (simp; done) | (simp; omega)))) | (with_reducible refine Below.drew ?_) | ((with_reducible refine below_ext_of ?_ ?hB); (case hB => (first | omega | (simp; done) | (simp; omega)))) | ((with_reducible refine Below.trans ?_ (Below.mono (by assumption) ?hB)); (case hB => (first | omega | (simp; done) | (simp; omega))))))⟩); rfl
/-- What is told of a title, for the text at hand. -/
def TitP (s : ByteArray) (v : Bool) : Prop := ∀ w, Calls Tryd.prog 78 #[.string s] w fun e w' => e = .returned (.bool v) ∧ Below w.heap.size w w'
theorem may_8 (op id a b x0 y0 x1 y1 : Int) (s : ByteArray) (A : Option Addr) (n c : Nat) (w : World) (v : Bool) (h : TitP s v) : Calls Tryd.prog 77 #[(.agg #[.int .i64 op, .int .i64 id, .int .i64 a, .int .i64 b, .int .i64 x0, .int .i64 y0, .int .i64 x1, .int .i64 y1, .string s, .slice A n c])] w fun e w' => e = .returned (.bool v) ∧ Below w.heap.size w w' := by
  unfold TitP at h
  go_enter Tryd.func77, Tryd.ntmps77
  go_wp2_with (first | (go_at_call 78; (with_reducible refine (h _).mono ?_); rintro e w1 ⟨rfl, hb1⟩; obtain ⟨hc1, hf1⟩ := bcell hb1; have hz1 := hb1.size; (try simp only [World.size_alloc, World.size_setCell, World.size_drew] at hz1)))
  (go_ret; refine ⟨?_, by (repeat (first | (with_reducible exact Below.refl _ _) | ((with_reducible refine Below.alloc ?_ ?hB _); (case hB => (first | omega | (simp; done) | (simp; omega)))) | ((with_reducible refine Below.setCell ?_ ?hB _); (case hB => (first | omega | (simp; done) | (simp; omega)))) | (with_reducible refine Below.drew ?_) | ((with_reducible refine below_ext_of ?_ ?hB); (case hB => (first | omega | (simp; done) | (simp; omega)))) | ((with_reducible refine Below.trans ?_ (Below.mono (by assumption) ?hB)); (case hB => (first | omega | (simp; done) | (simp; omega))))))⟩); rfl
/-- Whether a request's arguments may be. -/
def mayArg (k : Nat) (a b x0 y0 x1 y1 : Int) (v : Bool) : Bool :=
  if k = 0 then inB2 1 256 a b
  else if k = 2 then (rMay x0 y0 x1 y1 && !rEmpty x0 y0 x1 y1)
  else if k = 6 ∨ k = 11 ∨ k = 12 then rMay x0 y0 x1 y1
  else if k = 7 ∨ k = 17 ∨ k = 18 then inB2 (-1048576) 1048576 a b
  else if k = 10 then inB 1 8 a
  else if k = 13 then inB 0 255 a
  else if k = 14 then v
  else true
theorem may_all (k : Nat) (hk : k < 19) (op id a b x0 y0 x1 y1 : Int) (s : ByteArray) (A : Option Addr) (n c : Nat) (w : World) (v : Bool) (h : k = 14 → TitP s v) : Calls Tryd.prog (mayQ.getD k 0) #[(.agg #[.int .i64 op, .int .i64 id, .int .i64 a, .int .i64 b, .int .i64 x0, .int .i64 y0, .int .i64 x1, .int .i64 y1, .string s, .slice A n c])] w fun e w' => e = .returned (.bool (mayArg k a b x0 y0 x1 y1 v)) ∧ Below w.heap.size w w' := by
  rcases lt19 hk with rfl | rfl | rfl | rfl | rfl | rfl | rfl | rfl | rfl | rfl | rfl | rfl | rfl | rfl | rfl | rfl | rfl | rfl | rfl
  · exact may_4 op id a b x0 y0 x1 y1 s A n c w
  · exact may_3 op id a b x0 y0 x1 y1 s A n c w
  · exact may_5 op id a b x0 y0 x1 y1 s A n c w
  · exact may_3 op id a b x0 y0 x1 y1 s A n c w
  · exact may_3 op id a b x0 y0 x1 y1 s A n c w
  · exact may_3 op id a b x0 y0 x1 y1 s A n c w
  · exact may_2 op id a b x0 y0 x1 y1 s A n c w
  · exact may_1 op id a b x0 y0 x1 y1 s A n c w
  · exact may_3 op id a b x0 y0 x1 y1 s A n c w
  · exact may_3 op id a b x0 y0 x1 y1 s A n c w
  · exact may_6 op id a b x0 y0 x1 y1 s A n c w
  · exact may_2 op id a b x0 y0 x1 y1 s A n c w
  · exact may_2 op id a b x0 y0 x1 y1 s A n c w
  · exact may_7 op id a b x0 y0 x1 y1 s A n c w
  · exact may_8 op id a b x0 y0 x1 y1 s A n c w v (h rfl)
  · exact may_3 op id a b x0 y0 x1 y1 s A n c w
  · exact may_3 op id a b x0 y0 x1 y1 s A n c w
  · exact may_1 op id a b x0 y0 x1 y1 s A n c w
  · exact may_1 op id a b x0 y0 x1 y1 s A n c w
end Go.Proofs.YtinnaiofgbjicaaDoor
