/- Which requests the document lets be, walked. -/
import Derived.Test.YtinnaiofgbjicaaDoorReqF
namespace Go.Proofs.YtinnaiofgbjicaaDoor
open Go.RowKit Go.Proofs.YtinnaiofgbjicaaDoorW.PrintWords
set_option linter.unusedSimpArgs false
set_option linter.unusedVariables false
set_option maxRecDepth 1000000
theorem ref_inB (x lo hi : Int) (w : World) : Calls Tryd.prog 81 #[.int .i64 x, .int .i64 lo, .int .i64 hi] w fun e w' => e = .returned (.bool (inB lo hi x)) ∧ w = w' := by
  by_cases h1 : lo ≤ x
  · by_cases h2 : x ≤ hi
    · have HV := Lib.hid (show inB lo hi x = true from decide_eq_true ⟨h1, h2⟩)
      go_enter Tryd.func81, Tryd.ntmps81
      go_wp2
      go_ret
      refine ⟨?_, rfl⟩
      rw [HV.out]; rfl
    · have HV := Lib.hid (show inB lo hi x = false from decide_eq_false (by omega))
      have h3 : decide (x ≤ hi) = false := decide_eq_false h2
      go_enter Tryd.func81, Tryd.ntmps81
      go_wp2
      go_ret
      refine ⟨?_, rfl⟩
      rw [HV.out]; first | rfl | (show Ending.returned (.bool (decide (x ≤ hi))) = _; rw [h3])
  · have HV := Lib.hid (show inB lo hi x = false from decide_eq_false (by omega))
    replace h1 : x < lo := by omega
    go_enter Tryd.func81, Tryd.ntmps81
    go_wp2
    go_ret
    refine ⟨?_, rfl⟩
    rw [HV.out]; rfl
theorem inB2_and (lo hi x y : Int) : inB2 lo hi x y = (inB lo hi x && inB lo hi y) := by unfold inB2 inB; exact Bool.decide_and ..
theorem rm_bad (k : Int) (id a b x0 y0 x1 y1 : Int) (s : ByteArray) (A : Option Addr) (n c : Nat) (w : World) (z : Bool) (h1 : (id == 0) = z) (h2 : (k == 18) = !z) : Calls Tryd.prog 47 #[.agg #[.int .i64 k, .int .i64 id, .int .i64 a, .int .i64 b, .int .i64 x0, .int .i64 y0, .int .i64 x1, .int .i64 y1, .string s, .slice A n c]] w fun e w' => e = .returned (.bool false) ∧ Below w.heap.size w w' := by
  have cI := ref_inB
  generalize inB = I at *
  cases z
  · go_enter Tryd.func47, Tryd.ntmps47
    go_wp2_with (first | (go_at_call 81; (with_reducible refine (cI _ _ _ _).mono ?_); rintro e w1 ⟨rfl, rfl⟩))
    (go_ret; refine ⟨?_, by (repeat (first | (with_reducible exact Below.refl _ _) | ((with_reducible refine Below.alloc ?_ ?hB _); (case hB => (first | omega | (simp; done) | (simp; omega)))) | ((with_reducible refine Below.setCell ?_ ?hB _); (case hB => (first | omega | (simp; done) | (simp; omega)))) | (with_reducible refine Below.drew ?_) | ((with_reducible refine below_ext_of ?_ ?hB); (case hB => (first | omega | (simp; done) | (simp; omega)))) | ((with_reducible refine Below.trans ?_ (Below.mono (by assumption) ?hB)); (case hB => (first | omega | (simp; done) | (simp; omega))))))⟩); rfl
  · go_enter Tryd.func47, Tryd.ntmps47
    go_wp2_with (first | (go_at_call 81; (with_reducible refine (cI _ _ _ _).mono ?_); rintro e w1 ⟨rfl, rfl⟩))
    (go_ret; refine ⟨?_, by (repeat (first | (with_reducible exact Below.refl _ _) | ((with_reducible refine Below.alloc ?_ ?hB _); (case hB => (first | omega | (simp; done) | (simp; omega)))) | ((with_reducible refine Below.setCell ?_ ?hB _); (case hB => (first | omega | (simp; done) | (simp; omega)))) | (with_reducible refine Below.drew ?_) | ((with_reducible refine below_ext_of ?_ ?hB); (case hB => (first | omega | (simp; done) | (simp; omega)))) | ((with_reducible refine Below.trans ?_ (Below.mono (by assumption) ?hB)); (case hB => (first | omega | (simp; done) | (simp; omega))))))⟩); rfl
theorem rm_id (k : Int) (id a b x0 y0 x1 y1 : Int) (s : ByteArray) (A : Option Addr) (n c : Nat) (w : World) (z : Bool) (h1 : (id == 0) = z) (h2 : (k == 18) = z) (hi : inB 0 4294967295 id = false) : Calls Tryd.prog 47 #[.agg #[.int .i64 k, .int .i64 id, .int .i64 a, .int .i64 b, .int .i64 x0, .int .i64 y0, .int .i64 x1, .int .i64 y1, .string s, .slice A n c]] w fun e w' => e = .returned (.bool false) ∧ Below w.heap.size w w' := by
  have cI := ref_inB
  generalize inB = I at *
  go_enter Tryd.func47, Tryd.ntmps47
  go_wp2_with (first | (go_at_call 81; (with_reducible refine (cI _ _ _ _).mono ?_); rintro e w1 ⟨rfl, rfl⟩))
  (go_ret; refine ⟨?_, by (repeat (first | (with_reducible exact Below.refl _ _) | ((with_reducible refine Below.alloc ?_ ?hB _); (case hB => (first | omega | (simp; done) | (simp; omega)))) | ((with_reducible refine Below.setCell ?_ ?hB _); (case hB => (first | omega | (simp; done) | (simp; omega)))) | (with_reducible refine Below.drew ?_) | ((with_reducible refine below_ext_of ?_ ?hB); (case hB => (first | omega | (simp; done) | (simp; omega)))) | ((with_reducible refine Below.trans ?_ (Below.mono (by assumption) ?hB)); (case hB => (first | omega | (simp; done) | (simp; omega))))))⟩); rfl
theorem rm_0 (id a b x0 y0 x1 y1 : Int) (s : ByteArray) (A : Option Addr) (n c : Nat) (w : World) (h1 : (id == 0) = false) (hi : inB 0 4294967295 id = true) : Calls Tryd.prog 47 #[.agg #[.int .i64 0, .int .i64 id, .int .i64 a, .int .i64 b, .int .i64 x0, .int .i64 y0, .int .i64 x1, .int .i64 y1, .string s, .slice A n c]] w fun e w' => e = .returned (.bool (inB2 1 256 a b)) ∧ Below w.heap.size w w' := by
  rw [inB2_and]
  have cI := ref_inB
  generalize inB = I at *
  cases ha : I 1 256 a
  · go_enter Tryd.func47, Tryd.ntmps47
    go_wp2_with (first | (go_at_call 81; (with_reducible refine (cI _ _ _ _).mono ?_); rintro e w1 ⟨rfl, rfl⟩))
    (go_ret; refine ⟨?_, by (repeat (first | (with_reducible exact Below.refl _ _) | ((with_reducible refine Below.alloc ?_ ?hB _); (case hB => (first | omega | (simp; done) | (simp; omega)))) | ((with_reducible refine Below.setCell ?_ ?hB _); (case hB => (first | omega | (simp; done) | (simp; omega)))) | (with_reducible refine Below.drew ?_) | ((with_reducible refine below_ext_of ?_ ?hB); (case hB => (first | omega | (simp; done) | (simp; omega)))) | ((with_reducible refine Below.trans ?_ (Below.mono (by assumption) ?hB)); (case hB => (first | omega | (simp; done) | (simp; omega))))))⟩); rfl
  · go_enter Tryd.func47, Tryd.ntmps47
    go_wp2_with (first | (go_at_call 81; (with_reducible refine (cI _ _ _ _).mono ?_); rintro e w1 ⟨rfl, rfl⟩))
    (go_ret; refine ⟨?_, by (repeat (first | (with_reducible exact Below.refl _ _) | ((with_reducible refine Below.alloc ?_ ?hB _); (case hB => (first | omega | (simp; done) | (simp; omega)))) | ((with_reducible refine Below.setCell ?_ ?hB _); (case hB => (first | omega | (simp; done) | (simp; omega)))) | (with_reducible refine Below.drew ?_) | ((with_reducible refine below_ext_of ?_ ?hB); (case hB => (first | omega | (simp; done) | (simp; omega)))) | ((with_reducible refine Below.trans ?_ (Below.mono (by assumption) ?hB)); (case hB => (first | omega | (simp; done) | (simp; omega))))))⟩); rfl
theorem rm_1 (id a b x0 y0 x1 y1 : Int) (s : ByteArray) (A : Option Addr) (n c : Nat) (w : World) (h1 : (id == 0) = false) (hi : inB 0 4294967295 id = true) : Calls Tryd.prog 47 #[.agg #[.int .i64 1, .int .i64 id, .int .i64 a, .int .i64 b, .int .i64 x0, .int .i64 y0, .int .i64 x1, .int .i64 y1, .string s, .slice A n c]] w fun e w' => e = .returned (.bool true) ∧ Below w.heap.size w w' := by
  have cI := ref_inB
  generalize inB = I at *
  go_enter Tryd.func47, Tryd.ntmps47
  go_wp2_with (first | (go_at_call 81; (with_reducible refine (cI _ _ _ _).mono ?_); rintro e w1 ⟨rfl, rfl⟩))
  (go_ret; refine ⟨?_, by (repeat (first | (with_reducible exact Below.refl _ _) | ((with_reducible refine Below.alloc ?_ ?hB _); (case hB => (first | omega | (simp; done) | (simp; omega)))) | ((with_reducible refine Below.setCell ?_ ?hB _); (case hB => (first | omega | (simp; done) | (simp; omega)))) | (with_reducible refine Below.drew ?_) | ((with_reducible refine below_ext_of ?_ ?hB); (case hB => (first | omega | (simp; done) | (simp; omega)))) | ((with_reducible refine Below.trans ?_ (Below.mono (by assumption) ?hB)); (case hB => (first | omega | (simp; done) | (simp; omega))))))⟩); rfl
theorem rm_2 (id a b x0 y0 x1 y1 : Int) (s : ByteArray) (A : Option Addr) (n c : Nat) (w : World) (h1 : (id == 0) = false) (hi : inB 0 4294967295 id = true) : Calls Tryd.prog 47 #[.agg #[.int .i64 2, .int .i64 id, .int .i64 a, .int .i64 b, .int .i64 x0, .int .i64 y0, .int .i64 x1, .int .i64 y1, .string s, .slice A n c]] w fun e w' => e = .returned (.bool (rMay x0 y0 x1 y1 && !rEmpty x0 y0 x1 y1)) ∧ Below w.heap.size w w' := by
  have cI := ref_inB
  generalize inB = I at *
  have c1 := ref_May x0 y0 x1 y1
  have c2 := ref_Empty x0 y0 x1 y1
  generalize rEmpty x0 y0 x1 y1 = m2 at *
  generalize rMay x0 y0 x1 y1 = m1 at *
  cases m1
  · go_enter Tryd.func47, Tryd.ntmps47
    go_wp2_with (first | (go_at_call 81; (with_reducible refine (cI _ _ _ _).mono ?_); rintro e w1 ⟨rfl, rfl⟩) | (go_at_call 82; (with_reducible refine (c1 _).mono ?_); rintro e w1 ⟨rfl, hb1⟩; obtain ⟨hc1, hf1⟩ := bcell hb1; have hz1 := hb1.size; (try simp only [World.size_alloc, World.size_setCell, World.size_drew] at hz1)) | (go_at_call 83; (with_reducible refine (c2 _).mono ?_); rintro e w1 ⟨rfl, hb1⟩; obtain ⟨hc1, hf1⟩ := bcell hb1; have hz1 := hb1.size; (try simp only [World.size_alloc, World.size_setCell, World.size_drew] at hz1)))
    (go_ret; refine ⟨?_, by (repeat (first | (with_reducible exact Below.refl _ _) | ((with_reducible refine Below.alloc ?_ ?hB _); (case hB => (first | omega | (simp; done) | (simp; omega)))) | ((with_reducible refine Below.setCell ?_ ?hB _); (case hB => (first | omega | (simp; done) | (simp; omega)))) | (with_reducible refine Below.drew ?_) | ((with_reducible refine below_ext_of ?_ ?hB); (case hB => (first | omega | (simp; done) | (simp; omega)))) | ((with_reducible refine Below.trans ?_ (Below.mono (by assumption) ?hB)); (case hB => (first | omega | (simp; done) | (simp; omega))))))⟩); rfl
  · go_enter Tryd.func47, Tryd.ntmps47
    go_wp2_with (first | (go_at_call 81; (with_reducible refine (cI _ _ _ _).mono ?_); rintro e w1 ⟨rfl, rfl⟩) | (go_at_call 82; (with_reducible refine (c1 _).mono ?_); rintro e w1 ⟨rfl, hb1⟩; obtain ⟨hc1, hf1⟩ := bcell hb1; have hz1 := hb1.size; (try simp only [World.size_alloc, World.size_setCell, World.size_drew] at hz1)) | (go_at_call 83; (with_reducible refine (c2 _).mono ?_); rintro e w1 ⟨rfl, hb1⟩; obtain ⟨hc1, hf1⟩ := bcell hb1; have hz1 := hb1.size; (try simp only [World.size_alloc, World.size_setCell, World.size_drew] at hz1)))
    (go_ret; refine ⟨?_, by (repeat (first | (with_reducible exact Below.refl _ _) | ((with_reducible refine Below.alloc ?_ ?hB _); (case hB => (first | omega | (simp; done) | (simp; omega)))) | ((with_reducible refine Below.setCell ?_ ?hB _); (case hB => (first | omega | (simp; done) | (simp; omega)))) | (with_reducible refine Below.drew ?_) | ((with_reducible refine below_ext_of ?_ ?hB); (case hB => (first | omega | (simp; done) | (simp; omega)))) | ((with_reducible refine Below.trans ?_ (Below.mono (by assumption) ?hB)); (case hB => (first | omega | (simp; done) | (simp; omega))))))⟩); rfl
theorem rm_3 (id a b x0 y0 x1 y1 : Int) (s : ByteArray) (A : Option Addr) (n c : Nat) (w : World) (h1 : (id == 0) = false) (hi : inB 0 4294967295 id = true) : Calls Tryd.prog 47 #[.agg #[.int .i64 3, .int .i64 id, .int .i64 a, .int .i64 b, .int .i64 x0, .int .i64 y0, .int .i64 x1, .int .i64 y1, .string s, .slice A n c]] w fun e w' => e = .returned (.bool true) ∧ Below w.heap.size w w' := by
  have cI := ref_inB
  generalize inB = I at *
  go_enter Tryd.func47, Tryd.ntmps47
  go_wp2_with (first | (go_at_call 81; (with_reducible refine (cI _ _ _ _).mono ?_); rintro e w1 ⟨rfl, rfl⟩))
  (go_ret; refine ⟨?_, by (repeat (first | (with_reducible exact Below.refl _ _) | ((with_reducible refine Below.alloc ?_ ?hB _); (case hB => (first | omega | (simp; done) | (simp; omega)))) | ((with_reducible refine Below.setCell ?_ ?hB _); (case hB => (first | omega | (simp; done) | (simp; omega)))) | (with_reducible refine Below.drew ?_) | ((with_reducible refine below_ext_of ?_ ?hB); (case hB => (first | omega | (simp; done) | (simp; omega)))) | ((with_reducible refine Below.trans ?_ (Below.mono (by assumption) ?hB)); (case hB => (first | omega | (simp; done) | (simp; omega))))))⟩); rfl
theorem rm_4 (id a b x0 y0 x1 y1 : Int) (s : ByteArray) (A : Option Addr) (n c : Nat) (w : World) (h1 : (id == 0) = false) (hi : inB 0 4294967295 id = true) : Calls Tryd.prog 47 #[.agg #[.int .i64 4, .int .i64 id, .int .i64 a, .int .i64 b, .int .i64 x0, .int .i64 y0, .int .i64 x1, .int .i64 y1, .string s, .slice A n c]] w fun e w' => e = .returned (.bool true) ∧ Below w.heap.size w w' := by
  have cI := ref_inB
  generalize inB = I at *
  go_enter Tryd.func47, Tryd.ntmps47
  go_wp2_with (first | (go_at_call 81; (with_reducible refine (cI _ _ _ _).mono ?_); rintro e w1 ⟨rfl, rfl⟩))
  (go_ret; refine ⟨?_, by (repeat (first | (with_reducible exact Below.refl _ _) | ((with_reducible refine Below.alloc ?_ ?hB _); (case hB => (first | omega | (simp; done) | (simp; omega)))) | ((with_reducible refine Below.setCell ?_ ?hB _); (case hB => (first | omega | (simp; done) | (simp; omega)))) | (with_reducible refine Below.drew ?_) | ((with_reducible refine below_ext_of ?_ ?hB); (case hB => (first | omega | (simp; done) | (simp; omega)))) | ((with_reducible refine Below.trans ?_ (Below.mono (by assumption) ?hB)); (case hB => (first | omega | (simp; done) | (simp; omega))))))⟩); rfl
theorem rm_5 (id a b x0 y0 x1 y1 : Int) (s : ByteArray) (A : Option Addr) (n c : Nat) (w : World) (h1 : (id == 0) = false) (hi : inB 0 4294967295 id = true) : Calls Tryd.prog 47 #[.agg #[.int .i64 5, .int .i64 id, .int .i64 a, .int .i64 b, .int .i64 x0, .int .i64 y0, .int .i64 x1, .int .i64 y1, .string s, .slice A n c]] w fun e w' => e = .returned (.bool true) ∧ Below w.heap.size w w' := by
  have cI := ref_inB
  generalize inB = I at *
  go_enter Tryd.func47, Tryd.ntmps47
  go_wp2_with (first | (go_at_call 81; (with_reducible refine (cI _ _ _ _).mono ?_); rintro e w1 ⟨rfl, rfl⟩))
  (go_ret; refine ⟨?_, by (repeat (first | (with_reducible exact Below.refl _ _) | ((with_reducible refine Below.alloc ?_ ?hB _); (case hB => (first | omega | (simp; done) | (simp; omega)))) | ((with_reducible refine Below.setCell ?_ ?hB _); (case hB => (first | omega | (simp; done) | (simp; omega)))) | (with_reducible refine Below.drew ?_) | ((with_reducible refine below_ext_of ?_ ?hB); (case hB => (first | omega | (simp; done) | (simp; omega)))) | ((with_reducible refine Below.trans ?_ (Below.mono (by assumption) ?hB)); (case hB => (first | omega | (simp; done) | (simp; omega))))))⟩); rfl
theorem rm_6 (id a b x0 y0 x1 y1 : Int) (s : ByteArray) (A : Option Addr) (n c : Nat) (w : World) (h1 : (id == 0) = false) (hi : inB 0 4294967295 id = true) : Calls Tryd.prog 47 #[.agg #[.int .i64 6, .int .i64 id, .int .i64 a, .int .i64 b, .int .i64 x0, .int .i64 y0, .int .i64 x1, .int .i64 y1, .string s, .slice A n c]] w fun e w' => e = .returned (.bool (rMay x0 y0 x1 y1)) ∧ Below w.heap.size w w' := by
  have cI := ref_inB
  generalize inB = I at *
  have c1 := ref_May x0 y0 x1 y1
  generalize rMay x0 y0 x1 y1 = m1 at *
  go_enter Tryd.func47, Tryd.ntmps47
  go_wp2_with (first | (go_at_call 81; (with_reducible refine (cI _ _ _ _).mono ?_); rintro e w1 ⟨rfl, rfl⟩) | (go_at_call 82; (with_reducible refine (c1 _).mono ?_); rintro e w1 ⟨rfl, hb1⟩; obtain ⟨hc1, hf1⟩ := bcell hb1; have hz1 := hb1.size; (try simp only [World.size_alloc, World.size_setCell, World.size_drew] at hz1)))
  (go_ret; refine ⟨?_, by (repeat (first | (with_reducible exact Below.refl _ _) | ((with_reducible refine Below.alloc ?_ ?hB _); (case hB => (first | omega | (simp; done) | (simp; omega)))) | ((with_reducible refine Below.setCell ?_ ?hB _); (case hB => (first | omega | (simp; done) | (simp; omega)))) | (with_reducible refine Below.drew ?_) | ((with_reducible refine below_ext_of ?_ ?hB); (case hB => (first | omega | (simp; done) | (simp; omega)))) | ((with_reducible refine Below.trans ?_ (Below.mono (by assumption) ?hB)); (case hB => (first | omega | (simp; done) | (simp; omega))))))⟩); rfl
theorem rm_7 (id a b x0 y0 x1 y1 : Int) (s : ByteArray) (A : Option Addr) (n c : Nat) (w : World) (h1 : (id == 0) = false) (hi : inB 0 4294967295 id = true) : Calls Tryd.prog 47 #[.agg #[.int .i64 7, .int .i64 id, .int .i64 a, .int .i64 b, .int .i64 x0, .int .i64 y0, .int .i64 x1, .int .i64 y1, .string s, .slice A n c]] w fun e w' => e = .returned (.bool (inB2 (-1048576) 1048576 a b)) ∧ Below w.heap.size w w' := by
  rw [inB2_and]
  have cI := ref_inB
  generalize inB = I at *
  cases ha : I (-1048576) 1048576 a
  · go_enter Tryd.func47, Tryd.ntmps47
    go_wp2_with (first | (go_at_call 81; (with_reducible refine (cI _ _ _ _).mono ?_); rintro e w1 ⟨rfl, rfl⟩))
    (go_ret; refine ⟨?_, by (repeat (first | (with_reducible exact Below.refl _ _) | ((with_reducible refine Below.alloc ?_ ?hB _); (case hB => (first | omega | (simp; done) | (simp; omega)))) | ((with_reducible refine Below.setCell ?_ ?hB _); (case hB => (first | omega | (simp; done) | (simp; omega)))) | (with_reducible refine Below.drew ?_) | ((with_reducible refine below_ext_of ?_ ?hB); (case hB => (first | omega | (simp; done) | (simp; omega)))) | ((with_reducible refine Below.trans ?_ (Below.mono (by assumption) ?hB)); (case hB => (first | omega | (simp; done) | (simp; omega))))))⟩); rfl
  · go_enter Tryd.func47, Tryd.ntmps47
    go_wp2_with (first | (go_at_call 81; (with_reducible refine (cI _ _ _ _).mono ?_); rintro e w1 ⟨rfl, rfl⟩))
    (go_ret; refine ⟨?_, by (repeat (first | (with_reducible exact Below.refl _ _) | ((with_reducible refine Below.alloc ?_ ?hB _); (case hB => (first | omega | (simp; done) | (simp; omega)))) | ((with_reducible refine Below.setCell ?_ ?hB _); (case hB => (first | omega | (simp; done) | (simp; omega)))) | (with_reducible refine Below.drew ?_) | ((with_reducible refine below_ext_of ?_ ?hB); (case hB => (first | omega | (simp; done) | (simp; omega)))) | ((with_reducible refine Below.trans ?_ (Below.mono (by assumption) ?hB)); (case hB => (first | omega | (simp; done) | (simp; omega))))))⟩); rfl
theorem rm_8 (id a b x0 y0 x1 y1 : Int) (s : ByteArray) (A : Option Addr) (n c : Nat) (w : World) (h1 : (id == 0) = false) (hi : inB 0 4294967295 id = true) : Calls Tryd.prog 47 #[.agg #[.int .i64 8, .int .i64 id, .int .i64 a, .int .i64 b, .int .i64 x0, .int .i64 y0, .int .i64 x1, .int .i64 y1, .string s, .slice A n c]] w fun e w' => e = .returned (.bool true) ∧ Below w.heap.size w w' := by
  have cI := ref_inB
  generalize inB = I at *
  go_enter Tryd.func47, Tryd.ntmps47
  go_wp2_with (first | (go_at_call 81; (with_reducible refine (cI _ _ _ _).mono ?_); rintro e w1 ⟨rfl, rfl⟩))
  (go_ret; refine ⟨?_, by (repeat (first | (with_reducible exact Below.refl _ _) | ((with_reducible refine Below.alloc ?_ ?hB _); (case hB => (first | omega | (simp; done) | (simp; omega)))) | ((with_reducible refine Below.setCell ?_ ?hB _); (case hB => (first | omega | (simp; done) | (simp; omega)))) | (with_reducible refine Below.drew ?_) | ((with_reducible refine below_ext_of ?_ ?hB); (case hB => (first | omega | (simp; done) | (simp; omega)))) | ((with_reducible refine Below.trans ?_ (Below.mono (by assumption) ?hB)); (case hB => (first | omega | (simp; done) | (simp; omega))))))⟩); rfl
theorem rm_9 (id a b x0 y0 x1 y1 : Int) (s : ByteArray) (A : Option Addr) (n c : Nat) (w : World) (h1 : (id == 0) = false) (hi : inB 0 4294967295 id = true) : Calls Tryd.prog 47 #[.agg #[.int .i64 9, .int .i64 id, .int .i64 a, .int .i64 b, .int .i64 x0, .int .i64 y0, .int .i64 x1, .int .i64 y1, .string s, .slice A n c]] w fun e w' => e = .returned (.bool true) ∧ Below w.heap.size w w' := by
  have cI := ref_inB
  generalize inB = I at *
  go_enter Tryd.func47, Tryd.ntmps47
  go_wp2_with (first | (go_at_call 81; (with_reducible refine (cI _ _ _ _).mono ?_); rintro e w1 ⟨rfl, rfl⟩))
  (go_ret; refine ⟨?_, by (repeat (first | (with_reducible exact Below.refl _ _) | ((with_reducible refine Below.alloc ?_ ?hB _); (case hB => (first | omega | (simp; done) | (simp; omega)))) | ((with_reducible refine Below.setCell ?_ ?hB _); (case hB => (first | omega | (simp; done) | (simp; omega)))) | (with_reducible refine Below.drew ?_) | ((with_reducible refine below_ext_of ?_ ?hB); (case hB => (first | omega | (simp; done) | (simp; omega)))) | ((with_reducible refine Below.trans ?_ (Below.mono (by assumption) ?hB)); (case hB => (first | omega | (simp; done) | (simp; omega))))))⟩); rfl
theorem rm_10 (id a b x0 y0 x1 y1 : Int) (s : ByteArray) (A : Option Addr) (n c : Nat) (w : World) (h1 : (id == 0) = false) (hi : inB 0 4294967295 id = true) : Calls Tryd.prog 47 #[.agg #[.int .i64 10, .int .i64 id, .int .i64 a, .int .i64 b, .int .i64 x0, .int .i64 y0, .int .i64 x1, .int .i64 y1, .string s, .slice A n c]] w fun e w' => e = .returned (.bool (inB 1 8 a)) ∧ Below w.heap.size w w' := by
  have cI := ref_inB
  generalize inB = I at *
  go_enter Tryd.func47, Tryd.ntmps47
  go_wp2_with (first | (go_at_call 81; (with_reducible refine (cI _ _ _ _).mono ?_); rintro e w1 ⟨rfl, rfl⟩))
  (go_ret; refine ⟨?_, by (repeat (first | (with_reducible exact Below.refl _ _) | ((with_reducible refine Below.alloc ?_ ?hB _); (case hB => (first | omega | (simp; done) | (simp; omega)))) | ((with_reducible refine Below.setCell ?_ ?hB _); (case hB => (first | omega | (simp; done) | (simp; omega)))) | (with_reducible refine Below.drew ?_) | ((with_reducible refine below_ext_of ?_ ?hB); (case hB => (first | omega | (simp; done) | (simp; omega)))) | ((with_reducible refine Below.trans ?_ (Below.mono (by assumption) ?hB)); (case hB => (first | omega | (simp; done) | (simp; omega))))))⟩); rfl
theorem rm_11 (id a b x0 y0 x1 y1 : Int) (s : ByteArray) (A : Option Addr) (n c : Nat) (w : World) (h1 : (id == 0) = false) (hi : inB 0 4294967295 id = true) : Calls Tryd.prog 47 #[.agg #[.int .i64 11, .int .i64 id, .int .i64 a, .int .i64 b, .int .i64 x0, .int .i64 y0, .int .i64 x1, .int .i64 y1, .string s, .slice A n c]] w fun e w' => e = .returned (.bool (rMay x0 y0 x1 y1)) ∧ Below w.heap.size w w' := by
  have cI := ref_inB
  generalize inB = I at *
  have c1 := ref_May x0 y0 x1 y1
  generalize rMay x0 y0 x1 y1 = m1 at *
  go_enter Tryd.func47, Tryd.ntmps47
  go_wp2_with (first | (go_at_call 81; (with_reducible refine (cI _ _ _ _).mono ?_); rintro e w1 ⟨rfl, rfl⟩) | (go_at_call 82; (with_reducible refine (c1 _).mono ?_); rintro e w1 ⟨rfl, hb1⟩; obtain ⟨hc1, hf1⟩ := bcell hb1; have hz1 := hb1.size; (try simp only [World.size_alloc, World.size_setCell, World.size_drew] at hz1)))
  (go_ret; refine ⟨?_, by (repeat (first | (with_reducible exact Below.refl _ _) | ((with_reducible refine Below.alloc ?_ ?hB _); (case hB => (first | omega | (simp; done) | (simp; omega)))) | ((with_reducible refine Below.setCell ?_ ?hB _); (case hB => (first | omega | (simp; done) | (simp; omega)))) | (with_reducible refine Below.drew ?_) | ((with_reducible refine below_ext_of ?_ ?hB); (case hB => (first | omega | (simp; done) | (simp; omega)))) | ((with_reducible refine Below.trans ?_ (Below.mono (by assumption) ?hB)); (case hB => (first | omega | (simp; done) | (simp; omega))))))⟩); rfl
theorem rm_12 (id a b x0 y0 x1 y1 : Int) (s : ByteArray) (A : Option Addr) (n c : Nat) (w : World) (h1 : (id == 0) = false) (hi : inB 0 4294967295 id = true) : Calls Tryd.prog 47 #[.agg #[.int .i64 12, .int .i64 id, .int .i64 a, .int .i64 b, .int .i64 x0, .int .i64 y0, .int .i64 x1, .int .i64 y1, .string s, .slice A n c]] w fun e w' => e = .returned (.bool (rMay x0 y0 x1 y1)) ∧ Below w.heap.size w w' := by
  have cI := ref_inB
  generalize inB = I at *
  have c1 := ref_May x0 y0 x1 y1
  generalize rMay x0 y0 x1 y1 = m1 at *
  go_enter Tryd.func47, Tryd.ntmps47
  go_wp2_with (first | (go_at_call 81; (with_reducible refine (cI _ _ _ _).mono ?_); rintro e w1 ⟨rfl, rfl⟩) | (go_at_call 82; (with_reducible refine (c1 _).mono ?_); rintro e w1 ⟨rfl, hb1⟩; obtain ⟨hc1, hf1⟩ := bcell hb1; have hz1 := hb1.size; (try simp only [World.size_alloc, World.size_setCell, World.size_drew] at hz1)))
  (go_ret; refine ⟨?_, by (repeat (first | (with_reducible exact Below.refl _ _) | ((with_reducible refine Below.alloc ?_ ?hB _); (case hB => (first | omega | (simp; done) | (simp; omega)))) | ((with_reducible refine Below.setCell ?_ ?hB _); (case hB => (first | omega | (simp; done) | (simp; omega)))) | (with_reducible refine Below.drew ?_) | ((with_reducible refine below_ext_of ?_ ?hB); (case hB => (first | omega | (simp; done) | (simp; omega)))) | ((with_reducible refine Below.trans ?_ (Below.mono (by assumption) ?hB)); (case hB => (first | omega | (simp; done) | (simp; omega))))))⟩); rfl
theorem rm_13 (id a b x0 y0 x1 y1 : Int) (s : ByteArray) (A : Option Addr) (n c : Nat) (w : World) (h1 : (id == 0) = false) (hi : inB 0 4294967295 id = true) : Calls Tryd.prog 47 #[.agg #[.int .i64 13, .int .i64 id, .int .i64 a, .int .i64 b, .int .i64 x0, .int .i64 y0, .int .i64 x1, .int .i64 y1, .string s, .slice A n c]] w fun e w' => e = .returned (.bool (inB 0 255 a)) ∧ Below w.heap.size w w' := by
  have cI := ref_inB
  generalize inB = I at *
  go_enter Tryd.func47, Tryd.ntmps47
  go_wp2_with (first | (go_at_call 81; (with_reducible refine (cI _ _ _ _).mono ?_); rintro e w1 ⟨rfl, rfl⟩))
  (go_ret; refine ⟨?_, by (repeat (first | (with_reducible exact Below.refl _ _) | ((with_reducible refine Below.alloc ?_ ?hB _); (case hB => (first | omega | (simp; done) | (simp; omega)))) | ((with_reducible refine Below.setCell ?_ ?hB _); (case hB => (first | omega | (simp; done) | (simp; omega)))) | (with_reducible refine Below.drew ?_) | ((with_reducible refine below_ext_of ?_ ?hB); (case hB => (first | omega | (simp; done) | (simp; omega)))) | ((with_reducible refine Below.trans ?_ (Below.mono (by assumption) ?hB)); (case hB => (first | omega | (simp; done) | (simp; omega))))))⟩); rfl
def TitR (s : ByteArray) (v : Bool) : Prop := ∀ w, Calls Tryd.prog 84 #[.string s] w fun e w' => e = .returned (.bool v) ∧ Below w.heap.size w w'
theorem rm_14 (id a b x0 y0 x1 y1 : Int) (s : ByteArray) (A : Option Addr) (n c : Nat) (w : World) (v : Bool) (h : TitR s v) (h1 : (id == 0) = false) (hi : inB 0 4294967295 id = true) : Calls Tryd.prog 47 #[.agg #[.int .i64 14, .int .i64 id, .int .i64 a, .int .i64 b, .int .i64 x0, .int .i64 y0, .int .i64 x1, .int .i64 y1, .string s, .slice A n c]] w fun e w' => e = .returned (.bool v) ∧ Below w.heap.size w w' := by
  have cI := ref_inB
  generalize inB = I at *
  unfold TitR at h
  go_enter Tryd.func47, Tryd.ntmps47
  go_wp2_with (first | (go_at_call 81; (with_reducible refine (cI _ _ _ _).mono ?_); rintro e w1 ⟨rfl, rfl⟩) | (go_at_call 84; (with_reducible refine (h _).mono ?_); rintro e w1 ⟨rfl, hb1⟩; obtain ⟨hc1, hf1⟩ := bcell hb1; have hz1 := hb1.size; (try simp only [World.size_alloc, World.size_setCell, World.size_drew] at hz1)))
  (go_ret; refine ⟨?_, by (repeat (first | (with_reducible exact Below.refl _ _) | ((with_reducible refine Below.alloc ?_ ?hB _); (case hB => (first | omega | (simp; done) | (simp; omega)))) | ((with_reducible refine Below.setCell ?_ ?hB _); (case hB => (first | omega | (simp; done) | (simp; omega)))) | (with_reducible refine Below.drew ?_) | ((with_reducible refine below_ext_of ?_ ?hB); (case hB => (first | omega | (simp; done) | (simp; omega)))) | ((with_reducible refine Below.trans ?_ (Below.mono (by assumption) ?hB)); (case hB => (first | omega | (simp; done) | (simp; omega))))))⟩); rfl
theorem rm_15 (id a b x0 y0 x1 y1 : Int) (s : ByteArray) (A : Option Addr) (n c : Nat) (w : World) (h1 : (id == 0) = false) (hi : inB 0 4294967295 id = true) : Calls Tryd.prog 47 #[.agg #[.int .i64 15, .int .i64 id, .int .i64 a, .int .i64 b, .int .i64 x0, .int .i64 y0, .int .i64 x1, .int .i64 y1, .string s, .slice A n c]] w fun e w' => e = .returned (.bool true) ∧ Below w.heap.size w w' := by
  have cI := ref_inB
  generalize inB = I at *
  go_enter Tryd.func47, Tryd.ntmps47
  go_wp2_with (first | (go_at_call 81; (with_reducible refine (cI _ _ _ _).mono ?_); rintro e w1 ⟨rfl, rfl⟩))
  (go_ret; refine ⟨?_, by (repeat (first | (with_reducible exact Below.refl _ _) | ((with_reducible refine Below.alloc ?_ ?hB _); (case hB => (first | omega | (simp; done) | (simp; omega)))) | ((with_reducible refine Below.setCell ?_ ?hB _); (case hB => (first | omega | (simp; done) | (simp; omega)))) | (with_reducible refine Below.drew ?_) | ((with_reducible refine below_ext_of ?_ ?hB); (case hB => (first | omega | (simp; done) | (simp; omega)))) | ((with_reducible refine Below.trans ?_ (Below.mono (by assumption) ?hB)); (case hB => (first | omega | (simp; done) | (simp; omega))))))⟩); rfl
theorem rm_16 (id a b x0 y0 x1 y1 : Int) (s : ByteArray) (A : Option Addr) (n c : Nat) (w : World) (h1 : (id == 0) = false) (hi : inB 0 4294967295 id = true) : Calls Tryd.prog 47 #[.agg #[.int .i64 16, .int .i64 id, .int .i64 a, .int .i64 b, .int .i64 x0, .int .i64 y0, .int .i64 x1, .int .i64 y1, .string s, .slice A n c]] w fun e w' => e = .returned (.bool true) ∧ Below w.heap.size w w' := by
  have cI := ref_inB
  generalize inB = I at *
  go_enter Tryd.func47, Tryd.ntmps47
  go_wp2_with (first | (go_at_call 81; (with_reducible refine (cI _ _ _ _).mono ?_); rintro e w1 ⟨rfl, rfl⟩))
  (go_ret; refine ⟨?_, by (repeat (first | (with_reducible exact Below.refl _ _) | ((with_reducible refine Below.alloc ?_ ?hB _); (case hB => (first | omega | (simp; done) | (simp; omega)))) | ((with_reducible refine Below.setCell ?_ ?hB _); (case hB => (first | omega | (simp; done) | (simp; omega)))) | (with_reducible refine Below.drew ?_) | ((with_reducible refine below_ext_of ?_ ?hB); (case hB => (first | omega | (simp; done) | (simp; omega)))) | ((with_reducible refine Below.trans ?_ (Below.mono (by assumption) ?hB)); (case hB => (first | omega | (simp; done) | (simp; omega))))))⟩); rfl
theorem rm_17 (id a b x0 y0 x1 y1 : Int) (s : ByteArray) (A : Option Addr) (n c : Nat) (w : World) (h1 : (id == 0) = false) (hi : inB 0 4294967295 id = true) : Calls Tryd.prog 47 #[.agg #[.int .i64 17, .int .i64 id, .int .i64 a, .int .i64 b, .int .i64 x0, .int .i64 y0, .int .i64 x1, .int .i64 y1, .string s, .slice A n c]] w fun e w' => e = .returned (.bool (inB2 (-1048576) 1048576 a b)) ∧ Below w.heap.size w w' := by
  rw [inB2_and]
  have cI := ref_inB
  generalize inB = I at *
  cases ha : I (-1048576) 1048576 a
  · go_enter Tryd.func47, Tryd.ntmps47
    go_wp2_with (first | (go_at_call 81; (with_reducible refine (cI _ _ _ _).mono ?_); rintro e w1 ⟨rfl, rfl⟩))
    (go_ret; refine ⟨?_, by (repeat (first | (with_reducible exact Below.refl _ _) | ((with_reducible refine Below.alloc ?_ ?hB _); (case hB => (first | omega | (simp; done) | (simp; omega)))) | ((with_reducible refine Below.setCell ?_ ?hB _); (case hB => (first | omega | (simp; done) | (simp; omega)))) | (with_reducible refine Below.drew ?_) | ((with_reducible refine below_ext_of ?_ ?hB); (case hB => (first | omega | (simp; done) | (simp; omega)))) | ((with_reducible refine Below.trans ?_ (Below.mono (by assumption) ?hB)); (case hB => (first | omega | (simp; done) | (simp; omega))))))⟩); rfl
  · go_enter Tryd.func47, Tryd.ntmps47
    go_wp2_with (first | (go_at_call 81; (with_reducible refine (cI _ _ _ _).mono ?_); rintro e w1 ⟨rfl, rfl⟩))
    (go_ret; refine ⟨?_, by (repeat (first | (with_reducible exact Below.refl _ _) | ((with_reducible refine Below.alloc ?_ ?hB _); (case hB => (first | omega | (simp; done) | (simp; omega)))) | ((with_reducible refine Below.setCell ?_ ?hB _); (case hB => (first | omega | (simp; done) | (simp; omega)))) | (with_reducible refine Below.drew ?_) | ((with_reducible refine below_ext_of ?_ ?hB); (case hB => (first | omega | (simp; done) | (simp; omega)))) | ((with_reducible refine Below.trans ?_ (Below.mono (by assumption) ?hB)); (case hB => (first | omega | (simp; done) | (simp; omega))))))⟩); rfl
theorem rm_18 (id a b x0 y0 x1 y1 : Int) (s : ByteArray) (A : Option Addr) (n c : Nat) (w : World) (h1 : (id == 0) = true) (hi : inB 0 4294967295 id = true) : Calls Tryd.prog 47 #[.agg #[.int .i64 18, .int .i64 id, .int .i64 a, .int .i64 b, .int .i64 x0, .int .i64 y0, .int .i64 x1, .int .i64 y1, .string s, .slice A n c]] w fun e w' => e = .returned (.bool (inB2 (-1048576) 1048576 a b)) ∧ Below w.heap.size w w' := by
  rw [inB2_and]
  have cI := ref_inB
  generalize inB = I at *
  cases ha : I (-1048576) 1048576 a
  · go_enter Tryd.func47, Tryd.ntmps47
    go_wp2_with (first | (go_at_call 81; (with_reducible refine (cI _ _ _ _).mono ?_); rintro e w1 ⟨rfl, rfl⟩))
    (go_ret; refine ⟨?_, by (repeat (first | (with_reducible exact Below.refl _ _) | ((with_reducible refine Below.alloc ?_ ?hB _); (case hB => (first | omega | (simp; done) | (simp; omega)))) | ((with_reducible refine Below.setCell ?_ ?hB _); (case hB => (first | omega | (simp; done) | (simp; omega)))) | (with_reducible refine Below.drew ?_) | ((with_reducible refine below_ext_of ?_ ?hB); (case hB => (first | omega | (simp; done) | (simp; omega)))) | ((with_reducible refine Below.trans ?_ (Below.mono (by assumption) ?hB)); (case hB => (first | omega | (simp; done) | (simp; omega))))))⟩); rfl
  · go_enter Tryd.func47, Tryd.ntmps47
    go_wp2_with (first | (go_at_call 81; (with_reducible refine (cI _ _ _ _).mono ?_); rintro e w1 ⟨rfl, rfl⟩))
    (go_ret; refine ⟨?_, by (repeat (first | (with_reducible exact Below.refl _ _) | ((with_reducible refine Below.alloc ?_ ?hB _); (case hB => (first | omega | (simp; done) | (simp; omega)))) | ((with_reducible refine Below.setCell ?_ ?hB _); (case hB => (first | omega | (simp; done) | (simp; omega)))) | (with_reducible refine Below.drew ?_) | ((with_reducible refine below_ext_of ?_ ?hB); (case hB => (first | omega | (simp; done) | (simp; omega)))) | ((with_reducible refine Below.trans ?_ (Below.mono (by assumption) ?hB)); (case hB => (first | omega | (simp; done) | (simp; omega))))))⟩); rfl
theorem rm_all (k : Nat) (hk : k < 19) (id a b x0 y0 x1 y1 : Int) (s : ByteArray) (A : Option Addr) (n c : Nat) (w : World) (v : Bool) (h : k = 14 → TitR s v) (h1 : (id == 0) = ((k : Int) == 18)) (hi : inB 0 4294967295 id = true) : Calls Tryd.prog 47 #[.agg #[.int .i64 (k : Int), .int .i64 id, .int .i64 a, .int .i64 b, .int .i64 x0, .int .i64 y0, .int .i64 x1, .int .i64 y1, .string s, .slice A n c]] w fun e w' => e = .returned (.bool (mayArg k a b x0 y0 x1 y1 v)) ∧ Below w.heap.size w w' := by
  rcases lt19 hk with rfl | rfl | rfl | rfl | rfl | rfl | rfl | rfl | rfl | rfl | rfl | rfl | rfl | rfl | rfl | rfl | rfl | rfl | rfl
  · exact rm_0 id a b x0 y0 x1 y1 s A n c w h1 hi
  · exact rm_1 id a b x0 y0 x1 y1 s A n c w h1 hi
  · exact rm_2 id a b x0 y0 x1 y1 s A n c w h1 hi
  · exact rm_3 id a b x0 y0 x1 y1 s A n c w h1 hi
  · exact rm_4 id a b x0 y0 x1 y1 s A n c w h1 hi
  · exact rm_5 id a b x0 y0 x1 y1 s A n c w h1 hi
  · exact rm_6 id a b x0 y0 x1 y1 s A n c w h1 hi
  · exact rm_7 id a b x0 y0 x1 y1 s A n c w h1 hi
  · exact rm_8 id a b x0 y0 x1 y1 s A n c w h1 hi
  · exact rm_9 id a b x0 y0 x1 y1 s A n c w h1 hi
  · exact rm_10 id a b x0 y0 x1 y1 s A n c w h1 hi
  · exact rm_11 id a b x0 y0 x1 y1 s A n c w h1 hi
  · exact rm_12 id a b x0 y0 x1 y1 s A n c w h1 hi
  · exact rm_13 id a b x0 y0 x1 y1 s A n c w h1 hi
  · exact rm_14 id a b x0 y0 x1 y1 s A n c w v (h rfl) h1 hi
  · exact rm_15 id a b x0 y0 x1 y1 s A n c w h1 hi
  · exact rm_16 id a b x0 y0 x1 y1 s A n c w h1 hi
  · exact rm_17 id a b x0 y0 x1 y1 s A n c w h1 hi
  · exact rm_18 id a b x0 y0 x1 y1 s A n c w h1 hi
end Go.Proofs.YtinnaiofgbjicaaDoor
