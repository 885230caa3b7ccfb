/- The form and the name of an operation, walked. -/
import Derived.Test.YtinnaiofgbjicaaDoorReqA
namespace Go.Proofs.YtinnaiofgbjicaaDoor
open Go.RowKit Go.Proofs.YtinnaiofgbjicaaDoorW.PrintWords
set_option linter.unusedSimpArgs false
set_option linter.unusedVariables false
set_option maxRecDepth 1000000
def emp : ByteArray := { data := #[] }
def nameQ (k : Nat) : ByteArray := namesQ.getD k emp
def formQ (k : Nat) : ByteArray := formsQ.getD k emp
theorem lt19 {k : Nat} (h : k < 19) : k = 0 ∨ k = 1 ∨ k = 2 ∨ k = 3 ∨ k = 4 ∨ k = 5 ∨ k = 6 ∨ k = 7 ∨ k = 8 ∨ k = 9 ∨ k = 10 ∨ k = 11 ∨ k = 12 ∨ k = 13 ∨ k = 14 ∨ k = 15 ∨ k = 16 ∨ k = 17 ∨ k = 18 := by omega
theorem kinds_at (k : Nat) (h : k < 19) (W : World) : (Instr.index 95 (.agg kindsA) (.int .i64 k)).run Tryd.prog W = .ok (.agg #[.string (nameQ k), .string (formQ k), .func (.func (mayQ.getD k 0)) #[] #[]]) W := by
  rcases lt19 h with rfl | rfl | rfl | rfl | rfl | rfl | rfl | rfl | rfl | rfl | rfl | rfl | rfl | rfl | rfl | rfl | rfl | rfl | rfl <;> kernel_rfl
theorem field_name (a b : ByteArray) (v : Value) (W : World) : (Instr.field 94 (.agg #[.string a, .string b, v]) 0).run Tryd.prog W = .ok (.string a) W := by kernel_rfl
theorem field_form (a b : ByteArray) (v : Value) (W : World) : (Instr.field 94 (.agg #[.string a, .string b, v]) 1).run Tryd.prog W = .ok (.string b) W := by kernel_rfl
theorem field_may (a b : ByteArray) (v : Value) (W : World) : (Instr.field 94 (.agg #[.string a, .string b, v]) 2).run Tryd.prog W = .ok v W := by kernel_rfl
theorem req_FormY (k : Nat) (w : World) (h : k < 19) : Calls Tryd.prog 19 #[.int .i64 k] w fun e w' => e = .returned (.tuple #[.string (formQ k), .bool true]) ∧ Below w.heap.size w w' := by
  have hk0 : (0 : Int) ≤ (k : Int) := (by omega); have hk1 : (k : Int) < 19 := (by omega); have cK := req_kinds; have hKi := kinds_at k h; have hf0 := field_name; have hf1 := field_form; have hf2 := field_may; generalize kindsA = K at *
  generalize nameQ k = nm at *
  generalize formQ k = fm at *
  go_enter Tryd.func19, Tryd.ntmps19
  go_wp2_with (first | (go_at_call 45; (with_reducible refine (cK _).mono ?_); rintro en w1 ⟨rfl, hb1⟩; obtain ⟨hc1, hf1⟩ := bcell hb1; have hz1 := hb1.size))
  go_ret2
  exact ⟨rfl, by (repeat (first | (with_reducible exact Below.refl _ _) | ((with_reducible refine Below.alloc ?_ ?hB _); (case hB => (first | omega | (simp; done) | (simp; omega)))) | ((with_reducible refine Below.setCell ?_ ?hB _); (case hB => (first | omega | (simp; done) | (simp; omega)))) | (with_reducible refine Below.drew ?_) | ((with_reducible refine below_ext_of ?_ ?hB); (case hB => (first | omega | (simp; done) | (simp; omega)))) | ((with_reducible refine Below.trans ?_ (Below.mono (by assumption) ?hB)); (case hB => (first | omega | (simp; done) | (simp; omega))))))⟩
theorem req_NameY (k : Nat) (w : World) (h : k < 19) : Calls Tryd.prog 20 #[.int .i64 k] w fun e w' => e = .returned (.string (nameQ k)) ∧ Below w.heap.size w w' := by
  have hk0 : (0 : Int) ≤ (k : Int) := (by omega); have hk1 : (k : Int) < 19 := (by omega); have cK := req_kinds; have hKi := kinds_at k h; have hf0 := field_name; have hf1 := field_form; have hf2 := field_may; generalize kindsA = K at *
  generalize nameQ k = nm at *
  generalize formQ k = fm at *
  go_enter Tryd.func20, Tryd.ntmps20
  go_wp2_with (first | (go_at_call 45; (with_reducible refine (cK _).mono ?_); rintro en w1 ⟨rfl, hb1⟩; obtain ⟨hc1, hf1⟩ := bcell hb1; have hz1 := hb1.size))
  go_ret
  exact ⟨rfl, by (repeat (first | (with_reducible exact Below.refl _ _) | ((with_reducible refine Below.alloc ?_ ?hB _); (case hB => (first | omega | (simp; done) | (simp; omega)))) | ((with_reducible refine Below.setCell ?_ ?hB _); (case hB => (first | omega | (simp; done) | (simp; omega)))) | (with_reducible refine Below.drew ?_) | ((with_reducible refine below_ext_of ?_ ?hB); (case hB => (first | omega | (simp; done) | (simp; omega)))) | ((with_reducible refine Below.trans ?_ (Below.mono (by assumption) ?hB)); (case hB => (first | omega | (simp; done) | (simp; omega))))))⟩
theorem req_FormN (op : Int) (w : World) (h : op < 0 ∨ (0 ≤ op ∧ 19 ≤ op)) : Calls Tryd.prog 19 #[.int .i64 op] w fun e w' => e = .returned (.tuple #[.string emp, .bool false]) ∧ Below w.heap.size w w' := by
  rcases h with h1 | ⟨h1, h2⟩
  all_goals
    go_enter Tryd.func19, Tryd.ntmps19
    go_wp2
    go_ret2
    exact ⟨rfl, by (repeat (first | (with_reducible exact Below.refl _ _) | ((with_reducible refine Below.alloc ?_ ?hB _); (case hB => (first | omega | (simp; done) | (simp; omega)))) | ((with_reducible refine Below.setCell ?_ ?hB _); (case hB => (first | omega | (simp; done) | (simp; omega)))) | (with_reducible refine Below.drew ?_) | ((with_reducible refine below_ext_of ?_ ?hB); (case hB => (first | omega | (simp; done) | (simp; omega)))) | ((with_reducible refine Below.trans ?_ (Below.mono (by assumption) ?hB)); (case hB => (first | omega | (simp; done) | (simp; omega))))))⟩
theorem req_NameN (op : Int) (w : World) (h : op < 0 ∨ (0 ≤ op ∧ 19 ≤ op)) : Calls Tryd.prog 20 #[.int .i64 op] w fun e w' => e = .returned (.string emp) ∧ Below w.heap.size w w' := by
  rcases h with h1 | ⟨h1, h2⟩
  all_goals
    go_enter Tryd.func20, Tryd.ntmps20
    go_wp2
    go_ret
    exact ⟨rfl, by (repeat (first | (with_reducible exact Below.refl _ _) | ((with_reducible refine Below.alloc ?_ ?hB _); (case hB => (first | omega | (simp; done) | (simp; omega)))) | ((with_reducible refine Below.setCell ?_ ?hB _); (case hB => (first | omega | (simp; done) | (simp; omega)))) | (with_reducible refine Below.drew ?_) | ((with_reducible refine below_ext_of ?_ ?hB); (case hB => (first | omega | (simp; done) | (simp; omega)))) | ((with_reducible refine Below.trans ?_ (Below.mono (by assumption) ?hB)); (case hB => (first | omega | (simp; done) | (simp; omega))))))⟩
def RowQ (w : World) (l : List ByteArray) (e : Ending) (w' : World) : Prop := ∃ g, e = .returned (.slice (some ⟨g, 0, none⟩) 19 19) ∧ w.heap.size ≤ g ∧ g < w'.heap.size ∧ (∀ k, k < 19 → w'.cell? ⟨g, k, none⟩ = some (.string (l.getD k emp))) ∧ Below w.heap.size w w'
theorem ref_Forms (w : World) : Calls Tryd.prog 21 #[] w (RowQ w formsQ) := by
  go_enter Tryd.func21, Tryd.ntmps21
  go_wp2
  go_ret
  refine ⟨w.heap.size, rfl, Nat.le_refl _, by simp, fun k hk => ?_, by (repeat (first | (with_reducible exact Below.refl _ _) | ((with_reducible refine Below.alloc ?_ ?hB _); (case hB => (first | omega | (simp; done) | (simp; omega)))) | ((with_reducible refine Below.setCell ?_ ?hB _); (case hB => (first | omega | (simp; done) | (simp; omega)))) | (with_reducible refine Below.drew ?_) | ((with_reducible refine below_ext_of ?_ ?hB); (case hB => (first | omega | (simp; done) | (simp; omega)))) | ((with_reducible refine Below.trans ?_ (Below.mono (by assumption) ?hB)); (case hB => (first | omega | (simp; done) | (simp; omega))))))⟩
  rw [World.cell?_alloc_new]
  rcases lt19 hk with rfl | rfl | rfl | rfl | rfl | rfl | rfl | rfl | rfl | rfl | rfl | rfl | rfl | rfl | rfl | rfl | rfl | rfl | rfl <;> rfl
theorem ref_Names (w : World) : Calls Tryd.prog 22 #[] w (RowQ w namesQ) := by
  go_enter Tryd.func22, Tryd.ntmps22
  go_wp2
  go_ret
  refine ⟨w.heap.size, rfl, Nat.le_refl _, by simp, fun k hk => ?_, by (repeat (first | (with_reducible exact Below.refl _ _) | ((with_reducible refine Below.alloc ?_ ?hB _); (case hB => (first | omega | (simp; done) | (simp; omega)))) | ((with_reducible refine Below.setCell ?_ ?hB _); (case hB => (first | omega | (simp; done) | (simp; omega)))) | (with_reducible refine Below.drew ?_) | ((with_reducible refine below_ext_of ?_ ?hB); (case hB => (first | omega | (simp; done) | (simp; omega)))) | ((with_reducible refine Below.trans ?_ (Below.mono (by assumption) ?hB)); (case hB => (first | omega | (simp; done) | (simp; omega))))))⟩
  rw [World.cell?_alloc_new]
  rcases lt19 hk with rfl | rfl | rfl | rfl | rfl | rfl | rfl | rfl | rfl | rfl | rfl | rfl | rfl | rfl | rfl | rfl | rfl | rfl | rfl <;> rfl
end Go.Proofs.YtinnaiofgbjicaaDoor
