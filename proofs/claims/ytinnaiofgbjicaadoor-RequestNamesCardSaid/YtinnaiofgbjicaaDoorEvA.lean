/- Rows of events, read and of the call's own. -/
import Derived.Test.YtinnaiofgbjicaaDoorUnpA
namespace Go.Proofs.YtinnaiofgbjicaaDoor
open Go.RowKit Go.Proofs.YtinnaiofgbjicaaDoorW.PrintWords
set_option linter.unusedSimpArgs false
set_option linter.unusedVariables false
set_option maxRecDepth 1000000
/-- An event: its kind, its id, its numbers. -/
@[ext] structure E4 where
  k : Int
  id : Int
  a : Int
  b : Int
deriving DecidableEq
structure E4.Bd (e : E4) : Prop where
  k : -9223372036854775808 ≤ e.k ∧ e.k ≤ 9223372036854775807
  id : -9223372036854775808 ≤ e.id ∧ e.id ≤ 9223372036854775807
  a : -9223372036854775808 ≤ e.a ∧ e.a ≤ 9223372036854775807
  b : -9223372036854775808 ≤ e.b ∧ e.b ≤ 9223372036854775807
def E4.cells (e : E4) : List Value := [.int .i64 e.k, .int .i64 e.id, .int .i64 e.a, .int .i64 e.b]
def e0 : E4 := ⟨0, 0, 0, 0⟩
def atE (l : List E4) (i : Nat) : E4 := l.getD i e0
theorem atE_get {l : List E4} {i : Nat} (h : i < l.length) : atE l i = l[i] := by unfold atE; rw [List.getD_eq_getElem?_getD, List.getElem?_eq_getElem h]; rfl
def flatE (l : List E4) : List Value := l.flatMap E4.cells
theorem flatE_append (l m : List E4) : flatE (l ++ m) = flatE l ++ flatE m := by simp [flatE]
theorem flatE_one (e : E4) : flatE [e] = [.int .i64 e.k, .int .i64 e.id, .int .i64 e.a, .int .i64 e.b] := rfl
theorem flatE_len (l : List E4) : (flatE l).length = l.length * 4 := by
  induction l with
  | nil => rfl
  | cons h l ih => simp only [flatE, List.flatMap_cons, List.length_append, List.length_cons] at *; simp only [E4.cells, List.length_cons, List.length_nil]; omega
theorem flatE_get (l : List E4) (i j : Nat) (hi : i < l.length) (hj : j < 4) : (flatE l)[i * 4 + j]? = ((atE l i).cells)[j]? := by
  rw [atE_get hi]
  induction l generalizing i with
  | nil => simp at hi
  | cons h l ih =>
    have hl : h.cells.length = 4 := rfl
    show (h.cells ++ flatE l)[i * 4 + j]? = _
    cases i with
    | zero => simp only [Nat.zero_mul, Nat.zero_add, List.getElem_cons_zero]; rw [List.getElem?_append_left (by omega)]
    | succ i =>
      rw [List.getElem?_append_right (by omega), show (i + 1) * 4 + j - h.cells.length = i * 4 + j by omega]
      exact ih i (by simpa using hi)
theorem add_fieldE (ad : Addr) (n j : Nat) (hj : 0 < j) : ad.add (n + j) = ⟨(ad.add n).block, (ad.add n).off + j, none⟩ := add_field _ _ _ hj
/-- A row of events, read. -/
def ERow (w : World) (A : Option Addr) (l : List E4) : Prop := ∀ i, i < l.length → ∃ ad, A = some ad ∧
  w.cell? (ad.add (i * 4)) = some (.int .i64 (atE l i).k) ∧ w.cell? ⟨(ad.add (i * 4)).block, (ad.add (i * 4)).off + 1, none⟩ = some (.int .i64 (atE l i).id) ∧
  w.cell? ⟨(ad.add (i * 4)).block, (ad.add (i * 4)).off + 2, none⟩ = some (.int .i64 (atE l i).a) ∧ w.cell? ⟨(ad.add (i * 4)).block, (ad.add (i * 4)).off + 3, none⟩ = some (.int .i64 (atE l i).b)
theorem ERow.below {w w1 : World} {A : Option Addr} {l : List E4} (h : ERow w A l) (hb : Below w.heap.size w w1) : ERow w1 A l := by
  intro i hi
  obtain ⟨ad, rfl, h0, h1, h2, h3⟩ := h i hi
  exact ⟨ad, rfl, pw_cell_below hb h0, pw_cell_below hb h1, pw_cell_below hb h2, pw_cell_below hb h3⟩
theorem ERow.nil (w : World) (A : Option Addr) : ERow w A [] := fun i hi => by simp at hi
/-- A slice of events: its row, its room. -/
structure ER (w : World) (A : Option Addr) (l : List E4) (c : Nat) : Prop where
  le : l.length ≤ c
  nil : A = none → c = 0
  max : c ≤ 9223372036854775807
  row : ERow w A l
theorem ER.below {w w1 : World} {A : Option Addr} {l : List E4} {c : Nat} (h : ER w A l c) (hb : Below w.heap.size w w1) : ER w1 A l c := ⟨h.le, h.nil, h.max, h.row.below hb⟩
theorem ER.len {w : World} {A : Option Addr} {l : List E4} {c : Nat} (h : ER w A l c) : l.length ≤ 9223372036854775807 := Nat.le_trans h.le h.max
theorem ERow.of_news {w : World} {ad : Addr} {l : List E4} (h : ∀ j u, (flatE l)[j]? = some u → w.cell? (ad.add j) = some u) : ERow w (some ad) l := by
  intro i hi
  refine ⟨ad, rfl, h _ _ ?_, ?_, ?_, ?_⟩
  · have := flatE_get l i 0 hi (by omega); rw [Nat.add_zero] at this; rw [this]; rfl
  · rw [← add_field _ _ _ (by omega)]; exact h _ _ (by rw [flatE_get l i 1 hi (by omega)]; rfl)
  · rw [← add_field _ _ _ (by omega)]; exact h _ _ (by rw [flatE_get l i 2 hi (by omega)]; rfl)
  · rw [← add_field _ _ _ (by omega)]; exact h _ _ (by rw [flatE_get l i 3 hi (by omega)]; rfl)
/-- A row of events of the call's own. -/
def OwnE (w : World) (base : Nat) (t : TypeId) (v : Value) (l : List E4) : Prop := w.ownsRow base t 4 v l.length (flatE l)
theorem OwnE.nil (w : World) (base : Nat) (t : TypeId) : OwnE w base t (.slice none 0 0) [] := own_nil _ _ _ _
theorem OwnE.below {w w1 : World} {base : Nat} {t : TypeId} {v : Value} {l : List E4} (h : OwnE w base t v l) (hb : Below w.heap.size w w1) : OwnE w1 base t v l := pw_own_below h hb
theorem OwnE.mono {w : World} {b1 b2 : Nat} {t : TypeId} {v : Value} {l : List E4} (h : OwnE w b1 t v l) (hb : b2 ≤ b1) : OwnE w b2 t v l := by
  refine ⟨h.1, h.2.imp id fun ⟨g, cap, cur, h0, h1, h2⟩ => ⟨g, cap, cur, h0, by omega, h2⟩⟩
theorem OwnE.er {w : World} {base : Nat} {t : TypeId} {v : Value} {l : List E4} (h : OwnE w base t v l) : ∃ A c, v = .slice A l.length c ∧ ER w A l c := by
  rcases h.2 with ⟨rfl, h0⟩ | ⟨g, cap, cur, rfl, hg, hh, h1, h2, _⟩
  · obtain rfl := List.eq_nil_of_length_eq_zero h0
    exact ⟨none, 0, rfl, Nat.le_refl _, fun _ => rfl, by omega, ERow.nil _ _⟩
  · exact ⟨_, cap, rfl, h1, fun e => (by cases e), (by unfold maxLen at h2; omega), ERow.of_news (World.ownsRow.cells h (g := g) rfl)⟩
theorem OwnE.snoc {w : World} {base : Nat} {t : TypeId} {v : Value} {l : List E4} {k : E4} (h : w.ownsRow base t 4 v (l.length + 1) (flatE l ++ [.int .i64 k.k, .int .i64 k.id, .int .i64 k.a, .int .i64 k.b])) : OwnE w base t v (l ++ [k]) := by
  unfold OwnE; rw [flatE_append, flatE_one, List.length_append]; exact h
theorem takeEv (l : List E4) (k : Nat) (h : k < l.length) : l.take (k + 1) = l.take k ++ [atE l k] := by
  rw [List.take_succ_eq_append_getElem h, atE_get h]
theorem info_ee : (Tryd.prog.info? 51).map (fun i => (i.zero, i.size, i.bytes)) = some (some (.agg #[.int .i64 0, .int .i64 0, .int .i64 0, .int .i64 0]), 4, 32) := by kernel_rfl
theorem info_ev : (Tryd.prog.info? 57).map (fun i => (i.zero, i.size, i.bytes)) = some (some (.agg #[.int .i64 0, .int .i64 0, .int .i64 0, .int .i64 0]), 4, 32) := by kernel_rfl
def RowE (w : World) (t : TypeId) (l : List E4) (e : Ending) (w' : World) : Prop := ∃ v, e = .returned v ∧ OwnE w' w.heap.size t v l ∧ Below w.heap.size w w'
theorem er_new (w : World) (t : TypeId) (l : List E4) (hl : l.length ≤ 100000) : ER (w.alloc (.cells (flatE l).toArray t)) (some ⟨w.heap.size, 0, none⟩) l l.length := by
  refine ⟨Nat.le_refl _, fun e => (by cases e), by omega, ERow.of_news fun j u hj => ?_⟩
  rw [add_p, World.cell?_alloc_new]; simpa using hj
end Go.Proofs.YtinnaiofgbjicaaDoor
