/- Lists of arguments: read, and as values of any type, walked. -/
import Derived.Test.YtinnaiofgbjicaaDoorArgF
namespace Go.Proofs.YtinnaiofgbjicaaDoor
open Go.RowKit Go.Proofs.YtinnaiofgbjicaaDoorW.PrintWords
set_option linter.unusedSimpArgs false
set_option linter.unusedVariables false
set_option maxRecDepth 1000000
def v0 : V8 := ⟨0, 0, ⟨#[]⟩, 0, 0, 0, 0, []⟩
def at8 (l : List V8) (i : Nat) : V8 := l.getD i v0
/-- A row of arguments, read. -/
def VRow (w : World) (A : Option Addr) (l : List V8) : Prop := ∀ i, i < l.length → ∃ ad Ab m, A = some ad ∧
  w.cell? (ad.add (i * 8)) = some (.int .i64 (at8 l i).kind) ∧ w.cell? ⟨(ad.add (i * 8)).block, (ad.add (i * 8)).off + 1, none⟩ = some (.int .i64 (at8 l i).n) ∧
  w.cell? ⟨(ad.add (i * 8)).block, (ad.add (i * 8)).off + 2, none⟩ = some (.string (at8 l i).s) ∧ w.cell? ⟨(ad.add (i * 8)).block, (ad.add (i * 8)).off + 3, none⟩ = some (.int .i64 (at8 l i).x0) ∧
  w.cell? ⟨(ad.add (i * 8)).block, (ad.add (i * 8)).off + 4, none⟩ = some (.int .i64 (at8 l i).y0) ∧ w.cell? ⟨(ad.add (i * 8)).block, (ad.add (i * 8)).off + 5, none⟩ = some (.int .i64 (at8 l i).x1) ∧
  w.cell? ⟨(ad.add (i * 8)).block, (ad.add (i * 8)).off + 6, none⟩ = some (.int .i64 (at8 l i).y1) ∧ w.cell? ⟨(ad.add (i * 8)).block, (ad.add (i * 8)).off + 7, none⟩ = some (.slice Ab (at8 l i).b.length m) ∧
  (at8 l i).b.length ≤ m ∧ ReadsInt w .u8 Ab (at8 l i).b.length (at8 l i).b
theorem VRow.below {w w1 : World} {A : Option Addr} {l : List V8} (h : VRow w A l) (hb : Below w.heap.size w w1) : VRow w1 A l := by
  intro i hi
  obtain ⟨ad, Ab, m, rfl, h0, h1, h2, h3, h4, h5, h6, h7, h8, h9⟩ := h i hi
  exact ⟨ad, Ab, m, rfl, pw_cell_below hb h0, pw_cell_below hb h1, pw_cell_below hb h2, pw_cell_below hb h3, pw_cell_below hb h4, pw_cell_below hb h5, pw_cell_below hb h6, pw_cell_below hb h7, h8, h9.below hb⟩
def AllOk (l : List V8) : Prop := ∀ i, i < l.length → (at8 l i).Ok
/-- A row of values of any type, read. -/
def AnyRow (w : World) (A : Option Addr) (l : List V8) : Prop := ∀ i, i < l.length → ∃ ad u, A = some ad ∧ w.cell? (ad.add i) = some u ∧ AnyR w (at8 l i) u
theorem AnyRow.below {w w1 : World} {A : Option Addr} {l : List V8} (h : AnyRow w A l) (hb : Below w.heap.size w w1) : AnyRow w1 A l := by
  intro i hi
  obtain ⟨ad, u, rfl, h0, h1⟩ := h i hi
  exact ⟨ad, u, rfl, pw_cell_below hb h0, h1.below hb⟩
/-- A row of such values of the call's own; what they lead to is read in an elder world. -/
def OwnAny (wq w : World) (base : Nat) (v : Value) (l : List V8) (k : Nat) : Prop := ∃ cells : List Value, w.ownsRow base 20 1 v cells.length cells ∧ cells.length = k ∧ ∀ i, i < k → AnyR wq (at8 l i) (cells.getD i .nilIface)
theorem OwnAny.below {wq w w1 : World} {base : Nat} {v : Value} {l : List V8} {k : Nat} (h : OwnAny wq w base v l k) (hb : Below w.heap.size w w1) : OwnAny wq w1 base v l k := by
  obtain ⟨cs, h1, h2, h3⟩ := h
  exact ⟨cs, pw_own_below h1 hb, h2, fun i hi => (h3 i hi)⟩
theorem OwnAny.row {wq w : World} {base : Nat} {v : Value} {l : List V8} (h : OwnAny wq w base v l l.length) (hb : Below wq.heap.size wq w) : ∃ A c, v = .slice A l.length c ∧ l.length ≤ c ∧ AnyRow w A l := by
  obtain ⟨cs, h1, h2, h3⟩ := h
  obtain ⟨A, c, rfl⟩ := own_slice h1
  refine ⟨A, c, by rw [h2], by have := own_le h1; omega, fun i hi => ?_⟩
  obtain ⟨g, cap, e, _⟩ := h1.form (by omega)
  injection e with e1 e2 e3
  subst e1
  refine ⟨_, cs.getD i .nilIface, rfl, h1.cells (g := g) rfl i _ ?_, (h3 i hi).below hb⟩
  rw [List.getD_eq_getElem?_getD, List.getElem?_eq_getElem (by omega)]; simp
theorem OwnAny.nil (wq w : World) (base : Nat) (l : List V8) : OwnAny wq w base (.slice none 0 0) l 0 := ⟨[], own_nil _ _ _ _, rfl, fun i hi => by omega⟩
theorem OwnAny.snoc {wq w : World} {base : Nat} {v : Value} {cs : List Value} {u : Value} {l : List V8} {k : Nat} (h : w.ownsRow base 20 1 v (cs ++ [u]).length (cs ++ [u])) (hk : cs.length = k) (h3 : ∀ i, i < k → AnyR wq (at8 l i) (cs.getD i .nilIface)) (hu : AnyR wq (at8 l k) u) : OwnAny wq w base v l (k + 1) := by
  refine ⟨cs ++ [u], h, by simp [hk], fun i hi => ?_⟩
  by_cases e : i = k
  · subst e; subst hk; simpa using hu
  · have : (cs ++ [u]).getD i Value.nilIface = cs.getD i Value.nilIface := by
      rw [List.getD_eq_getElem?_getD, List.getD_eq_getElem?_getD, List.getElem?_append_left (by omega)]
    rw [this]; exact h3 i (by omega)
theorem info_any : (Tryd.prog.info? 20).map (fun i => (i.zero, i.size, i.bytes)) = some (some .nilIface, 1, 16) := by kernel_rfl
theorem AnyR.iface {w : World} {x : V8} {v : Value} (h : AnyR w x v) : ∃ t y, v = .iface t y := by cases h <;> exact ⟨_, _, rfl⟩
end Go.Proofs.YtinnaiofgbjicaaDoor
