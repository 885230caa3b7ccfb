/- Rows of arguments of the call's own; the first arguments, cut short, walked. -/
import Derived.Test.YtinnaiofgbjicaaDoorArgG
namespace Go.Proofs.YtinnaiofgbjicaaDoor
open Go.RowKit Go.Proofs.YtinnaiofgbjicaaDoorW.PrintWords
set_option linter.unusedSimpArgs false
set_option linter.unusedVariables false
set_option maxRecDepth 1000000
/-- An argument, and where its bytes lie. -/
structure VH where
  x : V8
  A : Option Addr
  m : Nat
def VH.cells (h : VH) : List Value := [.int .i64 h.x.kind, .int .i64 h.x.n, .string h.x.s, .int .i64 h.x.x0, .int .i64 h.x.y0, .int .i64 h.x.x1, .int .i64 h.x.y1, .slice h.A h.x.b.length h.m]
def VH.reads (w : World) (h : VH) : Prop := h.x.b.length ≤ h.m ∧ ReadsInt w .u8 h.A h.x.b.length h.x.b
def flatV (L : List VH) : List Value := L.flatMap VH.cells
theorem flatV_len (L : List VH) : (flatV L).length = L.length * 8 := by
  induction L with
  | nil => rfl
  | cons h L ih => simp only [flatV, List.flatMap_cons, List.length_append, List.length_cons] at *; simp only [VH.cells, List.length_cons, List.length_nil]; omega
theorem flatV_get (L : List VH) (i j : Nat) (hi : i < L.length) (hj : j < 8) : (flatV L)[i * 8 + j]? = (L[i].cells)[j]? := by
  induction L generalizing i with
  | nil => simp at hi
  | cons h L ih =>
    have hl : h.cells.length = 8 := rfl
    show (h.cells ++ flatV L)[i * 8 + j]? = _
    cases i with
    | zero => simp only [Nat.zero_mul, Nat.zero_add, List.getElem_cons_zero]; rw [List.getElem?_append_left (by omega)]
    | succ i =>
      rw [List.getElem?_append_right (by omega), show (i + 1) * 8 + j - h.cells.length = i * 8 + j by omega]
      exact ih i (by simpa using hi)
/-- A row of arguments of the call's own; their bytes lie in an elder world. -/
def OwnV (wq w : World) (base : Nat) (v : Value) (l : List V8) : Prop := ∃ L : List VH, L.map (·.x) = l ∧ w.ownsRow base 81 8 v L.length (flatV L) ∧ ∀ h ∈ L, h.reads wq
theorem OwnV.nil (wq w : World) (base : Nat) : OwnV wq w base (.slice none 0 0) [] := ⟨[], rfl, own_nil _ _ _ _, fun h hh => by cases hh⟩
theorem OwnV.below {wq w w1 : World} {base : Nat} {v : Value} {l : List V8} (h : OwnV wq w base v l) (hb : Below w.heap.size w w1) : OwnV wq w1 base v l := by
  obtain ⟨L, h0, h1, h2⟩ := h
  exact ⟨L, h0, pw_own_below h1 hb, h2⟩
theorem add_p (g j : Nat) : (⟨g, 0, none⟩ : Addr).add j = ⟨g, j, none⟩ := by unfold Addr.add; split <;> simp_all
theorem OwnV.row {wq w : World} {base : Nat} {v : Value} {l : List V8} (h : OwnV wq w base v l) (hb : Below wq.heap.size wq w) : ∃ A c, v = .slice A l.length c ∧ l.length ≤ c ∧ VRow w A l := by
  obtain ⟨L, rfl, h1, h2⟩ := h
  obtain ⟨A, c, rfl⟩ := own_slice h1
  refine ⟨A, c, by simp, by have := own_le h1; simpa using this, fun i hi => ?_⟩
  have hi' : i < L.length := by simpa using hi
  obtain ⟨g, cap, e, _⟩ := h1.form (by omega)
  injection e with e1 e2 e3
  subst e1
  have hx : at8 (L.map (·.x)) i = L[i].x := by unfold at8; rw [List.getD_eq_getElem?_getD, List.getElem?_eq_getElem (by simpa using hi')]; simp
  have key : ∀ j u, j < 8 → (L[i].cells)[j]? = some u → w.cell? ⟨g, i * 8 + j, none⟩ = some u := fun j u hj hu => by
    have := h1.cells (g := g) rfl (i * 8 + j) u (by rw [flatV_get L i j hi' hj]; exact hu)
    rwa [add_p] at this
  have hr := h2 L[i] (List.getElem_mem _)
  rw [hx]
  refine ⟨_, L[i].A, L[i].m, rfl, ?_, ?_, ?_, ?_, ?_, ?_, ?_, ?_, hr.1, hr.2.below hb⟩
  · rw [add_p]; exact key 0 _ (by omega) rfl
  · rw [add_p]; exact key 1 _ (by omega) rfl
  · rw [add_p]; exact key 2 _ (by omega) rfl
  · rw [add_p]; exact key 3 _ (by omega) rfl
  · rw [add_p]; exact key 4 _ (by omega) rfl
  · rw [add_p]; exact key 5 _ (by omega) rfl
  · rw [add_p]; exact key 6 _ (by omega) rfl
  · rw [add_p]; exact key 7 _ (by omega) rfl
theorem OwnV.snoc {wq w : World} {base : Nat} {v : Value} {L : List VH} {l : List V8} (hv : VH) (h : w.ownsRow base 81 8 v (L.length + 1) (flatV L ++ hv.cells)) (hl : L.map (·.x) = l) (h2 : ∀ h ∈ L, h.reads wq) (hr : hv.reads wq) : OwnV wq w base v (l ++ [hv.x]) := by
  refine ⟨L ++ [hv], by simp [hl], ?_, fun h hh => ?_⟩
  · have e : flatV (L ++ [hv]) = flatV L ++ hv.cells := by simp [flatV]
    rw [e]; simpa using h
  · rcases List.mem_append.1 hh with hh | hh
    · exact h2 h hh
    · rw [List.mem_singleton.1 hh]; exact hr
theorem OwnV.row_n {wq w : World} {base : Nat} {v : Value} {l : List V8} (h : OwnV wq w base v l) : ∃ L : List VH, L.map (·.x) = l ∧ L.length = l.length ∧ w.ownsRow base 81 8 v L.length (flatV L) ∧ ∀ h ∈ L, h.reads wq := by
  obtain ⟨L, h0, h1, h2⟩ := h
  exact ⟨L, h0, by rw [← h0]; simp, h1, h2⟩
theorem info_v : (Tryd.prog.info? 81).map (fun i => (i.zero, i.size, i.bytes)) = some (some (.agg #[.int .i64 0, .int .i64 0, .string ⟨#[]⟩, .int .i64 0, .int .i64 0, .int .i64 0, .int .i64 0, .slice none 0 0]), 8, 88) := by kernel_rfl
def fewX (x : V8) : V8 := { x with s := x.s.extract 0 (min x.s.size 300), b := x.b.take (min x.b.length 300) }
def fewL (l : List V8) : List V8 := (l.take 10).map fewX
theorem fewL_len (l : List V8) : (fewL l).length = min 10 l.length := by simp [fewL]
theorem take_at8 (l : List V8) (k : Nat) (h : k < l.length) : l.take (k + 1) = l.take k ++ [at8 l k] := by
  rw [List.take_succ_eq_append_getElem h]; unfold at8; rw [List.getD_eq_getElem?_getD, List.getElem?_eq_getElem h]; rfl
end Go.Proofs.YtinnaiofgbjicaaDoor
