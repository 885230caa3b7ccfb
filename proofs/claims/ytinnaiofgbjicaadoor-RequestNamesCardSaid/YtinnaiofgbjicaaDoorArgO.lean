/- Whether two arguments are the same, told by the document's function; a row of arguments of the call's own, written into: walked. -/
import Derived.Test.YtinnaiofgbjicaaDoorArgN
namespace Go.Proofs.YtinnaiofgbjicaaDoor
open Go.RowKit Go.Proofs.YtinnaiofgbjicaaDoorW.PrintWords
set_option linter.unusedSimpArgs false
set_option linter.unusedVariables false
set_option maxRecDepth 1000000
theorem eqRectG (d : Nat) (w : World) (x0 x1 x2 x3 y0 y1 y2 y3 : Int) :
    (Op.equalIn (d + 2) 26 (.agg #[.int .i64 (x0), .int .i64 (x1), .int .i64 (x2), .int .i64 (x3)]) (.agg #[.int .i64 (y0), .int .i64 (y1), .int .i64 (y2), .int .i64 (y3)])).run Tryd.prog w = .ok (x0 == y0 && (x1 == y1 && (x2 == y2 && (x3 == y3 && true)))) w := by
  refine eqA_of Tryd.underlying26 (by kernel_rfl) ?_
  refine eqf_cons (by rfl) (by go_simp; rfl) (by go_simp; rfl) (by go_simp) ?_
  refine eqf_cons (by rfl) (by go_simp; rfl) (by go_simp; rfl) (by go_simp) ?_
  refine eqf_cons (by rfl) (by go_simp; rfl) (by go_simp; rfl) (by go_simp) ?_
  refine eqf_cons (by rfl) (by go_simp; rfl) (by go_simp; rfl) (by go_simp) ?_
  exact eqf_nil
theorem eqRectS (d : Nat) (w : World) (x0 x1 x2 x3 : Int) : (Op.equalIn (d + 2) 26 (.agg #[.int .i64 (x0), .int .i64 (x1), .int .i64 (x2), .int .i64 (x3)]) (.agg #[.int .i64 (x0), .int .i64 (x1), .int .i64 (x2), .int .i64 (x3)])).run Tryd.prog w = .ok true w := by
  have := eqRectG d w x0 x1 x2 x3 x0 x1 x2 x3
  rw [this]; simp
attribute [local go_sem high] eqRectS
theorem flatV_set (L : List VH) (k j : Nat) (u : Value) (h' : VH) (hk : k < L.length) (hj : j < 8) (hc : h'.cells = L[k].cells.set j u) : (flatV L).set (k * 8 + j) u = flatV (L.set k h') := by
  induction L generalizing k with
  | nil => simp at hk
  | cons h L ih =>
    have hl : h.cells.length = 8 := rfl
    show (h.cells ++ flatV L).set (k * 8 + j) u = _
    cases k with
    | zero =>
      simp only [Nat.zero_mul, Nat.zero_add, List.set_cons_zero]
      rw [List.set_append_left _ _ (by omega)]
      simp only [List.getElem_cons_zero] at hc
      rw [← hc]; rfl
    | succ k =>
      rw [List.set_append_right _ _ (by omega), show (k + 1) * 8 + j - h.cells.length = k * 8 + j by omega]
      simp only [List.getElem_cons_succ] at hc
      rw [ih k (by simpa using hk) hc]
      rfl
/-- A row of the call's own whose block is known, with each argument's place. -/
def OwnL (wq w : World) (base g c : Nat) (L : List VH) : Prop := w.ownsRow base 81 8 (.slice (some ⟨g, 0, none⟩) L.length c) L.length (flatV L) ∧ ∀ h ∈ L, h.reads wq
theorem OwnL.get {wq w : World} {base g c : Nat} {L : List VH} (h : OwnL wq w base g c L) (k j : Nat) (hk : k < L.length) (hj : j < 8) : w.cell? ⟨g, k * 8 + j, none⟩ = (L[k].cells)[j]? := by
  have : k * 8 + j < L.length * 8 := by omega
  rw [h.1.cellAt _ this, flatV_get L k j hk hj]
theorem OwnL.free {wq w : World} {base g c : Nat} {L : List VH} (h : OwnL wq w base g c L) (j : Nat) : w.frozen? ⟨g, j, none⟩ = false := h.1.frozenAt j
theorem OwnL.set {wq w : World} {base g c : Nat} {L : List VH} (h : OwnL wq w base g c L) (k j : Nat) (u : Value) (h' : VH) (hk : k < L.length) (hj : j < 8) (hc : h'.cells = L[k].cells.set j u) (hr : h'.reads wq) : OwnL wq (w.setCell ⟨g, k * 8 + j, none⟩ u) base g c (L.set k h') := by
  have := (h.1.stored (k * 8 + j) u).1
  rw [flatV_set L k j u h' hk hj hc] at this
  refine ⟨by rw [List.length_set]; exact this, fun q hq => ?_⟩
  rcases List.mem_or_eq_of_mem_set hq with hq | rfl
  · exact h.2 q hq
  · exact hr
theorem OwnL.ge {wq w : World} {base g c : Nat} {L : List VH} (h : OwnL wq w base g c L) : base ≤ g ∧ g < w.heap.size := h.1.lt g rfl
theorem OwnL.row {wq w : World} {base g c : Nat} {L : List VH} (h : OwnL wq w base g c L) (hb : Below wq.heap.size wq w) : VRow w (some ⟨g, 0, none⟩) (L.map (·.x)) := by
  have ho : OwnV wq w base (.slice (some ⟨g, 0, none⟩) L.length c) (L.map (·.x)) := ⟨L, rfl, h.1, h.2⟩
  obtain ⟨A, c', e, _, hr⟩ := ho.row hb
  injection e with e1 e2 e3
  rw [e1]; exact hr
theorem OwnL.of {wq w : World} {base : Nat} {v : Value} {l : List V8} (h : OwnV wq w base v l) (hn : 0 < l.length) : ∃ g c L, v = .slice (some ⟨g, 0, none⟩) l.length c ∧ l.length ≤ c ∧ L.map VH.x = l ∧ OwnL wq w base g c L := by
  obtain ⟨L, hL, h1, h2⟩ := h
  have hl : L.length = l.length := by rw [← hL]; simp
  obtain ⟨g, c, rfl, _, _⟩ := h1.form (by omega)
  have := own_le h1
  rw [hl] at this
  exact ⟨g, c, L, by rw [hl], this, hL, by rw [hl] at h1; rw [← hl] at h1; exact ⟨h1, h2⟩⟩
end Go.Proofs.YtinnaiofgbjicaaDoor
