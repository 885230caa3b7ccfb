/- Deeds that came in, opened. -/
import Derived.Test.YteldbnelfeiifaaStkZi
import Derived.Test.YteldbnelfeiifaaOpenK
namespace Go.Proofs.Yteldbnelfeiifaa
open Go.ChangeShapes Go.WideShapes Go.ChangeAt Go.RowKit Go.Joins Go.Proofs.YteldbnelfeiifaaW.PrintWords
set_option linter.unusedVariables false
set_option maxRecDepth 1000000
theorem cells_d : Try.prog.cellsOf 84 = 5 := by kernel_rfl
def D5.cells (x : D5) : List Value := [.int .i64 x.n, .int .i64 x.a.c, .int .i64 x.a.i, .int .i64 x.b.c, .int .i64 x.b.i]
theorem trod_d {H : Type} {enc : TypeId × Value → H} {w : World} {base : Nat} {spare : Nat → Bool} {held : Bool} {fuel : Nat} {cs : List Value} {x : DataW H × List MemPlace} (hl : cs.length = 5) (h : DataW.trod enc Try.prog w base spare held fuel 84 cs = some x) :
    ∃ k : D5, cs = k.cells ∧ k.a.Bd ∧ k.b.Bd := by
  match cs, hl with
  | [c0, c1, c2, c3, c4], _ =>
    obtain ⟨ys, n, _, _, _, hys, hg⟩ := DataW.trod_struct Try.underlying84 h
    match ys, hys with
    | [y0, y1, y2], _ =>
      have g0 : DataW.trod enc Try.prog w base spare held n 3 [c0] = some y0 := by
        have h := hg 0 _ rfl
        change DataW.trod enc Try.prog w base spare held n 3 (List.take (Try.prog.cellsOf 3) (List.drop 0 [c0, c1, c2, c3, c4])) = some y0 at h
        rw [cells_intK] at h; exact h
      have g1 : DataW.trod enc Try.prog w base spare held n 56 [c1, c2] = some y1 := by
        have h := hg 1 _ rfl
        change DataW.trod enc Try.prog w base spare held n 56 (List.take (Try.prog.cellsOf 56) (List.drop 1 [c0, c1, c2, c3, c4])) = some y1 at h
        rw [cells_k] at h; exact h
      have g2 : DataW.trod enc Try.prog w base spare held n 56 [c3, c4] = some y2 := by
        have h := hg 2 _ rfl
        change DataW.trod enc Try.prog w base spare held n 56 (List.take (Try.prog.cellsOf 56) (List.drop 3 [c0, c1, c2, c3, c4])) = some y2 at h
        rw [cells_k] at h; exact h
      obtain ⟨a, e0, _, w0⟩ := DataW.trod_int Try.underlying3 g0
      obtain ⟨k1, e1, b1⟩ := trod_k rfl g1
      obtain ⟨k2, e2, b2⟩ := trod_k rfl g2
      simp only [List.cons.injEq, and_true, K2.cells] at e0 e1 e2
      obtain ⟨rfl, rfl⟩ := e1
      obtain ⟨rfl, rfl⟩ := e2
      subst e0
      exact ⟨⟨a, k1, k2⟩, rfl, b1, b2⟩
instance : Inhabited D5 := ⟨d0⟩
theorem open_ds {H : Type} {enc : TypeId × Value → H} {w : World} {base b0 : Nat} {spare : Nat → Bool} {held : Bool} {r : Reach} {v : Value} {d : DataW H} {p : List MemPlace} (hv : Value.okWide Try.prog w r b0 81 v) (h : DataW.Trod enc Try.prog w base spare held 81 v d p) :
    ∃ (A : Option Addr) (l : List D5) (c : Nat), v = .slice A l.length c ∧ DRow w A l ∧ l.length ≤ 9223372036854775807 ∧ ∀ i, i < l.length → (atD l i).a.Bd ∧ (atD l i).b.Bd := by
  obtain ⟨a0, len0, cap0, rfl⟩ := okWide_slice Try.underlying81 hv
  obtain ⟨fuel, hf⟩ := h
  rcases Go.Deep.open_slice Try.underlying81 hf with ⟨hcs, _⟩ | ⟨a, len, cap, m, n, D, Pl, hcs, _, hl, hm, hmm, _, hi⟩
  · simp [Value.cells] at hcs
    obtain ⟨rfl, rfl, rfl⟩ := hcs
    exact ⟨none, [], 0, rfl, fun i hi => by simp at hi, by simp, fun i hi => by simp at hi⟩
  · simp [Value.cells] at hcs
    obtain ⟨rfl, rfl, rfl⟩ := hcs
    have hlm : len0 ≤ m := by rw [hmm]; split <;> omega
    have key : ∀ i, i < len0 → ∃ k : D5, (∀ j u, k.cells[j]? = some u → w.cell? ((a.add (i * 5)).add j) = some u) ∧ k.a.Bd ∧ k.b.Bd := by
      intro i hil
      obtain ⟨cs', hc, ht⟩ := hi i (by omega)
      rw [cells_d] at hc
      obtain ⟨_, hcl, hat⟩ := World.cells?_some hc
      obtain ⟨k, rfl, hb⟩ := trod_d hcl ht
      refine ⟨k, fun j u hj => ?_, hb⟩
      have hj2 : j < 5 := (List.getElem?_eq_some_iff.1 hj).1
      rw [hat j hj2]; exact hj
    obtain ⟨f, hf⟩ := Go.Deep.choose_lt key
    have hx : ∀ i, i < len0 → atD ((List.range len0).map f) i = f i := fun i hi => by
      unfold atD; rw [List.getD_eq_getElem?_getD, List.getElem?_map, List.getElem?_range hi]; rfl
    refine ⟨some a, (List.range len0).map f, cap0, by simp, fun i hi => ?_, by simp; unfold maxLen at hm; omega, fun i hi => ?_⟩
    · simp only [List.length_map, List.length_range] at hi
      obtain ⟨h0, h1⟩ := hf i hi
      rw [hx i hi]
      have k0 := h0 0 _ rfl
      have k1 := h0 1 _ rfl
      have k2 := h0 2 _ rfl
      have k3 := h0 3 _ rfl
      have k4 := h0 4 _ rfl
      rw [Go.Deep.add_add] at k0 k1 k2 k3 k4
      rw [Nat.add_zero] at k0
      rw [add_field _ _ 1 (by omega)] at k1
      rw [add_field _ _ 2 (by omega)] at k2
      rw [add_field _ _ 3 (by omega)] at k3
      rw [add_field _ _ 4 (by omega)] at k4
      exact ⟨a, rfl, k0, k1, k2, k3, k4⟩
    · simp only [List.length_map, List.length_range] at hi
      rw [hx i hi]; exact (hf i hi).2
end Go.Proofs.Yteldbnelfeiifaa
