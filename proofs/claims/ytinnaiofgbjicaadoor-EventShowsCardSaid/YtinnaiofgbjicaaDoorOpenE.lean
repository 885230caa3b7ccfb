/- Events that came in, opened. -/
import Derived.Test.YtinnaiofgbjicaaDoorEvA
import Derived.ProofKit
import Derived.OpenShut
import Derived.Deep.Slices
import Derived.Lib.SmallJoins
namespace Go.Proofs.YtinnaiofgbjicaaDoor
open Go.ChangeShapes Go.WideShapes Go.ChangeAt Go.RowKit Go.Joins Go.Proofs.YtinnaiofgbjicaaDoorW.PrintWords
set_option linter.unusedVariables false
set_option maxRecDepth 1000000
theorem cells_e : Tryd.prog.cellsOf 51 = 4 := by kernel_rfl
theorem cells_intE : Tryd.prog.cellsOf 3 = 1 := by kernel_rfl
theorem trod_e {H : Type} {enc : TypeId × Value → H} {w : World} {base : Nat} {spare : Nat → Bool} {held : Bool} {fuel : Nat} {cs : List Value} {x : DataW H × List MemPlace} (hl : cs.length = 4) (h : DataW.trod enc Tryd.prog w base spare held fuel 51 cs = some x) :
    ∃ k : E4, cs = k.cells ∧ k.Bd := by
  match cs, hl with
  | [c0, c1, c2, c3], _ =>
    obtain ⟨ys, n, _, _, _, hys, hg⟩ := DataW.trod_struct Tryd.underlying51 h
    match ys, hys with
    | [y0, y1, y2, y3], _ =>
      have g0 : DataW.trod enc Tryd.prog w base spare held n 3 [c0] = some y0 := by
        have h := hg 0 _ rfl
        change DataW.trod enc Tryd.prog w base spare held n 3 (List.take (Tryd.prog.cellsOf 3) (List.drop 0 [c0, c1, c2, c3])) = some y0 at h
        rw [cells_intE] at h; exact h
      have g1 : DataW.trod enc Tryd.prog w base spare held n 3 [c1] = some y1 := by
        have h := hg 1 _ rfl
        change DataW.trod enc Tryd.prog w base spare held n 3 (List.take (Tryd.prog.cellsOf 3) (List.drop 1 [c0, c1, c2, c3])) = some y1 at h
        rw [cells_intE] at h; exact h
      have g2 : DataW.trod enc Tryd.prog w base spare held n 3 [c2] = some y2 := by
        have h := hg 2 _ rfl
        change DataW.trod enc Tryd.prog w base spare held n 3 (List.take (Tryd.prog.cellsOf 3) (List.drop 2 [c0, c1, c2, c3])) = some y2 at h
        rw [cells_intE] at h; exact h
      have g3 : DataW.trod enc Tryd.prog w base spare held n 3 [c3] = some y3 := by
        have h := hg 3 _ rfl
        change DataW.trod enc Tryd.prog w base spare held n 3 (List.take (Tryd.prog.cellsOf 3) (List.drop 3 [c0, c1, c2, c3])) = some y3 at h
        rw [cells_intE] at h; exact h
      obtain ⟨a, e0, _, w0⟩ := DataW.trod_int Tryd.underlying3 g0
      obtain ⟨b, e1, _, w1⟩ := DataW.trod_int Tryd.underlying3 g1
      obtain ⟨c, e2, _, w2⟩ := DataW.trod_int Tryd.underlying3 g2
      obtain ⟨d, e3, _, w3⟩ := DataW.trod_int Tryd.underlying3 g3
      simp only [List.cons.injEq, and_true] at e0 e1 e2 e3
      subst e0 e1 e2 e3
      exact ⟨⟨a, b, c, d⟩, rfl, ⟨bounds_i64 w0, bounds_i64 w1, bounds_i64 w2, bounds_i64 w3⟩⟩
instance : Inhabited E4 := ⟨e0⟩
theorem open_e {H : Type} {enc : TypeId × Value → H} {w : World} {base b0 : Nat} {spare : Nat → Bool} {held : Bool} {r : Reach} {v : Value} {d : DataW H} {p : List MemPlace} (hv : Value.okWide Tryd.prog w r b0 51 v) (h : DataW.Trod enc Tryd.prog w base spare held 51 v d p) :
    ∃ k : E4, v = (.agg #[.int .i64 (k).k, .int .i64 (k).id, .int .i64 (k).a, .int .i64 (k).b]) ∧ k.Bd := by
  obtain ⟨cs, rfl, hsz⟩ := okWide_struct Tryd.underlying51 hv
  obtain ⟨fuel, hf⟩ := h
  rw [cells_e] at hsz
  obtain ⟨k, hc, hb⟩ := trod_e (by simpa [Value.cells] using hsz) hf
  refine ⟨k, ?_, hb⟩
  have : cs = k.cells.toArray := by apply Array.ext'; simpa [Value.cells] using hc
  rw [this]; rfl
theorem open_es {H : Type} {enc : TypeId × Value → H} {w : World} {base b0 : Nat} {spare : Nat → Bool} {held : Bool} {r : Reach} {v : Value} {d : DataW H} {p : List MemPlace} (hv : Value.okWide Tryd.prog w r b0 55 v) (h : DataW.Trod enc Tryd.prog w base spare held 55 v d p) :
    ∃ (A : Option Addr) (l : List E4) (c : Nat), v = .slice A l.length c ∧ ER w A l c ∧ ∀ i, i < l.length → (atE l i).Bd := by
  obtain ⟨a0, len0, cap0, rfl⟩ := okWide_slice Tryd.underlying55 hv
  obtain ⟨fuel, hf⟩ := h
  rcases Go.Deep.open_slice Tryd.underlying55 hf with ⟨hcs, _⟩ | ⟨a, len, cap, m, n, D, Pl, hcs, _, hl, hm, hmm, _, hi⟩
  · simp [Value.cells] at hcs
    obtain ⟨rfl, rfl, rfl⟩ := hcs
    exact ⟨none, [], 0, rfl, ⟨Nat.le_refl _, fun _ => rfl, by omega, ERow.nil _ _⟩, fun i hi => by simp at hi⟩
  · simp [Value.cells] at hcs
    obtain ⟨rfl, rfl, rfl⟩ := hcs
    have hlm : len0 ≤ m := by rw [hmm]; split <;> omega
    have key : ∀ i, i < len0 → ∃ k : E4, (∀ j u, k.cells[j]? = some u → w.cell? ((a.add (i * 4)).add j) = some u) ∧ k.Bd := by
      intro i hil
      obtain ⟨cs', hc, ht⟩ := hi i (by omega)
      rw [cells_e] at hc
      obtain ⟨_, hcl, hat⟩ := World.cells?_some hc
      obtain ⟨k, rfl, hb⟩ := trod_e hcl ht
      refine ⟨k, fun j u hj => ?_, hb⟩
      have hj2 : j < 4 := (List.getElem?_eq_some_iff.1 hj).1
      rw [hat j hj2]; exact hj
    obtain ⟨f, hf⟩ := Go.Deep.choose_lt key
    have hx : ∀ i, i < len0 → atE ((List.range len0).map f) i = f i := fun i hi => by
      unfold atE; rw [List.getD_eq_getElem?_getD, List.getElem?_map, List.getElem?_range hi]; rfl
    refine ⟨some a, (List.range len0).map f, cap0, by simp, ⟨by simpa using hl, (by intro e; cases e), by unfold maxLen at hm; omega, fun i hi => ?_⟩, fun i hi => ?_⟩
    · simp only [List.length_map, List.length_range] at hi
      obtain ⟨h0, h1⟩ := hf i hi
      rw [hx i hi]
      have k0 := h0 0 _ rfl
      have k1 := h0 1 _ rfl
      have k2 := h0 2 _ rfl
      have k3 := h0 3 _ rfl
      rw [Go.Deep.add_add] at k0 k1 k2 k3
      rw [Nat.add_zero] at k0
      rw [add_field _ _ 1 (by omega)] at k1
      rw [add_field _ _ 2 (by omega)] at k2
      rw [add_field _ _ 3 (by omega)] at k3
      exact ⟨a, rfl, k0, k1, k2, k3⟩
    · simp only [List.length_map, List.length_range] at hi
      rw [hx i hi]; exact (hf i hi).2
end Go.Proofs.YtinnaiofgbjicaaDoor
