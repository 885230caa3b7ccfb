/- Keys that came in, opened. -/
import Derived.Test.YteldbnelfeiifaaStkB
import Derived.ProofKit
import Derived.OpenShut
import Derived.Deep.Slices
import Derived.Lib.SmallJoins
namespace Go.Proofs.Yteldbnelfeiifaa
open Go.ChangeShapes Go.WideShapes Go.ChangeAt Go.RowKit Go.Joins Go.Proofs.YteldbnelfeiifaaW.PrintWords
set_option linter.unusedVariables false
set_option maxRecDepth 1000000
theorem cells_k : Try.prog.cellsOf 56 = 2 := by kernel_rfl
theorem cells_intK : Try.prog.cellsOf 3 = 1 := by kernel_rfl
theorem trod_k {H : Type} {enc : TypeId × Value → H} {w : World} {base : Nat} {spare : Nat → Bool} {held : Bool} {fuel : Nat} {cs : List Value} {x : DataW H × List MemPlace} (hl : cs.length = 2) (h : DataW.trod enc Try.prog w base spare held fuel 56 cs = some x) :
    ∃ k : K2, cs = k.cells ∧ k.Bd := by
  match cs, hl with
  | [c0, c1], _ =>
    obtain ⟨ys, n, _, _, _, hys, hg⟩ := DataW.trod_struct Try.underlying56 h
    match ys, hys with
    | [y0, y1], _ =>
      have g0 : DataW.trod enc Try.prog w base spare held n 3 [c0] = some y0 := by
        have h := hg 0 _ rfl
        change DataW.trod enc Try.prog w base spare held n 3 (List.take (Try.prog.cellsOf 3) (List.drop 0 [c0, c1])) = some y0 at h
        rw [cells_intK] at h; exact h
      have g1 : DataW.trod enc Try.prog w base spare held n 3 [c1] = some y1 := by
        have h := hg 1 _ rfl
        change DataW.trod enc Try.prog w base spare held n 3 (List.take (Try.prog.cellsOf 3) (List.drop 1 [c0, c1])) = some y1 at h
        rw [cells_intK] at h; exact h
      obtain ⟨a, e0, _, w0⟩ := DataW.trod_int Try.underlying3 g0
      obtain ⟨b, e1, _, w1⟩ := DataW.trod_int Try.underlying3 g1
      simp only [List.cons.injEq, and_true] at e0 e1
      subst e0 e1
      have h0 := bounds_i64 w0
      have h1 := bounds_i64 w1
      exact ⟨⟨a, b⟩, rfl, by unfold K2.Bd; exact ⟨h0.1, h0.2, h1.1, h1.2⟩⟩
instance : Inhabited K2 := ⟨k0⟩
theorem open_k {H : Type} {enc : TypeId × Value → H} {w : World} {base b0 : Nat} {spare : Nat → Bool} {held : Bool} {r : Reach} {v : Value} {d : DataW H} {p : List MemPlace} (hv : Value.okWide Try.prog w r b0 56 v) (h : DataW.Trod enc Try.prog w base spare held 56 v d p) :
    ∃ k : K2, v = (.agg #[.int .i64 (k).c, .int .i64 (k).i]) ∧ k.Bd := by
  obtain ⟨cs, rfl, hsz⟩ := okWide_struct Try.underlying56 hv
  obtain ⟨fuel, hf⟩ := h
  rw [cells_k] at hsz
  obtain ⟨k, hc, hb⟩ := trod_k (by simpa [Value.cells] using hsz) hf
  refine ⟨k, ?_, hb⟩
  have : cs = k.cells.toArray := by apply Array.ext'; simpa [Value.cells] using hc
  rw [this]; rfl
theorem open_ks {H : Type} {enc : TypeId × Value → H} {w : World} {base b0 : Nat} {spare : Nat → Bool} {held : Bool} {r : Reach} {v : Value} {d : DataW H} {p : List MemPlace} (hv : Value.okWide Try.prog w r b0 54 v) (h : DataW.Trod enc Try.prog w base spare held 54 v d p) :
    ∃ (A : Option Addr) (l : List K2) (c : Nat), v = .slice A l.length c ∧ KR w A l c ∧ ∀ i, i < l.length → (atK l i).Bd := by
  obtain ⟨a0, len0, cap0, rfl⟩ := okWide_slice Try.underlying54 hv
  obtain ⟨fuel, hf⟩ := h
  rcases Go.Deep.open_slice Try.underlying54 hf with ⟨hcs, _⟩ | ⟨a, len, cap, m, n, D, Pl, hcs, _, hl, hm, hmm, _, hi⟩
  · simp [Value.cells] at hcs
    obtain ⟨rfl, rfl, rfl⟩ := hcs
    exact ⟨none, [], 0, rfl, ⟨Nat.le_refl _, fun _ => rfl, by omega, KRow.nil _ _⟩, fun i hi => by simp at hi⟩
  · simp [Value.cells] at hcs
    obtain ⟨rfl, rfl, rfl⟩ := hcs
    have hlm : len0 ≤ m := by rw [hmm]; split <;> omega
    have key : ∀ i, i < len0 → ∃ k : K2, (∀ j u, k.cells[j]? = some u → w.cell? ((a.add (i * 2)).add j) = some u) ∧ k.Bd := by
      intro i hil
      obtain ⟨cs', hc, ht⟩ := hi i (by omega)
      rw [cells_k] at hc
      obtain ⟨_, hcl, hat⟩ := World.cells?_some hc
      obtain ⟨k, rfl, hb⟩ := trod_k hcl ht
      refine ⟨k, fun j u hj => ?_, hb⟩
      have hj2 : j < 2 := (List.getElem?_eq_some_iff.1 hj).1
      rw [hat j hj2]; exact hj
    obtain ⟨f, hf⟩ := Go.Deep.choose_lt key
    have hx : ∀ i, i < len0 → atK ((List.range len0).map f) i = f i := fun i hi => by
      unfold atK; rw [List.getD_eq_getElem?_getD, List.getElem?_map, List.getElem?_range hi]; rfl
    refine ⟨some a, (List.range len0).map f, cap0, by simp, ⟨by simpa using hl, (by intro e; cases e), by unfold maxLen at hm; omega, fun i hi => ?_⟩, fun i hi => ?_⟩
    · simp only [List.length_map, List.length_range] at hi
      obtain ⟨h0, h1⟩ := hf i hi
      rw [hx i hi]
      have k0 := h0 0 _ rfl
      have k1 := h0 1 _ rfl
      rw [Go.Deep.add_add] at k0 k1
      rw [Nat.add_zero] at k0
      rw [add_field _ _ 1 (by omega)] at k1
      exact ⟨a, rfl, k0, k1⟩
    · simp only [List.length_map, List.length_range] at hi
      rw [hx i hi]; exact (hf i hi).2
end Go.Proofs.Yteldbnelfeiifaa
