/- A slice of rectangles that came in, opened. -/
import Derived.Test.YtbngkeaelfdknaaRectI
import Derived.ProofKit
import Derived.OpenShut
import Derived.Deep.Slices
import Derived.Lib.SmallJoins
namespace Go.Proofs.Ytbngkeaelfdknaa
open Go.ChangeShapes Go.WideShapes Go.ChangeAt Go.RowKit Go.Joins
set_option linter.unusedVariables false
theorem cells_rect : Try.prog.cellsOf 23 = 4 := by kernel_rfl
theorem cells_int : Try.prog.cellsOf 3 = 1 := by kernel_rfl
theorem add_plain (b off j : Nat) : ((⟨b, off, none⟩ : Addr).add j) = ⟨b, off + j, none⟩ := by unfold Addr.add; split <;> simp_all
instance : Inhabited R := ⟨⟨0, 0, 0, 0⟩⟩
theorem open_rects {H : Type} {enc : TypeId × Value → H} {w : World} {spare : Nat → Bool} {held : Bool} {fuel : Nat} {cs : List Value} {x : DataW H × List MemPlace} (h : DataW.trod enc Try.prog w 0 spare held fuel 25 cs = some x) :
    (∃ a cap, cs = [.slice a 0 cap]) ∨
    ∃ (b off len cap : Nat) (f : Nat → R), cs = [.slice (some ⟨b, off, none⟩) len cap] ∧ 0 < len ∧ len ≤ cap ∧ cap ≤ maxLen ∧ b < w.heap.size ∧ RowAt w b off f len ∧
      ∀ i, i < len → (Lit.int .i64 (f i).x0).wf = true ∧ (Lit.int .i64 (f i).y0).wf = true ∧ (Lit.int .i64 (f i).x1).wf = true ∧ (Lit.int .i64 (f i).y1).wf = true := by
  rcases Go.Deep.open_slice Try.underlying25 h with ⟨hcs, _⟩ | ⟨a, len, cap, m, n, D, Pl, hcs, _, hl, hm, hmm, _, hi⟩
  · exact .inl ⟨none, 0, hcs⟩
  · rcases Nat.eq_zero_or_pos len with h0 | h0
    · subst h0; exact .inl ⟨_, _, hcs⟩
    · refine .inr ?_
      have hlm : len ≤ m := by rw [hmm]; split <;> omega
      have key : ∀ i, i < len → ∃ r : R, (w.cell? (a.add (i * 4)) = some (.int .i64 r.x0) ∧ w.cell? (a.add (i * 4 + 1)) = some (.int .i64 r.y0) ∧ w.cell? (a.add (i * 4 + 2)) = some (.int .i64 r.x1) ∧ w.cell? (a.add (i * 4 + 3)) = some (.int .i64 r.y1)) ∧
          (Lit.int .i64 r.x0).wf = true ∧ (Lit.int .i64 r.y0).wf = true ∧ (Lit.int .i64 r.x1).wf = true ∧ (Lit.int .i64 r.y1).wf = true := by
        intro i hil
        obtain ⟨cs', hc, ht⟩ := hi i (by omega)
        rw [cells_rect] at hc
        obtain ⟨_, hcl, hat⟩ := World.cells?_some hc
        match cs', hcl with
        | [c0, c1, c2, c3], _ =>
        obtain ⟨y0, y1, y2, y3, n', _, _, h0, h1, h2, h3⟩ := trod_struct4 Try.underlying23 ht
        obtain ⟨z0, e0, rfl, w0⟩ := DataW.trod_int Try.underlying3 h0
        obtain ⟨z1, e1, rfl, w1⟩ := DataW.trod_int Try.underlying3 h1
        obtain ⟨z2, e2, rfl, w2⟩ := DataW.trod_int Try.underlying3 h2
        obtain ⟨z3, e3, rfl, w3⟩ := DataW.trod_int Try.underlying3 h3
        simp [cells_int] at e0 e1 e2 e3
        subst e0 e1 e2 e3
        have g0 := hat 0 (by omega)
        have g1 := hat 1 (by omega)
        have g2 := hat 2 (by omega)
        have g3 := hat 3 (by omega)
        simp only [Go.Deep.add_add, Nat.add_zero] at g0 g1 g2 g3
        exact ⟨⟨z0, z1, z2, z3⟩, ⟨by simpa using g0, by simpa using g1, by simpa using g2, by simpa using g3⟩, w0, w1, w2, w3⟩
      obtain ⟨f, hf⟩ := Go.Deep.choose_lt key
      have c0 := (hf 0 h0).1.1
      have hsp : a.spot = none := by
        have := World.cell?_spot c0
        simpa [Addr.add] using this
      obtain ⟨b, off, spot⟩ := a
      simp only at hsp
      subst hsp
      refine ⟨b, off, len, cap, f, hcs, h0, hl, hm, ?_, fun i hil => ?_, fun i hil => (hf i hil).2⟩
      · have := World.block_lt_of_cell? _ _ c0
        rw [add_plain] at this; exact this
      · have := (hf i hil).1
        simp only [add_plain, ← Nat.add_assoc] at this
        exact this
end Go.Proofs.Ytbngkeaelfdknaa
