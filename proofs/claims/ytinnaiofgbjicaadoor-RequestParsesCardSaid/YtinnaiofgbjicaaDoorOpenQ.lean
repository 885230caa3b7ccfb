/- Requests and messages that came in, opened. -/
import Derived.Test.YtinnaiofgbjicaaDoorGood
import Derived.Test.YtinnaiofgbjicaaDoorArgPack
namespace Go.Proofs.YtinnaiofgbjicaaDoor
open Go.ChangeShapes Go.WideShapes Go.ChangeAt Go.RowKit Go.Joins Go.Proofs.YtinnaiofgbjicaaDoorW.PrintWords
set_option linter.unusedVariables false
set_option maxRecDepth 1000000
structure QH where
  q : Q9
  A : Option Addr
  m : Nat
def QH.cells (h : QH) : List Value := [.int .i64 h.q.op, .int .i64 h.q.id, .int .i64 h.q.a, .int .i64 h.q.b, .int .i64 h.q.x0, .int .i64 h.q.y0, .int .i64 h.q.x1, .int .i64 h.q.y1, .string h.q.s, .slice h.A h.q.d.length h.m]
def QH.reads (w : World) (h : QH) : Prop := h.q.d.length ≤ h.m ∧ ReadsInt w .u8 h.A h.q.d.length h.q.d
theorem trod_q {H : Type} {enc : TypeId × Value → H} {w : World} {base : Nat} {spare : Nat → Bool} {held : Bool} {fuel : Nat} {cs : List Value} {x : DataW H × List MemPlace} (hl : cs.length = 10) (h : DataW.trod enc Tryd.prog w base spare held fuel 28 cs = some x) :
    ∃ h : QH, cs = h.cells ∧ h.reads w ∧ h.q.Bw := by
  match cs, hl with
  | [c0, c1, c2, c3, c4, c5, c6, c7, c8, c9], _ =>
    obtain ⟨ys, n, _, _, _, hys, hg⟩ := DataW.trod_struct Tryd.underlying28 h
    match ys, hys with
    | [y0, y1, y2, y3, y4, y5, y6], _ =>
      have g0 : DataW.trod enc Tryd.prog w base spare held n 3 [c0] = some y0 := by
        have h := hg 0 _ rfl
        change DataW.trod enc Tryd.prog w base spare held n 3 (List.take (Tryd.prog.cellsOf 3) (List.drop 0 [c0, c1, c2, c3, c4, c5, c6, c7, c8, c9])) = some y0 at h
        rw [cells_intV] at h; exact h
      have g1 : DataW.trod enc Tryd.prog w base spare held n 3 [c1] = some y1 := by
        have h := hg 1 _ rfl
        change DataW.trod enc Tryd.prog w base spare held n 3 (List.take (Tryd.prog.cellsOf 3) (List.drop 1 [c0, c1, c2, c3, c4, c5, c6, c7, c8, c9])) = some y1 at h
        rw [cells_intV] at h; exact h
      have g2 : DataW.trod enc Tryd.prog w base spare held n 3 [c2] = some y2 := by
        have h := hg 2 _ rfl
        change DataW.trod enc Tryd.prog w base spare held n 3 (List.take (Tryd.prog.cellsOf 3) (List.drop 2 [c0, c1, c2, c3, c4, c5, c6, c7, c8, c9])) = some y2 at h
        rw [cells_intV] at h; exact h
      have g3 : DataW.trod enc Tryd.prog w base spare held n 3 [c3] = some y3 := by
        have h := hg 3 _ rfl
        change DataW.trod enc Tryd.prog w base spare held n 3 (List.take (Tryd.prog.cellsOf 3) (List.drop 3 [c0, c1, c2, c3, c4, c5, c6, c7, c8, c9])) = some y3 at h
        rw [cells_intV] at h; exact h
      have g4 : DataW.trod enc Tryd.prog w base spare held n 26 [c4, c5, c6, c7] = some y4 := by
        have h := hg 4 _ rfl
        change DataW.trod enc Tryd.prog w base spare held n 26 (List.take (Tryd.prog.cellsOf 26) (List.drop 4 [c0, c1, c2, c3, c4, c5, c6, c7, c8, c9])) = some y4 at h
        rw [cells_rectV] at h; exact h
      have g5 : DataW.trod enc Tryd.prog w base spare held n 9 [c8] = some y5 := by
        have h := hg 5 _ rfl
        change DataW.trod enc Tryd.prog w base spare held n 9 (List.take (Tryd.prog.cellsOf 9) (List.drop 8 [c0, c1, c2, c3, c4, c5, c6, c7, c8, c9])) = some y5 at h
        rw [cells_strV] at h; exact h
      have g6 : DataW.trod enc Tryd.prog w base spare held n 22 [c9] = some y6 := by
        have h := hg 6 _ rfl
        change DataW.trod enc Tryd.prog w base spare held n 22 (List.take (Tryd.prog.cellsOf 22) (List.drop 9 [c0, c1, c2, c3, c4, c5, c6, c7, c8, c9])) = some y6 at h
        rw [cells_bytesV] at h; exact h
      obtain ⟨op, e0, _, w0⟩ := DataW.trod_int Tryd.underlying3 g0
      obtain ⟨id, e1, _, w1⟩ := DataW.trod_int Tryd.underlying3 g1
      obtain ⟨a, e2, _, w2⟩ := DataW.trod_int Tryd.underlying3 g2
      obtain ⟨b, e3, _, w3⟩ := DataW.trod_int Tryd.underlying3 g3
      obtain ⟨s, e5, _, w5⟩ := DataW.trod_string Tryd.underlying9 g5
      obtain ⟨r0, r1, r2, r3, n', _, _, h0, h1, h2, h3⟩ := trod_struct4 Tryd.underlying26 g4
      obtain ⟨z0, q0, _, v0⟩ := DataW.trod_int Tryd.underlying3 h0
      obtain ⟨z1, q1, _, v1⟩ := DataW.trod_int Tryd.underlying3 h1
      obtain ⟨z2, q2, _, v2⟩ := DataW.trod_int Tryd.underlying3 h2
      obtain ⟨z3, q3, _, v3⟩ := DataW.trod_int Tryd.underlying3 h3
      obtain ⟨Ab, m, d, e6, hm, hmm, hr, hby⟩ := open_bytesV g6
      simp [cells_intV] at q0 q1 q2 q3
      simp only [List.cons.injEq, and_true] at e0 e1 e2 e3 e5 e6
      subst e0 e1 e2 e3 e5 e6 q0 q1 q2 q3
      exact ⟨⟨⟨op, id, a, b, z0, z1, z2, z3, s, d⟩, Ab, m⟩, rfl, ⟨hm, hr⟩, ⟨bounds_i64 w0, bounds_i64 w1, bounds_i64 w2, bounds_i64 w3, bounds_i64 v0, bounds_i64 v1, bounds_i64 v2, bounds_i64 v3, by unfold maxLen at w5; exact w5, by show d.length ≤ _; omega, hby⟩⟩
end Go.Proofs.YtinnaiofgbjicaaDoor
