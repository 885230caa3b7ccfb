/- A [4]int that comes in by value, opened. -/
import Derived.WalkKit
import Derived.ProofKit
import Derived.OpenShut
import Derived.WideShapes
import Derived.Lib.SmallJoins
namespace Go.Proofs.Ytmchgchhmhhnkaa
open Go.WideShapes Go.Joins
theorem okWide_array {P : Program} {w : World} {r : Reach} {base : Nat} {t e : TypeId} {n : Nat} {v : Value} (ht : P.underlying t = some (.array n e)) (h : Value.okWide P w r base t v) : ∃ cs, v = .agg cs ∧ cs.size = P.cellsOf t := by
  simp only [Value.okWide, ht] at h
  obtain ⟨cs, h1, h2, _⟩ := h
  exact ⟨cs, h1, h2⟩
theorem open_arr4 {H : Type} {enc : TypeId × Value → H} {P : Program} {w : World} {base : Nat} {spare : Nat → Bool} {held : Bool} {r : Reach} {b0 : Nat} {t e : TypeId} {v : Value} {d : DataW H} {p : List MemPlace}
    (ht : P.underlying t = some (.array 4 e)) (hC : P.cellsOf t = 4) (hE : P.cellsOf e = 1) (hv : Value.okWide P w r b0 t v) (h : DataW.Trod enc P w base spare held t v d p) :
    ∃ (v0 v1 v2 v3 : Value) (y0 y1 y2 y3 : DataW H × List MemPlace) (n : Nat), v = .agg #[v0, v1, v2, v3] ∧ d = .agg [y0.1, y1.1, y2.1, y3.1] ∧ p = y0.2 ++ (y1.2 ++ (y2.2 ++ y3.2)) ∧
      DataW.trod enc P w base spare held n e [v0] = some y0 ∧ DataW.trod enc P w base spare held n e [v1] = some y1 ∧ DataW.trod enc P w base spare held n e [v2] = some y2 ∧ DataW.trod enc P w base spare held n e [v3] = some y3 := by
  obtain ⟨cs, rfl, hsz⟩ := okWide_array ht hv
  obtain ⟨c0, c1, c2, c3, rfl⟩ := array4 (hsz.trans hC)
  obtain ⟨fuel, hf⟩ := h
  obtain ⟨xs, m, _, hx, _, hl, hi⟩ := DataW.trod_array ht hf
  match xs, hl with
  | [y0, y1, y2, y3], _ =>
    have h0 := hi 0 (by omega); have h1 := hi 1 (by omega); have h2 := hi 2 (by omega); have h3 := hi 3 (by omega)
    rw [hE] at h0 h1 h2 h3
    simp [Value.cells] at h0 h1 h2 h3
    simp only [Prod.mk.injEq] at hx
    exact ⟨c0, c1, c2, c3, y0, y1, y2, y3, m, rfl, by simpa using hx.1, by simpa using hx.2, h0, h1, h2, h3⟩
end Go.Proofs.Ytmchgchhmhhnkaa
