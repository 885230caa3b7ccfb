/- The law ArgsTypes, walked. -/
import Derived.Test.YtinnaiofgbjicaaDoorArgM
import Derived.Test.YtinnaiofgbjicaaDoorOpenV
namespace Go.Proofs.YtinnaiofgbjicaaDoor
open Go.RowKit Go.Proofs.YtinnaiofgbjicaaDoorW.PrintWords
set_option linter.unusedSimpArgs false
set_option linter.unusedVariables false
set_option maxRecDepth 1000000
theorem isK_eq (x : V8) (k : Int) : isK x k = (x.kind == k) := by unfold isK; rw [Bool.eq_iff_iff]; simp
theorem few1 (x : V8) : fewL [x] = [fewX x] := rfl
theorem fewX_kind (x : V8) : (fewX x).kind = x.kind := rfl
theorem fewX_s (x : V8) : (fewX x).s.size ≤ 300 := by
  show (x.s.extract 0 (min x.s.size 300)).size ≤ 300
  rw [ByteArray.size_extract]; omega
theorem fewX_b (x : V8) : (fewX x).b.length ≤ 300 := by
  show (x.b.take (min x.b.length 300)).length ≤ 300
  simp; omega
theorem fewX_ok {x : V8} (h : x.Bd) : (fewX x).Ok := ⟨h.kind, h.n, by have := fewX_s x; omega, h.x0, h.y0, h.x1, h.y1, by have := fewX_b x; omega⟩
def FewP (w : World) (x : V8) (e : Ending) (w' : World) : Prop := ∃ ad Ab m c, e = .returned (.slice (some ad) 1 c) ∧ (w'.cell? ad = some (.int .i64 (fewX x).kind) ∧ w'.cell? ⟨ad.block, ad.off + 1, none⟩ = some (.int .i64 (fewX x).n) ∧
  w'.cell? ⟨ad.block, ad.off + 2, none⟩ = some (.string (fewX x).s) ∧ w'.cell? ⟨ad.block, ad.off + 3, none⟩ = some (.int .i64 (fewX x).x0) ∧
  w'.cell? ⟨ad.block, ad.off + 4, none⟩ = some (.int .i64 (fewX x).y0) ∧ w'.cell? ⟨ad.block, ad.off + 5, none⟩ = some (.int .i64 (fewX x).x1) ∧
  w'.cell? ⟨ad.block, ad.off + 6, none⟩ = some (.int .i64 (fewX x).y1) ∧ w'.cell? ⟨ad.block, ad.off + 7, none⟩ = some (.slice Ab (fewX x).b.length m)) ∧ ((fewX x).b.length ≤ m ∧ ReadsInt w' .u8 Ab (fewX x).b.length (fewX x).b) ∧ Below w.heap.size w w'
end Go.Proofs.YtinnaiofgbjicaaDoor
