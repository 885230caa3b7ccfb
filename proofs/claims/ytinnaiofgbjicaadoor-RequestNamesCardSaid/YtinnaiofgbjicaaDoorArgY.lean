/- An argument of the program is told to be the document's: walked. -/
import Derived.Test.YtinnaiofgbjicaaDoorArgX
import Derived.Test.YtinnaiofgbjicaaDoorArgO
import Derived.Test.YtinnaiofgbjicaaDoorArgTypes
namespace Go.Proofs.YtinnaiofgbjicaaDoor
open Go.RowKit Go.Proofs.YtinnaiofgbjicaaDoorW.PrintWords
set_option linter.unusedSimpArgs false
set_option linter.unusedVariables false
set_option maxRecDepth 1000000
/-- What an argument of another kind would have is not there. -/
structure Canon (x : V8) : Prop where
  k0 : ¬ x.kind = 0 → x.n = 0
  k1 : ¬ x.kind = 1 → x.s = ⟨#[]⟩
  k2 : ¬ x.kind = 2 → x.x0 = 0 ∧ x.y0 = 0 ∧ x.x1 = 0 ∧ x.y1 = 0
  k3 : ¬ x.kind = 3 → x.b = []
theorem Canon.int {x : V8} (h : Canon x) : anyInt x = x.n := by unfold anyInt; split; rfl; exact (h.k0 ‹_›).symm
theorem Canon.str {x : V8} (h : Canon x) : anyStr x = x.s := by unfold anyStr; split; rfl; exact (h.k1 ‹_›).symm
theorem Canon.rect {x : V8} (h : Canon x) : anyX x x.x0 = x.x0 ∧ anyX x x.y0 = x.y0 ∧ anyX x x.x1 = x.x1 ∧ anyX x x.y1 = x.y1 := by
  unfold anyX; split
  · exact ⟨rfl, rfl, rfl, rfl⟩
  · have := h.k2 ‹_›; omega
theorem Canon.byt {x : V8} (h : Canon x) : anyB x = x.b := by unfold anyB; split; rfl; exact (h.k3 ‹_›).symm
theorem Canon.zero : Canon v0 := ⟨fun h => rfl, fun _ => rfl, fun _ => ⟨rfl, rfl, rfl, rfl⟩, fun _ => rfl⟩
end Go.Proofs.YtinnaiofgbjicaaDoor
