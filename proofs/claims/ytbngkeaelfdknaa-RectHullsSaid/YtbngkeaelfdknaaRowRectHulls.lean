/- The law RectHulls is true at every list of rectangles; no condition. -/
import Derived.Test.YtbngkeaelfdknaaRows
import Derived.Test.YtbngkeaelfdknaaRectI
import Derived.Test.YtbngkeaelfdknaaOpenR
import Derived.WalkKit
import Derived.ProofKit
import Derived.OpenShut
import Derived.ShutString
import Derived.ChangeOld
import Derived.Below
import Derived.Lib.SmallJoins
namespace Go.Proofs.Ytbngkeaelfdknaa.lawRectHulls
open Go.ChangeShapes Go.WideShapes Go.ChangeAt Go.RowKit Go.Joins
open Go.ChangeMaps (open_string shut_string)
set_option linter.unusedVariables false
theorem own : ownKnob Try.prog.godebug = none := by kernel_rfl
theorem laidOut : laidOutB Try.prog = true := by kernel_rfl
theorem walk (a : Option Addr) (len cap : Nat) (W : World)
    (h : (∃ a' cap', a = a' ∧ len = 0 ∧ cap = cap') ∨ ∃ (b off len' cap' : Nat) (f : Nat → R), (a = some ⟨b, off, none⟩ ∧ len = len' ∧ cap = cap') ∧ 0 < len' ∧ len' ≤ cap' ∧ cap' ≤ maxLen ∧ b < W.heap.size ∧ RowAt W b off f len' ∧
      ∀ i, i < len' → (Lit.int .i64 (f i).x0).wf = true ∧ (Lit.int .i64 (f i).y0).wf = true ∧ (Lit.int .i64 (f i).x1).wf = true ∧ (Lit.int .i64 (f i).y1).wf = true) :
    Calls Try.prog 5 #[.slice a len cap] W fun e w' => e = .returned (.bool true) ∧ Below W.heap.size W w' := by
  rcases h with ⟨a', cap', rfl, rfl, rfl⟩ | ⟨b, off, len', cap', f, ⟨rfl, rfl, rfl⟩, h0, h1, h2, h3, h4, h5⟩
  · exact walk_RectHulls0 _ _ _
  · exact walk_RectHulls b off _ _ f W h0 h1 h2 h4 h3 fun i hi => ⟨bounds_i64 (h5 i hi).1, bounds_i64 (h5 i hi).2.1, bounds_i64 (h5 i hi).2.2.1, bounds_i64 (h5 i hi).2.2.2⟩
set_option maxRecDepth 100000 in
theorem lifted (os : Os) (started : os.Started) (H : Type) (enc : TypeId × Value → H) :
    ReturnsInHanded {} Try.checked os 5 .any (Rows.rectHullsSpec.pre6 enc Try.prog Try.f5 Rows.rectHullsRow.domain false) (Rows.rectHullsSpec.post enc Try.prog Try.f5 false true false false) := by
  refine returnsInHanded_of_change (C := Try.checked) own started (by kernel_rfl) Try.func5
    (ChangeSpec.witness6 (enc := enc) (C := Try.checked) false ⟨#[], #[.slice none 0 0], []⟩ 8 (by kernel_rfl) (by kernel_rfl) (by kernel_rfl) (by kernel_rfl)) ?_
  intro W base args ds gs before hval0 hW hcnd _
  have hval : ∀ (j : Nat) t v, Try.f5.params[j]? = some t → args[j]? = some v → Value.okWide Try.prog W .any base t v := hval0
  have hW' := hW
  obtain ⟨p, q, hA0, hV, rfl, hfz, hnd⟩ := hW
  have hA : DataW.TrodAll enc Try.prog W 0 (fun _ => true) true Try.f5.params.toList args.toList ds p := hA0
  rw [Try.params5] at hA hval
  obtain ⟨v0, vs0, d0, ds0, p0, q0, hargs, rfl, rfl, h0, r0⟩ := trodAll_cons hA
  obtain ⟨rfl, rfl, rfl⟩ := trodAll_nil r0
  obtain rfl : args = #[v0] := by cases args; simp_all
  obtain ⟨rfl, rfl⟩ := trodVars_none hV
  have k0 := h0
  have lt0 : ∀ x ∈ p0, x.block < W.heap.size := by obtain ⟨m, hm⟩ := k0; exact DataW.trod_lt m _ _ _ hm
  obtain ⟨l_a, l_len, l_cap, rfl⟩ := okWide_slice Try.underlying25 (hval 0 25 v0 rfl rfl)
  obtain ⟨fuel0, hf0⟩ := h0
  have hop_l := open_rects hf0
  simp only [Value.cells, Array.toList, List.cons.injEq, Value.slice.injEq, and_true] at hop_l
  clear hA0 hval0
  refine (walk l_a l_len l_cap W hop_l).mono fun e W' ⟨he, bel⟩ => ?_
  subst he
  exact ⟨_, rfl, _, _, _, [], _, [], hW', trodAll_mk1 (shut_bool Try.underlying4 _), (trodAll_cons_mk (Below.trod laidOut (by kernel_rfl) (of_decide_eq_true (by kernel_rfl)) k0 bel lt0) trodAll_mk0), rfl, bel.frame _, fun h => by cases h⟩
theorem over : Rows.rectHullsRow.holds Try.pinned (OpenSpec.ofChange Rows.rectHullsSpec) :=
  OpenClaim.holds_of_wide 5 Try.f5 rfl rfl rfl rfl rfl rfl rfl ⟨rfl, rfl, rfl, rfl, rfl⟩ rfl rfl rfl rfl rfl (by kernel_rfl) Try.func5 (by kernel_rfl)
    (of_decide_eq_true (by kernel_rfl)) (by unfold Func.isWrapper; first | (rw [if_pos (by decide +kernel)]; kernel_rfl) | (rw [if_neg (by decide +kernel)]; exact ⟨rfl, rfl⟩))
    (fun os started H enc _ => lifted os started H enc)
theorem proved : Rows.RectHullsSaid := over
#print axioms proved
end Go.Proofs.Ytbngkeaelfdknaa.lawRectHulls
