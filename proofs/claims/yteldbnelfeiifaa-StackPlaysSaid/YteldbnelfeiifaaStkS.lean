/- The document's example of a stack, walked. -/
import Derived.Test.YteldbnelfeiifaaStkQ
import Derived.Test.YteldbnelfeiifaaStkR
namespace Go.Proofs.Yteldbnelfeiifaa
open Go.RowKit Go.Proofs.YteldbnelfeiifaaW.PrintWords
set_option linter.unusedSimpArgs false
set_option linter.unusedVariables false
set_option maxRecDepth 1000000
attribute [local go_sem high] eqK eqKS
theorem kr_new (w : World) (t : TypeId) (l : List K2) (hl : l.length ≤ 100000) : KR (w.alloc (.cells (flatK l).toArray t)) (some ⟨w.heap.size, 0, none⟩) l l.length := by
  refine ⟨Nat.le_refl _, (by intro e; cases e), by omega, KRow.of_news ?_⟩
  intro j u h
  rw [add_plain, blk_cell (heap_alloc_new w _)]
  simpa using h
theorem newL_123 : newL [⟨0, 1⟩, ⟨0, 2⟩, ⟨0, 3⟩] = [⟨0, 1⟩, ⟨0, 2⟩, ⟨0, 3⟩] := by decide
theorem raise_123 {w w' : World} {p : Nat} {e : Ending} (h : RaiseP w p [⟨0, 1⟩, ⟨0, 2⟩, ⟨0, 3⟩] ⟨0, 1⟩ ⟨0, 2⟩ e w') : e = .returned (.int .i64 0) ∧ StkP w p [⟨0, 2⟩, ⟨0, 1⟩, ⟨0, 3⟩] w' := by
  unfold RaiseP at h
  rw [if_neg (by decide), if_neg (by decide)] at h
  exact h
set_option maxHeartbeats 1000000 in
theorem stk_lives (w : World) : Calls Try.prog 33 #[] w fun e w' => e = .returned (.bool true) ∧ Below w.heap.size w w' := by
  have cN := fun (w0 w : World) (h : KR w0 (some ⟨w.heap.size, 0, none⟩) [⟨0, 1⟩, ⟨0, 2⟩, ⟨0, 3⟩] 3) => stk_New (some ⟨w.heap.size, 0, none⟩) [⟨0, 1⟩, ⟨0, 2⟩, ⟨0, 3⟩] 3 w0 (by simp) h
  have kn := fun w => kr_new w 62 [⟨0, 1⟩, ⟨0, 2⟩, ⟨0, 3⟩] (by simp)
  have kk := fun w => kr_new w 56 [⟨0, 2⟩, ⟨0, 1⟩, ⟨0, 3⟩] (by simp)
  have cR := fun p w h => stk_Raise p [⟨0, 1⟩, ⟨0, 2⟩, ⟨0, 3⟩] ⟨0, 1⟩ ⟨0, 2⟩ w (by simp) h
  have cL := fun p w h => stk_All p [⟨0, 2⟩, ⟨0, 1⟩, ⟨0, 3⟩] w (by simp) h
  have cS := fun (A B : Option Addr) c w h1 h2 => ref_Same A B [⟨0, 2⟩, ⟨0, 1⟩, ⟨0, 3⟩] [⟨0, 2⟩, ⟨0, 1⟩, ⟨0, 3⟩] c 3 w (by simp) (by simp) h1 h2
  have cA := fun A c w h => law_as A [⟨0, 2⟩, ⟨0, 1⟩, ⟨0, 3⟩] c w (by simp) h
  simp only [flatK, List.flatMap_cons, List.flatMap_nil, K2.cells, List.append_nil, List.cons_append, List.nil_append, List.length_cons, List.length_nil, Nat.zero_add, Nat.reduceAdd, decide_true] at cN kn kk cR cL cS cA
  go_enter Try.func33, Try.ntmps33
  go_wp2_with (first | (go_at_call 31; (with_reducible refine (cN _ _ (kn _)).mono ?_); rintro e w2 ⟨rfl, hs2, hb2⟩; rw [newL_123] at hs2; have hz2 := hb2.size; have hlt2 := hs2.lt; (try simp only [World.size_alloc] at hz2 hlt2 hs2); have HS2 := Lib.hid hs2; clear hs2) | (go_at_call 35; (with_reducible refine (cR _ _ HS2.out).mono ?_); rintro e w3 hr3; replace hr3 := raise_123 hr3; obtain ⟨rfl, hs3, hb3, hk3⟩ := hr3; have hz3 := hk3.1; replace hs3 := Lib.hid hs3; clear hk3) | (go_at_call 39; (with_reducible refine (cL _ _ hs3.out).mono ?_); rintro e w4 ⟨v4, rfl, ho4, hb4⟩; have hz4 := hb4.size; obtain ⟨A4, c4, rfl, hk4⟩ := ho4.kr; replace hk4 := Lib.hid hk4; clear ho4) | (go_at_call 38; (with_reducible refine (cA _ _ _ hk4.out).mono ?_); rintro e w5 ⟨v5, rfl, ho5, hb5⟩; have hz5 := hb5.size; obtain ⟨A5, c5, rfl, hk5⟩ := ho5.kr; replace hk5 := Lib.hid hk5; clear ho5) | (go_at_call 37; (with_reducible refine (cS _ _ _ _ (hk5.out.row.below ?_) (kk _).row).mono ?_); (focus ((repeat (first | (with_reducible exact Below.refl _ _) | ((with_reducible refine Below.alloc ?_ ?hB _); (case hB => (first | omega | (simp; done) | (simp; omega)))) | ((with_reducible refine Below.setCell ?_ ?hB _); (case hB => (first | omega | (simp; done) | (simp; omega)))) | (with_reducible refine Below.drew ?_) | ((with_reducible refine below_ext_of ?_ ?hB); (case hB => (first | omega | (simp; done) | (simp; omega)))) | ((with_reducible refine Below.trans ?_ (Below.mono (by assumption) ?hB)); (case hB => (first | omega | (simp; done) | (simp; omega)))))); done)); rintro e w6 ⟨rfl, hb6⟩; have hz6 := hb6.size; (try simp only [World.size_alloc] at hz6)))
  (go_ret; refine ⟨?_, by (repeat (first | (with_reducible exact Below.refl _ _) | ((with_reducible refine Below.alloc ?_ ?hB _); (case hB => (first | omega | (simp; done) | (simp; omega)))) | ((with_reducible refine Below.setCell ?_ ?hB _); (case hB => (first | omega | (simp; done) | (simp; omega)))) | (with_reducible refine Below.drew ?_) | ((with_reducible refine below_ext_of ?_ ?hB); (case hB => (first | omega | (simp; done) | (simp; omega)))) | ((with_reducible refine Below.trans ?_ (Below.mono (by assumption) ?hB)); (case hB => (first | omega | (simp; done) | (simp; omega))))))⟩); rfl
end Go.Proofs.Yteldbnelfeiifaa
