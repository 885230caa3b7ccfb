/- A client commits a surface that has no image, walked. -/
import Derived.Test.YtbkhcdmmnlkhdaaGreatSurB
namespace Go.Proofs.YtbkhcdmmnlkhdaaGreat
open Go.RowKit Go.Maps Go.Proofs.YtbkhcdmmnlkhdaaGreatW.PrintWords
set_option linter.unusedSimpArgs false
set_option linter.unusedVariables false
set_option maxRecDepth 1000000
theorem surf_StateN (sb : Nat) (s : St) (cs : List Value) (w : World) (h : w.heap[sb]? = some (.cells (s.l ++ cs).toArray 228 (0, 0))) (hi : s.im = none) (l : List R) (hn : s.opq.n = l.length) (hl : l.length ≤ 1000000000000) (hr : RdG RE w s.opq.A l s.opq.c) : Calls Tryz.prog 97 #[(.pointer (some ⟨sb, 0, none⟩))] w fun e w' => ∃ o : Sl, e = .returned ({ s with opq := o }).v ∧ OwnG RE w' w.heap.size 26 o.v l ∧ Below w.heap.size w w' := by
  have cC := fun W (h : Below w.heap.size w W) => surf_cloneN s W l hi hn hl (hr.below h)
  obtain ⟨im, x, y, sc, al, e0, e1, e2, e3, ⟨oA, on, oc⟩, ti⟩ := s
  simp only at hi
  subst hi
  have hsb := blk_lt h
  have g0 : w.cell? ⟨sb, 0, none⟩ = some (.pointer none) := blk_cellO h 0 _ rfl
  have g1 : w.cell? ⟨sb, 1, none⟩ = some (.int .i64 x) := blk_cellO h 1 _ rfl
  have g2 : w.cell? ⟨sb, 2, none⟩ = some (.int .i64 y) := blk_cellO h 2 _ rfl
  have g3 : w.cell? ⟨sb, 3, none⟩ = some (.int .i64 sc) := blk_cellO h 3 _ rfl
  have g4 : w.cell? ⟨sb, 4, none⟩ = some (.int .i64 al) := blk_cellO h 4 _ rfl
  have g5 : w.cell? ⟨sb, 5, none⟩ = some (.int .i64 e0) := blk_cellO h 5 _ rfl
  have g6 : w.cell? ⟨sb, 6, none⟩ = some (.int .i64 e1) := blk_cellO h 6 _ rfl
  have g7 : w.cell? ⟨sb, 7, none⟩ = some (.int .i64 e2) := blk_cellO h 7 _ rfl
  have g8 : w.cell? ⟨sb, 8, none⟩ = some (.int .i64 e3) := blk_cellO h 8 _ rfl
  have g9 : w.cell? ⟨sb, 9, none⟩ = some (.slice oA on oc) := blk_cellO h 9 _ rfl
  have g10 : w.cell? ⟨sb, 10, none⟩ = some (.string ti) := blk_cellO h 10 _ rfl
  clear h hr
  unfold St.v St.l at *
  go_enter Tryz.func97, Tryz.ntmps97
  go_wp2_with (first | (go_at_call 142; (with_reducible refine (cC _ ?_).mono ?_); (focus ((repeat (first | (with_reducible exact Below.refl _ _) | ((with_reducible refine Below.alloc ?_ ?hB _); (case hB => (first | omega | (simp; done) | (simp; omega)))) | ((with_reducible refine Below.setCell ?_ ?hB _); (case hB => (first | omega | (simp; done) | (simp; omega)))) | (with_reducible refine Below.drew ?_) | ((with_reducible refine below_ext_of ?_ ?hB); (case hB => (first | omega | (simp; done) | (simp; omega)))) | ((with_reducible refine Below.trans ?_ (Below.mono (by assumption) ?hB)); (case hB => (first | omega | (simp; done) | (simp; omega)))))); done)); rintro e w1 ⟨⟨A1, n1, c1⟩, rfl, ho1, hb1⟩; obtain ⟨hc1, hf1⟩ := bcell hb1; have hz1 := hb1.size; (try simp only [World.size_alloc, World.size_setCell] at hz1)))
  (refine bodyPost_ret (by simp [results, Tryz.results97, go_sem, ↓IntWalk.iteOmega, *]; rfl) rfl ?_)
  refine ⟨⟨A1, n1, c1⟩, rfl, ?_, by (repeat (first | (with_reducible exact Below.refl _ _) | ((with_reducible refine Below.alloc ?_ ?hB _); (case hB => (first | omega | (simp; done) | (simp; omega)))) | ((with_reducible refine Below.setCell ?_ ?hB _); (case hB => (first | omega | (simp; done) | (simp; omega)))) | (with_reducible refine Below.drew ?_) | ((with_reducible refine below_ext_of ?_ ?hB); (case hB => (first | omega | (simp; done) | (simp; omega)))) | ((with_reducible refine Below.trans ?_ (Below.mono (by assumption) ?hB)); (case hB => (first | omega | (simp; done) | (simp; omega))))))⟩
  refine OwnG.keepF (F := fun k => k < w.heap.size + 1) (OwnG.mono ho1 (by simp)) (by (repeat (first | (with_reducible exact KeepF.refl _ _) | (with_reducible refine KeepF.alloc ?_ _) | ((with_reducible refine KeepF.setCell ?_ _ _ _ ?hF); (case hF => (intro _; show _ < _; (first | omega | (simp; done) | (simp; omega))))) | (with_reducible refine KeepF.drew ?_) | (with_reducible refine KeepF.below_step ?_ (by assumption))))) (fun b hb hlt => ?_)
  have := (World.ownsRow.lt ho1 b hb).1
  simp at this
  omega
theorem sl_CloneN (c : Nat) (w : World) : Calls Tryz.prog 184 #[.slice none 0 c] w fun e w' => e = .returned (.slice none 0 0) ∧ w = w' := by
  have he := eqn_none 0 c
  go_enter Tryz.func184, Tryz.ntmps184
  go_wp2
  go_ret
  exact ⟨rfl, rfl⟩
theorem surf_cloneF (s : St) (w : World) (h : s.im = none) (ho : s.opq = ⟨none, 0, 0⟩) : Calls Tryz.prog 142 #[s.v] w fun e w' => e = .returned s.v ∧ Below w.heap.size w w' := by
  obtain ⟨im, x, y, sc, al, c0, c1, c2, c3, ⟨A, n, c⟩, ti⟩ := s
  simp only [Sl.mk.injEq] at h ho
  obtain ⟨rfl, rfl, rfl⟩ := ho
  subst h
  have cC := fun W => sl_CloneN 0 W
  unfold St.v St.l
  go_enter Tryz.func142, Tryz.ntmps142
  go_wp2_with (first | (go_at_call 184; (with_reducible refine (cC _).mono ?_); rintro e w1 ⟨rfl, rfl⟩))
  (refine bodyPost_ret (by simp [results, Tryz.results142, go_sem, ↓IntWalk.iteOmega, *]; rfl) rfl ?_)
  exact ⟨rfl, by (repeat (first | (with_reducible exact Below.refl _ _) | ((with_reducible refine Below.alloc ?_ ?hB _); (case hB => (first | omega | (simp; done) | (simp; omega)))) | ((with_reducible refine Below.setCell ?_ ?hB _); (case hB => (first | omega | (simp; done) | (simp; omega)))) | (with_reducible refine Below.drew ?_) | ((with_reducible refine below_ext_of ?_ ?hB); (case hB => (first | omega | (simp; done) | (simp; omega)))) | ((with_reducible refine Below.trans ?_ (Below.mono (by assumption) ?hB)); (case hB => (first | omega | (simp; done) | (simp; omega))))))⟩
theorem surf_StateF (sb : Nat) (s : St) (cs : List Value) (w : World) (h : w.heap[sb]? = some (.cells (s.l ++ cs).toArray 228 (0, 0))) (hi : s.im = none) (ho : s.opq = ⟨none, 0, 0⟩) : Calls Tryz.prog 97 #[(.pointer (some ⟨sb, 0, none⟩))] w fun e w' => e = .returned s.v ∧ Below w.heap.size w w' := by
  have cC := fun W => surf_cloneF s W hi ho
  obtain ⟨im, x, y, sc, al, e0, e1, e2, e3, ⟨oA, on, oc⟩, ti⟩ := s
  simp only at hi
  subst hi
  have hsb := blk_lt h
  have g0 : w.cell? ⟨sb, 0, none⟩ = some (.pointer none) := blk_cellO h 0 _ rfl
  have g1 : w.cell? ⟨sb, 1, none⟩ = some (.int .i64 x) := blk_cellO h 1 _ rfl
  have g2 : w.cell? ⟨sb, 2, none⟩ = some (.int .i64 y) := blk_cellO h 2 _ rfl
  have g3 : w.cell? ⟨sb, 3, none⟩ = some (.int .i64 sc) := blk_cellO h 3 _ rfl
  have g4 : w.cell? ⟨sb, 4, none⟩ = some (.int .i64 al) := blk_cellO h 4 _ rfl
  have g5 : w.cell? ⟨sb, 5, none⟩ = some (.int .i64 e0) := blk_cellO h 5 _ rfl
  have g6 : w.cell? ⟨sb, 6, none⟩ = some (.int .i64 e1) := blk_cellO h 6 _ rfl
  have g7 : w.cell? ⟨sb, 7, none⟩ = some (.int .i64 e2) := blk_cellO h 7 _ rfl
  have g8 : w.cell? ⟨sb, 8, none⟩ = some (.int .i64 e3) := blk_cellO h 8 _ rfl
  have g9 : w.cell? ⟨sb, 9, none⟩ = some (.slice oA on oc) := blk_cellO h 9 _ rfl
  have g10 : w.cell? ⟨sb, 10, none⟩ = some (.string ti) := blk_cellO h 10 _ rfl
  clear h
  unfold St.v St.l at *
  go_enter Tryz.func97, Tryz.ntmps97
  go_wp2_with (first | (go_at_call 142; (with_reducible refine (cC _).mono ?_); rintro e w1 ⟨rfl, hb1⟩; obtain ⟨hc1, hf1⟩ := bcell hb1; have hz1 := hb1.size; (try simp only [World.size_alloc, World.size_setCell] at hz1)))
  (refine bodyPost_ret (by simp [results, Tryz.results97, go_sem, ↓IntWalk.iteOmega, *]; rfl) rfl ?_)
  exact ⟨rfl, by (repeat (first | (with_reducible exact Below.refl _ _) | ((with_reducible refine Below.alloc ?_ ?hB _); (case hB => (first | omega | (simp; done) | (simp; omega)))) | ((with_reducible refine Below.setCell ?_ ?hB _); (case hB => (first | omega | (simp; done) | (simp; omega)))) | (with_reducible refine Below.drew ?_) | ((with_reducible refine below_ext_of ?_ ?hB); (case hB => (first | omega | (simp; done) | (simp; omega)))) | ((with_reducible refine Below.trans ?_ (Below.mono (by assumption) ?hB)); (case hB => (first | omega | (simp; done) | (simp; omega))))))⟩
theorem zShown (w : World) : (zeroValue 176).run Tryz.prog w = .ok (.pointer none) w := by kernel_rfl
theorem elemP_nil : elemP (.pointer none) = some (.nil, []) := rdr_mk encP_inj none
/-- What a map of pointers tells of a key that it has. -/
theorem look_sh {w : World} {b n : Nat} {D : DataW Unit} {l : List (Int × Nat)} (hown : w.ownsMap Tryz.prog 3 elemP b n D) (hL : MapN D l) (x : Int) (q : Nat) (hx : lookN l x = some q) (hw : (Lit.int .i64 x).wf = true) : (Instr.lookup 86 (.map (some b)) (.int .i64 x) false).run Tryz.prog w = .ok (.pointer (some ⟨q, 0, none⟩)) w := by
  obtain ⟨v, ps, hrun, hR⟩ := hown.lookup kInt Tryz.underlying86 (zShown w) elemP_nil (keyOf_int_mk Tryz.underlying3 hw)
  rw [hL.at_ x q hx] at hR
  obtain ⟨y, rfl, _⟩ := rdr_inv (enc := encP) (dat := datP) hR
  obtain rfl := elemP_inv hR
  exact hrun
end Go.Proofs.YtbkhcdmmnlkhdaaGreat
