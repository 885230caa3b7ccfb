/- A surface that has no image, committed, walked. -/
import Derived.Test.YtbkhcdmmnlkhdaaGreatRegI
import Derived.Test.YtbkhcdmmnlkhdaaGreatCliD
namespace Go.Proofs.YtbkhcdmmnlkhdaaGreat
open Go.RowKit Go.Maps Go.Proofs.YtbkhcdmmnlkhdaaGreatW.PrintWords
set_option linter.unusedSimpArgs false
set_option linter.unusedVariables false
set_option maxRecDepth 1000000
theorem OwnG.keepF {α : Type} {E : Enc α} {F : Nat → Prop} {w w1 : World} {base : Nat} {e : TypeId} {v : Value} {l : List α} (h : OwnG E w base e v l) (hk : KeepF F w w1) (hF : ∀ b, v.ownBlock = some b → ¬ F b) : OwnG E w1 base e v l := hk.ownsRow h hF
def St.v (s : St) : Value := .agg s.l.toArray
theorem surf_BoxN (s : St) (w : World) (h : s.im = none) : Calls Tryz.prog 141 #[s.v] w fun e w' => e = .returned (.agg #[.int .i64 (0), .int .i64 (0), .int .i64 (0), .int .i64 (0)]) ∧ Below w.heap.size w w' := by
  obtain ⟨im, x, y, sc, al, c0, c1, c2, c3, op, ti⟩ := s
  simp only at h
  subst h
  unfold St.v St.l
  go_enter Tryz.func141, Tryz.ntmps141
  go_wp2
  (refine bodyPost_ret (by simp [results, Tryz.results141, go_sem, ↓IntWalk.iteOmega, *]; rfl) rfl ⟨?_, by (repeat (first | (with_reducible exact Below.refl _ _) | ((with_reducible refine Below.alloc ?_ ?hB _); (case hB => (first | omega | (simp; done) | (simp; omega)))) | ((with_reducible refine Below.setCell ?_ ?hB _); (case hB => (first | omega | (simp; done) | (simp; omega)))) | (with_reducible refine Below.drew ?_) | ((with_reducible refine below_ext_of ?_ ?hB); (case hB => (first | omega | (simp; done) | (simp; omega)))) | ((with_reducible refine Below.trans ?_ (Below.mono (by assumption) ?hB)); (case hB => (first | omega | (simp; done) | (simp; omega))))))⟩; rfl)
theorem surf_alikeN (s t : St) (w : World) (h : s.im = none) : Calls Tryz.prog 138 #[s.v, t.v] w fun e w' => e = .returned (.bool false) ∧ Below w.heap.size w w' := by
  obtain ⟨im, x, y, sc, al, c0, c1, c2, c3, op, ti⟩ := s
  obtain ⟨im', x', y', sc', al', c0', c1', c2', c3', op', ti'⟩ := t
  simp only at h
  subst h
  unfold St.v St.l
  go_enter Tryz.func138, Tryz.ntmps138
  go_wp2_with fail
  (refine wp_region_ext_lit (by kernel_rfl) (by kernel_rfl) ?_; (repeat (go_big_quiet_step ((fail)))); refine wpQuiet_nil ?_; intro w1 hb_w1; obtain ⟨hc_w1, hf_w1⟩ := bcell hb_w1; have hz_w1 := hb_w1.size; (try simp only [World.size_alloc, World.size_setCell, World.size_drew] at hz_w1))
  go_wp2
  go_ret
  exact ⟨rfl, by (repeat (first | (with_reducible exact Below.refl _ _) | ((with_reducible refine Below.alloc ?_ ?hB _); (case hB => (first | omega | (simp; done) | (simp; omega)))) | ((with_reducible refine Below.setCell ?_ ?hB _); (case hB => (first | omega | (simp; done) | (simp; omega)))) | (with_reducible refine Below.drew ?_) | ((with_reducible refine below_ext_of ?_ ?hB); (case hB => (first | omega | (simp; done) | (simp; omega)))) | ((with_reducible refine Below.trans ?_ (Below.mono (by assumption) ?hB)); (case hB => (first | omega | (simp; done) | (simp; omega))))))⟩
theorem surf_contentN (sb : Nat) (w : World) (cs : Array Value) (h : w.heap[sb]? = some (.cells cs 228 (0, 0))) (h22 : cs[22]? = some (.pointer none)) : Calls Tryz.prog 135 #[(.pointer (some ⟨sb, 0, none⟩))] w fun e w' => e = .returned (.tuple #[.pointer none, .slice none 0 0]) ∧ w = w' := by
  have g := blk_cellO h 22 _ h22
  clear h h22
  go_enter Tryz.func135, Tryz.ntmps135
  go_wp2
  go_ret2
  exact ⟨rfl, rfl⟩
theorem reg_Area0 (A : Option Addr) (c : Nat) (w : World) : Calls Tryz.prog 137 #[.slice A 0 c] w fun e w' => e = .returned (.int .i64 0) ∧ w = w' := by
  go_enter Tryz.func137, Tryz.ntmps137
  go_wp2_with fail
  refine wp_loop_rounds 1 ?_
  rw [rounds_succ]
  go_wp2
  go_ret
  exact ⟨rfl, rfl⟩
theorem surf_cloneN (s : St) (w : World) (l : List R) (h : s.im = none) (hn : s.opq.n = l.length) (hl : l.length ≤ 1000000000000) (hr : RdG RE w s.opq.A l s.opq.c) : Calls Tryz.prog 142 #[s.v] w fun e w' => ∃ o : Sl, e = .returned ({ s with opq := o }).v ∧ OwnG RE w' w.heap.size 26 o.v l ∧ Below w.heap.size w w' := by
  obtain ⟨im, x, y, sc, al, c0, c1, c2, c3, ⟨A, n, c⟩, ti⟩ := s
  simp only at h hr hn
  subst h hn
  have cC := fun W (h : Below w.heap.size w W) => sl_Clone A l c W hl (hr.below h)
  unfold St.v St.l
  clear hr
  go_enter Tryz.func142, Tryz.ntmps142
  go_wp2_with (first | (go_at_call 184; (with_reducible refine (cC _ ?_).mono ?_); (focus ((repeat (first | (with_reducible exact Below.refl _ _) | ((with_reducible refine Below.alloc ?_ ?hB _); (case hB => (first | omega | (simp; done) | (simp; omega)))) | ((with_reducible refine Below.setCell ?_ ?hB _); (case hB => (first | omega | (simp; done) | (simp; omega)))) | (with_reducible refine Below.drew ?_) | ((with_reducible refine below_ext_of ?_ ?hB); (case hB => (first | omega | (simp; done) | (simp; omega)))) | ((with_reducible refine Below.trans ?_ (Below.mono (by assumption) ?hB)); (case hB => (first | omega | (simp; done) | (simp; omega)))))); done)); rintro e w1 ⟨v1, rfl, ho1, hb1⟩; obtain ⟨hc1, hf1⟩ := bcell hb1; have hz1 := hb1.size; (try simp only [World.size_alloc, World.size_setCell] at hz1); obtain ⟨A1, c1', rfl, -, -⟩ := ho1.rd))
  (refine bodyPost_ret (by simp [results, Tryz.results142, go_sem, ↓IntWalk.iteOmega, *]; rfl) rfl ?_)
  refine ⟨⟨A1, _, c1'⟩, rfl, ?_, by (repeat (first | (with_reducible exact Below.refl _ _) | ((with_reducible refine Below.alloc ?_ ?hB _); (case hB => (first | omega | (simp; done) | (simp; omega)))) | ((with_reducible refine Below.setCell ?_ ?hB _); (case hB => (first | omega | (simp; done) | (simp; omega)))) | (with_reducible refine Below.drew ?_) | ((with_reducible refine below_ext_of ?_ ?hB); (case hB => (first | omega | (simp; done) | (simp; omega)))) | ((with_reducible refine Below.trans ?_ (Below.mono (by assumption) ?hB)); (case hB => (first | omega | (simp; done) | (simp; omega))))))⟩
  refine OwnG.keepF (F := fun k => k < w.heap.size + 2) (OwnG.mono ho1 (by simp; omega)) (by (repeat (first | (with_reducible exact KeepF.refl _ _) | (with_reducible refine KeepF.alloc ?_ _) | ((with_reducible refine KeepF.setCell ?_ _ _ _ ?hF); (case hF => (intro _; show _ < _; (first | omega | (simp; done) | (simp; omega))))) | (with_reducible refine KeepF.drew ?_) | (with_reducible refine KeepF.below_step ?_ (by assumption))))) (fun b hb hlt => ?_)
  have := (World.ownsRow.lt ho1 b hb).1
  simp at this
  omega
end Go.Proofs.YtbkhcdmmnlkhdaaGreat
