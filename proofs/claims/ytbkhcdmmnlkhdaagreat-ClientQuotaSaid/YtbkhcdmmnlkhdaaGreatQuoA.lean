/- What a client tells of a buffer that is made, of a surface; the document's example. -/
import Derived.Test.YtbkhcdmmnlkhdaaGreatSurD
import Derived.Test.YtbkhcdmmnlkhdaaGreatIdsB
namespace Go.Proofs.YtbkhcdmmnlkhdaaGreat
open Go.RowKit Go.Maps Go.Proofs.YtbkhcdmmnlkhdaaGreatW.PrintWords
set_option linter.unusedSimpArgs false
set_option linter.unusedVariables false
set_option maxRecDepth 1000000
theorem law_as15 (r : Rq) (w : World) : Calls Tryz.prog 11 #[r.v] w fun e w' => e = .returned r.v ∧ Below w.heap.size w w' := by
  unfold Rq.v Rq.cells
  go_enter Tryz.func11, Tryz.ntmps11
  go_wp2
  (refine bodyPost_ret (by simp [results, Tryz.results11, go_sem, ↓IntWalk.iteOmega, *]; rfl) rfl ⟨?_, by (repeat (first | (with_reducible exact Below.refl _ _) | ((with_reducible refine Below.alloc ?_ ?hB _); (case hB => (first | omega | (simp; done) | (simp; omega)))) | ((with_reducible refine Below.setCell ?_ ?hB _); (case hB => (first | omega | (simp; done) | (simp; omega)))) | (with_reducible refine Below.drew ?_) | ((with_reducible refine below_ext_of ?_ ?hB); (case hB => (first | omega | (simp; done) | (simp; omega)))) | ((with_reducible refine Below.trans ?_ (Below.mono (by assumption) ?hB)); (case hB => (first | omega | (simp; done) | (simp; omega))))))⟩; rfl)
theorem law_events1 (g1 g2 : Nat) (e : Ev4) (w : World) (h1 : w.heap[g1]? = some (.cells e.cells 59 (0, 0))) (h2 : w.heap[g2]? = some (.cells e.cells 38 (0, 0))) : Calls Tryz.prog 12 #[.slice (some ⟨g1, 0, none⟩) 1 1, .slice (some ⟨g2, 0, none⟩) 1 1] w fun e w' => e = .returned (.bool true) ∧ Below w.heap.size w w' := by
  obtain ⟨k, id, a, b⟩ := e
  have a0 : w.cell? ⟨g1, 0, none⟩ = some (.int .i64 k) := blk_cellO h1 0 _ rfl
  have a1 : w.cell? ⟨g1, 1, none⟩ = some (.int .i64 id) := blk_cellO h1 1 _ rfl
  have a2 : w.cell? ⟨g1, 2, none⟩ = some (.int .i64 a) := blk_cellO h1 2 _ rfl
  have a3 : w.cell? ⟨g1, 3, none⟩ = some (.int .i64 b) := blk_cellO h1 3 _ rfl
  have b0 : w.cell? ⟨g2, 0, none⟩ = some (.int .i64 k) := blk_cellO h2 0 _ rfl
  have b1 : w.cell? ⟨g2, 1, none⟩ = some (.int .i64 id) := blk_cellO h2 1 _ rfl
  have b2 : w.cell? ⟨g2, 2, none⟩ = some (.int .i64 a) := blk_cellO h2 2 _ rfl
  have b3 : w.cell? ⟨g2, 3, none⟩ = some (.int .i64 b) := blk_cellO h2 3 _ rfl
  have hl1 := blk_lt h1
  have hl2 := blk_lt h2
  clear h1 h2
  go_enter Tryz.func12, Tryz.ntmps12
  go_wp2_with fail
  refine wp_loop_rounds 2 ?_
  rw [rounds_succ]
  go_wp2_with fail
  (refine wp_region_ext_lit (by kernel_rfl) (by kernel_rfl) ?_; (repeat (go_big_quiet_step ((fail)))); refine wpQuiet_nil ?_; intro w1 hb_w1; obtain ⟨hc_w1, hf_w1⟩ := bcell hb_w1; have hz_w1 := hb_w1.size; (try simp only [World.size_alloc, World.size_setCell, World.size_drew] at hz_w1))
  go_wp2_with fail
  rw [rounds_succ]
  go_wp2
  go_ret
  exact ⟨rfl, by (repeat (first | (with_reducible exact Below.refl _ _) | ((with_reducible refine Below.alloc ?_ ?hB _); (case hB => (first | omega | (simp; done) | (simp; omega)))) | ((with_reducible refine Below.setCell ?_ ?hB _); (case hB => (first | omega | (simp; done) | (simp; omega)))) | (with_reducible refine Below.drew ?_) | ((with_reducible refine below_ext_of ?_ ?hB); (case hB => (first | omega | (simp; done) | (simp; omega)))) | ((with_reducible refine Below.trans ?_ (Below.mono (by assumption) ?hB)); (case hB => (first | omega | (simp; done) | (simp; omega))))))⟩
/-- What Do tells: nothing, and what it effects; or an error. -/
def ToldP (w : World) (r : Rq) (er : Int) (Φ : World → Value → Prop) (w' : World) (e : Ending) : Prop :=
  (er = 0 ∧ ∃ f W', e = .returned (.tuple #[.slice none 0 0, f]) ∧ Φ W' f ∧ Below W'.heap.size W' w') ∨ (er ≠ 0 ∧ ∃ v, e = .returned (.tuple #[v, .slice none 0 0]) ∧ Ev1 w' v ⟨0, r.id, er, r.op⟩)
def MakeD (w : World) (c : Nat) (s : CS) (r : Rq) (e : Ending) (w' : World) : Prop :=
  KeepF (s.foot c) w w' ∧
  ((addE s.L r.id 1 = 0 ∧ e = .returned (.tuple #[.slice none 0 0, .slice none 0 0]) ∧ ∃ b m, Cli w' c (s.make r.id b m) ∧ w.heap.size ≤ b ∧ w.heap.size ≤ m) ∨ (addE s.L r.id 1 ≠ 0 ∧ Cli w' c s ∧ ∃ v, e = .returned (.tuple #[v, .slice none 0 0]) ∧ Ev1 w' v ⟨0, r.id, addE s.L r.id 1, r.op⟩))
theorem do_make (c : Nat) (s : CS) (r : Rq) (w : World) (h : Cli w c s) (hb : CBd s) (hr : RBd r) (ho : r.op = 0) (hm : addE s.L r.id 1 = 0 → makeE s.B r.id r.a r.b = 0) : Calls Tryz.prog 10 #[(.pointer (some ⟨c, 0, none⟩)), r.v] w (MakeD w c s r) := by
  refine (cli_Do0 c s r w h 53 (enters_of Tryz.func53 (by kernel_rfl) rfl) (by rw [ho]; exact fun z => rfl) (by omega) (fun W l f er W' => l = .slice none 0 0 ∧ f = .slice none 0 0 ∧ er = addE s.L r.id 1 ∧ (er ≠ 0 → Cli W' c s) ∧ (er = 0 → ∃ b m, Cli W' c (s.make r.id b m) ∧ W.heap.size ≤ b ∧ W.heap.size ≤ m) ∧ KeepF (s.foot c) W W') (fun W hW => (cli_makes c s r W (h.below hW) hb hr hm).mono fun e W' hp => ?_)).mono fun e w' hp => ?_
  · obtain ⟨h1, h2, h3, h4⟩ := hp
    exact ⟨none, 0, 0, none, 0, 0, _, h1, ⟨rfl, rfl, rfl, h2, h3, h4⟩, h4⟩
  · obtain ⟨W, W', l, f, er, hW, ⟨rfl, rfl, rfl, h2, h3, h4⟩, hb', h5⟩ := hp
    have hk : KeepF (s.foot c) w w' := ((KeepF.of_below' hW).trans h4 (fun _ _ h => h)).below_step hb'
    refine ⟨hk, ?_⟩
    rcases h5 with ⟨he, rfl⟩ | ⟨he, v, rfl, hv⟩
    · obtain ⟨b, m, h6, h7, h8⟩ := h3 he
      exact .inl ⟨he, rfl, b, m, h6.below hb', Nat.le_trans hW.size h7, Nat.le_trans hW.size h8⟩
    · exact .inr ⟨he, (h2 he).below hb', v, rfl, hv⟩
def SurfD (w : World) (c : Nat) (s : CS) (r : Rq) (e : Ending) (w' : World) : Prop :=
  KeepF (s.foot c) w w' ∧
  ((addE s.L r.id 2 = 0 ∧ e = .returned (.tuple #[.slice none 0 0, .slice none 0 0]) ∧ ∃ b sb, Cli w' c (s.show r.id b sb) ∧ w.heap.size ≤ b ∧ w.heap.size ≤ sb) ∨ (addE s.L r.id 2 ≠ 0 ∧ Cli w' c s ∧ ∃ v, e = .returned (.tuple #[v, .slice none 0 0]) ∧ Ev1 w' v ⟨0, r.id, addE s.L r.id 2, r.op⟩))
theorem do_surface (c : Nat) (s : CS) (r : Rq) (w : World) (h : Cli w c s) (hb : CBd s) (hr : RBd r) (ho : r.op = 3) (hm : addE s.L r.id 2 = 0 → r.id ∉ s.S.map (·.1)) : Calls Tryz.prog 10 #[(.pointer (some ⟨c, 0, none⟩)), r.v] w (SurfD w c s r) := by
  refine (cli_Do0 c s r w h 56 (enters_of Tryz.func56 (by kernel_rfl) rfl) (by rw [ho]; exact fun z => rfl) (by omega) (fun W l f er W' => l = .slice none 0 0 ∧ f = .slice none 0 0 ∧ er = addE s.L r.id 2 ∧ (er ≠ 0 → Cli W' c s) ∧ (er = 0 → ∃ b m, Cli W' c (s.show r.id b m) ∧ W.heap.size ≤ b ∧ W.heap.size ≤ m) ∧ KeepF (s.foot c) W W') (fun W hW => (cli_surface c s r W (h.below hW) hb hr hm).mono fun e W' hp => ?_)).mono fun e w' hp => ?_
  · obtain ⟨h1, h2, h3, h4⟩ := hp
    exact ⟨none, 0, 0, none, 0, 0, _, h1, ⟨rfl, rfl, rfl, h2, h3, h4⟩, h4⟩
  · obtain ⟨W, W', l, f, er, hW, ⟨rfl, rfl, rfl, h2, h3, h4⟩, hb', h5⟩ := hp
    have hk : KeepF (s.foot c) w w' := ((KeepF.of_below' hW).trans h4 (fun _ _ h => h)).below_step hb'
    refine ⟨hk, ?_⟩
    rcases h5 with ⟨he, rfl⟩ | ⟨he, v, rfl, hv⟩
    · obtain ⟨b, m, h6, h7, h8⟩ := h3 he
      exact .inl ⟨he, rfl, b, m, h6.below hb', Nat.le_trans hW.size h7, Nat.le_trans hW.size h8⟩
    · exact .inr ⟨he, (h2 he).below hb', v, rfl, hv⟩
theorem do_commitN (c : Nat) (s : CS) (r : Rq) (w : World) (h : Cli w c s) (hr : RBd r) (ho : r.op = 16) (hf : findE s.L r.id 2 = 0) (sh : Sh) (he : (r.id, sh) ∈ s.S) (ha : sh.att = -1) (hc : sh.com = -1) (hsa : sh.sf.att = none) (hsn : sh.sf.now.im = none) :
    Calls Tryz.prog 10 #[(.pointer (some ⟨c, 0, none⟩)), r.v] w fun e w' => ∃ A2, e = .returned (.tuple #[.slice none 0 0, .slice A2 1 1]) ∧ EffN w' A2 ∧ KeepF (s.foot c) w w' := by
  refine (cli_DoK 2 (by omega) (by omega) c s r w h 60 (enters_of Tryz.func60 (by kernel_rfl) rfl) (by rw [ho]; exact fun z => rfl) (by omega) (fun W l f er W' => l = .slice none 0 0 ∧ er = 0 ∧ (∃ A2, f = .slice A2 1 1 ∧ EffN W' A2) ∧ KeepF (s.foot c) W W') hr.id (fun _ W hW => (cli_commitsN c s r W (h.below hW) hr sh he ha hc hsa hsn).mono fun e W' hp => ?_)).mono fun e w' hp => ?_
  · obtain ⟨A2, h1, h2, h3⟩ := hp
    exact ⟨none, 0, 0, A2, 1, 1, 0, h1, ⟨rfl, rfl, ⟨A2, rfl, h2⟩, h3⟩, h3⟩
  · rcases hp with ⟨h0, _⟩ | ⟨_, W, W', l, f, er, hW, ⟨rfl, rfl, ⟨A2, rfl, h2⟩, h3⟩, hb', h5⟩
    · exact absurd hf h0
    · rcases h5 with ⟨_, rfl⟩ | ⟨he, _⟩
      · obtain ⟨g, cs, h6, h7, h8, h9, h10⟩ := h2
        exact ⟨A2, rfl, ⟨g, cs, h6, (hb'.block g (blk_lt h7)).trans h7, h8, h9, h10⟩, ((KeepF.of_below' hW).trans h3 (fun _ _ h => h)).below_step hb'⟩
      · exact absurd rfl he
end Go.Proofs.YtbkhcdmmnlkhdaaGreat
