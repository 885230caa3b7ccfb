/- A client does what is asked. -/
import Derived.Test.YtbkhcdmmnlkhdaaGreatCliC
namespace Go.Proofs.YtbkhcdmmnlkhdaaGreat
open Go.RowKit Go.Maps Go.Proofs.YtbkhcdmmnlkhdaaGreatW.PrintWords
set_option linter.unusedSimpArgs false
set_option linter.unusedVariables false
set_option maxRecDepth 1000000
attribute [local go_sem] run_store_func
/-- An event. -/
structure Ev4 where
  k : Int
  id : Int
  a : Int
  b : Int
def Ev4.cells (e : Ev4) : Array Value := #[.int .i64 e.k, .int .i64 e.id, .int .i64 e.a, .int .i64 e.b]
theorem cli_Error (p : Nat) (r : Rq) (e : Int) (w : World) : Calls Tryz.prog 31 #[(.pointer (some ⟨p, 0, none⟩)), r.v, .int .i64 e] w fun en w' => en = .returned (.agg (Ev4.mk 0 r.id e r.op).cells) ∧ Below w.heap.size w w' := by
  unfold Rq.v Rq.cells Ev4.cells
  go_enter Tryz.func31, Tryz.ntmps31
  go_wp2
  (refine bodyPost_ret (by simp [results, Tryz.results31, go_sem, ↓IntWalk.iteOmega, *]; rfl) rfl ⟨?_, by (repeat (first | (with_reducible exact Below.refl _ _) | ((with_reducible refine Below.alloc ?_ ?hB _); (case hB => (first | omega | (simp; done) | (simp; omega)))) | ((with_reducible refine Below.setCell ?_ ?hB _); (case hB => (first | omega | (simp; done) | (simp; omega)))) | (with_reducible refine Below.drew ?_) | ((with_reducible refine below_ext_of ?_ ?hB); (case hB => (first | omega | (simp; done) | (simp; omega)))) | ((with_reducible refine Below.trans ?_ (Below.mono (by assumption) ?hB)); (case hB => (first | omega | (simp; done) | (simp; omega))))))⟩; rfl)
theorem look_all {w : World} {b : Nat} (h : w.ownsMap Tryz.prog 3 elemF b 19 (Dl 9)) {op kind : Int} {f : Nat} (hat : ∀ z, (Dl 9).atKey (.int .i64 op) z = .agg [.lit (.int .i64 kind), .lit (.int .i64 f)]) (ho : -100 ≤ op ∧ op ≤ 100) :
    (Instr.lookup 92 (.map (some b)) (.int .i64 op) false).run Tryz.prog w = .ok (.agg #[.int .i64 kind, .func (.func f) #[] #[]]) w := by
  obtain ⟨v, ps, hrun, hR⟩ := h.lookup kInt Tryz.underlying92 (zD w) elemF_nil (kw op ho)
  rw [hat] at hR
  obtain rfl := elemF_inv hR
  exact hrun
theorem ne_of_test {x : Int} (h : (x != 0) = true) : x ≠ 0 := by simpa using h
theorem eq_of_test {x : Int} (h : (x != 0) = false) : x = 0 := by simpa using h
/-- A slice of one event of its own. -/
def Ev1 (w : World) (v : Value) (e : Ev4) : Prop := ∃ g, v = .slice (some ⟨g, 0, none⟩) 1 1 ∧ w.heap[g]? = some (.cells e.cells 59 (0, 0))
/-- What a deed told, as Do tells it. -/
def DoneP (Φ : World → Value → Value → Int → World → Prop) (w : World) (r : Rq) (e : Ending) (w' : World) : Prop :=
  ∃ W W' l f er, Below w.heap.size w W ∧ Φ W l f er W' ∧ Below W'.heap.size W' w' ∧ ((er = 0 ∧ e = .returned (.tuple #[l, f])) ∨ (er ≠ 0 ∧ ∃ v, e = .returned (.tuple #[v, .slice none 0 0]) ∧ Ev1 w' v ⟨0, r.id, er, r.op⟩))
set_option maxHeartbeats 4000000 in
theorem cli_Do0 (c : Nat) (s : CS) (r : Rq) (w : World) (h : Cli w c s) (fn : Nat) (heg : ∀ args w, (callFunc fn args).run Tryz.prog w = .ok (.enter fn args) w) (hat : ∀ z, (Dl 9).atKey (.int .i64 r.op) z = .agg [.lit (.int .i64 0), .lit (.int .i64 fn)]) (ho : -100 ≤ r.op ∧ r.op ≤ 100)
    (Φ : World → Value → Value → Int → World → Prop) (hd : ∀ W, Below w.heap.size w W → Calls Tryz.prog fn #[(.pointer (some ⟨c, 0, none⟩)), r.v] W fun e W' => ∃ A1 n1 m1 A2 n2 m2 er, e = .returned (.agg #[.slice A1 n1 m1, .slice A2 n2 m2, .int .i64 (er)]) ∧ Φ W (.slice A1 n1 m1) (.slice A2 n2 m2) er W' ∧ KeepF (s.foot c) W W') : Calls Tryz.prog 10 #[(.pointer (some ⟨c, 0, none⟩)), r.v] w (DoneP Φ w r) := by
  have cA := cli_all
  replace hat := Lib.hid hat
  unfold Rq.v Rq.cells
  unfold Rq.v Rq.cells at hd
  have hF : ∀ k, s.foot c k → k < w.heap.size := fun k hk => h.foot_lt hk
  clear h
  replace hd := Lib.hid hd
  replace hF := Lib.hid hF
  have cE := cli_Error
  unfold Rq.v Rq.cells Ev4.cells at cE
  go_enter Tryz.func10, Tryz.ntmps10
  go_wp2_with fail
  have q0 : (w.alloc (.cells r.cells 34)).cell? ⟨w.heap.size, 0, none⟩ = some (.int .i64 r.op) := by simp [go_sem, Rq.cells]
  have hz : w.heap.size < (w.alloc (.cells r.cells 34)).heap.size := by simp
  unfold Rq.cells at q0 hz
  go_region_held3 (fun w' => w'.cell? ⟨w.heap.size, 0, none⟩ = some (.int .i64 r.op))
    (first | assumption | (rw [cell_set_ite, if_neg (by omega), cell_set_ite, if_neg (by omega)]; assumption) | go_keep)
    (first | (go_at_call 29; (with_reducible refine (cA _).mono ?_); rintro e w3 ⟨rfl, hown, hb3⟩; obtain ⟨hc3, hf3⟩ := bcell hb3; have hz3 := hb3.size; (try simp only [World.size_drew, World.size_alloc] at hz3); have k3 : w3.cell? ⟨w.heap.size, 0, none⟩ = some (.int .i64 r.op) := (hb3.cell (p := ⟨w.heap.size, 0, none⟩) (by (first | omega | (simp; done) | (simp; omega)))).trans (by assumption); have hl3 := look_all hown hat.out ho; have hl4 := fun o => look_all (hown.alloc o) hat.out ho; simp only [World.size_drew, World.size_alloc] at hl3 hl4))
  all_goals clear hat
  all_goals
    go_wp2_with (first
      | (go_at_call 31; (with_reducible refine (cE _ r _ _).mono ?_); rintro e w5 ⟨rfl, hb5⟩; obtain ⟨hc5, hf5⟩ := bcell hb5; have hz5 := hb5.size; (try simp only [World.size_drew, World.size_alloc, World.size_setCell] at hz5))
      | ((with_reducible refine (hd.out _ (by (repeat (first | (with_reducible exact Below.refl _ _) | ((with_reducible refine Below.alloc ?_ ?hB _); (case hB => (first | omega | (simp; done) | (simp; omega)))) | ((with_reducible refine Below.setCell ?_ ?hB _); (case hB => (first | omega | (simp; done) | (simp; omega)))) | (with_reducible refine Below.drew ?_) | ((with_reducible refine below_ext_of ?_ ?hB); (case hB => (first | omega | (simp; done) | (simp; omega)))) | ((with_reducible refine Below.trans ?_ (Below.mono (by assumption) ?hB)); (case hB => (first | omega | (simp; done) | (simp; omega)))))))).mono ?_); rintro e w4 ⟨A1, n1, m1, A2, n2, m2, er, rfl, hΦ, hk4⟩; obtain ⟨hc4, hf4⟩ := fcell hk4 hF.out; have hz4 := hk4.size; (try simp only [World.size_drew, World.size_alloc, World.size_setCell] at hz4)))
  all_goals first
    | (go_ret2
       exact ⟨_, _, _, _, er, by (repeat (first | (with_reducible exact Below.refl _ _) | ((with_reducible refine Below.alloc ?_ ?hB _); (case hB => (first | omega | (simp; done) | (simp; omega)))) | ((with_reducible refine Below.setCell ?_ ?hB _); (case hB => (first | omega | (simp; done) | (simp; omega)))) | (with_reducible refine Below.drew ?_) | ((with_reducible refine below_ext_of ?_ ?hB); (case hB => (first | omega | (simp; done) | (simp; omega)))) | ((with_reducible refine Below.trans ?_ (Below.mono (by assumption) ?hB)); (case hB => (first | omega | (simp; done) | (simp; omega)))))), hΦ, by (repeat (first | (with_reducible exact Below.refl _ _) | ((with_reducible refine Below.alloc ?_ ?hB _); (case hB => (first | omega | (simp; done) | (simp; omega)))) | ((with_reducible refine Below.setCell ?_ ?hB _); (case hB => (first | omega | (simp; done) | (simp; omega)))) | (with_reducible refine Below.drew ?_) | ((with_reducible refine below_ext_of ?_ ?hB); (case hB => (first | omega | (simp; done) | (simp; omega)))) | ((with_reducible refine Below.trans ?_ (Below.mono (by assumption) ?hB)); (case hB => (first | omega | (simp; done) | (simp; omega)))))), .inr ⟨ne_of_test (by assumption), _, rfl, w5.heap.size, rfl, blk_new _ _⟩⟩)
    | ((refine wp_region_ext_lit (by kernel_rfl) (by kernel_rfl) ?_; (repeat (go_big_quiet_step ((fail)))); refine wpQuiet_nil ?_; intro w6 hb_w6; obtain ⟨hc_w6, hf_w6⟩ := bcell hb_w6; have hz_w6 := hb_w6.size; (try simp only [World.size_alloc, World.size_setCell, World.size_drew] at hz_w6))
       go_wp2_with fail
       go_ret2
       exact ⟨_, _, _, _, er, by (repeat (first | (with_reducible exact Below.refl _ _) | ((with_reducible refine Below.alloc ?_ ?hB _); (case hB => (first | omega | (simp; done) | (simp; omega)))) | ((with_reducible refine Below.setCell ?_ ?hB _); (case hB => (first | omega | (simp; done) | (simp; omega)))) | (with_reducible refine Below.drew ?_) | ((with_reducible refine below_ext_of ?_ ?hB); (case hB => (first | omega | (simp; done) | (simp; omega)))) | ((with_reducible refine Below.trans ?_ (Below.mono (by assumption) ?hB)); (case hB => (first | omega | (simp; done) | (simp; omega)))))), hΦ, by (repeat (first | (with_reducible exact Below.refl _ _) | ((with_reducible refine Below.alloc ?_ ?hB _); (case hB => (first | omega | (simp; done) | (simp; omega)))) | ((with_reducible refine Below.setCell ?_ ?hB _); (case hB => (first | omega | (simp; done) | (simp; omega)))) | (with_reducible refine Below.drew ?_) | ((with_reducible refine below_ext_of ?_ ?hB); (case hB => (first | omega | (simp; done) | (simp; omega)))) | ((with_reducible refine Below.trans ?_ (Below.mono (by assumption) ?hB)); (case hB => (first | omega | (simp; done) | (simp; omega)))))), .inl ⟨eq_of_test (by assumption), rfl⟩⟩)
def DoKP (Φ : World → Value → Value → Int → World → Prop) (w : World) (r : Rq) (y : Int) (e : Ending) (w' : World) : Prop :=
  (y ≠ 0 ∧ ∃ v, e = .returned (.tuple #[v, .slice none 0 0]) ∧ Ev1 w' v ⟨0, r.id, y, r.op⟩ ∧ Below w.heap.size w w') ∨ (y = 0 ∧ DoneP Φ w r e w')
set_option maxHeartbeats 4000000 in
theorem cli_DoK (kind : Int) (hk1 : 1 ≤ kind) (hk2 : kind ≤ 8) (c : Nat) (s : CS) (r : Rq) (w : World) (h : Cli w c s) (fn : Nat) (heg : ∀ args w, (callFunc fn args).run Tryz.prog w = .ok (.enter fn args) w) (hat : ∀ z, (Dl 9).atKey (.int .i64 r.op) z = .agg [.lit (.int .i64 kind), .lit (.int .i64 fn)]) (ho : -100 ≤ r.op ∧ r.op ≤ 100)
    (Φ : World → Value → Value → Int → World → Prop) (hid : -9223372036854775808 ≤ r.id ∧ r.id ≤ 9223372036854775807) (hd : findE s.L r.id kind = 0 → ∀ W, Below w.heap.size w W → Calls Tryz.prog fn #[(.pointer (some ⟨c, 0, none⟩)), r.v] W fun e W' => ∃ A1 n1 m1 A2 n2 m2 er, e = .returned (.agg #[.slice A1 n1 m1, .slice A2 n2 m2, .int .i64 (er)]) ∧ Φ W (.slice A1 n1 m1) (.slice A2 n2 m2) er W' ∧ KeepF (s.foot c) W W') : Calls Tryz.prog 10 #[(.pointer (some ⟨c, 0, none⟩)), r.v] w (DoKP Φ w r (findE s.L r.id kind)) := by
  have cA := cli_all
  replace hat := Lib.hid hat
  unfold Rq.v Rq.cells
  unfold Rq.v Rq.cells at hd
  have cF : ∀ W, Below w.heap.size w W → Calls Tryz.prog 30 #[(.pointer (some ⟨s.t, 0, none⟩)), .int .i64 r.id, .int .i64 kind] W fun e w' => e = .returned (.int .i64 (findE s.L r.id kind)) ∧ W = w' := fun W hW => ids_Find s.t s.bm s.tn s.L r.id kind W (h.below hW).tab hid
  have c0 := (blk_cell h.blk 0).trans rfl
  have hc := blk_lt h.blk
  obtain ⟨y, hy⟩ : ∃ y, findE s.L r.id kind = y := ⟨_, rfl⟩
  rw [hy] at cF hd ⊢
  have hkp : (decide (0 < kind)) = true := decide_eq_true (by omega)
  have hF : ∀ k, s.foot c k → k < w.heap.size := fun k hk => h.foot_lt hk
  clear h
  replace cF := Lib.hid cF
  replace hF := Lib.hid hF
  have cE := cli_Error
  unfold Rq.v Rq.cells Ev4.cells at cE
  by_cases hy0 : y = 0
  · subst hy0
    replace hd := Lib.hid (hd rfl)
    clear hy
    go_enter Tryz.func10, Tryz.ntmps10
    go_wp2_with fail
    have q0 : (w.alloc (.cells r.cells 34)).cell? ⟨w.heap.size, 0, none⟩ = some (.int .i64 r.op) := by simp [go_sem, Rq.cells]
    have hz : w.heap.size < (w.alloc (.cells r.cells 34)).heap.size := by simp
    unfold Rq.cells at q0 hz
    go_region_held3 (fun w' => w'.cell? ⟨w.heap.size, 0, none⟩ = some (.int .i64 r.op))
      (first | assumption | (rw [cell_set_ite, if_neg (by omega), cell_set_ite, if_neg (by omega)]; assumption) | go_keep)
      (first | (go_at_call 29; (with_reducible refine (cA _).mono ?_); rintro e w3 ⟨rfl, hown, hb3⟩; obtain ⟨hc3, hf3⟩ := bcell hb3; have hz3 := hb3.size; (try simp only [World.size_drew, World.size_alloc] at hz3); have k3 : w3.cell? ⟨w.heap.size, 0, none⟩ = some (.int .i64 r.op) := (hb3.cell (p := ⟨w.heap.size, 0, none⟩) (by (first | omega | (simp; done) | (simp; omega)))).trans (by assumption); have hl3 := look_all hown hat.out ho; have hl4 := fun o => look_all (hown.alloc o) hat.out ho; simp only [World.size_drew, World.size_alloc] at hl3 hl4))
    all_goals clear hat
    all_goals go_wp2_with fail
    all_goals (refine wp_region_ext_mid 8 (by kernel_rfl) (by kernel_rfl) ?_; simp only [List.take_succ_cons, List.take_zero, List.drop_succ_cons, List.drop_zero]; (repeat (go_big_quiet_step ((fail)))); refine wpQuiet_nil ?_; intro w7 hb_w7; obtain ⟨hc_w7, hf_w7⟩ := bcell hb_w7; have hz_w7 := hb_w7.size; (try simp only [World.size_alloc, World.size_setCell, World.size_drew] at hz_w7))
    all_goals
      go_wp2_with (first
        | (go_at_call 30; (with_reducible refine (cF.out _ (by (repeat (first | (with_reducible exact Below.refl _ _) | ((with_reducible refine Below.alloc ?_ ?hB _); (case hB => (first | omega | (simp; done) | (simp; omega)))) | ((with_reducible refine Below.setCell ?_ ?hB _); (case hB => (first | omega | (simp; done) | (simp; omega)))) | (with_reducible refine Below.drew ?_) | ((with_reducible refine below_ext_of ?_ ?hB); (case hB => (first | omega | (simp; done) | (simp; omega)))) | ((with_reducible refine Below.trans ?_ (Below.mono (by assumption) ?hB)); (case hB => (first | omega | (simp; done) | (simp; omega)))))))).mono ?_); rintro e w8 ⟨rfl, rfl⟩)
        | (go_at_call 31; (with_reducible refine (cE _ r _ _).mono ?_); rintro e w5 ⟨rfl, hb5⟩; obtain ⟨hc5, hf5⟩ := bcell hb5; have hz5 := hb5.size; (try simp only [World.size_drew, World.size_alloc, World.size_setCell] at hz5))
        | ((with_reducible refine (hd.out _ (by (repeat (first | (with_reducible exact Below.refl _ _) | ((with_reducible refine Below.alloc ?_ ?hB _); (case hB => (first | omega | (simp; done) | (simp; omega)))) | ((with_reducible refine Below.setCell ?_ ?hB _); (case hB => (first | omega | (simp; done) | (simp; omega)))) | (with_reducible refine Below.drew ?_) | ((with_reducible refine below_ext_of ?_ ?hB); (case hB => (first | omega | (simp; done) | (simp; omega)))) | ((with_reducible refine Below.trans ?_ (Below.mono (by assumption) ?hB)); (case hB => (first | omega | (simp; done) | (simp; omega)))))))).mono ?_); rintro e w4 ⟨A1, n1, m1, A2, n2, m2, er, rfl, hΦ, hk4⟩; obtain ⟨hc4, hf4⟩ := fcell hk4 hF.out; have hz4 := hk4.size; (try simp only [World.size_drew, World.size_alloc, World.size_setCell] at hz4)))
    all_goals first
      | (go_ret2
         exact .inr ⟨rfl, _, _, _, _, er, by (repeat (first | (with_reducible exact Below.refl _ _) | ((with_reducible refine Below.alloc ?_ ?hB _); (case hB => (first | omega | (simp; done) | (simp; omega)))) | ((with_reducible refine Below.setCell ?_ ?hB _); (case hB => (first | omega | (simp; done) | (simp; omega)))) | (with_reducible refine Below.drew ?_) | ((with_reducible refine below_ext_of ?_ ?hB); (case hB => (first | omega | (simp; done) | (simp; omega)))) | ((with_reducible refine Below.trans ?_ (Below.mono (by assumption) ?hB)); (case hB => (first | omega | (simp; done) | (simp; omega)))))), hΦ, by (repeat (first | (with_reducible exact Below.refl _ _) | ((with_reducible refine Below.alloc ?_ ?hB _); (case hB => (first | omega | (simp; done) | (simp; omega)))) | ((with_reducible refine Below.setCell ?_ ?hB _); (case hB => (first | omega | (simp; done) | (simp; omega)))) | (with_reducible refine Below.drew ?_) | ((with_reducible refine below_ext_of ?_ ?hB); (case hB => (first | omega | (simp; done) | (simp; omega)))) | ((with_reducible refine Below.trans ?_ (Below.mono (by assumption) ?hB)); (case hB => (first | omega | (simp; done) | (simp; omega)))))), .inr ⟨ne_of_test (by assumption), _, rfl, w5.heap.size, rfl, blk_new _ _⟩⟩)
      | ((refine wp_region_ext_lit (by kernel_rfl) (by kernel_rfl) ?_; (repeat (go_big_quiet_step ((fail)))); refine wpQuiet_nil ?_; intro w6 hb_w6; obtain ⟨hc_w6, hf_w6⟩ := bcell hb_w6; have hz_w6 := hb_w6.size; (try simp only [World.size_alloc, World.size_setCell, World.size_drew] at hz_w6))
         go_wp2_with fail
         go_ret2
         exact .inr ⟨rfl, _, _, _, _, er, by (repeat (first | (with_reducible exact Below.refl _ _) | ((with_reducible refine Below.alloc ?_ ?hB _); (case hB => (first | omega | (simp; done) | (simp; omega)))) | ((with_reducible refine Below.setCell ?_ ?hB _); (case hB => (first | omega | (simp; done) | (simp; omega)))) | (with_reducible refine Below.drew ?_) | ((with_reducible refine below_ext_of ?_ ?hB); (case hB => (first | omega | (simp; done) | (simp; omega)))) | ((with_reducible refine Below.trans ?_ (Below.mono (by assumption) ?hB)); (case hB => (first | omega | (simp; done) | (simp; omega)))))), hΦ, by (repeat (first | (with_reducible exact Below.refl _ _) | ((with_reducible refine Below.alloc ?_ ?hB _); (case hB => (first | omega | (simp; done) | (simp; omega)))) | ((with_reducible refine Below.setCell ?_ ?hB _); (case hB => (first | omega | (simp; done) | (simp; omega)))) | (with_reducible refine Below.drew ?_) | ((with_reducible refine below_ext_of ?_ ?hB); (case hB => (first | omega | (simp; done) | (simp; omega)))) | ((with_reducible refine Below.trans ?_ (Below.mono (by assumption) ?hB)); (case hB => (first | omega | (simp; done) | (simp; omega)))))), .inl ⟨eq_of_test (by assumption), rfl⟩⟩)
  · have hy1 : (y != 0) = true := by simpa using hy0
    replace hy0 := Lib.hid hy0
    clear hd hy
    go_enter Tryz.func10, Tryz.ntmps10
    go_wp2_with fail
    have q0 : (w.alloc (.cells r.cells 34)).cell? ⟨w.heap.size, 0, none⟩ = some (.int .i64 r.op) := by simp [go_sem, Rq.cells]
    have hz : w.heap.size < (w.alloc (.cells r.cells 34)).heap.size := by simp
    unfold Rq.cells at q0 hz
    go_region_held3 (fun w' => w'.cell? ⟨w.heap.size, 0, none⟩ = some (.int .i64 r.op))
      (first | assumption | (rw [cell_set_ite, if_neg (by omega), cell_set_ite, if_neg (by omega)]; assumption) | go_keep)
      (first | (go_at_call 29; (with_reducible refine (cA _).mono ?_); rintro e w3 ⟨rfl, hown, hb3⟩; obtain ⟨hc3, hf3⟩ := bcell hb3; have hz3 := hb3.size; (try simp only [World.size_drew, World.size_alloc] at hz3); have k3 : w3.cell? ⟨w.heap.size, 0, none⟩ = some (.int .i64 r.op) := (hb3.cell (p := ⟨w.heap.size, 0, none⟩) (by (first | omega | (simp; done) | (simp; omega)))).trans (by assumption); have hl3 := look_all hown hat.out ho; have hl4 := fun o => look_all (hown.alloc o) hat.out ho; simp only [World.size_drew, World.size_alloc] at hl3 hl4))
    all_goals clear hat
    all_goals go_wp2_with fail
    all_goals (refine wp_region_ext_mid 8 (by kernel_rfl) (by kernel_rfl) ?_; simp only [List.take_succ_cons, List.take_zero, List.drop_succ_cons, List.drop_zero]; (repeat (go_big_quiet_step ((fail)))); refine wpQuiet_nil ?_; intro w7 hb_w7; obtain ⟨hc_w7, hf_w7⟩ := bcell hb_w7; have hz_w7 := hb_w7.size; (try simp only [World.size_alloc, World.size_setCell, World.size_drew] at hz_w7))
    all_goals
      go_wp2_with (first
        | (go_at_call 30; (with_reducible refine (cF.out _ (by (repeat (first | (with_reducible exact Below.refl _ _) | ((with_reducible refine Below.alloc ?_ ?hB _); (case hB => (first | omega | (simp; done) | (simp; omega)))) | ((with_reducible refine Below.setCell ?_ ?hB _); (case hB => (first | omega | (simp; done) | (simp; omega)))) | (with_reducible refine Below.drew ?_) | ((with_reducible refine below_ext_of ?_ ?hB); (case hB => (first | omega | (simp; done) | (simp; omega)))) | ((with_reducible refine Below.trans ?_ (Below.mono (by assumption) ?hB)); (case hB => (first | omega | (simp; done) | (simp; omega)))))))).mono ?_); rintro e w8 ⟨rfl, rfl⟩)
        | (go_at_call 31; (with_reducible refine (cE _ r _ _).mono ?_); rintro e w5 ⟨rfl, hb5⟩; obtain ⟨hc5, hf5⟩ := bcell hb5; have hz5 := hb5.size; (try simp only [World.size_drew, World.size_alloc, World.size_setCell] at hz5)))
    all_goals
      go_ret2
      exact .inl ⟨hy0.out, _, rfl, ⟨w5.heap.size, rfl, blk_new _ _⟩, by (repeat (first | (with_reducible exact Below.refl _ _) | ((with_reducible refine Below.alloc ?_ ?hB _); (case hB => (first | omega | (simp; done) | (simp; omega)))) | ((with_reducible refine Below.setCell ?_ ?hB _); (case hB => (first | omega | (simp; done) | (simp; omega)))) | (with_reducible refine Below.drew ?_) | ((with_reducible refine below_ext_of ?_ ?hB); (case hB => (first | omega | (simp; done) | (simp; omega)))) | ((with_reducible refine Below.trans ?_ (Below.mono (by assumption) ?hB)); (case hB => (first | omega | (simp; done) | (simp; omega))))))⟩
end Go.Proofs.YtbkhcdmmnlkhdaaGreat
