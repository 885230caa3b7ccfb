/- A client makes a buffer, and a surface. -/
import Derived.Test.YtbkhcdmmnlkhdaaGreatCliB
import Derived.Deep.RegionHeld3
namespace Go.Proofs.YtbkhcdmmnlkhdaaGreat
open Go.RowKit Go.Maps Go.Proofs.YtbkhcdmmnlkhdaaGreatW.PrintWords
set_option linter.unusedSimpArgs false
set_option linter.unusedVariables false
set_option maxRecDepth 1000000
def CS.put (s : CS) (id k : Int) : CS := { s with tn := s.tn + 1, L := s.L ++ [(id, k)] }
def CS.make (s : CS) (id : Int) (b m : Nat) : CS := { s.put id 1 with pn := s.pn + 1, next := s.next + 1, B := s.B ++ [(s.next, ⟨b, id, true, some ⟨m, 0, none⟩, 0⟩)] }
structure CBd (s : CS) : Prop where
  l : s.L.length ≤ 1000
  tn : s.tn ≤ 100000
  pn : s.pn ≤ 100000
  sn : s.sn ≤ 100000
  n0 : 0 ≤ s.next
  n1 : s.next ≤ 100000
structure RBd (r : Rq) : Prop where
  op : -9223372036854775808 ≤ r.op ∧ r.op ≤ 9223372036854775807
  id : -9223372036854775808 ≤ r.id ∧ r.id ≤ 9223372036854775807
  a : -9223372036854775808 ≤ r.a ∧ r.a ≤ 9223372036854775807
  b : -9223372036854775808 ≤ r.b ∧ r.b ≤ 9223372036854775807
theorem map_at {w : World} {b n : Nat} {k : TypeId} {R : Value → Option (DataW Unit × List MemPlace)} {D : DataW Unit} (h : w.ownsMap Tryz.prog k R b n D) {p : Nat} {cs : Array Value} {t : TypeId} {fr : Nat × Nat} (hp : w.heap[p]? = some (.cells cs t fr)) : ¬ p = b := map_ne h hp
theorem Cli.retab {w w1 : World} {c : Nat} {s : CS} (h : Cli w c s) (hg : w.grownBy w1 (some s.bm)) {n' : Nat} {L' : List (Int × Int)} (ht : Tab w1 s.t s.bm n' L') (hK : Kinds L') : Cli w1 c { s with tn := n', L := L' } := by
  obtain ⟨D, hown, hL⟩ := h.smap
  obtain ⟨Dt, hot, _⟩ := h.tab.own
  have hk := keep_grown2 hg
  have hne : ∀ {k : Nat}, ¬ k = s.bm → ¬ (k = s.bm ∨ k = s.bm) := fun h h' => h'.elim h h
  exact ⟨hk.blk h.blk (hne (map_at hot h.blk)), ht, hK,
    h.pool.keep hk (hne (map_at hot h.pool.blk)) (hne h.ne1.symm) (fun e he => hne (map_at hot (h.pool.bufs e he))),
    ⟨D, hk.ownsMap hown (hne h.ne2.symm), hL⟩, h.skeys, fun e he => hk.blk (h.shs e he) (hne (map_at hot (h.shs e he))),
    fun e he => hk.blk (h.sus e he) (hne (map_at hot (h.sus e he))), h.ne1, h.ne2, h.ne3⟩
theorem Cli.repool {w w1 : World} {c : Nat} {s : CS} (h : Cli w c s) (hk : KeepF (fun k => k = s.p ∨ k = s.pm) w w1) {n' : Nat} {x' : Int} {B' : List (Int × Bf)} (hp : PoolI w1 s.p s.pm n' x' B') : Cli w1 c { s with pn := n', next := x', B := B' } := by
  obtain ⟨D, hown, hL⟩ := h.smap
  obtain ⟨Dt, hot, _⟩ := h.tab.own
  obtain ⟨Dp, hop, _⟩ := h.pool.own
  have hne : ∀ {k : Nat}, ¬ k = s.p → ¬ k = s.pm → ¬ (k = s.p ∨ k = s.pm) := fun h h1 h' => h'.elim h h1
  exact ⟨hk.blk h.blk (hne (blk_ne h.blk h.pool.blk (by decide)) (map_at hop h.blk)), h.tab.keep hk (hne (blk_ne h.tab.blk h.pool.blk (by decide)) (map_at hop h.tab.blk)) (hne (fun e => map_at hot h.pool.blk e.symm) h.ne1), h.kinds, hp,
    ⟨D, hk.ownsMap hown (hne (fun e => map_at hown h.pool.blk e.symm) h.ne3.symm), hL⟩, h.skeys,
    fun e he => hk.blk (h.shs e he) (hne (blk_ne (h.shs e he) h.pool.blk (by decide)) (map_at hop (h.shs e he))),
    fun e he => hk.blk (h.sus e he) (hne (blk_ne (h.sus e he) h.pool.blk (by decide)) (map_at hop (h.sus e he))), h.ne1, h.ne2, h.ne3⟩
theorem make_foot {s : CS} {c k b m : Nat} {id : Int} (h : (s.make id b m).foot c k) : s.foot c k ∨ k = b := by
  rcases h with h1 | h1 | h1 | h1 | h1 | h1 | ⟨e, he, h1⟩ | ⟨e, he, h1 | h1⟩
  · subst h1; exact .inl CS.foot_c
  · subst h1; exact .inl CS.foot_t
  · subst h1; exact .inl CS.foot_bm
  · subst h1; exact .inl CS.foot_p
  · subst h1; exact .inl CS.foot_pm
  · subst h1; exact .inl CS.foot_sm
  · rcases List.mem_append.1 he with he | he
    · subst h1; exact .inl (CS.foot_b he)
    · simp only [List.mem_singleton] at he; subst he; exact .inr h1
  · subst h1; exact .inl (CS.foot_sh he)
  · subst h1; exact .inl (CS.foot_su he)
def MakesP (w : World) (c : Nat) (s : CS) (r : Rq) (e : Ending) (w' : World) : Prop :=
  e = .returned (.agg #[.slice none 0 0, .slice none 0 0, .int .i64 (addE s.L r.id 1)]) ∧ (addE s.L r.id 1 ≠ 0 → Cli w' c s) ∧ (addE s.L r.id 1 = 0 → ∃ b m, Cli w' c (s.make r.id b m) ∧ w.heap.size ≤ b ∧ w.heap.size ≤ m) ∧ KeepF (s.foot c) w w'
set_option maxHeartbeats 2000000 in
theorem cli_makes (c : Nat) (s : CS) (r : Rq) (w : World) (h : Cli w c s) (hb : CBd s) (hr : RBd r) (hm : addE s.L r.id 1 = 0 → makeE s.B r.id r.a r.b = 0) : Calls Tryz.prog 53 #[(.pointer (some ⟨c, 0, none⟩)), r.v] w (MakesP w c s r) := by
  have c0 := (blk_cell h.blk 0).trans rfl
  have c1 := (blk_cell h.blk 1).trans rfl
  have hc := blk_lt h.blk
  have HH := Lib.hid h
  have hi := hr.id
  have cA : ∀ W, Below w.heap.size w W → Calls Tryz.prog 84 #[(.pointer (some ⟨s.t, 0, none⟩)), .int .i64 r.id, .int .i64 1] W (AddT W s.t s.bm s.tn s.L r.id 1) := fun W hw => ids_Add s.t s.bm s.tn s.L r.id 1 W (h.below hw).tab h.kinds hb.l hb.tn hr.id (by omega)
  obtain ⟨x, hx⟩ : ∃ x, addE s.L r.id 1 = x := ⟨_, rfl⟩
  unfold AddT at cA
  rw [hx] at cA
  have HX := Lib.hid hx
  have HM := Lib.hid hm
  have HB := Lib.hid hb
  have HR := Lib.hid hr
  clear h hb hr hm
  by_cases hx0 : x = 0
  · subst hx0
    have hbm := (HH.out.tab.own.choose_spec.1).lt
    have hp0 := blk_lt HH.out.pool.blk
    have hpm0 := HH.out.pool.own.choose_spec.1.lt
    have hcb := Lib.hid (map_at HH.out.tab.own.choose_spec.1 HH.out.blk)
    have hcbm : ¬ c = s.bm := hcb.out
    have hm0 := Lib.hid (HM.out hx)
    clear hx
    have cM : ∀ W, Cli W c (s.put r.id 1) → Calls Tryz.prog 86 #[(.pointer (some ⟨s.p, 0, none⟩)), .int .i64 r.id, .int .i64 r.a, .int .i64 r.b] W (fun e w' => e = .returned (.tuple #[.int .i64 s.next, .int .i64 0]) ∧ ∃ b m, PoolI w' s.p s.pm (s.pn + 1) (s.next + 1) (s.B ++ [(s.next, ⟨b, r.id, true, some ⟨m, 0, none⟩, 0⟩)]) ∧ W.heap.size ≤ b ∧ W.heap.size ≤ m ∧ KeepF (fun k => k = s.p ∨ k = s.pm) W w') := fun W hW => by
      refine (pool_Make s.p s.pm s.pn s.next s.B r.id r.a r.b W hW.pool HB.out.pn HB.out.n0 (by have := HB.out.n1; omega) HR.out.a HR.out.b HR.out.id).mono ?_
      intro e w' h
      obtain ⟨b, m, v, h1, h2, _, h3, h4, h5⟩ := h.2 hm0.out
      exact ⟨h1, b, m, h2, h3, h4, h5⟩
    have cB := cli_bad
    simp only [if_true] at cA
    unfold Rq.v Rq.cells
    go_enter Tryz.func53, Tryz.ntmps53
    go_wp2_with fail
    (refine wp_region_ext_tail 6 (by kernel_rfl) (by kernel_rfl) ?_; simp only [List.take_succ_cons, List.take_zero, List.drop_succ_cons, List.drop_zero]; (repeat (go_big_quiet_step ((fail)))); refine wpQuiet_nil ?_; intro w1 hb_w1; obtain ⟨hc_w1, hf_w1⟩ := bcell hb_w1; have hz_w1 := hb_w1.size; (try simp only [World.size_alloc, World.size_setCell, World.size_drew] at hz_w1))
    go_wp2_with (go_at_call 84; (with_reducible refine (cA _ (by (repeat (first | (with_reducible exact Below.refl _ _) | ((with_reducible refine Below.alloc ?_ ?hB _); (case hB => (first | omega | (simp; done) | (simp; omega)))) | ((with_reducible refine Below.setCell ?_ ?hB _); (case hB => (first | omega | (simp; done) | (simp; omega)))) | (with_reducible refine Below.drew ?_) | ((with_reducible refine below_ext_of ?_ ?hB); (case hB => (first | omega | (simp; done) | (simp; omega)))) | ((with_reducible refine Below.trans ?_ (Below.mono (by assumption) ?hB)); (case hB => (first | omega | (simp; done) | (simp; omega)))))))).mono ?_); rintro e w2 ⟨rfl, ht, hg⟩; obtain ⟨hc2, hf2⟩ := kcell2 (keep_grown2 hg); have hz2 := hg.size)
    (refine wp_region_ext_mid 10 (by kernel_rfl) (by kernel_rfl) ?_; simp only [List.take_succ_cons, List.take_zero, List.drop_succ_cons, List.drop_zero]; (repeat (go_big_quiet_step ((fail)))); refine wpQuiet_nil ?_; intro w3 hb_w3; obtain ⟨hc_w3, hf_w3⟩ := bcell hb_w3; have hz_w3 := hb_w3.size; (try simp only [World.size_alloc, World.size_setCell, World.size_drew] at hz_w3))
    have hC1 : Cli w1 c s := HH.out.below (by (repeat (first | (with_reducible exact Below.refl _ _) | ((with_reducible refine Below.alloc ?_ ?hB _); (case hB => (first | omega | (simp; done) | (simp; omega)))) | ((with_reducible refine Below.setCell ?_ ?hB _); (case hB => (first | omega | (simp; done) | (simp; omega)))) | (with_reducible refine Below.drew ?_) | ((with_reducible refine below_ext_of ?_ ?hB); (case hB => (first | omega | (simp; done) | (simp; omega)))) | ((with_reducible refine Below.trans ?_ (Below.mono (by assumption) ?hB)); (case hB => (first | omega | (simp; done) | (simp; omega)))))))
    have hC2 : Cli w2 c (s.put r.id 1) := hC1.retab hg ht (fun e he => by
      rcases List.mem_append.1 he with he | he
      · exact HH.out.kinds e he
      · simp only [List.mem_singleton] at he; subst he; show (1 : Int) ≠ 0; decide)
    have hC3 := Lib.hid (hC2.below hb_w3)
    have hC2 := Lib.hid hC2
    have hC1 := Lib.hid hC1
    go_wp2_with (first
      | (go_at_call 86; (with_reducible refine (cM _ hC3.out).mono ?_); rintro e w4 ⟨rfl, b, m, hp, hb4, hm4, hk4⟩; obtain ⟨hc4, hf4⟩ := kcell2 hk4; have hz4 := hk4.size)
      | (go_at_call 85; (with_reducible refine (cB _ _).mono ?_); rintro e w5 ⟨rfl, hb5⟩; obtain ⟨hc5, hf5⟩ := bcell hb5; have hz5 := hb5.size))
    refine bodyPost_ret (by simp [results, Tryz.results53, go_sem, ↓IntWalk.iteOmega, *]; rfl) rfl ?_
    have hK : KeepF (fun k => k = w.heap.size + 1) w5 (((w5.setCell ⟨w.heap.size + 1, 0, none⟩ (.slice none 0 0)).setCell ⟨w.heap.size + 1, 1, none⟩ (.slice none 0 0)).setCell ⟨w.heap.size + 1, 2, none⟩ (.int .i64 0)) := keep_told _ _ _ _ _
    have hC5 : Cli w5 c (s.make r.id b m) := (hC3.out.repool hk4 hp).below hb5
    refine ⟨by rw [HX.out], fun h => absurd HX.out h, fun _ => ⟨b, m, hC5.keep hK (fun k hf hk => ?_), by omega, by omega⟩, by (repeat (first | (with_reducible exact KeepF.refl _ _) | (with_reducible refine KeepF.alloc ?_ _) | ((with_reducible refine KeepF.setCell ?_ _ _ _ ?hF); (case hF => (first | (intro hlt; exfalso; (first | omega | (simp only [World.size_alloc, World.size_setCell, World.size_drew] at hlt; omega))) | (intro _; (first | exact CS.foot_c | exact CS.foot_t | exact CS.foot_bm | exact CS.foot_p | exact CS.foot_pm | exact CS.foot_sm | exact CS.foot_b (by assumption) | exact CS.foot_sh (by assumption) | exact CS.foot_su (by assumption)))))) | (with_reducible refine KeepF.drew ?_) | (with_reducible refine KeepF.below_step ?_ (by assumption)) | ((with_reducible refine KeepF.grown_step ?_ (by assumption) ?hG); (case hG => (intro k e hk; injection e with e; subst e; (first | exact CS.foot_c | exact CS.foot_t | exact CS.foot_bm | exact CS.foot_p | exact CS.foot_pm | exact CS.foot_sm | exact CS.foot_b (by assumption) | exact CS.foot_sh (by assumption) | exact CS.foot_su (by assumption))))) | ((with_reducible refine KeepF.trans ?_ (by assumption) ?hT); (case hT => (intro k hk hf; rcases hf with rfl | rfl <;> (first | exact CS.foot_c | exact CS.foot_t | exact CS.foot_bm | exact CS.foot_p | exact CS.foot_pm | exact CS.foot_sm | exact CS.foot_b (by assumption) | exact CS.foot_sh (by assumption) | exact CS.foot_su (by assumption)))))))⟩
    rcases make_foot hf with hf | hf
    · have := HH.out.foot_lt hf; omega
    · omega
  · have hx1 : (x == 0) = false := by rw [beq_eq_false_iff_ne]; exact hx0
    have hX0 := Lib.hid hx0
    clear hx0 hx
    unfold Rq.v Rq.cells
    go_enter Tryz.func53, Tryz.ntmps53
    go_wp2_with fail
    (refine wp_region_ext_tail 6 (by kernel_rfl) (by kernel_rfl) ?_; simp only [List.take_succ_cons, List.take_zero, List.drop_succ_cons, List.drop_zero]; (repeat (go_big_quiet_step ((fail)))); refine wpQuiet_nil ?_; intro w1 hb_w1; obtain ⟨hc_w1, hf_w1⟩ := bcell hb_w1; have hz_w1 := hb_w1.size; (try simp only [World.size_alloc, World.size_setCell, World.size_drew] at hz_w1))
    have hbm := (HH.out.tab.own.choose_spec.1).lt
    have hcB : ∀ e w, Calls Tryz.prog 85 #[.int .i64 e] w fun en w' => en = .returned (.agg #[.slice none 0 0, .slice none 0 0, .int .i64 (e)]) ∧ Below w.heap.size w w' := cli_bad
    go_wp2_with (first
      | (go_at_call 84; (with_reducible refine (cA _ (by (repeat (first | (with_reducible exact Below.refl _ _) | ((with_reducible refine Below.alloc ?_ ?hB _); (case hB => (first | omega | (simp; done) | (simp; omega)))) | ((with_reducible refine Below.setCell ?_ ?hB _); (case hB => (first | omega | (simp; done) | (simp; omega)))) | (with_reducible refine Below.drew ?_) | ((with_reducible refine below_ext_of ?_ ?hB); (case hB => (first | omega | (simp; done) | (simp; omega)))) | ((with_reducible refine Below.trans ?_ (Below.mono (by assumption) ?hB)); (case hB => (first | omega | (simp; done) | (simp; omega)))))))).mono ?_); rintro e w2 ⟨rfl, ht, hg⟩; rw [if_neg hX0.out] at ht; obtain ⟨hc2, hf2⟩ := kcell2 (keep_grown2 hg); have hz2 := hg.size)
      | (go_at_call 85; (with_reducible refine (hcB _ _).mono ?_); rintro e w5 ⟨rfl, hb5⟩; obtain ⟨hc5, hf5⟩ := bcell hb5; have hz5 := hb5.size))
    refine bodyPost_ret (by simp [results, Tryz.results53, go_sem, ↓IntWalk.iteOmega, *]; rfl) rfl ?_
    have hC1 : Cli w1 c s := HH.out.below (by (repeat (first | (with_reducible exact Below.refl _ _) | ((with_reducible refine Below.alloc ?_ ?hB _); (case hB => (first | omega | (simp; done) | (simp; omega)))) | ((with_reducible refine Below.setCell ?_ ?hB _); (case hB => (first | omega | (simp; done) | (simp; omega)))) | (with_reducible refine Below.drew ?_) | ((with_reducible refine below_ext_of ?_ ?hB); (case hB => (first | omega | (simp; done) | (simp; omega)))) | ((with_reducible refine Below.trans ?_ (Below.mono (by assumption) ?hB)); (case hB => (first | omega | (simp; done) | (simp; omega)))))))
    have hC5 : Cli w5 c s := (hC1.retab hg ht HH.out.kinds).below hb5
    have hK : KeepF (fun k => k = w.heap.size + 1) w5 (((w5.setCell ⟨w.heap.size + 1, 0, none⟩ (.slice none 0 0)).setCell ⟨w.heap.size + 1, 1, none⟩ (.slice none 0 0)).setCell ⟨w.heap.size + 1, 2, none⟩ (.int .i64 x)) := keep_told _ _ _ _ _
    refine ⟨by rw [HX.out], fun h => hC5.keep hK (fun k hf hk => ?_), fun h => absurd (HX.out.symm.trans h) hX0.out, by (repeat (first | (with_reducible exact KeepF.refl _ _) | (with_reducible refine KeepF.alloc ?_ _) | ((with_reducible refine KeepF.setCell ?_ _ _ _ ?hF); (case hF => (first | (intro hlt; exfalso; (first | omega | (simp only [World.size_alloc, World.size_setCell, World.size_drew] at hlt; omega))) | (intro _; (first | exact CS.foot_c | exact CS.foot_t | exact CS.foot_bm | exact CS.foot_p | exact CS.foot_pm | exact CS.foot_sm | exact CS.foot_b (by assumption) | exact CS.foot_sh (by assumption) | exact CS.foot_su (by assumption)))))) | (with_reducible refine KeepF.drew ?_) | (with_reducible refine KeepF.below_step ?_ (by assumption)) | ((with_reducible refine KeepF.grown_step ?_ (by assumption) ?hG); (case hG => (intro k e hk; injection e with e; subst e; (first | exact CS.foot_c | exact CS.foot_t | exact CS.foot_bm | exact CS.foot_p | exact CS.foot_pm | exact CS.foot_sm | exact CS.foot_b (by assumption) | exact CS.foot_sh (by assumption) | exact CS.foot_su (by assumption))))) | ((with_reducible refine KeepF.trans ?_ (by assumption) ?hT); (case hT => (intro k hk hf; rcases hf with rfl | rfl <;> (first | exact CS.foot_c | exact CS.foot_t | exact CS.foot_bm | exact CS.foot_p | exact CS.foot_pm | exact CS.foot_sm | exact CS.foot_b (by assumption) | exact CS.foot_sh (by assumption) | exact CS.foot_su (by assumption)))))))⟩
    have := HH.out.foot_lt hf; omega
theorem mapcell {w w' : World} {b : Nat} (h : w.mapTurned w' b) : ∀ q i, q < w.heap.size → q ≠ b → w'.cell? ⟨q, i, none⟩ = w.cell? ⟨q, i, none⟩ := fun q i hq hqb => World.cell?_of_block (a := ⟨q, i, none⟩) (h.grown.block q hq (fun e => hqb (by injection e)))
theorem Cli.resh {w w1 : World} {c : Nat} {s : CS} (h : Cli w c s) (hk : KeepF (fun k => k = s.sm ∨ k = s.sm) w w1) {n' : Nat} {S' : List (Int × Sh)} (hm : ∃ D : DataW Unit, w1.ownsMap Tryz.prog 3 elemP s.sm n' D ∧ MapN D (shN S')) (hn : (S'.map (·.1)).Nodup)
    (hsh : ∀ e ∈ S', w1.heap[e.2.b]? = some e.2.obj) (hsu : ∀ e ∈ S', w1.heap[e.2.sb]? = some (.cells e.2.sf.l.toArray 228 (0, 0))) : Cli w1 c { s with sn := n', S := S' } := by
  obtain ⟨D, hown, hL⟩ := h.smap
  have hne : ∀ {k : Nat}, ¬ k = s.sm → ¬ (k = s.sm ∨ k = s.sm) := fun h h' => h'.elim h h
  exact ⟨hk.blk h.blk (hne (map_at hown h.blk)), h.tab.keep hk (hne (map_at hown h.tab.blk)) (hne h.ne2), h.kinds,
    h.pool.keep hk (hne (map_at hown h.pool.blk)) (hne h.ne3) (fun e he => hne (map_at hown (h.pool.bufs e he))), hm, hn, hsh, hsu, h.ne1, h.ne2, h.ne3⟩
def CS.show (s : CS) (id : Int) (b sb : Nat) : CS := { s.put id 2 with sn := s.sn + 1, S := s.S ++ [(id, ⟨b, sb, -1, -1, 0, 0, sf0⟩)] }
theorem show_foot {s : CS} {c k b sb : Nat} {id : Int} (h : (s.show id b sb).foot c k) : s.foot c k ∨ k = b ∨ k = sb := by
  rcases h with h1 | h1 | h1 | h1 | h1 | h1 | ⟨e, he, h1⟩ | ⟨e, he, h1⟩
  · subst h1; exact .inl CS.foot_c
  · subst h1; exact .inl CS.foot_t
  · subst h1; exact .inl CS.foot_bm
  · subst h1; exact .inl CS.foot_p
  · subst h1; exact .inl CS.foot_pm
  · subst h1; exact .inl CS.foot_sm
  · subst h1; exact .inl (CS.foot_b he)
  · rcases List.mem_append.1 he with he | he
    · rcases h1 with h1 | h1
      · subst h1; exact .inl (CS.foot_sh he)
      · subst h1; exact .inl (CS.foot_su he)
    · simp only [List.mem_singleton] at he; subst he; exact .inr h1
def SurfP (w : World) (c : Nat) (s : CS) (r : Rq) (e : Ending) (w' : World) : Prop :=
  e = .returned (.agg #[.slice none 0 0, .slice none 0 0, .int .i64 (addE s.L r.id 2)]) ∧ (addE s.L r.id 2 ≠ 0 → Cli w' c s) ∧ (addE s.L r.id 2 = 0 → ∃ b sb, Cli w' c (s.show r.id b sb) ∧ w.heap.size ≤ b ∧ w.heap.size ≤ sb) ∧ KeepF (s.foot c) w w'
set_option maxHeartbeats 2000000 in
theorem cli_surface (c : Nat) (s : CS) (r : Rq) (w : World) (h : Cli w c s) (hb : CBd s) (hr : RBd r) (hsy : addE s.L r.id 2 = 0 → r.id ∉ s.S.map (·.1)) : Calls Tryz.prog 56 #[(.pointer (some ⟨c, 0, none⟩)), r.v] w (SurfP w c s r) := by
  have c0 := (blk_cell h.blk 0).trans rfl
  have c2 := (blk_cell h.blk 2).trans rfl
  have hc := blk_lt h.blk
  have HH := Lib.hid h
  have hi := hr.id
  have cA : ∀ W, Below w.heap.size w W → Calls Tryz.prog 84 #[(.pointer (some ⟨s.t, 0, none⟩)), .int .i64 r.id, .int .i64 2] W (AddT W s.t s.bm s.tn s.L r.id 2) := fun W hw => ids_Add s.t s.bm s.tn s.L r.id 2 W (h.below hw).tab h.kinds hb.l hb.tn hr.id (by omega)
  obtain ⟨x, hx⟩ : ∃ x, addE s.L r.id 2 = x := ⟨_, rfl⟩
  unfold AddT at cA
  rw [hx] at cA
  have HX := Lib.hid hx
  have HM := Lib.hid hsy
  have HB := Lib.hid hb
  have HR := Lib.hid hr
  have hcB : ∀ e w, Calls Tryz.prog 85 #[.int .i64 e] w fun en w' => en = .returned (.agg #[.slice none 0 0, .slice none 0 0, .int .i64 (e)]) ∧ Below w.heap.size w w' := cli_bad
  have hbm := (HH.out.tab.own.choose_spec.1).lt
  have hcbm : ¬ c = s.bm := map_at HH.out.tab.own.choose_spec.1 HH.out.blk
  clear h hb hr hsy
  by_cases hx0 : x = 0
  · subst hx0
    obtain ⟨D, hown, hL⟩ := HH.out.smap
    have hsm := hown.lt
    have hcsm : ¬ c = s.sm := map_at hown HH.out.blk
    have HO := Lib.hid hown
    have HL := Lib.hid hL
    have HN := Lib.hid (HM.out hx)
    have hkey := keyOf_int_mk Tryz.underlying3 (show (Lit.int .i64 r.id).wf = true from WalkArith.wf_i64 (by omega))
    have cS := surf_New
    clear hx hown hL
    simp only [if_true] at cA
    unfold Rq.v Rq.cells
    go_enter Tryz.func56, Tryz.ntmps56
    go_wp2_with fail
    (refine wp_region_ext_mid 6 (by kernel_rfl) (by kernel_rfl) ?_; simp only [List.take_succ_cons, List.take_zero, List.drop_succ_cons, List.drop_zero]; (repeat (go_big_quiet_step ((fail)))); refine wpQuiet_nil ?_; intro w1 hb_w1; obtain ⟨hc_w1, hf_w1⟩ := bcell hb_w1; have hz_w1 := hb_w1.size; (try simp only [World.size_alloc, World.size_setCell, World.size_drew] at hz_w1))
    go_wp2_with (go_at_call 84; (with_reducible refine (cA _ (by (repeat (first | (with_reducible exact Below.refl _ _) | ((with_reducible refine Below.alloc ?_ ?hB _); (case hB => (first | omega | (simp; done) | (simp; omega)))) | ((with_reducible refine Below.setCell ?_ ?hB _); (case hB => (first | omega | (simp; done) | (simp; omega)))) | (with_reducible refine Below.drew ?_) | ((with_reducible refine below_ext_of ?_ ?hB); (case hB => (first | omega | (simp; done) | (simp; omega)))) | ((with_reducible refine Below.trans ?_ (Below.mono (by assumption) ?hB)); (case hB => (first | omega | (simp; done) | (simp; omega)))))))).mono ?_); rintro e w2 ⟨rfl, ht, hg⟩; obtain ⟨hc2, hf2⟩ := kcell2 (keep_grown2 hg); have hz2 := hg.size)
    have q1 : w2.cell? ⟨w.heap.size, 1, none⟩ = some (.int .i64 r.id) := by simp [go_sem, ↓IntWalk.iteOmega, *]
    have hC1 : Cli w1 c s := HH.out.below (by (repeat (first | (with_reducible exact Below.refl _ _) | ((with_reducible refine Below.alloc ?_ ?hB _); (case hB => (first | omega | (simp; done) | (simp; omega)))) | ((with_reducible refine Below.setCell ?_ ?hB _); (case hB => (first | omega | (simp; done) | (simp; omega)))) | (with_reducible refine Below.drew ?_) | ((with_reducible refine below_ext_of ?_ ?hB); (case hB => (first | omega | (simp; done) | (simp; omega)))) | ((with_reducible refine Below.trans ?_ (Below.mono (by assumption) ?hB)); (case hB => (first | omega | (simp; done) | (simp; omega)))))))
    have hC2 : Cli w2 c (s.put r.id 2) := hC1.retab hg ht (fun e he => by
      rcases List.mem_append.1 he with he | he
      · exact HH.out.kinds e he
      · simp only [List.mem_singleton] at he; subst he; show (2 : Int) ≠ 0; decide)
    have q2 : w2.cell? ⟨c, 2, none⟩ = some (.map (some s.sm)) := (blk_cell hC2.blk 2).trans rfl
    have hC2 := Lib.hid hC2
    clear hC1
    have hO2 := Lib.hid (hC2.out.smap)
    have hO3 : w2.ownsMap Tryz.prog 3 elemP s.sm s.sn D := HO.out.kept (row := some s.bm) ((grown_below (show Below w.heap.size w w1 by (repeat (first | (with_reducible exact Below.refl _ _) | ((with_reducible refine Below.alloc ?_ ?hB _); (case hB => (first | omega | (simp; done) | (simp; omega)))) | ((with_reducible refine Below.setCell ?_ ?hB _); (case hB => (first | omega | (simp; done) | (simp; omega)))) | (with_reducible refine Below.drew ?_) | ((with_reducible refine below_ext_of ?_ ?hB); (case hB => (first | omega | (simp; done) | (simp; omega)))) | ((with_reducible refine Below.trans ?_ (Below.mono (by assumption) ?hB)); (case hB => (first | omega | (simp; done) | (simp; omega))))))) _).trans hg) (fun e => HH.out.ne2 (by injection e with e; exact e.symm))
    have HC2 := Lib.hid hc2
    have HF2 := Lib.hid hf2
    have HC1 := Lib.hid hc_w1
    have HF1 := Lib.hid hf_w1
    have hO3 := Lib.hid hO3
    clear hc2 hf2 hc_w1 hf_w1
    have hcsz : c < w2.drew.heap.size := by simp; omega
    have hrsz : w.heap.size < w2.drew.heap.size := by simp; omega
    go_region_held3 (fun w' => w'.cell? ⟨c, 2, none⟩ = some (.map (some s.sm)) ∧ w'.cell? ⟨w.heap.size, 1, none⟩ = some (.int .i64 r.id))
      (first | go_keep | (go_split_ands; exact ⟨(hb3.cell (p := ⟨c, 2, none⟩) hcsz).trans (by assumption), (hb3.cell (p := ⟨w.heap.size, 1, none⟩) hrsz).trans (by assumption)⟩) | (go_split_ands; exact ⟨(hcell _ _ (by simp; omega) (by omega)).trans (by assumption), (hcell _ _ (by simp; omega) (by omega)).trans (by assumption)⟩))
      (first | (go_at_call 92; (with_reducible refine (cS _).mono ?_); rintro e w3 ⟨rfl, hsu, hsz, hb3⟩; have hz3 := hb3.size; (try simp only [World.size_drew] at hz3 hsz); obtain ⟨w4, hrun, hown4, ht4⟩ := ((World.ownsMap.kept (row := none) hO3.out.drew (grown_below hb3 _) (by simp)).alloc (.cells #[(.pointer (some ⟨w2.heap.size + 1, 0, none⟩)), .int .i64 (-1), .int .i64 (-1), .int .i64 0, .int .i64 0] 179)).store kInt Tryz.underlying86 (by have := HB.out.sn; unfold maxLen; omega) hkey (elemP_mk (w2.heap.size + 2)); have hcell := mapcell ht4))
    have hk24 : KeepF (fun k => k = s.sm ∨ k = s.sm) w2 w4 := ((((KeepF.refl _ w2).drew).below_step hb3).alloc _).grown_step ht4.grown (fun k e _ => by injection e with e; exact .inl e.symm)
    obtain ⟨hc4, hf4⟩ := kcell2 hk24
    have hz4 := hk24.size
    have hc2 := HC2.out
    have hf2 := HF2.out
    have hc_w1 := HC1.out
    have hf_w1 := HF1.out
    have hcH := Lib.hid hcell
    clear hcell
    go_wp2_with (go_at_call 85; (with_reducible refine (hcB _ _).mono ?_); rintro e w5 ⟨rfl, hb5⟩; obtain ⟨hc5, hf5⟩ := bcell hb5; have hz5 := hb5.size)
    refine bodyPost_ret (by simp [results, Tryz.results56, go_sem, ↓IntWalk.iteOmega, *]; rfl) rfl ?_
    have hneM : ∀ {k : Nat}, ¬ k = s.sm → some k ≠ some s.sm := fun h e => h (by injection e)
    have hne2 : ∀ {k : Nat}, ¬ k = s.sm → ¬ (k = s.sm ∨ k = s.sm) := fun h h' => h'.elim h h
    have hnw := blk_new w3 (.cells #[(.pointer (some ⟨w2.heap.size + 1, 0, none⟩)), .int .i64 (-1), .int .i64 (-1), .int .i64 0, .int .i64 0] 179)
    rw [hsz] at hnw
    rw [World.size_drew] at hsu
    have hC4 : Cli w4 c (s.show r.id (w2.heap.size + 2) (w2.heap.size + 1)) := by
      refine hC2.out.resh hk24 ⟨_, hown4, ?_⟩ ?_ (fun e he => ?_) (fun e he => ?_)
      · have := HL.out.put (HO.out.tidy kInt) r.id (w2.heap.size + 2) (by rw [shN_keys]; exact HN.out)
        have e1 : shN (s.S ++ [(r.id, (⟨w2.heap.size + 2, w2.heap.size + 1, -1, -1, 0, 0, sf0⟩ : Sh))]) = shN s.S ++ [(r.id, w2.heap.size + 2)] := by unfold shN; rw [List.map_append]; rfl
        rw [e1]; exact this
      · rw [List.map_append, List.map_cons, List.map_nil, List.nodup_append]
        refine ⟨HH.out.skeys, by simp, fun a ha b hb => ?_⟩
        simp only [List.mem_singleton] at hb
        subst hb
        exact fun e => HN.out (e ▸ ha)
      · rcases List.mem_append.1 he with he | he
        · exact hk24.blk (hC2.out.shs e he) (hne2 (map_at hO3.out (hC2.out.shs e he)))
        · simp only [List.mem_singleton] at he
          subst he
          exact (ht4.grown.block _ (by simp; omega) (hneM (by show ¬ w2.heap.size + 2 = s.sm; omega))).trans hnw
      · rcases List.mem_append.1 he with he | he
        · exact hk24.blk (hC2.out.sus e he) (hne2 (map_at hO3.out (hC2.out.sus e he)))
        · simp only [List.mem_singleton] at he
          subst he
          exact (ht4.grown.block _ (by simp; omega) (hneM (by show ¬ w2.heap.size + 1 = s.sm; omega))).trans (blk_alloc hsu _)
    have hK : KeepF (fun k => k = w.heap.size + 1) w5 (((w5.setCell ⟨w.heap.size + 1, 0, none⟩ (.slice none 0 0)).setCell ⟨w.heap.size + 1, 1, none⟩ (.slice none 0 0)).setCell ⟨w.heap.size + 1, 2, none⟩ (.int .i64 0)) := keep_told _ _ _ _ _
    have hC5 := hC4.below hb5
    refine ⟨by rw [HX.out], fun h => absurd HX.out h, fun _ => ⟨_, _, hC5.keep hK (fun k hf hk => ?_), by omega, by omega⟩, by (repeat (first | (with_reducible exact KeepF.refl _ _) | (with_reducible refine KeepF.alloc ?_ _) | ((with_reducible refine KeepF.setCell ?_ _ _ _ ?hF); (case hF => (first | (intro hlt; exfalso; (first | omega | (simp only [World.size_alloc, World.size_setCell, World.size_drew] at hlt; omega))) | (intro _; (first | exact CS.foot_c | exact CS.foot_t | exact CS.foot_bm | exact CS.foot_p | exact CS.foot_pm | exact CS.foot_sm | exact CS.foot_b (by assumption) | exact CS.foot_sh (by assumption) | exact CS.foot_su (by assumption)))))) | (with_reducible refine KeepF.drew ?_) | (with_reducible refine KeepF.below_step ?_ (by assumption)) | ((with_reducible refine KeepF.grown_step ?_ (by assumption) ?hG); (case hG => (intro k e hk; injection e with e; subst e; (first | exact CS.foot_c | exact CS.foot_t | exact CS.foot_bm | exact CS.foot_p | exact CS.foot_pm | exact CS.foot_sm | exact CS.foot_b (by assumption) | exact CS.foot_sh (by assumption) | exact CS.foot_su (by assumption))))) | ((with_reducible refine KeepF.trans ?_ (by assumption) ?hT); (case hT => (intro k hk hf; rcases hf with rfl | rfl <;> (first | exact CS.foot_c | exact CS.foot_t | exact CS.foot_bm | exact CS.foot_p | exact CS.foot_pm | exact CS.foot_sm | exact CS.foot_b (by assumption) | exact CS.foot_sh (by assumption) | exact CS.foot_su (by assumption)))))))⟩
    rcases show_foot hf with hf | hf | hf
    · have := HH.out.foot_lt hf; omega
    · omega
    · omega
  · have hx1 : (x == 0) = false := by rw [beq_eq_false_iff_ne]; exact hx0
    have hX0 := Lib.hid hx0
    clear hx0 hx
    unfold Rq.v Rq.cells
    go_enter Tryz.func56, Tryz.ntmps56
    go_wp2_with fail
    (refine wp_region_ext_mid 6 (by kernel_rfl) (by kernel_rfl) ?_; simp only [List.take_succ_cons, List.take_zero, List.drop_succ_cons, List.drop_zero]; (repeat (go_big_quiet_step ((fail)))); refine wpQuiet_nil ?_; intro w1 hb_w1; obtain ⟨hc_w1, hf_w1⟩ := bcell hb_w1; have hz_w1 := hb_w1.size; (try simp only [World.size_alloc, World.size_setCell, World.size_drew] at hz_w1))
    go_wp2_with (first
      | (go_at_call 84; (with_reducible refine (cA _ (by (repeat (first | (with_reducible exact Below.refl _ _) | ((with_reducible refine Below.alloc ?_ ?hB _); (case hB => (first | omega | (simp; done) | (simp; omega)))) | ((with_reducible refine Below.setCell ?_ ?hB _); (case hB => (first | omega | (simp; done) | (simp; omega)))) | (with_reducible refine Below.drew ?_) | ((with_reducible refine below_ext_of ?_ ?hB); (case hB => (first | omega | (simp; done) | (simp; omega)))) | ((with_reducible refine Below.trans ?_ (Below.mono (by assumption) ?hB)); (case hB => (first | omega | (simp; done) | (simp; omega)))))))).mono ?_); rintro e w2 ⟨rfl, ht, hg⟩; rw [if_neg hX0.out] at ht; obtain ⟨hc2, hf2⟩ := kcell2 (keep_grown2 hg); have hz2 := hg.size)
      | (go_at_call 85; (with_reducible refine (hcB _ _).mono ?_); rintro e w5 ⟨rfl, hb5⟩; obtain ⟨hc5, hf5⟩ := bcell hb5; have hz5 := hb5.size))
    refine bodyPost_ret (by simp [results, Tryz.results56, go_sem, ↓IntWalk.iteOmega, *]; rfl) rfl ?_
    have hC1 : Cli w1 c s := HH.out.below (by (repeat (first | (with_reducible exact Below.refl _ _) | ((with_reducible refine Below.alloc ?_ ?hB _); (case hB => (first | omega | (simp; done) | (simp; omega)))) | ((with_reducible refine Below.setCell ?_ ?hB _); (case hB => (first | omega | (simp; done) | (simp; omega)))) | (with_reducible refine Below.drew ?_) | ((with_reducible refine below_ext_of ?_ ?hB); (case hB => (first | omega | (simp; done) | (simp; omega)))) | ((with_reducible refine Below.trans ?_ (Below.mono (by assumption) ?hB)); (case hB => (first | omega | (simp; done) | (simp; omega)))))))
    have hC5 : Cli w5 c s := (hC1.retab hg ht HH.out.kinds).below hb5
    have hK : KeepF (fun k => k = w.heap.size + 1) w5 (((w5.setCell ⟨w.heap.size + 1, 0, none⟩ (.slice none 0 0)).setCell ⟨w.heap.size + 1, 1, none⟩ (.slice none 0 0)).setCell ⟨w.heap.size + 1, 2, none⟩ (.int .i64 x)) := keep_told _ _ _ _ _
    refine ⟨by rw [HX.out], fun h => hC5.keep hK (fun k hf hk => ?_), fun h => absurd (HX.out.symm.trans h) hX0.out, by (repeat (first | (with_reducible exact KeepF.refl _ _) | (with_reducible refine KeepF.alloc ?_ _) | ((with_reducible refine KeepF.setCell ?_ _ _ _ ?hF); (case hF => (first | (intro hlt; exfalso; (first | omega | (simp only [World.size_alloc, World.size_setCell, World.size_drew] at hlt; omega))) | (intro _; (first | exact CS.foot_c | exact CS.foot_t | exact CS.foot_bm | exact CS.foot_p | exact CS.foot_pm | exact CS.foot_sm | exact CS.foot_b (by assumption) | exact CS.foot_sh (by assumption) | exact CS.foot_su (by assumption)))))) | (with_reducible refine KeepF.drew ?_) | (with_reducible refine KeepF.below_step ?_ (by assumption)) | ((with_reducible refine KeepF.grown_step ?_ (by assumption) ?hG); (case hG => (intro k e hk; injection e with e; subst e; (first | exact CS.foot_c | exact CS.foot_t | exact CS.foot_bm | exact CS.foot_p | exact CS.foot_pm | exact CS.foot_sm | exact CS.foot_b (by assumption) | exact CS.foot_sh (by assumption) | exact CS.foot_su (by assumption))))) | ((with_reducible refine KeepF.trans ?_ (by assumption) ?hT); (case hT => (intro k hk hf; rcases hf with rfl | rfl <;> (first | exact CS.foot_c | exact CS.foot_t | exact CS.foot_bm | exact CS.foot_p | exact CS.foot_pm | exact CS.foot_sm | exact CS.foot_b (by assumption) | exact CS.foot_sh (by assumption) | exact CS.foot_su (by assumption)))))))⟩
    have := HH.out.foot_lt hf; omega
end Go.Proofs.YtbkhcdmmnlkhdaaGreat
