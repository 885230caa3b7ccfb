/- Sameness of requests, walked. -/
import Derived.Test.YtinnaiofgbjicaaDoorReqP
import Derived.Test.YtinnaiofgbjicaaDoorArgQ
namespace Go.Proofs.YtinnaiofgbjicaaDoor
open Go.RowKit Go.Proofs.YtinnaiofgbjicaaDoorW.PrintWords
set_option linter.unusedSimpArgs false
set_option linter.unusedVariables false
set_option maxRecDepth 1000000
theorem getD_ext {xs ys : List Int} (hl : xs.length = ys.length) (h : ∀ i, i < xs.length → xs.getD i 0 = ys.getD i 0) : xs = ys := by
  refine List.ext_getElem hl fun i h1 h2 => ?_
  have := h i h1
  rw [List.getD_eq_getElem?_getD, List.getD_eq_getElem?_getD, List.getElem?_eq_getElem h1, List.getElem?_eq_getElem h2] at this
  exact this
set_option maxHeartbeats 1000000 in
theorem sl_Equal (A B : Option Addr) (xs ys : List Int) (n m c1 c2 : Nat) (w : World) (hn : xs.length = n) (hm : ys.length = m) (hA : ReadsInt w .u8 A n xs) (hB : ReadsInt w .u8 B m ys) : Calls Tryd.prog 60 #[.slice A n c1, .slice B m c2] w fun e w' => e = .returned (.bool (decide (xs = ys))) ∧ Below w.heap.size w w' := by
  by_cases hl : n = m
  · subst hl
    have HL := Lib.hid (hn.trans hm.symm)
    have hx := fun (h : 0 < n) => hA.2.2 h
    have hy := fun (h : 0 < n) => hB.2.2 h
    have HN := Lib.hid hn
    have hmx := hA.2.1
    clear hA hB hn hm
    go_enter Tryd.func60, Tryd.ntmps60
    go_wp2
    go_loopw [13] (fun i wr => ∃ j : Nat, j ≤ n ∧ i = .int .i64 j ∧ Hid (∀ i, i < j → xs.getD i 0 = ys.getD i 0) ∧ Below w.heap.size w wr) (fun i _ => n - (intOf i).toNat)
    case atStart => exact ⟨0, by omega, rfl, Lib.hid (fun i hi => by omega), Below.refl _ _⟩
    case round =>
      obtain ⟨j, hj, rfl, hne, hbr⟩ := hrel
      have hzr := hbr.size
      by_cases hlt : j < n
      · obtain ⟨ad1, rfl, f0⟩ := hx (by omega)
        obtain ⟨ad2, rfl, g0⟩ := hy (by omega)
        have f0 := pw_cell_below hbr (f0 j hlt)
        have g0 := pw_cell_below hbr (g0 j hlt)
        have x0 := fun x => pw_cell_below (below_ext wr x) f0
        have y0 := fun x => pw_cell_below (below_ext wr x) g0
        have HBR := Lib.hid hbr
        by_cases he : xs.getD j 0 = ys.getD j 0
        · have HE := Lib.hid (show ∀ i, i < j + 1 → xs.getD i 0 = ys.getD i 0 from fun i hi => by
            by_cases e : i = j
            · subst e; exact he
            · exact hne.out i (by omega))
          have he1 : (xs.getD j 0 != ys.getD j 0) = false := by rw [he]; simp
          have HLT := Lib.hid hlt
          clear he hx hy f0 g0
          generalize xs.getD j 0 = p at *
          generalize ys.getD j 0 = q at *
          go_wp2
          (refine wp_region_ext_lit (by kernel_rfl) (by kernel_rfl) ?_; (repeat (go_big_quiet_step ((fail)))); refine wpQuiet_nil ?_; intro w2 hb_w2; obtain ⟨hc_w2, hf_w2⟩ := bcell hb_w2; have hz_w2 := hb_w2.size; (try simp only [World.size_alloc, World.size_setCell, World.size_drew] at hz_w2))
          go_wp2
          go_roundw
          case rel => exact ⟨j + 1, by have := HLT.out; omega, by go_num, HE, HBR.out.trans (Below.mono (show Below wr.heap.size wr _ from by (repeat (first | (with_reducible exact Below.refl _ _) | ((with_reducible refine Below.alloc ?_ ?hB _); (case hB => (first | omega | (simp; done) | (simp; omega)))) | ((with_reducible refine Below.setCell ?_ ?hB _); (case hB => (first | omega | (simp; done) | (simp; omega)))) | (with_reducible refine Below.drew ?_) | ((with_reducible refine below_ext_of ?_ ?hB); (case hB => (first | omega | (simp; done) | (simp; omega)))) | ((with_reducible refine Below.trans ?_ (Below.mono (by assumption) ?hB)); (case hB => (first | omega | (simp; done) | (simp; omega))))))) hzr)⟩
          case measure => have := HLT.out; simp [intOf]; omega
        · have HV := Lib.hid (show decide (xs = ys) = false from decide_eq_false (fun h => he (by rw [h])))
          have he1 : (xs.getD j 0 != ys.getD j 0) = true := by simp only [bne_iff_ne, ne_eq]; exact he
          clear he hx hy f0 g0
          generalize xs.getD j 0 = p at *
          generalize ys.getD j 0 = q at *
          go_wp2
          (refine wp_region_ext_lit (by kernel_rfl) (by kernel_rfl) ?_; (repeat (go_big_quiet_step ((fail)))); refine wpQuiet_nil ?_; intro w2 hb_w2; obtain ⟨hc_w2, hf_w2⟩ := bcell hb_w2; have hz_w2 := hb_w2.size; (try simp only [World.size_alloc, World.size_setCell, World.size_drew] at hz_w2))
          go_wp2
          go_ret
          exact ⟨by rw [HV.out]; rfl, HBR.out.trans (Below.mono (show Below wr.heap.size wr _ from by (repeat (first | (with_reducible exact Below.refl _ _) | ((with_reducible refine Below.alloc ?_ ?hB _); (case hB => (first | omega | (simp; done) | (simp; omega)))) | ((with_reducible refine Below.setCell ?_ ?hB _); (case hB => (first | omega | (simp; done) | (simp; omega)))) | (with_reducible refine Below.drew ?_) | ((with_reducible refine below_ext_of ?_ ?hB); (case hB => (first | omega | (simp; done) | (simp; omega)))) | ((with_reducible refine Below.trans ?_ (Below.mono (by assumption) ?hB)); (case hB => (first | omega | (simp; done) | (simp; omega))))))) hzr)⟩
      · obtain rfl : j = n := by omega
        have HV := Lib.hid (show decide (xs = ys) = true from decide_eq_true (getD_ext HL.out (by rw [HN.out]; exact hne.out)))
        go_wp2
        go_ret
        exact ⟨by rw [HV.out]; rfl, hbr⟩
  · have HV := Lib.hid (show decide (xs = ys) = false from decide_eq_false (fun h => hl (by rw [← hn, ← hm, h])))
    clear hA hB hn hm
    go_enter Tryd.func60, Tryd.ntmps60
    go_wp2
    go_ret
    exact ⟨by rw [HV.out]; rfl, by (repeat (first | (with_reducible exact Below.refl _ _) | ((with_reducible refine Below.alloc ?_ ?hB _); (case hB => (first | omega | (simp; done) | (simp; omega)))) | ((with_reducible refine Below.setCell ?_ ?hB _); (case hB => (first | omega | (simp; done) | (simp; omega)))) | (with_reducible refine Below.drew ?_) | ((with_reducible refine below_ext_of ?_ ?hB); (case hB => (first | omega | (simp; done) | (simp; omega)))) | ((with_reducible refine Below.trans ?_ (Below.mono (by assumption) ?hB)); (case hB => (first | omega | (simp; done) | (simp; omega))))))⟩
instance : DecidableEq Q9 := fun x y => decidable_of_iff (x.op = y.op ∧ x.id = y.id ∧ x.a = y.a ∧ x.b = y.b ∧ (x.x0 = y.x0 ∧ x.y0 = y.y0 ∧ x.x1 = y.x1 ∧ x.y1 = y.y1) ∧ x.s = y.s ∧ x.d = y.d) (by cases x; cases y; simp [Q9.mk.injEq, and_assoc])
theorem same_chain (x y : Q9) : decide (x = y) = ((x.op == y.op) && ((x.id == y.id) && ((x.a == y.a) && ((x.b == y.b) && (rEq x.x0 x.y0 x.x1 x.y1 y.x0 y.y0 y.x1 y.y1 && (decide (x.s = y.s) && decide (x.d = y.d))))))) := by
  rw [Bool.eq_iff_iff]
  cases x; cases y; simp [rEq, Q9.mk.injEq, and_assoc]
set_option maxHeartbeats 1000000 in
theorem req_Same (x y : Q9) (A B : Option Addr) (c1 c2 : Nat) (w : World) (hA : ReadsInt w .u8 A x.d.length x.d) (hB : ReadsInt w .u8 B y.d.length y.d) : Calls Tryd.prog 35 #[(.agg #[.int .i64 x.op, .int .i64 x.id, .int .i64 x.a, .int .i64 x.b, .int .i64 x.x0, .int .i64 x.y0, .int .i64 x.x1, .int .i64 x.y1, .string x.s, .slice A x.d.length c1]), (.agg #[.int .i64 y.op, .int .i64 y.id, .int .i64 y.a, .int .i64 y.b, .int .i64 y.x0, .int .i64 y.y0, .int .i64 y.x1, .int .i64 y.y1, .string y.s, .slice B y.d.length c2])] w fun e w' => e = .returned (.bool (decide (x = y))) ∧ Below w.heap.size w w' := by
  have cE : ∀ w1, Below w.heap.size w w1 → Calls Tryd.prog 60 #[.slice A x.d.length c1, .slice B y.d.length c2] w1 fun e w' => e = .returned (.bool (decide (x.d = y.d))) ∧ Below w1.heap.size w1 w' := fun w1 hb => sl_Equal A B x.d y.d _ _ c1 c2 w1 rfl rfl (hA.below hb) (hB.below hb)
  clear hA hB
  rw [same_chain]
  generalize decide (x.d = y.d) = vd at *
  have hs := str_beq x.s y.s (decide (x.s = y.s)) rfl
  generalize decide (x.s = y.s) = vs at *
  have hr := fun d w => eqRect d w x.x0 x.y0 x.x1 x.y1 y.x0 y.y0 y.x1 y.y1
  generalize rEq x.x0 x.y0 x.x1 x.y1 y.x0 y.y0 y.x1 y.y1 = vr at *
  have e1 : (x.op == y.op) = (x.op == y.op) := rfl
  generalize hv1 : (x.op == y.op) = v1 at *
  have e2 : (x.id == y.id) = (x.id == y.id) := rfl
  generalize hv2 : (x.id == y.id) = v2 at *
  have e3 : (x.a == y.a) = (x.a == y.a) := rfl
  generalize hv3 : (x.a == y.a) = v3 at *
  have e4 : (x.b == y.b) = (x.b == y.b) := rfl
  generalize hv4 : (x.b == y.b) = v4 at *
  clear e1 e2 e3 e4
  cases v1
  · go_enter Tryd.func35, Tryd.ntmps35
    go_wp2_with (first | (go_at_call 60; (with_reducible refine (cE _ ?_).mono ?_); (focus ((repeat (first | (with_reducible exact Below.refl _ _) | ((with_reducible refine Below.alloc ?_ ?hB _); (case hB => (first | omega | (simp; done) | (simp; omega)))) | ((with_reducible refine Below.setCell ?_ ?hB _); (case hB => (first | omega | (simp; done) | (simp; omega)))) | (with_reducible refine Below.drew ?_) | ((with_reducible refine below_ext_of ?_ ?hB); (case hB => (first | omega | (simp; done) | (simp; omega)))) | ((with_reducible refine Below.trans ?_ (Below.mono (by assumption) ?hB)); (case hB => (first | omega | (simp; done) | (simp; omega)))))); done)); rintro en w1 ⟨rfl, hb1⟩; obtain ⟨hc1, hf1⟩ := bcell hb1; have hz1 := hb1.size; (try simp only [World.size_alloc, World.size_setCell, World.size_drew] at hz1)))
    (go_ret; exact ⟨by simp; try rfl, by (repeat (first | (with_reducible exact Below.refl _ _) | ((with_reducible refine Below.alloc ?_ ?hB _); (case hB => (first | omega | (simp; done) | (simp; omega)))) | ((with_reducible refine Below.setCell ?_ ?hB _); (case hB => (first | omega | (simp; done) | (simp; omega)))) | (with_reducible refine Below.drew ?_) | ((with_reducible refine below_ext_of ?_ ?hB); (case hB => (first | omega | (simp; done) | (simp; omega)))) | ((with_reducible refine Below.trans ?_ (Below.mono (by assumption) ?hB)); (case hB => (first | omega | (simp; done) | (simp; omega))))))⟩)
  cases v2
  · go_enter Tryd.func35, Tryd.ntmps35
    go_wp2_with (first | (go_at_call 60; (with_reducible refine (cE _ ?_).mono ?_); (focus ((repeat (first | (with_reducible exact Below.refl _ _) | ((with_reducible refine Below.alloc ?_ ?hB _); (case hB => (first | omega | (simp; done) | (simp; omega)))) | ((with_reducible refine Below.setCell ?_ ?hB _); (case hB => (first | omega | (simp; done) | (simp; omega)))) | (with_reducible refine Below.drew ?_) | ((with_reducible refine below_ext_of ?_ ?hB); (case hB => (first | omega | (simp; done) | (simp; omega)))) | ((with_reducible refine Below.trans ?_ (Below.mono (by assumption) ?hB)); (case hB => (first | omega | (simp; done) | (simp; omega)))))); done)); rintro en w1 ⟨rfl, hb1⟩; obtain ⟨hc1, hf1⟩ := bcell hb1; have hz1 := hb1.size; (try simp only [World.size_alloc, World.size_setCell, World.size_drew] at hz1)))
    (go_ret; exact ⟨by simp; try rfl, by (repeat (first | (with_reducible exact Below.refl _ _) | ((with_reducible refine Below.alloc ?_ ?hB _); (case hB => (first | omega | (simp; done) | (simp; omega)))) | ((with_reducible refine Below.setCell ?_ ?hB _); (case hB => (first | omega | (simp; done) | (simp; omega)))) | (with_reducible refine Below.drew ?_) | ((with_reducible refine below_ext_of ?_ ?hB); (case hB => (first | omega | (simp; done) | (simp; omega)))) | ((with_reducible refine Below.trans ?_ (Below.mono (by assumption) ?hB)); (case hB => (first | omega | (simp; done) | (simp; omega))))))⟩)
  cases v3
  · go_enter Tryd.func35, Tryd.ntmps35
    go_wp2_with (first | (go_at_call 60; (with_reducible refine (cE _ ?_).mono ?_); (focus ((repeat (first | (with_reducible exact Below.refl _ _) | ((with_reducible refine Below.alloc ?_ ?hB _); (case hB => (first | omega | (simp; done) | (simp; omega)))) | ((with_reducible refine Below.setCell ?_ ?hB _); (case hB => (first | omega | (simp; done) | (simp; omega)))) | (with_reducible refine Below.drew ?_) | ((with_reducible refine below_ext_of ?_ ?hB); (case hB => (first | omega | (simp; done) | (simp; omega)))) | ((with_reducible refine Below.trans ?_ (Below.mono (by assumption) ?hB)); (case hB => (first | omega | (simp; done) | (simp; omega)))))); done)); rintro en w1 ⟨rfl, hb1⟩; obtain ⟨hc1, hf1⟩ := bcell hb1; have hz1 := hb1.size; (try simp only [World.size_alloc, World.size_setCell, World.size_drew] at hz1)))
    (go_ret; exact ⟨by simp; try rfl, by (repeat (first | (with_reducible exact Below.refl _ _) | ((with_reducible refine Below.alloc ?_ ?hB _); (case hB => (first | omega | (simp; done) | (simp; omega)))) | ((with_reducible refine Below.setCell ?_ ?hB _); (case hB => (first | omega | (simp; done) | (simp; omega)))) | (with_reducible refine Below.drew ?_) | ((with_reducible refine below_ext_of ?_ ?hB); (case hB => (first | omega | (simp; done) | (simp; omega)))) | ((with_reducible refine Below.trans ?_ (Below.mono (by assumption) ?hB)); (case hB => (first | omega | (simp; done) | (simp; omega))))))⟩)
  cases v4
  · go_enter Tryd.func35, Tryd.ntmps35
    go_wp2_with (first | (go_at_call 60; (with_reducible refine (cE _ ?_).mono ?_); (focus ((repeat (first | (with_reducible exact Below.refl _ _) | ((with_reducible refine Below.alloc ?_ ?hB _); (case hB => (first | omega | (simp; done) | (simp; omega)))) | ((with_reducible refine Below.setCell ?_ ?hB _); (case hB => (first | omega | (simp; done) | (simp; omega)))) | (with_reducible refine Below.drew ?_) | ((with_reducible refine below_ext_of ?_ ?hB); (case hB => (first | omega | (simp; done) | (simp; omega)))) | ((with_reducible refine Below.trans ?_ (Below.mono (by assumption) ?hB)); (case hB => (first | omega | (simp; done) | (simp; omega)))))); done)); rintro en w1 ⟨rfl, hb1⟩; obtain ⟨hc1, hf1⟩ := bcell hb1; have hz1 := hb1.size; (try simp only [World.size_alloc, World.size_setCell, World.size_drew] at hz1)))
    (go_ret; exact ⟨by simp; try rfl, by (repeat (first | (with_reducible exact Below.refl _ _) | ((with_reducible refine Below.alloc ?_ ?hB _); (case hB => (first | omega | (simp; done) | (simp; omega)))) | ((with_reducible refine Below.setCell ?_ ?hB _); (case hB => (first | omega | (simp; done) | (simp; omega)))) | (with_reducible refine Below.drew ?_) | ((with_reducible refine below_ext_of ?_ ?hB); (case hB => (first | omega | (simp; done) | (simp; omega)))) | ((with_reducible refine Below.trans ?_ (Below.mono (by assumption) ?hB)); (case hB => (first | omega | (simp; done) | (simp; omega))))))⟩)
  cases vr
  · go_enter Tryd.func35, Tryd.ntmps35
    go_wp2_with (first | (go_at_call 60; (with_reducible refine (cE _ ?_).mono ?_); (focus ((repeat (first | (with_reducible exact Below.refl _ _) | ((with_reducible refine Below.alloc ?_ ?hB _); (case hB => (first | omega | (simp; done) | (simp; omega)))) | ((with_reducible refine Below.setCell ?_ ?hB _); (case hB => (first | omega | (simp; done) | (simp; omega)))) | (with_reducible refine Below.drew ?_) | ((with_reducible refine below_ext_of ?_ ?hB); (case hB => (first | omega | (simp; done) | (simp; omega)))) | ((with_reducible refine Below.trans ?_ (Below.mono (by assumption) ?hB)); (case hB => (first | omega | (simp; done) | (simp; omega)))))); done)); rintro en w1 ⟨rfl, hb1⟩; obtain ⟨hc1, hf1⟩ := bcell hb1; have hz1 := hb1.size; (try simp only [World.size_alloc, World.size_setCell, World.size_drew] at hz1)))
    (go_ret; exact ⟨by simp; try rfl, by (repeat (first | (with_reducible exact Below.refl _ _) | ((with_reducible refine Below.alloc ?_ ?hB _); (case hB => (first | omega | (simp; done) | (simp; omega)))) | ((with_reducible refine Below.setCell ?_ ?hB _); (case hB => (first | omega | (simp; done) | (simp; omega)))) | (with_reducible refine Below.drew ?_) | ((with_reducible refine below_ext_of ?_ ?hB); (case hB => (first | omega | (simp; done) | (simp; omega)))) | ((with_reducible refine Below.trans ?_ (Below.mono (by assumption) ?hB)); (case hB => (first | omega | (simp; done) | (simp; omega))))))⟩)
  cases vs
  · go_enter Tryd.func35, Tryd.ntmps35
    go_wp2_with (first | (go_at_call 60; (with_reducible refine (cE _ ?_).mono ?_); (focus ((repeat (first | (with_reducible exact Below.refl _ _) | ((with_reducible refine Below.alloc ?_ ?hB _); (case hB => (first | omega | (simp; done) | (simp; omega)))) | ((with_reducible refine Below.setCell ?_ ?hB _); (case hB => (first | omega | (simp; done) | (simp; omega)))) | (with_reducible refine Below.drew ?_) | ((with_reducible refine below_ext_of ?_ ?hB); (case hB => (first | omega | (simp; done) | (simp; omega)))) | ((with_reducible refine Below.trans ?_ (Below.mono (by assumption) ?hB)); (case hB => (first | omega | (simp; done) | (simp; omega)))))); done)); rintro en w1 ⟨rfl, hb1⟩; obtain ⟨hc1, hf1⟩ := bcell hb1; have hz1 := hb1.size; (try simp only [World.size_alloc, World.size_setCell, World.size_drew] at hz1)))
    (go_ret; exact ⟨by simp; try rfl, by (repeat (first | (with_reducible exact Below.refl _ _) | ((with_reducible refine Below.alloc ?_ ?hB _); (case hB => (first | omega | (simp; done) | (simp; omega)))) | ((with_reducible refine Below.setCell ?_ ?hB _); (case hB => (first | omega | (simp; done) | (simp; omega)))) | (with_reducible refine Below.drew ?_) | ((with_reducible refine below_ext_of ?_ ?hB); (case hB => (first | omega | (simp; done) | (simp; omega)))) | ((with_reducible refine Below.trans ?_ (Below.mono (by assumption) ?hB)); (case hB => (first | omega | (simp; done) | (simp; omega))))))⟩)
  go_enter Tryd.func35, Tryd.ntmps35
  go_wp2_with (first | (go_at_call 60; (with_reducible refine (cE _ ?_).mono ?_); (focus ((repeat (first | (with_reducible exact Below.refl _ _) | ((with_reducible refine Below.alloc ?_ ?hB _); (case hB => (first | omega | (simp; done) | (simp; omega)))) | ((with_reducible refine Below.setCell ?_ ?hB _); (case hB => (first | omega | (simp; done) | (simp; omega)))) | (with_reducible refine Below.drew ?_) | ((with_reducible refine below_ext_of ?_ ?hB); (case hB => (first | omega | (simp; done) | (simp; omega)))) | ((with_reducible refine Below.trans ?_ (Below.mono (by assumption) ?hB)); (case hB => (first | omega | (simp; done) | (simp; omega)))))); done)); rintro en w1 ⟨rfl, hb1⟩; obtain ⟨hc1, hf1⟩ := bcell hb1; have hz1 := hb1.size; (try simp only [World.size_alloc, World.size_setCell, World.size_drew] at hz1)))
  (go_ret; exact ⟨by simp; try rfl, by (repeat (first | (with_reducible exact Below.refl _ _) | ((with_reducible refine Below.alloc ?_ ?hB _); (case hB => (first | omega | (simp; done) | (simp; omega)))) | ((with_reducible refine Below.setCell ?_ ?hB _); (case hB => (first | omega | (simp; done) | (simp; omega)))) | (with_reducible refine Below.drew ?_) | ((with_reducible refine below_ext_of ?_ ?hB); (case hB => (first | omega | (simp; done) | (simp; omega)))) | ((with_reducible refine Below.trans ?_ (Below.mono (by assumption) ?hB)); (case hB => (first | omega | (simp; done) | (simp; omega))))))⟩)
set_option maxHeartbeats 1000000 in
theorem ref_Same9 (x y : Q9) (A B : Option Addr) (c1 c2 : Nat) (w : World) (hx : Byt x.d) (hy : Byt y.d) (hA : ReadsInt w .u8 A x.d.length x.d) (hB : ReadsInt w .u8 B y.d.length y.d) : Calls Tryd.prog 36 #[(.agg #[.int .i64 x.op, .int .i64 x.id, .int .i64 x.a, .int .i64 x.b, .int .i64 x.x0, .int .i64 x.y0, .int .i64 x.x1, .int .i64 x.y1, .string x.s, .slice A x.d.length c1]), (.agg #[.int .i64 y.op, .int .i64 y.id, .int .i64 y.a, .int .i64 y.b, .int .i64 y.x0, .int .i64 y.y0, .int .i64 y.x1, .int .i64 y.y1, .string y.s, .slice B y.d.length c2])] w fun e w' => e = .returned (.bool (decide (x = y))) ∧ Below w.heap.size w w' := by
  rw [same_chain]
  have hb0 : ∀ x1 x2, Below w.heap.size w ((w.alloc x1).alloc x2) := fun x1 x2 => ((Below.refl _ _).alloc (Nat.le_refl _) x1).alloc (by simp) x2
  have s1 := fun x1 x2 => str_reads (c := c1) (hA.below (hb0 x1 x2))
  have s2 := fun x1 x2 => str_reads (c := c2) (hB.below (hb0 x1 x2))
  have hd := str_beq (strOfNums x.d) (strOfNums y.d) (decide (x.d = y.d)) (by
    rw [Bool.eq_iff_iff]; simp only [decide_eq_true_iff]
    exact ⟨fun h => strOfNums_inj hx hy h, fun h => by rw [h]⟩)
  clear hA hB hb0
  generalize decide (x.d = y.d) = vd at *
  generalize strOfNums x.d = t1 at *
  generalize strOfNums y.d = t2 at *
  have hs := str_beq x.s y.s (decide (x.s = y.s)) rfl
  generalize decide (x.s = y.s) = vs at *
  have hr := fun d w => eqRect d w x.x0 x.y0 x.x1 x.y1 y.x0 y.y0 y.x1 y.y1
  generalize rEq x.x0 x.y0 x.x1 x.y1 y.x0 y.y0 y.x1 y.y1 = vr at *
  have e1 : (x.op == y.op) = (x.op == y.op) := rfl
  generalize hv1 : (x.op == y.op) = v1 at *
  have e2 : (x.id == y.id) = (x.id == y.id) := rfl
  generalize hv2 : (x.id == y.id) = v2 at *
  have e3 : (x.a == y.a) = (x.a == y.a) := rfl
  generalize hv3 : (x.a == y.a) = v3 at *
  have e4 : (x.b == y.b) = (x.b == y.b) := rfl
  generalize hv4 : (x.b == y.b) = v4 at *
  clear e1 e2 e3 e4
  cases v1
  · go_enter Tryd.func36, Tryd.ntmps36
    go_wp2_with (first | fail)
    (go_ret; exact ⟨by simp; try rfl, by (repeat (first | (with_reducible exact Below.refl _ _) | ((with_reducible refine Below.alloc ?_ ?hB _); (case hB => (first | omega | (simp; done) | (simp; omega)))) | ((with_reducible refine Below.setCell ?_ ?hB _); (case hB => (first | omega | (simp; done) | (simp; omega)))) | (with_reducible refine Below.drew ?_) | ((with_reducible refine below_ext_of ?_ ?hB); (case hB => (first | omega | (simp; done) | (simp; omega)))) | ((with_reducible refine Below.trans ?_ (Below.mono (by assumption) ?hB)); (case hB => (first | omega | (simp; done) | (simp; omega))))))⟩)
  cases v2
  · go_enter Tryd.func36, Tryd.ntmps36
    go_wp2_with (first | fail)
    (go_ret; exact ⟨by simp; try rfl, by (repeat (first | (with_reducible exact Below.refl _ _) | ((with_reducible refine Below.alloc ?_ ?hB _); (case hB => (first | omega | (simp; done) | (simp; omega)))) | ((with_reducible refine Below.setCell ?_ ?hB _); (case hB => (first | omega | (simp; done) | (simp; omega)))) | (with_reducible refine Below.drew ?_) | ((with_reducible refine below_ext_of ?_ ?hB); (case hB => (first | omega | (simp; done) | (simp; omega)))) | ((with_reducible refine Below.trans ?_ (Below.mono (by assumption) ?hB)); (case hB => (first | omega | (simp; done) | (simp; omega))))))⟩)
  cases v3
  · go_enter Tryd.func36, Tryd.ntmps36
    go_wp2_with (first | fail)
    (go_ret; exact ⟨by simp; try rfl, by (repeat (first | (with_reducible exact Below.refl _ _) | ((with_reducible refine Below.alloc ?_ ?hB _); (case hB => (first | omega | (simp; done) | (simp; omega)))) | ((with_reducible refine Below.setCell ?_ ?hB _); (case hB => (first | omega | (simp; done) | (simp; omega)))) | (with_reducible refine Below.drew ?_) | ((with_reducible refine below_ext_of ?_ ?hB); (case hB => (first | omega | (simp; done) | (simp; omega)))) | ((with_reducible refine Below.trans ?_ (Below.mono (by assumption) ?hB)); (case hB => (first | omega | (simp; done) | (simp; omega))))))⟩)
  cases v4
  · go_enter Tryd.func36, Tryd.ntmps36
    go_wp2_with (first | fail)
    (go_ret; exact ⟨by simp; try rfl, by (repeat (first | (with_reducible exact Below.refl _ _) | ((with_reducible refine Below.alloc ?_ ?hB _); (case hB => (first | omega | (simp; done) | (simp; omega)))) | ((with_reducible refine Below.setCell ?_ ?hB _); (case hB => (first | omega | (simp; done) | (simp; omega)))) | (with_reducible refine Below.drew ?_) | ((with_reducible refine below_ext_of ?_ ?hB); (case hB => (first | omega | (simp; done) | (simp; omega)))) | ((with_reducible refine Below.trans ?_ (Below.mono (by assumption) ?hB)); (case hB => (first | omega | (simp; done) | (simp; omega))))))⟩)
  cases vr
  · go_enter Tryd.func36, Tryd.ntmps36
    go_wp2_with (first | fail)
    (go_ret; exact ⟨by simp; try rfl, by (repeat (first | (with_reducible exact Below.refl _ _) | ((with_reducible refine Below.alloc ?_ ?hB _); (case hB => (first | omega | (simp; done) | (simp; omega)))) | ((with_reducible refine Below.setCell ?_ ?hB _); (case hB => (first | omega | (simp; done) | (simp; omega)))) | (with_reducible refine Below.drew ?_) | ((with_reducible refine below_ext_of ?_ ?hB); (case hB => (first | omega | (simp; done) | (simp; omega)))) | ((with_reducible refine Below.trans ?_ (Below.mono (by assumption) ?hB)); (case hB => (first | omega | (simp; done) | (simp; omega))))))⟩)
  cases vs
  · go_enter Tryd.func36, Tryd.ntmps36
    go_wp2_with (first | fail)
    (go_ret; exact ⟨by simp; try rfl, by (repeat (first | (with_reducible exact Below.refl _ _) | ((with_reducible refine Below.alloc ?_ ?hB _); (case hB => (first | omega | (simp; done) | (simp; omega)))) | ((with_reducible refine Below.setCell ?_ ?hB _); (case hB => (first | omega | (simp; done) | (simp; omega)))) | (with_reducible refine Below.drew ?_) | ((with_reducible refine below_ext_of ?_ ?hB); (case hB => (first | omega | (simp; done) | (simp; omega)))) | ((with_reducible refine Below.trans ?_ (Below.mono (by assumption) ?hB)); (case hB => (first | omega | (simp; done) | (simp; omega))))))⟩)
  go_enter Tryd.func36, Tryd.ntmps36
  go_wp2_with (first | fail)
  (go_ret; exact ⟨by simp; try rfl, by (repeat (first | (with_reducible exact Below.refl _ _) | ((with_reducible refine Below.alloc ?_ ?hB _); (case hB => (first | omega | (simp; done) | (simp; omega)))) | ((with_reducible refine Below.setCell ?_ ?hB _); (case hB => (first | omega | (simp; done) | (simp; omega)))) | (with_reducible refine Below.drew ?_) | ((with_reducible refine below_ext_of ?_ ?hB); (case hB => (first | omega | (simp; done) | (simp; omega)))) | ((with_reducible refine Below.trans ?_ (Below.mono (by assumption) ?hB)); (case hB => (first | omega | (simp; done) | (simp; omega))))))⟩)
end Go.Proofs.YtinnaiofgbjicaaDoor
