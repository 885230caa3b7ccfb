/- Regions: two bands that are the same all along; what is kept of two lists, walked. -/
import Derived.Test.YtbkhcdmmnlkhdaaGreatRegD
namespace Go.Proofs.YtbkhcdmmnlkhdaaGreat
open Go.RowKit Go.Proofs.YtbkhcdmmnlkhdaaGreatW.PrintWords
set_option linter.unusedSimpArgs false
set_option linter.unusedVariables false
set_option maxRecDepth 1000000
def eqB (r s : R) : Bool := decide (r.x0 = s.x0) && decide (r.x1 = s.x1) && decide (r.y1 = s.y0)
def eqvL (a b : List R) : Bool := decide (a.length = b.length ∧ ∀ i, i < a.length → eqB (atR a i) (atR b i) = true)
def alikeL (a b : List R) : Bool := decide (0 < a.length) && eqvL a b
theorem reg_alike1 (r s : R) (W : World) : Calls Tryz.prog 221 #[(.agg #[.int .i64 (r).x0, .int .i64 (r).y0, .int .i64 (r).x1, .int .i64 (r).y1]), (.agg #[.int .i64 (s).x0, .int .i64 (s).y0, .int .i64 (s).x1, .int .i64 (s).y1])] W fun e W' => e = .returned (.bool (eqB r s)) ∧ Below W.heap.size W W' := by
  by_cases h1 : r.x0 = s.x0
  · by_cases h2 : r.x1 = s.x1
    · go_enter Tryz.func221, Tryz.ntmps221
      go_wp2
      (go_ret; refine ⟨congrArg (fun x => Ending.returned (.bool x)) ?_, by (repeat (first | (with_reducible exact Below.refl _ _) | ((with_reducible refine Below.alloc ?_ ?hB _); (case hB => (first | omega | (simp; done) | (simp; omega)))) | ((with_reducible refine Below.setCell ?_ ?hB _); (case hB => (first | omega | (simp; done) | (simp; omega)))) | (with_reducible refine Below.drew ?_) | ((with_reducible refine below_ext_of ?_ ?hB); (case hB => (first | omega | (simp; done) | (simp; omega)))) | ((with_reducible refine Below.trans ?_ (Below.mono (by assumption) ?hB)); (case hB => (first | omega | (simp; done) | (simp; omega))))))⟩; (first | rfl | (rw [Bool.eq_iff_iff]; simp [eqB]; done) | (rw [Bool.eq_iff_iff]; simp [eqB]; omega)))
    · go_enter Tryz.func221, Tryz.ntmps221
      go_wp2
      (go_ret; refine ⟨congrArg (fun x => Ending.returned (.bool x)) ?_, by (repeat (first | (with_reducible exact Below.refl _ _) | ((with_reducible refine Below.alloc ?_ ?hB _); (case hB => (first | omega | (simp; done) | (simp; omega)))) | ((with_reducible refine Below.setCell ?_ ?hB _); (case hB => (first | omega | (simp; done) | (simp; omega)))) | (with_reducible refine Below.drew ?_) | ((with_reducible refine below_ext_of ?_ ?hB); (case hB => (first | omega | (simp; done) | (simp; omega)))) | ((with_reducible refine Below.trans ?_ (Below.mono (by assumption) ?hB)); (case hB => (first | omega | (simp; done) | (simp; omega))))))⟩; (first | rfl | (rw [Bool.eq_iff_iff]; simp [eqB]; done) | (rw [Bool.eq_iff_iff]; simp [eqB]; omega)))
  · go_enter Tryz.func221, Tryz.ntmps221
    go_wp2
    (go_ret; refine ⟨congrArg (fun x => Ending.returned (.bool x)) ?_, by (repeat (first | (with_reducible exact Below.refl _ _) | ((with_reducible refine Below.alloc ?_ ?hB _); (case hB => (first | omega | (simp; done) | (simp; omega)))) | ((with_reducible refine Below.setCell ?_ ?hB _); (case hB => (first | omega | (simp; done) | (simp; omega)))) | (with_reducible refine Below.drew ?_) | ((with_reducible refine below_ext_of ?_ ?hB); (case hB => (first | omega | (simp; done) | (simp; omega)))) | ((with_reducible refine Below.trans ?_ (Below.mono (by assumption) ?hB)); (case hB => (first | omega | (simp; done) | (simp; omega))))))⟩; (first | rfl | (rw [Bool.eq_iff_iff]; simp [eqB]; done) | (rw [Bool.eq_iff_iff]; simp [eqB]; omega)))
set_option maxHeartbeats 1000000 in
theorem sl_EqualFunc (A B : Option Addr) (a b : List R) (ca cb : Nat) (w : World) (ha : RdG RE w A a ca) (hb : RdG RE w B b cb) :
    Calls Tryz.prog 220 #[.slice A a.length ca, .slice B b.length cb, .func (.func 221) #[] #[]] w fun e w' => e = .returned (.bool (eqvL a b)) ∧ Below w.heap.size w w' := by
  have hla := ha.len
  have hlb := hb.len
  have cE := reg_alike1
  replace ha := Lib.hid ha
  replace hb := Lib.hid hb
  by_cases hl : a.length = b.length
  · obtain ⟨n, hn⟩ : ∃ n, a.length = n := ⟨_, rfl⟩
    rw [hn] at hl hla
    rw [← hl, hn]
    replace hl := Lib.hid hl
    replace hn := Lib.hid hn
    go_enter Tryz.func220, Tryz.ntmps220
    go_wp2
    go_loopw [17] (fun i wr => ∃ k : Nat, k ≤ n ∧ i = .int .i64 k ∧ Below w.heap.size w wr ∧ Hid (∀ j, j < k → eqB (atR a j) (atR b j) = true)) (fun i _ => n - (intOf i).toNat)
    case atStart => exact ⟨0, by omega, rfl, Below.refl _ _, Lib.hid (fun j h => absurd h (Nat.not_lt_zero _))⟩
    case round =>
      obtain ⟨k, hk, rfl, hb2, hall⟩ := hrel
      by_cases hkl : k < n
      · have hka : k < a.length := by rw [hn.out]; exact hkl
        have hkb : k < b.length := by rw [← hl.out]; exact hkl
        obtain ⟨a0, aoff, rfl, ha0, harow⟩ := RdR.at ha.out (by omega)
        obtain ⟨b0, boff, rfl, hb0, hbrow⟩ := RdR.at hb.out (by omega)
        obtain ⟨f0, f1, f2, f3⟩ := harow k hka
        obtain ⟨e0, e1, e2, e3⟩ := hbrow k hkb
        have g0 := (hb2.cell (p := ⟨a0, aoff + k * 4, none⟩) ha0).trans f0
        have g1 := (hb2.cell (p := ⟨a0, aoff + k * 4 + 1, none⟩) ha0).trans f1
        have g2 := (hb2.cell (p := ⟨a0, aoff + k * 4 + 2, none⟩) ha0).trans f2
        have g3 := (hb2.cell (p := ⟨a0, aoff + k * 4 + 3, none⟩) ha0).trans f3
        have l0 := (hb2.cell (p := ⟨b0, boff + k * 4, none⟩) hb0).trans e0
        have l1 := (hb2.cell (p := ⟨b0, boff + k * 4 + 1, none⟩) hb0).trans e1
        have l2 := (hb2.cell (p := ⟨b0, boff + k * 4 + 2, none⟩) hb0).trans e2
        have l3 := (hb2.cell (p := ⟨b0, boff + k * 4 + 3, none⟩) hb0).trans e3
        have hbz : b0 < wr.heap.size := Nat.lt_of_lt_of_le hb0 hb2.size
        have hkz : (k : Int) < n := by omega
        have hzq := hb2.size
        obtain ⟨x, hx⟩ : ∃ x, atR a k = x := ⟨_, rfl⟩
        obtain ⟨y, hy⟩ : ∃ y, atR b k = y := ⟨_, rfl⟩
        rw [hx] at g0 g1 g2 g3
        rw [hy] at l0 l1 l2 l3
        have HX := Lib.hid hx
        have HY := Lib.hid hy
        clear f0 f1 f2 f3 harow hx e0 e1 e2 e3 hbrow hy
        have hc := fun W => cE x y W
        cases hq : eqB x y with
        | true =>
          rw [hq] at hc
          have HQ := Lib.hid hq
          clear hq
          go_wp2_with (first | (go_at_call 221; (with_reducible refine (hc _).mono ?_); rintro e w5 ⟨rfl, hb5⟩))
          go_roundw
          case rel =>
            refine ⟨k + 1, by omega, by go_num, by (repeat (first | (with_reducible exact Below.refl _ _) | ((with_reducible refine Below.alloc ?_ ?hB _); (case hB => (first | omega | (simp; done) | (simp; omega)))) | ((with_reducible refine Below.setCell ?_ ?hB _); (case hB => (first | omega | (simp; done) | (simp; omega)))) | (with_reducible refine Below.drew ?_) | ((with_reducible refine below_ext_of ?_ ?hB); (case hB => (first | omega | (simp; done) | (simp; omega)))) | ((with_reducible refine Below.trans ?_ (Below.mono (by assumption) ?hB)); (case hB => (first | omega | (simp; done) | (simp; omega)))))), Lib.hid fun j hj => ?_⟩
            rcases Nat.lt_or_ge j k with h | h
            · exact hall.out j h
            · obtain rfl : j = k := by omega
              rw [HX.out, HY.out]; exact HQ.out
          case measure => simp [intOf]; omega
        | false =>
          rw [hq] at hc
          have HI := Lib.hid (show eqvL a b = false from decide_eq_false (fun h => by
            have := h.2 k hka
            rw [HX.out, HY.out, hq] at this; cases this))
          clear hq
          go_wp2_with (first | (go_at_call 221; (with_reducible refine (hc _).mono ?_); rintro e w5 ⟨rfl, hb5⟩))
          go_ret
          rw [HI.out]
          exact ⟨rfl, by (repeat (first | (with_reducible exact Below.refl _ _) | ((with_reducible refine Below.alloc ?_ ?hB _); (case hB => (first | omega | (simp; done) | (simp; omega)))) | ((with_reducible refine Below.setCell ?_ ?hB _); (case hB => (first | omega | (simp; done) | (simp; omega)))) | (with_reducible refine Below.drew ?_) | ((with_reducible refine below_ext_of ?_ ?hB); (case hB => (first | omega | (simp; done) | (simp; omega)))) | ((with_reducible refine Below.trans ?_ (Below.mono (by assumption) ?hB)); (case hB => (first | omega | (simp; done) | (simp; omega))))))⟩
      · obtain rfl : k = n := by omega
        have hkz : ¬ ((k : Int) < k) := by omega
        have HI := Lib.hid (show eqvL a b = true from decide_eq_true ⟨by rw [hn.out, hl.out], fun i hi => hall.out i (by rw [hn.out] at hi; exact hi)⟩)
        go_wp2
        go_ret
        rw [HI.out]
        exact ⟨rfl, hb2⟩
  · have HI := Lib.hid (show eqvL a b = false from decide_eq_false (fun h => hl h.1))
    have hl1 : ((a.length : Int) != b.length) = true := by rw [bne_iff_ne]; omega
    replace hl := Lib.hid hl
    go_enter Tryz.func220, Tryz.ntmps220
    go_wp2
    go_ret
    rw [HI.out]
    exact ⟨rfl, by (repeat (first | (with_reducible exact Below.refl _ _) | ((with_reducible refine Below.alloc ?_ ?hB _); (case hB => (first | omega | (simp; done) | (simp; omega)))) | ((with_reducible refine Below.setCell ?_ ?hB _); (case hB => (first | omega | (simp; done) | (simp; omega)))) | (with_reducible refine Below.drew ?_) | ((with_reducible refine below_ext_of ?_ ?hB); (case hB => (first | omega | (simp; done) | (simp; omega)))) | ((with_reducible refine Below.trans ?_ (Below.mono (by assumption) ?hB)); (case hB => (first | omega | (simp; done) | (simp; omega))))))⟩
theorem reg_alike (A B : Option Addr) (a b : List R) (ca cb : Nat) (w : World) (ha : RdG RE w A a ca) (hb : RdG RE w B b cb) :
    Calls Tryz.prog 212 #[.slice A a.length ca, .slice B b.length cb] w fun e w' => e = .returned (.bool (alikeL a b)) ∧ Below w.heap.size w w' := by
  have cE := sl_EqualFunc A B a b ca cb w ha hb
  have HA : alikeL a b = (decide (0 < a.length) && eqvL a b) := rfl
  generalize alikeL a b = r at *
  generalize eqvL a b = q at *
  have hla := ha.len
  clear ha hb
  by_cases h0 : 0 < a.length
  · rw [decide_eq_true h0, Bool.true_and] at HA
    subst HA
    have h1 : (0 : Int) < a.length := by omega
    go_enter Tryz.func212, Tryz.ntmps212
    go_wp2_with (first | (go_at_call 220; (with_reducible refine cE.mono ?_); rintro e w5 ⟨rfl, hb5⟩))
    go_ret
    exact ⟨rfl, by (repeat (first | (with_reducible exact Below.refl _ _) | ((with_reducible refine Below.alloc ?_ ?hB _); (case hB => (first | omega | (simp; done) | (simp; omega)))) | ((with_reducible refine Below.setCell ?_ ?hB _); (case hB => (first | omega | (simp; done) | (simp; omega)))) | (with_reducible refine Below.drew ?_) | ((with_reducible refine below_ext_of ?_ ?hB); (case hB => (first | omega | (simp; done) | (simp; omega)))) | ((with_reducible refine Below.trans ?_ (Below.mono (by assumption) ?hB)); (case hB => (first | omega | (simp; done) | (simp; omega))))))⟩
  · rw [decide_eq_false h0, Bool.false_and] at HA
    subst HA
    have h1 : ¬ (0 : Int) < a.length := by omega
    go_enter Tryz.func212, Tryz.ntmps212
    go_wp2_with fail
    go_ret
    exact ⟨rfl, by (repeat (first | (with_reducible exact Below.refl _ _) | ((with_reducible refine Below.alloc ?_ ?hB _); (case hB => (first | omega | (simp; done) | (simp; omega)))) | ((with_reducible refine Below.setCell ?_ ?hB _); (case hB => (first | omega | (simp; done) | (simp; omega)))) | (with_reducible refine Below.drew ?_) | ((with_reducible refine below_ext_of ?_ ?hB); (case hB => (first | omega | (simp; done) | (simp; omega)))) | ((with_reducible refine Below.trans ?_ (Below.mono (by assumption) ?hB)); (case hB => (first | omega | (simp; done) | (simp; omega))))))⟩
end Go.Proofs.YtbkhcdmmnlkhdaaGreat
