/- Regions: a rectangle of a row that has a place, a band, walked. -/
import Derived.Test.YtbkhcdmmnlkhdaaGreatRegB
namespace Go.Proofs.YtbkhcdmmnlkhdaaGreat
open Go.RowKit Go.Proofs.YtbkhcdmmnlkhdaaGreatW.PrintWords
set_option linter.unusedSimpArgs false
set_option linter.unusedVariables false
set_option maxRecDepth 1000000
/-- The first place at which p holds; -1: none. -/
def idxL (p : R → Bool) (l : List R) : Int := if l.any p then (l.findIdx p : Int) else -1
theorem idxL_at {p : R → Bool} {l : List R} {k : Nat} (hk : k < l.length) (hp : p (atR l k) = true) (hn : ∀ i, i < k → p (atR l i) = false) : idxL p l = k := by
  rw [atR_get hk] at hp
  have ha : l.any p = true := List.any_eq_true.2 ⟨_, List.getElem_mem hk, hp⟩
  have hx : l.findIdx p = k := by
    refine (List.findIdx_eq hk).2 ⟨hp, fun i hi => ?_⟩
    have := hn i hi
    rwa [atR_get (by omega)] at this
  unfold idxL; rw [if_pos ha, hx]
theorem idxL_none {p : R → Bool} {l : List R} (hn : ∀ i, i < l.length → p (atR l i) = false) : idxL p l = -1 := by
  unfold idxL; rw [if_neg]
  intro h
  obtain ⟨x, hx, hp⟩ := List.any_eq_true.1 h
  obtain ⟨i, hi, rfl⟩ := List.getElem_of_mem hx
  have := hn i hi
  rw [atR_get hi, hp] at this; cases this
theorem idxL_any (p : R → Bool) (l : List R) : decide (0 ≤ idxL p l) = l.any p := by
  unfold idxL
  cases l.any p
  · simp
  · simp
/-- A function of a rectangle that tells p. -/
def PredR (fn : Nat) (lb : Array Value) (p : R → Bool) (w : World) : Prop := ∀ W (x : R), Below w.heap.size w W → Calls Tryz.prog fn (#[(.agg #[.int .i64 (x).x0, .int .i64 (x).y0, .int .i64 (x).x1, .int .i64 (x).y1])] ++ lb) W fun e W' => e = .returned (.bool (p x)) ∧ Below W.heap.size W W'
set_option maxHeartbeats 1000000 in
theorem sl_IndexFunc (fn : Nat) (lb : Array Value) (heg : ∀ args w, (callFunc fn args).run Tryz.prog w = .ok (.enter fn args) w) (p : R → Bool) (A : Option Addr) (l : List R) (c : Nat) (w : World) (hp : PredR fn lb p w) (hr : RdG RE w A l c) :
    Calls Tryz.prog 208 #[.slice A l.length c, .func (.func fn) #[] lb] w fun e w' => e = .returned (.int .i64 (idxL p l)) ∧ Below w.heap.size w w' := by
  have hlen := hr.len
  replace hr := Lib.hid hr
  go_enter Tryz.func208, Tryz.ntmps208
  go_wp2
  go_loopw [8] (fun i wr => ∃ k : Nat, k ≤ l.length ∧ i = .int .i64 k ∧ Below w.heap.size w wr ∧ Hid (∀ j, j < k → p (atR l j) = false)) (fun i _ => l.length - (intOf i).toNat)
  case atStart => exact ⟨0, by omega, rfl, Below.refl _ _, Lib.hid (fun j h => absurd h (Nat.not_lt_zero _))⟩
  case round =>
    obtain ⟨k, hk, rfl, hb2, hn⟩ := hrel
    by_cases hkl : k < l.length
    · obtain ⟨b0, off, rfl, hb0, hrow⟩ := RdR.at hr.out (by omega)
      obtain ⟨f0, f1, f2, f3⟩ := hrow k hkl; have g0 := (hb2.cell (p := ⟨b0, off + k * 4, none⟩) hb0).trans f0; have g1 := (hb2.cell (p := ⟨b0, off + k * 4 + 1, none⟩) hb0).trans f1; have g2 := (hb2.cell (p := ⟨b0, off + k * 4 + 2, none⟩) hb0).trans f2; have g3 := (hb2.cell (p := ⟨b0, off + k * 4 + 3, none⟩) hb0).trans f3
      have hkz : (k : Int) < l.length := by omega
      have hzq := hb2.size
      obtain ⟨x, hx⟩ : ∃ x, atR l k = x := ⟨_, rfl⟩
      rw [hx] at g0 g1 g2 g3
      have HX := Lib.hid hx
      clear f0 f1 f2 f3 hrow hx
      have hc := hp wr x hb2
      cases hq : p x with
      | true =>
        rw [hq] at hc
        have HI := Lib.hid (idxL_at hkl (by rw [HX.out]; exact hq) hn.out)
        clear hq
        go_wp2_with (first | ((with_reducible refine hc.mono ?_); rintro e w5 ⟨rfl, hb5⟩))
        go_ret
        rw [HI.out]
        exact ⟨rfl, by (repeat (first | (with_reducible exact Below.refl _ _) | ((with_reducible refine Below.alloc ?_ ?hB _); (case hB => (first | omega | (simp; done) | (simp; omega)))) | ((with_reducible refine Below.setCell ?_ ?hB _); (case hB => (first | omega | (simp; done) | (simp; omega)))) | (with_reducible refine Below.drew ?_) | ((with_reducible refine below_ext_of ?_ ?hB); (case hB => (first | omega | (simp; done) | (simp; omega)))) | ((with_reducible refine Below.trans ?_ (Below.mono (by assumption) ?hB)); (case hB => (first | omega | (simp; done) | (simp; omega))))))⟩
      | false =>
        rw [hq] at hc
        have HQ := Lib.hid hq
        clear hq
        go_wp2_with (first | ((with_reducible refine hc.mono ?_); rintro e w5 ⟨rfl, hb5⟩))
        go_roundw
        case rel =>
          refine ⟨k + 1, by omega, by go_num, by (repeat (first | (with_reducible exact Below.refl _ _) | ((with_reducible refine Below.alloc ?_ ?hB _); (case hB => (first | omega | (simp; done) | (simp; omega)))) | ((with_reducible refine Below.setCell ?_ ?hB _); (case hB => (first | omega | (simp; done) | (simp; omega)))) | (with_reducible refine Below.drew ?_) | ((with_reducible refine below_ext_of ?_ ?hB); (case hB => (first | omega | (simp; done) | (simp; omega)))) | ((with_reducible refine Below.trans ?_ (Below.mono (by assumption) ?hB)); (case hB => (first | omega | (simp; done) | (simp; omega)))))), Lib.hid fun j hj => ?_⟩
          rcases Nat.lt_or_ge j k with h | h
          · exact hn.out j h
          · obtain rfl : j = k := by omega
            rw [HX.out]; exact HQ.out
        case measure => simp [intOf]; omega
    · obtain rfl : k = l.length := by omega
      have hkz : ¬ ((l.length : Int) < l.length) := by omega
      have HI := Lib.hid (idxL_none hn.out)
      go_wp2
      go_ret
      rw [HI.out]
      exact ⟨rfl, hb2⟩
theorem sl_ContainsFunc (fn : Nat) (lb : Array Value) (heg : ∀ args w, (callFunc fn args).run Tryz.prog w = .ok (.enter fn args) w) (p : R → Bool) (A : Option Addr) (l : List R) (c : Nat) (w : World) (hp : PredR fn lb p w) (hr : RdG RE w A l c) :
    Calls Tryz.prog 222 #[.slice A l.length c, .func (.func fn) #[] lb] w fun e w' => e = .returned (.bool (l.any p)) ∧ Below w.heap.size w w' := by
  have cI := sl_IndexFunc fn lb heg p A l c w hp hr
  have HA := Lib.hid (idxL_any p l)
  generalize idxL p l = i at *
  clear hr hp
  go_enter Tryz.func222, Tryz.ntmps222
  go_wp2_with (first | (go_at_call 208; (with_reducible refine cI.mono ?_); rintro e w5 ⟨rfl, hb5⟩))
  go_ret
  rw [← HA.out]
  exact ⟨rfl, hb5⟩
def hasB (x : Int) (r : R) : Bool := decide (r.x0 ≤ x) && decide (x < r.x1)
def hasL (l : List R) (x : Int) : Bool := l.any (hasB x)
theorem reg_has1 (x : Int) (r : R) (B : Nat) (W : World) (h : W.heap[B]? = some (.cells #[.int .i64 x] 3 (0, 0))) : Calls Tryz.prog 223 #[(.agg #[.int .i64 (r).x0, .int .i64 (r).y0, .int .i64 (r).x1, .int .i64 (r).y1]), .pointer (some ⟨B, 0, none⟩)] W fun e W' => e = .returned (.bool (hasB x r)) ∧ Below W.heap.size W W' := by
  have g0 := blk_cellO h 0 _ rfl
  have hB := blk_lt h
  clear h
  by_cases h1 : r.x0 ≤ x
  · go_enter Tryz.func223, Tryz.ntmps223
    go_wp2
    (go_ret; refine ⟨congrArg (fun x => Ending.returned (.bool x)) ?_, by (repeat (first | (with_reducible exact Below.refl _ _) | ((with_reducible refine Below.alloc ?_ ?hB _); (case hB => (first | omega | (simp; done) | (simp; omega)))) | ((with_reducible refine Below.setCell ?_ ?hB _); (case hB => (first | omega | (simp; done) | (simp; omega)))) | (with_reducible refine Below.drew ?_) | ((with_reducible refine below_ext_of ?_ ?hB); (case hB => (first | omega | (simp; done) | (simp; omega)))) | ((with_reducible refine Below.trans ?_ (Below.mono (by assumption) ?hB)); (case hB => (first | omega | (simp; done) | (simp; omega))))))⟩; (first | rfl | (rw [Bool.eq_iff_iff]; simp [hasB]; done) | (rw [Bool.eq_iff_iff]; simp [hasB]; omega)))
  · go_enter Tryz.func223, Tryz.ntmps223
    go_wp2
    (go_ret; refine ⟨congrArg (fun x => Ending.returned (.bool x)) ?_, by (repeat (first | (with_reducible exact Below.refl _ _) | ((with_reducible refine Below.alloc ?_ ?hB _); (case hB => (first | omega | (simp; done) | (simp; omega)))) | ((with_reducible refine Below.setCell ?_ ?hB _); (case hB => (first | omega | (simp; done) | (simp; omega)))) | (with_reducible refine Below.drew ?_) | ((with_reducible refine below_ext_of ?_ ?hB); (case hB => (first | omega | (simp; done) | (simp; omega)))) | ((with_reducible refine Below.trans ?_ (Below.mono (by assumption) ?hB)); (case hB => (first | omega | (simp; done) | (simp; omega))))))⟩; (first | rfl | (rw [Bool.eq_iff_iff]; simp [hasB]; done) | (rw [Bool.eq_iff_iff]; simp [hasB]; omega)))
theorem reg_has (A : Option Addr) (l : List R) (c : Nat) (x : Int) (w : World) (hr : RdG RE w A l c) : Calls Tryz.prog 219 #[.slice A l.length c, .int .i64 x] w fun e w' => e = .returned (.bool (hasL l x)) ∧ Below w.heap.size w w' := by
  have hbox := blk_new w (.cells #[.int .i64 x] 3)
  have cC := sl_ContainsFunc 223 #[.pointer (some ⟨w.heap.size, 0, none⟩)] (enters_of Tryz.func223 (by kernel_rfl) rfl) (hasB x) A l c (w.alloc (.cells #[.int .i64 x] 3)) (fun W r hb => reg_has1 x r w.heap.size W ((hb.block _ (blk_lt hbox)).trans hbox)) (hr.below (by (repeat (first | (with_reducible exact Below.refl _ _) | ((with_reducible refine Below.alloc ?_ ?hB _); (case hB => (first | omega | (simp; done) | (simp; omega)))) | ((with_reducible refine Below.setCell ?_ ?hB _); (case hB => (first | omega | (simp; done) | (simp; omega)))) | (with_reducible refine Below.drew ?_) | ((with_reducible refine below_ext_of ?_ ?hB); (case hB => (first | omega | (simp; done) | (simp; omega)))) | ((with_reducible refine Below.trans ?_ (Below.mono (by assumption) ?hB)); (case hB => (first | omega | (simp; done) | (simp; omega))))))))
  clear hr hbox
  go_enter Tryz.func219, Tryz.ntmps219
  go_wp2_with (first | (go_at_call 222; (with_reducible refine cC.mono ?_); rintro e w5 ⟨rfl, hb5⟩))
  go_ret
  exact ⟨rfl, by (repeat (first | (with_reducible exact Below.refl _ _) | ((with_reducible refine Below.alloc ?_ ?hB _); (case hB => (first | omega | (simp; done) | (simp; omega)))) | ((with_reducible refine Below.setCell ?_ ?hB _); (case hB => (first | omega | (simp; done) | (simp; omega)))) | (with_reducible refine Below.drew ?_) | ((with_reducible refine below_ext_of ?_ ?hB); (case hB => (first | omega | (simp; done) | (simp; omega)))) | ((with_reducible refine Below.trans ?_ (Below.mono (by assumption) ?hB)); (case hB => (first | omega | (simp; done) | (simp; omega))))))⟩
end Go.Proofs.YtbkhcdmmnlkhdaaGreat
