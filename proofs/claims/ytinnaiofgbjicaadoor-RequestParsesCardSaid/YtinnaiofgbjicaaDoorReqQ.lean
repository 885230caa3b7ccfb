/- Sameness of requests, walked. -/
import Derived.Test.YtinnaiofgbjicaaDoorReqP
import Derived.Test.YtinnaiofgbjicaaDoorArgQ
namespace Go.Proofs.YtinnaiofgbjicaaDoor
open Go.RowKit Go.Proofs.YtinnaiofgbjicaaDoorW.PrintWords
set_option linter.unusedSimpArgs false
set_option linter.unusedVariables false
set_option maxRecDepth 1000000
instance : DecidableEq Q9 := fun x y => decidable_of_iff (x.op = y.op ∧ x.id = y.id ∧ x.a = y.a ∧ x.b = y.b ∧ (x.x0 = y.x0 ∧ x.y0 = y.y0 ∧ x.x1 = y.x1 ∧ x.y1 = y.y1) ∧ x.s = y.s ∧ x.d = y.d) (by cases x; cases y; simp [Q9.mk.injEq, and_assoc])
theorem same_chain (x y : Q9) : decide (x = y) = ((x.op == y.op) && ((x.id == y.id) && ((x.a == y.a) && ((x.b == y.b) && (rEq x.x0 x.y0 x.x1 x.y1 y.x0 y.y0 y.x1 y.y1 && (decide (x.s = y.s) && decide (x.d = y.d))))))) := by
  rw [Bool.eq_iff_iff]
  cases x; cases y; simp [rEq, Q9.mk.injEq, and_assoc]
set_option maxHeartbeats 1000000 in
theorem ref_Same9 (x y : Q9) (A B : Option Addr) (c1 c2 : Nat) (w : World) (hx : Byt x.d) (hy : Byt y.d) (hA : ReadsInt w .u8 A x.d.length x.d) (hB : ReadsInt w .u8 B y.d.length y.d) : Calls Tryd.prog 36 #[(.agg #[.int .i64 x.op, .int .i64 x.id, .int .i64 x.a, .int .i64 x.b, .int .i64 x.x0, .int .i64 x.y0, .int .i64 x.x1, .int .i64 x.y1, .string x.s, .slice A x.d.length c1]), (.agg #[.int .i64 y.op, .int .i64 y.id, .int .i64 y.a, .int .i64 y.b, .int .i64 y.x0, .int .i64 y.y0, .int .i64 y.x1, .int .i64 y.y1, .string y.s, .slice B y.d.length c2])] w fun e w' => e = .returned (.bool (decide (x = y))) ∧ Below w.heap.size w w' := by
  rw [same_chain]
  have hb0 : ∀ x1 x2, Below w.heap.size w ((w.alloc x1).alloc x2) := fun x1 x2 => ((Below.refl _ _).alloc (Nat.le_refl _) x1).alloc (by simp) x2
  have s1 := fun x1 x2 => str_reads (c := c1) (hA.below (hb0 x1 x2))
  have s2 := fun x1 x2 => str_reads (c := c2) (hB.below (hb0 x1 x2))
  have hd := str_beq (strOfNums x.d) (strOfNums y.d) (decide (x.d = y.d)) (by
    rw [Bool.eq_iff_iff]; simp only [decide_eq_true_iff]
    exact ⟨fun h => strOfNums_inj hx hy h, fun h => by rw [h]⟩)
  clear hA hB hb0
  generalize decide (x.d = y.d) = vd at *
  generalize strOfNums x.d = t1 at *
  generalize strOfNums y.d = t2 at *
  have hs := str_beq x.s y.s (decide (x.s = y.s)) rfl
  generalize decide (x.s = y.s) = vs at *
  have hr := fun d w => eqRect d w x.x0 x.y0 x.x1 x.y1 y.x0 y.y0 y.x1 y.y1
  generalize rEq x.x0 x.y0 x.x1 x.y1 y.x0 y.y0 y.x1 y.y1 = vr at *
  have e1 : (x.op == y.op) = (x.op == y.op) := rfl
  generalize hv1 : (x.op == y.op) = v1 at *
  have e2 : (x.id == y.id) = (x.id == y.id) := rfl
  generalize hv2 : (x.id == y.id) = v2 at *
  have e3 : (x.a == y.a) = (x.a == y.a) := rfl
  generalize hv3 : (x.a == y.a) = v3 at *
  have e4 : (x.b == y.b) = (x.b == y.b) := rfl
  generalize hv4 : (x.b == y.b) = v4 at *
  clear e1 e2 e3 e4
  cases v1
  · go_enter Tryd.func36, Tryd.ntmps36
    go_wp2_with (first | fail)
    (go_ret; exact ⟨by simp; try rfl, by (repeat (first | (with_reducible exact Below.refl _ _) | ((with_reducible refine Below.alloc ?_ ?hB _); (case hB => (first | omega | (simp; done) | (simp; omega)))) | ((with_reducible refine Below.setCell ?_ ?hB _); (case hB => (first | omega | (simp; done) | (simp; omega)))) | (with_reducible refine Below.drew ?_) | ((with_reducible refine below_ext_of ?_ ?hB); (case hB => (first | omega | (simp; done) | (simp; omega)))) | ((with_reducible refine Below.trans ?_ (Below.mono (by assumption) ?hB)); (case hB => (first | omega | (simp; done) | (simp; omega))))))⟩)
  cases v2
  · go_enter Tryd.func36, Tryd.ntmps36
    go_wp2_with (first | fail)
    (go_ret; exact ⟨by simp; try rfl, by (repeat (first | (with_reducible exact Below.refl _ _) | ((with_reducible refine Below.alloc ?_ ?hB _); (case hB => (first | omega | (simp; done) | (simp; omega)))) | ((with_reducible refine Below.setCell ?_ ?hB _); (case hB => (first | omega | (simp; done) | (simp; omega)))) | (with_reducible refine Below.drew ?_) | ((with_reducible refine below_ext_of ?_ ?hB); (case hB => (first | omega | (simp; done) | (simp; omega)))) | ((with_reducible refine Below.trans ?_ (Below.mono (by assumption) ?hB)); (case hB => (first | omega | (simp; done) | (simp; omega))))))⟩)
  cases v3
  · go_enter Tryd.func36, Tryd.ntmps36
    go_wp2_with (first | fail)
    (go_ret; exact ⟨by simp; try rfl, by (repeat (first | (with_reducible exact Below.refl _ _) | ((with_reducible refine Below.alloc ?_ ?hB _); (case hB => (first | omega | (simp; done) | (simp; omega)))) | ((with_reducible refine Below.setCell ?_ ?hB _); (case hB => (first | omega | (simp; done) | (simp; omega)))) | (with_reducible refine Below.drew ?_) | ((with_reducible refine below_ext_of ?_ ?hB); (case hB => (first | omega | (simp; done) | (simp; omega)))) | ((with_reducible refine Below.trans ?_ (Below.mono (by assumption) ?hB)); (case hB => (first | omega | (simp; done) | (simp; omega))))))⟩)
  cases v4
  · go_enter Tryd.func36, Tryd.ntmps36
    go_wp2_with (first | fail)
    (go_ret; exact ⟨by simp; try rfl, by (repeat (first | (with_reducible exact Below.refl _ _) | ((with_reducible refine Below.alloc ?_ ?hB _); (case hB => (first | omega | (simp; done) | (simp; omega)))) | ((with_reducible refine Below.setCell ?_ ?hB _); (case hB => (first | omega | (simp; done) | (simp; omega)))) | (with_reducible refine Below.drew ?_) | ((with_reducible refine below_ext_of ?_ ?hB); (case hB => (first | omega | (simp; done) | (simp; omega)))) | ((with_reducible refine Below.trans ?_ (Below.mono (by assumption) ?hB)); (case hB => (first | omega | (simp; done) | (simp; omega))))))⟩)
  cases vr
  · go_enter Tryd.func36, Tryd.ntmps36
    go_wp2_with (first | fail)
    (go_ret; exact ⟨by simp; try rfl, by (repeat (first | (with_reducible exact Below.refl _ _) | ((with_reducible refine Below.alloc ?_ ?hB _); (case hB => (first | omega | (simp; done) | (simp; omega)))) | ((with_reducible refine Below.setCell ?_ ?hB _); (case hB => (first | omega | (simp; done) | (simp; omega)))) | (with_reducible refine Below.drew ?_) | ((with_reducible refine below_ext_of ?_ ?hB); (case hB => (first | omega | (simp; done) | (simp; omega)))) | ((with_reducible refine Below.trans ?_ (Below.mono (by assumption) ?hB)); (case hB => (first | omega | (simp; done) | (simp; omega))))))⟩)
  cases vs
  · go_enter Tryd.func36, Tryd.ntmps36
    go_wp2_with (first | fail)
    (go_ret; exact ⟨by simp; try rfl, by (repeat (first | (with_reducible exact Below.refl _ _) | ((with_reducible refine Below.alloc ?_ ?hB _); (case hB => (first | omega | (simp; done) | (simp; omega)))) | ((with_reducible refine Below.setCell ?_ ?hB _); (case hB => (first | omega | (simp; done) | (simp; omega)))) | (with_reducible refine Below.drew ?_) | ((with_reducible refine below_ext_of ?_ ?hB); (case hB => (first | omega | (simp; done) | (simp; omega)))) | ((with_reducible refine Below.trans ?_ (Below.mono (by assumption) ?hB)); (case hB => (first | omega | (simp; done) | (simp; omega))))))⟩)
  go_enter Tryd.func36, Tryd.ntmps36
  go_wp2_with (first | fail)
  (go_ret; exact ⟨by simp; try rfl, by (repeat (first | (with_reducible exact Below.refl _ _) | ((with_reducible refine Below.alloc ?_ ?hB _); (case hB => (first | omega | (simp; done) | (simp; omega)))) | ((with_reducible refine Below.setCell ?_ ?hB _); (case hB => (first | omega | (simp; done) | (simp; omega)))) | (with_reducible refine Below.drew ?_) | ((with_reducible refine below_ext_of ?_ ?hB); (case hB => (first | omega | (simp; done) | (simp; omega)))) | ((with_reducible refine Below.trans ?_ (Below.mono (by assumption) ?hB)); (case hB => (first | omega | (simp; done) | (simp; omega))))))⟩)
end Go.Proofs.YtinnaiofgbjicaaDoor
