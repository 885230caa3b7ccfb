/- Arguments as values of any type: what such a value holds, the program's bytes of one, and the values of a list, walked. -/
import Derived.Test.YtinnaiofgbjicaaDoorArgE
namespace Go.Proofs.YtinnaiofgbjicaaDoor
open Go.RowKit Go.Proofs.YtinnaiofgbjicaaDoorW.PrintWords
set_option linter.unusedSimpArgs false
set_option linter.unusedVariables false
set_option maxRecDepth 1000000
/-- A value of any type holds an argument. -/
inductive AnyR (w : World) (x : V8) : Value → Prop
  | int (h : x.kind = 0) : AnyR w x (.iface 3 (.int .i64 x.n))
  | str (h : x.kind = 1) : AnyR w x (.iface 9 (.string x.s))
  | rect (h : x.kind = 2) : AnyR w x (.iface 26 ((.agg #[.int .i64 (x.x0), .int .i64 (x.y0), .int .i64 (x.x1), .int .i64 (x.y1)])))
  | byt (h : x.kind = 3) (A : Option Addr) (m : Nat) (hm : x.b.length ≤ m) (hr : ReadsInt w .u8 A x.b.length x.b) : AnyR w x (.iface 22 (.slice A x.b.length m))
  | oth (h : ¬ x.kind = 0 ∧ ¬ x.kind = 1 ∧ ¬ x.kind = 2 ∧ ¬ x.kind = 3) : AnyR w x (.iface 4 (.bool true))
theorem AnyR.below {w w1 : World} {x : V8} {v : Value} (h : AnyR w x v) (hb : Below w.heap.size w w1) : AnyR w1 x v := by
  cases h with
  | int h => exact .int h
  | str h => exact .str h
  | rect h => exact .rect h
  | byt h A m hm hr => exact .byt h A m hm (hr.below hb)
  | oth h => exact .oth h
theorem AnyR.one {w : World} {x : V8} {v : Value} (h : AnyR w x v) : v.oneCell' = true := by cases h <;> rfl
theorem args_put (k : Int) (x : V8) (ok : x.Ok) (v : Value) (w : World) (h : AnyR w x v) : Calls Tryd.prog 90 #[.int .u8 k, v] w (PutPost w k x) := by
  cases h with
  | int h =>
    have hP : putOk k x = fitI k x.n := by unfold putOk; rw [Bool.eq_iff_iff]; simp [h]
    have hB : putB x = b4 x.n := by unfold putB; rw [if_pos h]
    refine (put_int k x.n w ok.n).mono fun e w' ⟨he, hw⟩ => ?_
    subst hw
    refine ⟨_, _, _, by rw [he, hP], fun _ => ⟨by rw [hB]; rfl, Nat.le_refl _, ?_⟩, by (repeat (first | (with_reducible exact Below.refl _ _) | ((with_reducible refine Below.alloc ?_ ?hB _); (case hB => (first | omega | (simp; done) | (simp; omega)))) | ((with_reducible refine Below.setCell ?_ ?hB _); (case hB => (first | omega | (simp; done) | (simp; omega)))) | (with_reducible refine Below.drew ?_) | ((with_reducible refine below_ext_of ?_ ?hB); (case hB => (first | omega | (simp; done) | (simp; omega)))) | ((with_reducible refine Below.trans ?_ (Below.mono (by assumption) ?hB)); (case hB => (first | omega | (simp; done) | (simp; omega))))))⟩
    rw [hB]; exact reads_lit w (b4 x.n) (by simp [b4])
  | str h =>
    have hP : putOk k x = fitS k x.s := by unfold putOk; rw [Bool.eq_iff_iff]; simp [h]
    have hB : putB x = strB x.s := by unfold putB; rw [if_neg (by omega), if_pos h]
    refine (put_str k x.s w ok.s).mono fun e w' ⟨v, he, ho, hb⟩ => ?_
    obtain ⟨A, c, rfl, hr⟩ := own_reads ho
    exact ⟨A, _, c, by rw [he, hP], fun _ => ⟨by rw [hB], own_le ho, by rw [hB]; exact hr⟩, hb⟩
  | rect h =>
    have hP : putOk k x = fitR k x.x0 x.y0 x.x1 x.y1 := by unfold putOk; rw [Bool.eq_iff_iff]; simp [h]
    have hB : putB x = rectB x.x0 x.y0 x.x1 x.y1 := by unfold putB; rw [if_neg (by omega), if_neg (by omega), if_pos h]
    refine (put_rect k x.x0 x.y0 x.x1 x.y1 w ok.x0 ok.y0 ok.x1 ok.y1).mono fun e w' ⟨v, he, ho, hb⟩ => ?_
    obtain ⟨A, c, rfl, hr⟩ := own_reads ho
    exact ⟨A, _, c, by rw [he, hP], fun _ => ⟨by rw [hB], own_le ho, by rw [hB]; exact hr⟩, hb⟩
  | byt h A m hm hr =>
    have hP : putOk k x = fitB k x.b.length := by unfold putOk; rw [Bool.eq_iff_iff]; simp [h]
    have hB : putB x = x.b := by unfold putB; rw [if_neg (by omega), if_neg (by omega), if_neg (by omega)]
    refine (put_byt k A x.b.length m w).mono fun e w' ⟨he, hw⟩ => ?_
    subst hw
    exact ⟨A, _, m, by rw [he, hP], fun _ => ⟨by rw [hB], hm, by rw [hB]; exact hr⟩, Below.refl _ _⟩
  | oth h =>
    obtain ⟨h0, h1, h2, h3⟩ := h
    have hP : putOk k x = false := by unfold putOk; rw [decide_eq_false_iff_not]; simp [h0, h1, h2, h3]
    refine (put_oth k w).mono fun e w' ⟨he, hw⟩ => ?_
    subst hw; subst he
    exact PutPost.no hP (Below.refl _ _)
def IsAny (w : World) (x : V8) (w2 : World) (e : Ending) (w' : World) : Prop := ∃ v, e = .returned v ∧ AnyR w x v ∧ w2 = w'
end Go.Proofs.YtinnaiofgbjicaaDoor
