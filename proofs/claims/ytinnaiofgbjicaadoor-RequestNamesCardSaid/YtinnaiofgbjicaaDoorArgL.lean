/- What is told of a value of any type; a copy of bytes: walked. -/
import Derived.Test.YtinnaiofgbjicaaDoorArgH
namespace Go.Proofs.YtinnaiofgbjicaaDoor
open Go.RowKit Go.Proofs.YtinnaiofgbjicaaDoorW.PrintWords
set_option linter.unusedSimpArgs false
set_option linter.unusedVariables false
set_option maxRecDepth 1000000
theorem own_empty (W : World) (base : Nat) (h : base ≤ W.heap.size) : (W.alloc (.cells #[] 5)).ownsRow base 5 1 (.slice (some ⟨W.heap.size, 0, none⟩) 0 0) ([] : List Int).length (nums .u8 []) := by
  have := own_lit W base 5 .u8 [] h (by simp)
  simpa [nums] using this
def CloneP (w : World) (xs : List Int) (e : Ending) (w' : World) : Prop := ∃ v, e = .returned v ∧ w'.ownsRow w.heap.size 5 1 v xs.length (nums .u8 xs) ∧ Below w.heap.size w w'
theorem sl_Clone (A : Option Addr) (n c : Nat) (xs : List Int) (w : World) (hn : n ≤ 100000000) (hr : ReadsInt w .u8 A n xs) : Calls Tryd.prog 104 #[.slice A n c] w (CloneP w xs) := by
  cases A with
  | none =>
    have hx : xs = [] := by
      rcases Nat.eq_zero_or_pos n with h | h
      · subst h; exact List.eq_nil_of_length_eq_zero hr.1
      · obtain ⟨ad, h1, _⟩ := hr.2.2 h; cases h1
    subst hx
    have he : ∀ w, (binOp .eql 22 (.slice none n c) (.slice none 0 0)).run Tryd.prog w = .ok (.bool true) w := fun w => by kernel_rfl
    go_enter Tryd.func104, Tryd.ntmps104
    go_wp2
    go_ret
    exact ⟨_, rfl, own_nilB _ _, Below.refl _ _⟩
  | some ad =>
    have he : ∀ w, (binOp .eql 22 (.slice (some ad) n c) (.slice none 0 0)).run Tryd.prog w = .ok (.bool false) w := fun w => by kernel_rfl
    have hxl := hr.1
    have HX := Lib.hid hxl
    have HR := Lib.hid hr
    clear hxl hr
    go_enter Tryd.func104, Tryd.ntmps104
    go_wp2_with (first | (at_builtin; refine print_append_row (w0 := w) (w.heap.size) rfl _ _ 22 5 .u8 1 rfl Tryd.underlying22 info_u8 (by decide) _ ([]) (xs) _ _ _ rfl rfl (pw_own_below (own_empty w w.heap.size (Nat.le_refl _)) ?_) (ReadsInt.below HR.out ?_) ?_ ?_ ?_ ?_; (focus ((repeat (first | (with_reducible exact Below.refl _ _) | ((with_reducible refine Below.alloc ?_ ?hB _); (case hB => (first | omega | (simp; done) | (simp; omega)))) | ((with_reducible refine Below.setCell ?_ ?hB _); (case hB => (first | omega | (simp; done) | (simp; omega)))) | (with_reducible refine Below.drew ?_) | ((with_reducible refine below_ext_of ?_ ?hB); (case hB => (first | omega | (simp; done) | (simp; omega)))) | ((with_reducible refine Below.trans ?_ (Below.mono (by assumption) ?hB)); (case hB => (first | omega | (simp; done) | (simp; omega)))))); done)); (focus ((repeat (first | (with_reducible exact Below.refl _ _) | ((with_reducible refine Below.alloc ?_ ?hB _); (case hB => (first | omega | (simp; done) | (simp; omega)))) | ((with_reducible refine Below.setCell ?_ ?hB _); (case hB => (first | omega | (simp; done) | (simp; omega)))) | (with_reducible refine Below.drew ?_) | ((with_reducible refine below_ext_of ?_ ?hB); (case hB => (first | omega | (simp; done) | (simp; omega)))) | ((with_reducible refine Below.trans ?_ (Below.mono (by assumption) ?hB)); (case hB => (first | omega | (simp; done) | (simp; omega)))))); done)); (focus ((repeat (first | (with_reducible exact Below.refl _ _) | ((with_reducible refine Below.alloc ?_ ?hB _); (case hB => (first | omega | (simp; done) | (simp; omega)))) | ((with_reducible refine Below.setCell ?_ ?hB _); (case hB => (first | omega | (simp; done) | (simp; omega)))) | (with_reducible refine Below.drew ?_) | ((with_reducible refine below_ext_of ?_ ?hB); (case hB => (first | omega | (simp; done) | (simp; omega)))) | ((with_reducible refine Below.trans ?_ (Below.mono (by assumption) ?hB)); (case hB => (first | omega | (simp; done) | (simp; omega)))))); done)); (focus ((first | omega | (simp; done) | (simp; omega)); done)); (focus ((try simp only [List.length_append, List.length_cons, List.length_nil]); omega)); intro v2 w2 hown2 hb2 _ _; have hz2 := hb2.size; (try simp only [World.size_alloc, World.size_setCell, World.size_drew] at hz2); obtain ⟨hc2, hf2⟩ := bcellB hb2))
    go_ret
    exact ⟨_, rfl, hown2, hb2⟩
def isK (x : V8) (k : Int) : Bool := decide (x.kind = k)
def anyInt (x : V8) : Int := if x.kind = 0 then x.n else 0
def anyStr (x : V8) : ByteArray := if x.kind = 1 then x.s else ⟨#[]⟩
def anyB (x : V8) : List Int := if x.kind = 3 then x.b else []
theorem isK_yes {x : V8} {k : Int} (h : x.kind = k) : isK x k = true := decide_eq_true h
theorem isK_no {x : V8} {k : Int} (h : ¬ x.kind = k) : isK x k = false := decide_eq_false h
theorem args_Int (x : V8) (v : Value) (w : World) (h : AnyR w x v) : Calls Tryd.prog 53 #[v] w fun e w' => e = .returned (.tuple #[.int .i64 (anyInt x), .bool (isK x 0)]) ∧ w = w' := by
  cases h with
  | int h =>
    have H := Lib.hid (show anyInt x = x.n ∧ isK x 0 = true from ⟨by unfold anyInt; rw [if_pos h], isK_yes h⟩)
    go_enter Tryd.func53, Tryd.ntmps53
    go_wp2
    go_ret2
    exact ⟨by rw [H.out.1, H.out.2]; rfl, rfl⟩
  | str h =>
    have H := Lib.hid (show anyInt x = 0 ∧ isK x 0 = false from ⟨by unfold anyInt; rw [if_neg (by omega)], isK_no (by omega)⟩)
    go_enter Tryd.func53, Tryd.ntmps53
    go_wp2
    go_ret2
    exact ⟨by rw [H.out.1, H.out.2]; rfl, rfl⟩
  | rect h =>
    have H := Lib.hid (show anyInt x = 0 ∧ isK x 0 = false from ⟨by unfold anyInt; rw [if_neg (by omega)], isK_no (by omega)⟩)
    go_enter Tryd.func53, Tryd.ntmps53
    go_wp2
    go_ret2
    exact ⟨by rw [H.out.1, H.out.2]; rfl, rfl⟩
  | byt h A m hm hr =>
    have H := Lib.hid (show anyInt x = 0 ∧ isK x 0 = false from ⟨by unfold anyInt; rw [if_neg (by omega)], isK_no (by omega)⟩)
    clear hr
    go_enter Tryd.func53, Tryd.ntmps53
    go_wp2
    go_ret2
    exact ⟨by rw [H.out.1, H.out.2]; rfl, rfl⟩
  | oth h =>
    have H := Lib.hid (show anyInt x = 0 ∧ isK x 0 = false from ⟨by unfold anyInt; rw [if_neg (by omega)], isK_no (by omega)⟩)
    clear h
    go_enter Tryd.func53, Tryd.ntmps53
    go_wp2
    go_ret2
    exact ⟨by rw [H.out.1, H.out.2]; rfl, rfl⟩
def anyX (x : V8) (n : Int) : Int := if x.kind = 2 then n else 0
theorem anyX_yes {x : V8} (h : x.kind = 2) (n : Int) : anyX x n = n := by unfold anyX; rw [if_pos h]
theorem anyX_no {x : V8} (h : ¬ x.kind = 2) (n : Int) : anyX x n = 0 := by unfold anyX; rw [if_neg h]
def RectP (w : World) (x : V8) (e : Ending) (w' : World) : Prop := e = .returned (.tuple #[(.agg #[.int .i64 (anyX x x.x0), .int .i64 (anyX x x.y0), .int .i64 (anyX x x.x1), .int .i64 (anyX x x.y1)]), .bool (isK x 2)]) ∧ Below w.heap.size w w'
def BytesP (w : World) (x : V8) (e : Ending) (w' : World) : Prop := ∃ v, e = .returned (.tuple #[v, .bool (isK x 3)]) ∧ w'.ownsRow w.heap.size 5 1 v (anyB x).length (nums .u8 (anyB x)) ∧ Below w.heap.size w w'
end Go.Proofs.YtinnaiofgbjicaaDoor
