/- The bytes of a rectangle among arguments, walked: the program's and the document's. -/
import Derived.Test.YtinnaiofgbjicaaDoorArgB
namespace Go.Proofs.YtinnaiofgbjicaaDoor
open Go.RowKit Go.Proofs.YtinnaiofgbjicaaDoorW.PrintWords
set_option linter.unusedSimpArgs false
set_option linter.unusedVariables false
set_option maxRecDepth 1000000
def smI (n : Int) : Prop := -2147483648 ≤ n ∧ n < 2147483648
instance (n : Int) : Decidable (smI n) := by unfold smI; infer_instance
def fitR (k a b c d : Int) : Bool := decide (k = 114 ∧ smI a ∧ smI b ∧ smI c ∧ smI d)
def rectB (a b c d : Int) : List Int := b4 a ++ b4 b ++ b4 c ++ b4 d
theorem b4_len (n : Int) : (b4 n).length = 4 := rfl
theorem fit105 (n : Int) : fitI 105 n = decide (smI n) := by
  unfold fitI; exact decide_eq_decide.2 (by unfold smI; omega)
theorem own_nilB (W : World) (base : Nat) : W.ownsRow base 5 1 (.slice none 0 0) ([] : List Int).length (nums .u8 []) := own_nil W base _ 1
theorem reads_lit (W : World) (xs : List Int) (hm : xs.length ≤ 9223372036854775807) : ReadsInt (W.alloc (.cells (nums .u8 xs).toArray 5)) .u8 (some ⟨W.heap.size, 0, none⟩) xs.length xs := by
  obtain ⟨A, c, e, h⟩ := own_reads (own_lit W W.heap.size 5 .u8 xs (Nat.le_refl _) hm)
  injection e with e1 e2 e3
  rw [e1]; exact h
section
variable {ops : Array Oper} {rest : List Oper} {o : Oper} {a : Act} {Q : Exit → Act → World → Prop}
/-- Bytes of a block that was just made, appended to a row of the call's own. -/
theorem append_lit {w0 W : World} (base : Nat) (hgd : o.guard = none) {s x : Operand}
    (ho : o.op = .call { callee := .builtin .append, args := #[s, x], argTypes := #[22, 22] })
    (v : Value) (xs ys : List Int) (hs : a.eval s = v) (hx : a.eval x = .slice (some ⟨W.heap.size, 0, none⟩) ys.length ys.length)
    (HO : W.ownsRow base 5 1 v xs.length (nums .u8 xs)) (HB : Below base w0 W) (hbase : base ≤ W.heap.size) (hl : xs.length + ys.length ≤ 140737488355328)
    (h : ∀ v1 w1, w1.ownsRow base 5 1 v1 (xs ++ ys).length (nums .u8 (xs ++ ys)) → Below base w0 w1 → wpList Tryd.prog ops Q rest (a.put o.dst v1) w1) :
    wpList Tryd.prog ops Q (o :: rest) a (W.alloc (.cells (nums .u8 ys).toArray 5)) := by
  refine print_append_row (w0 := w0) base hgd s x 22 5 .u8 1 ho Tryd.underlying22 info_u8 (by decide) v xs ys _ _ _ hs hx (pw_own_below HO (Below.alloc (Below.refl _ _) (Nat.le_refl _) _)) (reads_lit W ys (by omega)) (HB.alloc hbase _) (by simp; omega) (by omega) ?_
  intro v1 w1 h1 h2 _ _
  exact h v1 w1 h1 h2
end
theorem putI (n : Int) (v : Bool) (hn : -9223372036854775808 ≤ n ∧ n ≤ 9223372036854775807) (h : decide (smI n) = v) (w : World) : Calls Tryd.prog 90 #[.int .u8 105, (.iface 3 (.int .i64 n))] w fun e w' => e = .returned (.tuple #[.slice (some ⟨w.heap.size, 0, none⟩) 4 4, .bool v]) ∧ w.alloc (.cells (nums .u8 (b4 n)).toArray 5) = w' := by
  have := put_int 105 n w hn
  rw [fit105, h] at this; exact this
theorem put_rect (k a b c d : Int) (w : World) (ha : -9223372036854775808 ≤ a ∧ a ≤ 9223372036854775807) (hb : -9223372036854775808 ≤ b ∧ b ≤ 9223372036854775807) (hc : -9223372036854775808 ≤ c ∧ c ≤ 9223372036854775807) (hd : -9223372036854775808 ≤ d ∧ d ≤ 9223372036854775807) : Calls Tryd.prog 90 #[.int .u8 k, (.iface 26 ((.agg #[.int .i64 (a), .int .i64 (b), .int .i64 (c), .int .i64 (d)])))] w fun e w' => ∃ v, e = .returned (.tuple #[v, .bool (fitR k a b c d)]) ∧ w'.ownsRow w.heap.size 5 1 v (rectB a b c d).length (nums .u8 (rectB a b c d)) ∧ Below w.heap.size w w' := by
  have i0 : ∀ w, (Instr.index 140 (.agg #[.int .i64 (a), .int .i64 (b), .int .i64 (c), .int .i64 (d)]) (.int .i64 0)).run Tryd.prog w = .ok (.int .i64 a) w := fun _ => by kernel_rfl
  have i1 : ∀ w, (Instr.index 140 (.agg #[.int .i64 (a), .int .i64 (b), .int .i64 (c), .int .i64 (d)]) (.int .i64 1)).run Tryd.prog w = .ok (.int .i64 b) w := fun _ => by kernel_rfl
  have i2 : ∀ w, (Instr.index 140 (.agg #[.int .i64 (a), .int .i64 (b), .int .i64 (c), .int .i64 (d)]) (.int .i64 2)).run Tryd.prog w = .ok (.int .i64 c) w := fun _ => by kernel_rfl
  have i3 : ∀ w, (Instr.index 140 (.agg #[.int .i64 (a), .int .i64 (b), .int .i64 (c), .int .i64 (d)]) (.int .i64 3)).run Tryd.prog w = .ok (.int .i64 d) w := fun _ => by kernel_rfl
  have p0 := fun w => putI a _ ha rfl w
  have p1 := fun w => putI b _ hb rfl w
  have p2 := fun w => putI c _ hc rfl w
  have p3 := fun w => putI d _ hd rfl w
  have H := Lib.hid (show fitR k a b c d = (decide (k = 114) && decide (smI a) && decide (smI b) && decide (smI c) && decide (smI d)) from by
    unfold fitR; rw [Bool.eq_iff_iff]; simp; simp only [and_assoc])
  generalize decide (smI a) = va at *
  generalize decide (smI b) = vb at *
  generalize decide (smI c) = vc at *
  generalize decide (smI d) = vd at *
  go_enter Tryd.func90, Tryd.ntmps90
  go_wp2
  refine wp_loop_rounds 5 ?_
  rw [rounds_succ]
  go_wp2_with (first | (go_at_call 90; (with_reducible refine (p0 _).mono ?_); rintro e w1 ⟨rfl, rfl⟩) | (at_builtin; refine append_lit (w0 := w) (w.heap.size) rfl rfl _ ([]) (b4 a) rfl ?_ (pw_own_below (own_nilB w w.heap.size) ?_) ?_ ?_ ?_ ?_; (focus (first | (go_simp; done) | (go_simp; rfl))); (focus ((repeat (first | (with_reducible exact Below.refl _ _) | ((with_reducible refine Below.alloc ?_ ?hB _); (case hB => (first | omega | (simp; done) | (simp; omega)))) | ((with_reducible refine Below.setCell ?_ ?hB _); (case hB => (first | omega | (simp; done) | (simp; omega)))) | (with_reducible refine Below.drew ?_) | ((with_reducible refine below_ext_of ?_ ?hB); (case hB => (first | omega | (simp; done) | (simp; omega)))) | ((with_reducible refine Below.trans ?_ (Below.mono (by assumption) ?hB)); (case hB => (first | omega | (simp; done) | (simp; omega)))))); done)); (focus ((repeat (first | (with_reducible exact Below.refl _ _) | ((with_reducible refine Below.alloc ?_ ?hB _); (case hB => (first | omega | (simp; done) | (simp; omega)))) | ((with_reducible refine Below.setCell ?_ ?hB _); (case hB => (first | omega | (simp; done) | (simp; omega)))) | (with_reducible refine Below.drew ?_) | ((with_reducible refine below_ext_of ?_ ?hB); (case hB => (first | omega | (simp; done) | (simp; omega)))) | ((with_reducible refine Below.trans ?_ (Below.mono (by assumption) ?hB)); (case hB => (first | omega | (simp; done) | (simp; omega)))))); done)); (focus ((first | omega | (simp; done) | (simp; omega)); done)); (focus ((simp only [List.length_append, List.length_cons, List.length_nil, b4]); omega)); intro v2 w2 hown2 hb2; have hz2 := hb2.size; (try simp only [World.size_alloc, World.size_setCell, World.size_drew] at hz2); obtain ⟨hc2, hf2⟩ := bcellB hb2))
  all_goals
    rw [rounds_succ]
    go_wp2_with (first | (go_at_call 90; (with_reducible refine (p1 _).mono ?_); rintro e w1 ⟨rfl, rfl⟩) | (at_builtin; refine append_lit (w0 := w) (w.heap.size) rfl rfl _ ([] ++ b4 a) (b4 b) rfl ?_ (pw_own_below hown2 ?_) ?_ ?_ ?_ ?_; (focus (first | (go_simp; done) | (go_simp; rfl))); (focus ((repeat (first | (with_reducible exact Below.refl _ _) | ((with_reducible refine Below.alloc ?_ ?hB _); (case hB => (first | omega | (simp; done) | (simp; omega)))) | ((with_reducible refine Below.setCell ?_ ?hB _); (case hB => (first | omega | (simp; done) | (simp; omega)))) | (with_reducible refine Below.drew ?_) | ((with_reducible refine below_ext_of ?_ ?hB); (case hB => (first | omega | (simp; done) | (simp; omega)))) | ((with_reducible refine Below.trans ?_ (Below.mono (by assumption) ?hB)); (case hB => (first | omega | (simp; done) | (simp; omega)))))); done)); (focus ((repeat (first | (with_reducible exact Below.refl _ _) | ((with_reducible refine Below.alloc ?_ ?hB _); (case hB => (first | omega | (simp; done) | (simp; omega)))) | ((with_reducible refine Below.setCell ?_ ?hB _); (case hB => (first | omega | (simp; done) | (simp; omega)))) | (with_reducible refine Below.drew ?_) | ((with_reducible refine below_ext_of ?_ ?hB); (case hB => (first | omega | (simp; done) | (simp; omega)))) | ((with_reducible refine Below.trans ?_ (Below.mono (by assumption) ?hB)); (case hB => (first | omega | (simp; done) | (simp; omega)))))); done)); (focus ((first | omega | (simp; done) | (simp; omega)); done)); (focus ((simp only [List.length_append, List.length_cons, List.length_nil, b4]); omega)); intro v3 w3 hown3 hb3; have hz3 := hb3.size; (try simp only [World.size_alloc, World.size_setCell, World.size_drew] at hz3); obtain ⟨hc3, hf3⟩ := bcellB hb3))
  all_goals
    rw [rounds_succ]
    go_wp2_with (first | (go_at_call 90; (with_reducible refine (p2 _).mono ?_); rintro e w1 ⟨rfl, rfl⟩) | (at_builtin; refine append_lit (w0 := w) (w.heap.size) rfl rfl _ ([] ++ b4 a ++ b4 b) (b4 c) rfl ?_ (pw_own_below hown3 ?_) ?_ ?_ ?_ ?_; (focus (first | (go_simp; done) | (go_simp; rfl))); (focus ((repeat (first | (with_reducible exact Below.refl _ _) | ((with_reducible refine Below.alloc ?_ ?hB _); (case hB => (first | omega | (simp; done) | (simp; omega)))) | ((with_reducible refine Below.setCell ?_ ?hB _); (case hB => (first | omega | (simp; done) | (simp; omega)))) | (with_reducible refine Below.drew ?_) | ((with_reducible refine below_ext_of ?_ ?hB); (case hB => (first | omega | (simp; done) | (simp; omega)))) | ((with_reducible refine Below.trans ?_ (Below.mono (by assumption) ?hB)); (case hB => (first | omega | (simp; done) | (simp; omega)))))); done)); (focus ((repeat (first | (with_reducible exact Below.refl _ _) | ((with_reducible refine Below.alloc ?_ ?hB _); (case hB => (first | omega | (simp; done) | (simp; omega)))) | ((with_reducible refine Below.setCell ?_ ?hB _); (case hB => (first | omega | (simp; done) | (simp; omega)))) | (with_reducible refine Below.drew ?_) | ((with_reducible refine below_ext_of ?_ ?hB); (case hB => (first | omega | (simp; done) | (simp; omega)))) | ((with_reducible refine Below.trans ?_ (Below.mono (by assumption) ?hB)); (case hB => (first | omega | (simp; done) | (simp; omega)))))); done)); (focus ((first | omega | (simp; done) | (simp; omega)); done)); (focus ((simp only [List.length_append, List.length_cons, List.length_nil, b4]); omega)); intro v4 w4 hown4 hb4; have hz4 := hb4.size; (try simp only [World.size_alloc, World.size_setCell, World.size_drew] at hz4); obtain ⟨hc4, hf4⟩ := bcellB hb4))
  all_goals
    rw [rounds_succ]
    go_wp2_with (first | (go_at_call 90; (with_reducible refine (p3 _).mono ?_); rintro e w1 ⟨rfl, rfl⟩) | (at_builtin; refine append_lit (w0 := w) (w.heap.size) rfl rfl _ ([] ++ b4 a ++ b4 b ++ b4 c) (b4 d) rfl ?_ (pw_own_below hown4 ?_) ?_ ?_ ?_ ?_; (focus (first | (go_simp; done) | (go_simp; rfl))); (focus ((repeat (first | (with_reducible exact Below.refl _ _) | ((with_reducible refine Below.alloc ?_ ?hB _); (case hB => (first | omega | (simp; done) | (simp; omega)))) | ((with_reducible refine Below.setCell ?_ ?hB _); (case hB => (first | omega | (simp; done) | (simp; omega)))) | (with_reducible refine Below.drew ?_) | ((with_reducible refine below_ext_of ?_ ?hB); (case hB => (first | omega | (simp; done) | (simp; omega)))) | ((with_reducible refine Below.trans ?_ (Below.mono (by assumption) ?hB)); (case hB => (first | omega | (simp; done) | (simp; omega)))))); done)); (focus ((repeat (first | (with_reducible exact Below.refl _ _) | ((with_reducible refine Below.alloc ?_ ?hB _); (case hB => (first | omega | (simp; done) | (simp; omega)))) | ((with_reducible refine Below.setCell ?_ ?hB _); (case hB => (first | omega | (simp; done) | (simp; omega)))) | (with_reducible refine Below.drew ?_) | ((with_reducible refine below_ext_of ?_ ?hB); (case hB => (first | omega | (simp; done) | (simp; omega)))) | ((with_reducible refine Below.trans ?_ (Below.mono (by assumption) ?hB)); (case hB => (first | omega | (simp; done) | (simp; omega)))))); done)); (focus ((first | omega | (simp; done) | (simp; omega)); done)); (focus ((simp only [List.length_append, List.length_cons, List.length_nil, b4]); omega)); intro v5 w5 hown5 hb5; have hz5 := hb5.size; (try simp only [World.size_alloc, World.size_setCell, World.size_drew] at hz5); obtain ⟨hc5, hf5⟩ := bcellB hb5))
  all_goals
    rw [rounds_succ]
    go_wp2_with fail
    go_ret2
    refine ⟨v5, ret2b ?_, hown5, hb5⟩
    rw [H.out]
    first | rfl | (simp [*]; done)
end Go.Proofs.YtinnaiofgbjicaaDoor
