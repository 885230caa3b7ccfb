/- Regions: a row of one's own out of another one, without its empty rectangles; regions of rectangles, of both, of what both have, walked. -/
import Derived.Test.YtbkhcdmmnlkhdaaGreatRegF
namespace Go.Proofs.YtbkhcdmmnlkhdaaGreat
open Go.RowKit Go.Proofs.YtbkhcdmmnlkhdaaGreatW.PrintWords
set_option linter.unusedSimpArgs false
set_option linter.unusedVariables false
set_option maxRecDepth 1000000
theorem own_built (w : World) (t : TypeId) (size : Nat) : (w.alloc (.cells #[] t)).ownsRow w.heap.size t size (.slice (some ⟨w.heap.size, 0, none⟩) 0 0) 0 [] :=
  ⟨by simp, .inr ⟨w.heap.size, 0, #[], rfl, Nat.le_refl _, blk_new _ _, Nat.le_refl _, Nat.zero_le _, by simp, by simp⟩⟩
theorem eqn_some (ad : Addr) (n c : Nat) (w : World) : (binOp .eql 75 (.slice (some ad) n c) (.slice none 0 0)).run Tryz.prog w = .ok (.bool false) w := by kernel_rfl
theorem eqn_none (n c : Nat) (w : World) : (binOp .eql 75 (.slice none n c) (.slice none 0 0)).run Tryz.prog w = .ok (.bool true) w := by kernel_rfl
theorem sl_Clone (A : Option Addr) (l : List R) (c : Nat) (w : World) (hl : l.length ≤ 1000000000000) (hr : RdG RE w A l c) : Calls Tryz.prog 184 #[.slice A l.length c] w (RowP RE 26 w l) := by
  cases A with
  | none =>
    obtain rfl : l = [] := List.eq_nil_of_length_eq_zero (by have := hr.le; have := hr.nil rfl; omega)
    clear hr
    have he := eqn_none 0 c
    go_enter Tryz.func184, Tryz.ntmps184
    go_wp2
    go_ret
    exact ⟨_, rfl, OwnG.nil _ _ _, Below.refl _ _⟩
  | some ad =>
    have he := eqn_some ad l.length c
    have ho : OwnG RE (w.alloc (.cells #[] 26)) w.heap.size 26 (.slice (some ⟨w.heap.size, 0, none⟩) 0 0) [] := own_built w 26 4
    replace hr := Lib.hid hr
    go_enter Tryz.func184, Tryz.ntmps184
    go_wp2_with (first
      | (at_builtin; refine appG_row (E := RE) (w0 := w) w.heap.size rfl _ _ 75 26 _ 4 32 rfl rfl Tryz.underlying75 info_rect rfl (by decide) _ [] l (some ad) c rfl rfl ho (hr.out.below ?_) ?_ ?_ ?_ ?_; (focus ((repeat (first | (with_reducible exact Below.refl _ _) | ((with_reducible refine Below.alloc ?_ ?hB _); (case hB => (first | omega | (simp; done) | (simp; omega)))) | ((with_reducible refine Below.setCell ?_ ?hB _); (case hB => (first | omega | (simp; done) | (simp; omega)))) | (with_reducible refine Below.drew ?_) | ((with_reducible refine below_ext_of ?_ ?hB); (case hB => (first | omega | (simp; done) | (simp; omega)))) | ((with_reducible refine Below.trans ?_ (Below.mono (by assumption) ?hB)); (case hB => (first | omega | (simp; done) | (simp; omega)))))); done)); (focus ((repeat (first | (with_reducible exact Below.refl _ _) | ((with_reducible refine Below.alloc ?_ ?hB _); (case hB => (first | omega | (simp; done) | (simp; omega)))) | ((with_reducible refine Below.setCell ?_ ?hB _); (case hB => (first | omega | (simp; done) | (simp; omega)))) | (with_reducible refine Below.drew ?_) | ((with_reducible refine below_ext_of ?_ ?hB); (case hB => (first | omega | (simp; done) | (simp; omega)))) | ((with_reducible refine Below.trans ?_ (Below.mono (by assumption) ?hB)); (case hB => (first | omega | (simp; done) | (simp; omega)))))); done)); (focus ((first | omega | (simp; done) | (simp; omega)); done)); (focus (simp; omega)); intro v9 w9 ho9 hb9 hg9 hat9))
    go_ret
    exact ⟨_, rfl, ho9, hb9⟩
def isE (r : R) : Bool := rEmpty r.x0 r.y0 r.x1 r.y1
def fullL (l : List R) : List R := l.filter (fun r => !isE r)
theorem pred_Empty (w : World) : PredR 185 #[] isE w := fun W x _ => rect_Empty x.x0 x.y0 x.x1 x.y1 W
theorem heg_Empty : ∀ args w, (callFunc 185 args).run Tryz.prog w = .ok (.enter 185 args) w := enters_of Tryz.func185 (by kernel_rfl) rfl
theorem zero_r (w : World) : (zeroValue 26).run Tryz.prog w = .ok (.agg #[.int .i64 (0), .int .i64 (0), .int .i64 (0), .int .i64 (0)]) w := by kernel_rfl
theorem zeroCellsR_len (n : Nat) : (Builtin.zeroCells (Value.cells (.agg #[.int .i64 (0), .int .i64 (0), .int .i64 (0), .int .i64 (0)])) n).toList.length = n * 4 := by
  simp [Builtin.zeroCells, Value.cells]
theorem zerosR_one (n : Nat) : ∀ v ∈ (Builtin.zeroCells (Value.cells (.agg #[.int .i64 (0), .int .i64 (0), .int .i64 (0), .int .i64 (0)])) n).toList, v.oneCell' = true := by
  intro v hv
  simp only [Builtin.zeroCells, Array.toList_map, List.mem_map] at hv
  obtain ⟨i, _, rfl⟩ := hv
  have : i % 4 = 0 ∨ i % 4 = 1 ∨ i % 4 = 2 ∨ i % 4 = 3 := by omega
  rcases this with h | h | h | h <;> simp [Value.cells, h, Value.oneCell']
theorem splice_at (P S cs : List Value) : (P ++ S).take P.length ++ cs ++ (P ++ S).drop (P.length + cs.length) = P ++ (cs ++ S.drop cs.length) := by
  rw [List.take_left' rfl, List.drop_append, List.drop_of_length_le (by omega), List.nil_append, Nat.add_sub_cancel_left, List.append_assoc]
theorem wpList_clear_r {ops : Array Oper} {rest : List Oper} {o : Oper} {a : Act} {Q : Exit → Act → World → Prop} {w : World} (hgd : o.guard = none) {s : Operand}
    (ho : o.op = .call { callee := .builtin .clear, args := #[s], argTypes := #[75] }) (g off N n c : Nat) (P M R : List Value) (hN : N = n + 1) (hs : a.eval s = .slice (some ⟨g, off, none⟩) N c) (hg : w.heap[g]? = some (.cells (P ++ (M ++ R)).toArray 26 (0, 0))) (hoff : P.length = off) (hM : M.length = N * 4)
    (h : ∀ w1 Z, Z.length = N * 4 → Hid (w1.heap[g]? = some (.cells (P ++ (Z ++ R)).toArray 26 (0, 0))) → w.grownBy w1 (some g) → w1.heap.size = w.heap.size → wpList Tryz.prog ops Q rest (a.put o.dst (.tuple #[])) w1) : wpList Tryz.prog ops Q (o :: rest) a w := by
  refine wpList_plain hgd fun K hK => ?_
  obtain ⟨Z, hZ⟩ : ∃ Z, (Builtin.zeroCells (Value.cells (.agg #[.int .i64 (0), .int .i64 (0), .int .i64 (0), .int .i64 (0)])) N).toList = Z := ⟨_, rfl⟩
  have hZl : Z.length = N * 4 := by rw [← hZ]; exact zeroCellsR_len N
  have hZo : ∀ v ∈ Z, v.oneCell' = true := by rw [← hZ]; exact zerosR_one N
  subst hoff
  have hst := run_storeCells_at Tryz.prog g P.length 26 Z 0 (P ++ (M ++ R)).toArray w hg (by simp; omega) hZo
  simp only [Nat.add_zero, List.toList_toArray] at hst
  rw [splice_at, List.drop_append, List.drop_of_length_le (by omega), List.nil_append, show Z.length - M.length = 0 by omega, List.drop_zero] at hst
  subst hN
  unfold Oper.wp execOp
  simp only [ho, resolve, invoke, builtin, Sem.run_bind, Sem.run_pure, Result.andThen_ok, List.map_toArray, List.map_cons, List.map_nil, hs]
  simp [Builtin.clear_, run_underlying Tryz.underlying75, zero_r, hZ, hst, Result.andThen]
  have hh := setRow_heap w g _ (P ++ (Z ++ R)).toArray _ _ hg
  exact hK _ _ (h _ Z hZl (Lib.hid (by simpa using hh)) ⟨rfl, rfl, rfl, by simp, fun k hk hne => setRow_other w g k _ (fun e => hne (by rw [e]))⟩ (by simp))
end Go.Proofs.YtbkhcdmmnlkhdaaGreat
