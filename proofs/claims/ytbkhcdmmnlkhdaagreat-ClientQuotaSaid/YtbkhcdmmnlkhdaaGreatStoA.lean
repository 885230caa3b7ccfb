/- A value of several cells, stored into a variable of its own. -/
import Derived.Test.YtbkhcdmmnlkhdaaGreatKeep
import Derived.Shelf.SlicesQ.Load
namespace Go.Proofs.YtbkhcdmmnlkhdaaGreat
open Go.RowKit Go.Proofs.YtbkhcdmmnlkhdaaGreatW.PrintWords
set_option linter.unusedSimpArgs false
set_option linter.unusedVariables false
theorem wpList_store_all {P : Program} {ops : Array Oper} {rest : List Oper} {o : Oper} {a : Act} {Q : Exit → Act → World → Prop} {w : World} (hgd : o.guard = none) {ty : TypeId} {p x : Operand} (ho : o.op = .store ty p x) (g : Nat) (t : TypeId) (cur : Array Value) (vs : List Value)
    (hp : a.eval p = .pointer (some ⟨g, 0, none⟩)) (hx : a.eval x = .agg vs.toArray) (hsz : ∀ w, (Go.sizeOf ty).run P w = .ok vs.length w) (hg : w.heap[g]? = some (.cells cur t (0, 0))) (hl : cur.size = vs.length) (h1 : ∀ v ∈ vs, v.oneCell' = true)
    (h : ∀ w1, w1.heap[g]? = some (.cells vs.toArray t (0, 0)) → w.grownBy w1 (some g) → w1.heap.size = w.heap.size → wpList P ops Q rest (a.put o.dst undef) w1) : wpList P ops Q (o :: rest) a w := by
  refine wpList_plain hgd fun K hK => ?_
  have hst := run_storeCells_at P g 0 t vs 0 cur w hg (by omega) h1
  unfold Oper.wp execOp
  simp only [ho, hp, hx]
  simp only [Nat.zero_add, Nat.add_zero, List.take_zero, List.nil_append] at hst
  rw [List.drop_of_length_le (by rw [Array.length_toList]; omega), List.append_nil] at hst
  simp [go_sem, hsz, hst]
  have hh := setRow_heap w g cur vs.toArray t (0, 0) hg
  exact hK _ _ (h _ hh ⟨rfl, rfl, rfl, by simp, fun k hk hne => setRow_other w g k _ (fun e => hne (by rw [e]))⟩ (by simp))
theorem fold_set (l : List Value) : ∀ (n : Nat) (A : Array Value), n + l.length ≤ A.size → ((l.zipIdx n).foldl (fun cs p => cs.setIfInBounds (0 + p.2) p.1) A).toList = A.toList.take n ++ l ++ A.toList.drop (n + l.length) := by
  induction l with
  | nil => intro n A h; simp
  | cons c l ih =>
    intro n A h
    simp only [List.zipIdx_cons, List.foldl_cons]
    rw [ih (n + 1) _ (by simp at h ⊢; omega)]
    simp only [Nat.zero_add, Array.toList_setIfInBounds]
    have e := list_seg_step A.toList n c l (by simp at h ⊢; omega)
    simpa [Nat.add_assoc, Nat.add_comm 1] using e
theorem fill_one (vs : List Value) (A : Array Value) (hA : A.size = vs.length) : Instr.fill (fun i => some (i * vs.length, vs.length)) A [(0, .agg vs.toArray)] = some vs.toArray := by
  have hc : (Value.agg vs.toArray).cells = vs.toArray := rfl
  simp only [Instr.fill, hc, Nat.zero_mul]
  rw [if_neg (by simp [hA])]
  congr 1
  apply Array.ext'
  have h := fold_set vs 0 A (by omega)
  rw [List.take_zero, List.nil_append, List.drop_of_length_le (by rw [Array.length_toList]; omega), List.append_nil] at h
  refine Eq.trans ?_ h
  congr 1
  rw [← Array.foldl_toList]
  simp
theorem wpList_buildSlice1 {P : Program} {ops : Array Oper} {rest : List Oper} {o : Oper} {a : Act} {Q : Exit → Act → World → Prop} {w : World} (hgd : o.guard = none) {t e : TypeId} {x : Operand} (ho : o.op = .buildSlice t 1 #[(0, x)]) (ht : P.underlying t = some (.slice e)) (vs : List Value)
    (hx : a.eval x = .agg vs.toArray) (hsz : ∀ w, (Go.sizeOf e).run P w = .ok vs.length w) (z : Value) (hz : ∀ w, (zeroValue e).run P w = .ok z w) (h0 : 0 < vs.length) (hl : vs.length ≤ 1000)
    (h : wpList P ops Q rest (a.put o.dst (.slice (some ⟨w.heap.size, 0, none⟩) 1 1)) (w.alloc (.cells vs.toArray e))) : wpList P ops Q (o :: rest) a w := by
  refine wpList_plain hgd fun K hK => ?_
  have hf := fun A hA => fill_one vs A hA
  have hrun : (Instr.buildSlice t 1 #[(0, .agg vs.toArray)]).run P w = .ok (.slice (some ⟨w.heap.size, 0, none⟩) 1 1) (w.alloc (.cells vs.toArray e)) := by
    unfold Instr.buildSlice
    simp only [Sem.run_bind, run_underlying ht, Result.andThen_ok, hsz]
    rw [if_neg (by omega)]
    simp only [Sem.run_bind, Sem.run_pure, Result.andThen_ok, Nat.one_mul, if_neg (show ¬ vs.length = 0 by omega), hz]
    rw [hf _ (by simp)]
    simp [go_sem, newRow]
  unfold Oper.wp execOp
  simp only [ho]
  have hm : Array.map (fun y : Nat × Operand => (y.1, a.eval y.2)) #[(0, x)] = #[(0, .agg vs.toArray)] := by simp [hx]
  rw [hm]
  simp only [Sem.run_bind, hrun, Result.andThen_ok, Sem.run_pure]
  exact hK _ _ h
theorem wpList_load_all {P : Program} {ops : Array Oper} {rest : List Oper} {o : Oper} {a : Act} {Q : Exit → Act → World → Prop} {w : World} (hgd : o.guard = none) {ty : TypeId} {p : Operand} (ho : o.op = .load ty p) (g : Nat) (t : TypeId) (vs : List Value) (hp : a.eval p = .pointer (some ⟨g, 0, none⟩))
    (hag : ∀ w, (isAgg ty).run P w = .ok true w) (hsz : ∀ w, (Go.sizeOf ty).run P w = .ok vs.length w) (hg : w.heap[g]? = some (.cells vs.toArray t (0, 0)))
    (h : wpList P ops Q rest (a.put o.dst (.agg vs.toArray)) w) : wpList P ops Q (o :: rest) a w := by
  refine wpList_plain hgd fun K hK => ?_
  have hl := run_loadCellsFrom_list P w ⟨g, 0, none⟩ vs vs.length rfl (fun i v hi => by
    have e : ((⟨g, 0, none⟩ : Addr).add i) = ⟨g, i, none⟩ := by unfold Addr.add; split <;> simp_all
    rw [e]
    exact (blk_cell hg i).trans (by simpa using hi))
  unfold Oper.wp execOp
  simp only [ho, hp]
  simp [go_sem, hag, hsz, loadCells, hl]
  exact hK _ _ h
end Go.Proofs.YtbkhcdmmnlkhdaaGreat
