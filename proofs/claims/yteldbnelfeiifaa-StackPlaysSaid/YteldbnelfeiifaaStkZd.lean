/- All keys of a client, struck out of a row in place. -/
import Derived.Test.YteldbnelfeiifaaStkZc
namespace Go.Proofs.Yteldbnelfeiifaa
open Go.RowKit Go.Proofs.YteldbnelfeiifaaW.PrintWords
set_option linter.unusedSimpArgs false
set_option linter.unusedVariables false
set_option maxRecDepth 1000000
attribute [local go_sem high] eqK eqKS
theorem zeros_one (n : Nat) : ∀ v ∈ (Builtin.zeroCells (Value.cells (.agg #[.int .i64 (0), .int .i64 (0)])) n).toList, v.oneCell' = true := by
  intro v hv
  simp only [Builtin.zeroCells, Array.toList_map, List.mem_map] at hv
  obtain ⟨i, _, rfl⟩ := hv
  have : i % 2 = 0 ∨ i % 2 = 1 := by omega
  rcases this with h | h <;> simp [Value.cells, h, Value.oneCell']
theorem wpList_clear_k {ops : Array Oper} {rest : List Oper} {o : Oper} {a : Act} {Q : Exit → Act → World → Prop} {w : World} (hgd : o.guard = none) {s : Operand}
    (ho : o.op = .call { callee := .builtin .clear, args := #[s], argTypes := #[68] }) (g off N n c : Nat) (P M R : List Value) (hN : N = n + 1) (hs : a.eval s = .slice (some ⟨g, off, none⟩) N c) (hg : w.heap[g]? = some (.cells (P ++ (M ++ R)).toArray 62 (0, 0))) (hoff : P.length = off) (hM : M.length = N * 2)
    (h : ∀ w1 Z, Z.length = N * 2 → Hid (w1.heap[g]? = some (.cells (P ++ (Z ++ R)).toArray 62 (0, 0))) → w.grownBy w1 (some g) → w1.heap.size = w.heap.size → wpList Try.prog ops Q rest (a.put o.dst (.tuple #[])) w1) : wpList Try.prog ops Q (o :: rest) a w := by
  refine wpList_plain hgd fun K hK => ?_
  obtain ⟨Z, hZ⟩ : ∃ Z, (Builtin.zeroCells (Value.cells (.agg #[.int .i64 (0), .int .i64 (0)])) N).toList = Z := ⟨_, rfl⟩
  have hZl : Z.length = N * 2 := by rw [← hZ]; exact zeroCells_len N
  have hZo : ∀ v ∈ Z, v.oneCell' = true := by rw [← hZ]; exact zeros_one N
  subst hoff
  have hst := run_storeCells_at Try.prog g P.length 62 Z 0 (P ++ (M ++ R)).toArray w hg (by simp; omega) hZo
  simp only [Nat.add_zero, List.toList_toArray] at hst
  rw [splice_at, List.drop_append, List.drop_of_length_le (by omega), List.nil_append, show Z.length - M.length = 0 by omega, List.drop_zero] at hst
  subst hN
  unfold Oper.wp execOp
  simp only [ho, resolve, invoke, builtin, Sem.run_bind, Sem.run_pure, Result.andThen_ok, List.map_toArray, List.map_cons, List.map_nil, hs]
  simp [Builtin.clear_, run_underlying Try.underlying68, zero_k, hZ, hst, Result.andThen]
  have hh := setRow_heap w g _ (P ++ (Z ++ R)).toArray _ _ hg
  exact hK _ _ (h _ Z hZl (Lib.hid (by simpa using hh)) ⟨rfl, rfl, rfl, by simp, fun k hk hne => setRow_other w g k _ (fun e => hne (by rw [e]))⟩ (by simp))
/-- Below B all lies as it lay, but one block. -/
structure Upto (B : Nat) (row : Option Nat) (w w' : World) : Prop where
  os : w'.os = w.os
  tape : w'.tape = w.tape
  output : w'.output = w.output
  size : w.heap.size ≤ w'.heap.size
  block : ∀ k, k < B → some k ≠ row → w'.heap[k]? = w.heap[k]?
theorem Upto.below {B : Nat} {row : Option Nat} {w w' : World} (h : Below B w w') : Upto B row w w' := ⟨h.os, h.tape, h.output, h.size, fun k hk _ => h.block k hk⟩
theorem Upto.refl (B : Nat) (row : Option Nat) (w : World) : Upto B row w w := Upto.below (Below.refl _ _)
theorem Upto.trans {B : Nat} {row : Option Nat} {a b c : World} (h : Upto B row a b) (k : Upto B row b c) : Upto B row a c :=
  ⟨k.os.trans h.os, k.tape.trans h.tape, k.output.trans h.output, Nat.le_trans h.size k.size, fun i hi hne => (k.block i hi hne).trans (h.block i hi hne)⟩
theorem Upto.set {B g i : Nat} (w : World) (v : Value) : Upto B (some g) w (w.setCell ⟨g, i, none⟩ v) :=
  ⟨rfl, rfl, rfl, by simp, fun k _ hne => heap_set_ne w ⟨g, i, none⟩ v k (fun e => hne (by rw [e]))⟩
theorem Upto.grown {B g : Nat} {w w' : World} (h : w.grownBy w' (some g)) (hB : B ≤ w.heap.size) : Upto B (some g) w w' :=
  ⟨h.os, h.tape, h.output, h.size, fun k hk hne => h.block k (by omega) hne⟩
theorem set_two (P R : List Value) (x y a b : Value) (n : Nat) (hn : P.length = n) : ((P ++ (x :: y :: R)).toArray.setIfInBounds n a).setIfInBounds (n + 1) b = (P ++ (a :: b :: R)).toArray := by
  subst hn
  apply Array.ext'
  simp [List.set_append]
def DfP (w : World) (p b5 : Nat) (l : List K2) (A : Option Addr) (c : Int) (e : Ending) (w' : World) : Prop := ∃ A2 n2 c2 v, e = .returned (.slice A2 n2 c2) ∧ OwnK w' (p + 1) 62 (.slice A2 n2 c2) (dropA l c) ∧ (Value.slice A2 n2 c2).ownBlock = (Value.slice A 0 0).ownBlock ∧ Da w' b5 v (goneA l c) ∧ Upto b5 (Value.slice A 0 0).ownBlock w w'
end Go.Proofs.Yteldbnelfeiifaa
