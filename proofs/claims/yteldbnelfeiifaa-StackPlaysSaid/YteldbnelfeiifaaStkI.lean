/- A key put among others, walked. -/
import Derived.Test.YteldbnelfeiifaaStkH
import Derived.Lib.Overlaps
import Derived.Lib.AppendZerosOnto
import Derived.Laws.CopyOwn
namespace Go.Proofs.Yteldbnelfeiifaa
open Go.RowKit Go.Proofs.YteldbnelfeiifaaW.PrintWords
set_option linter.unusedSimpArgs false
set_option linter.unusedVariables false
set_option maxRecDepth 1000000
attribute [local go_sem high] eqK eqKS
theorem splice_at (P S cs : List Value) : (P ++ S).take P.length ++ cs ++ (P ++ S).drop (P.length + cs.length) = P ++ (cs ++ S.drop cs.length) := by
  rw [List.take_left, List.drop_append, show P.length + cs.length - P.length = cs.length by omega, List.drop_of_length_le (by omega)]
  simp
theorem run_copy_k (w : World) (g off dLen dCap : Nat) (ad : Addr) (sLen sCap : Nat) (P S cs : List Value) (ty : TypeId) (m : Nat)
    (hg : w.heap[g]? = some (.cells (P ++ S).toArray 62 (0, 0))) (hoff : P.length = off) (hmin : Nat.min sLen dLen = m) (hcs : cs.length = m * 2) (hS : cs.length ≤ S.length)
    (hsrc : ∀ j v, cs[j]? = some v → w.cell? (ad.add j) = some v) (h1 : ∀ v ∈ cs, v.oneCell' = true) :
    (Builtin.copy_ #[68, 68] ty #[.slice (some ⟨g, off, none⟩) dLen dCap, .slice (some ad) sLen sCap]).run Try.prog w =
      .ok (goInt m) (w.setRow g (P ++ (cs ++ S.drop cs.length)).toArray) := by
  subst hoff
  have hl := run_loadCells_list (P := Try.prog) w ad cs hsrc
  have hst := run_storeCells_at Try.prog g P.length 62 cs 0 (P ++ S).toArray w hg (by simp; omega) h1
  simp only [Nat.add_zero, List.toList_toArray] at hst
  rw [splice_at] at hst
  cases hq : Try.prog.info? 62 with
  | none => have := size_k; rw [hq] at this; cases this
  | some i =>
    have hi : i.size = 2 := by have := size_k; rw [hq] at this; simpa using this
    rw [hcs] at hl
    simp [Builtin.copy_, run_underlying Try.underlying68, Builtin.lenOf, Builtin.firstCells, sizeOf, typeInfo, hq, hi, hmin, hl, hst]
theorem wpList_copy_k {ops : Array Oper} {rest : List Oper} {o : Oper} {a : Act} {Q : Exit → Act → World → Prop} {w : World} (hgd : o.guard = none) {d s : Operand}
    (ho : o.op = .call { callee := .builtin .copy, args := #[d, s], argTypes := #[68, 68] }) (g off dLen dCap : Nat) (ad : Addr) (sLen sCap : Nat) (P S cs : List Value) (m : Nat)
    (hd : a.eval d = .slice (some ⟨g, off, none⟩) dLen dCap) (hs : a.eval s = .slice (some ad) sLen sCap)
    (hg : w.heap[g]? = some (.cells (P ++ S).toArray 62 (0, 0))) (hoff : P.length = off) (hmin : Nat.min sLen dLen = m) (hcs : cs.length = m * 2) (hS : cs.length ≤ S.length)
    (hsrc : ∀ j v, cs[j]? = some v → w.cell? (ad.add j) = some v) (h1 : ∀ v ∈ cs, v.oneCell' = true)
    (h : ∀ w1, Hid (w1.heap[g]? = some (.cells (P ++ (cs ++ S.drop cs.length)).toArray 62 (0, 0))) → w.grownBy w1 (some g) → w1.heap.size = w.heap.size → wpList Try.prog ops Q rest (a.put o.dst (goInt m)) w1) : wpList Try.prog ops Q (o :: rest) a w := by
  refine wpList_plain hgd fun K hK => ?_
  have hrun := run_copy_k w g off dLen dCap ad sLen sCap P S cs o.type m hg hoff hmin hcs hS hsrc h1
  unfold Oper.wp execOp
  simp only [ho, resolve, invoke, builtin, Sem.run_bind, Sem.run_pure, Result.andThen_ok, List.map_toArray, List.map_cons, List.map_nil, hd, hs, hrun]
  exact hK _ _ (h _ (Lib.hid (setRow_heap w g _ _ _ _ hg)) ⟨rfl, rfl, rfl, by simp, fun k hk hne => setRow_other w g k _ (fun e => hne (by rw [e]))⟩ (by simp))
theorem step_copy_k {ops : Array Oper} {o : Oper} {a : Act} {K : Act → World → Prop} {Q : Exit → Act → World → Prop} {E : Prop} {w : World} (hgd : o.guard = none) (d s : Operand)
    (ho : o.op = .call { callee := .builtin .copy, args := #[d, s], argTypes := #[68, 68] }) (g off dLen dCap : Nat) (ad : Addr) (sLen sCap : Nat) (P S cs : List Value) (m : Nat)
    (hd : a.eval d = .slice (some ⟨g, off, none⟩) dLen dCap) (hs : a.eval s = .slice (some ad) sLen sCap)
    (hg : w.heap[g]? = some (.cells (P ++ S).toArray 62 (0, 0))) (hoff : P.length = off) (hmin : Nat.min sLen dLen = m) (hcs : cs.length = m * 2) (hS : cs.length ≤ S.length)
    (hsrc : ∀ j v, cs[j]? = some v → w.cell? (ad.add j) = some v) (h1 : ∀ v ∈ cs, v.oneCell' = true)
    (h : ∀ w1, Hid (w1.heap[g]? = some (.cells (P ++ (cs ++ S.drop cs.length)).toArray 62 (0, 0))) → w.grownBy w1 (some g) → w1.heap.size = w.heap.size → K (a.put o.dst (goInt m)) w1) :
    if Region.wanted o (yielded ops a.tmps) = true then Oper.wp Try.prog o a w K Q else E := by
  have hw : Region.wanted o (yielded ops a.tmps) = true := by simp [Region.wanted, hgd]
  rw [if_pos hw]
  have hrun := run_copy_k w g off dLen dCap ad sLen sCap P S cs o.type m hg hoff hmin hcs hS hsrc h1
  unfold Oper.wp execOp
  simp only [ho, resolve, invoke, builtin, Sem.run_bind, Sem.run_pure, Result.andThen_ok, List.map_toArray, List.map_cons, List.map_nil, hd, hs, hrun]
  exact h _ (Lib.hid (setRow_heap w g _ _ _ _ hg)) ⟨rfl, rfl, rfl, by simp, fun k hk hne => setRow_other w g k _ (fun e => hne (by rw [e]))⟩ (by simp)
theorem sl_overlaps (q g lq cq o lb cb : Nat) (w : World) (kA kB : Nat) (hne : q ≠ g) (hsa : w.shape? q = some (62, kA)) (hsb : w.shape? g = some (62, kB)) (hkB : kB ≠ 0) (hfa : w.frozen? ⟨q, 0, none⟩ = false) (hfe : w.frozen? ⟨q, kA, none⟩ = false) :
    (callFunc 97 #[.slice (some ⟨q, 0, none⟩) lq cq, .slice (some ⟨g, o, none⟩) lb cb]).run Try.prog w = .ok (.value (.bool false)) w := by
  rw [run_callFunc_extern (fn := Try.f97) (e := Extern.SlicesOverlaps.overlaps #[68, 68] #[4]) Try.func97 (by kernel_rfl) (by kernel_rfl) (by kernel_rfl) (by kernel_rfl)]
  have := Lib.run_overlaps_apart (P := Try.prog) w 68 4 62 Try.underlying68 2 (fun w => by kernel_rfl) ⟨q, 0, none⟩ ⟨g, o, none⟩ lq cq lb cb hne _ _ _ _ hsa hsb hkB hfa hfe
  change ((Extern.SlicesOverlaps.overlaps #[68, 68] #[4] _).run Try.prog w).andThen _ = _
  rw [this]
  rfl
theorem wpList_append_key {P : Program} {ops : Array Oper} {rest : List Oper} {o : Oper} {a : Act} {W : World} {Q : Exit → Act → World → Prop}
    (base : Nat) (hgd : o.guard = none) {s x : Operand} {t e : TypeId} (ho : o.op = .call { callee := .builtin .append, args := #[s, x], argTypes := #[t, t] })
    (ht : P.underlying t = some (.slice e)) (hinfo : (P.info? e).map (fun i => (i.zero, i.size, i.bytes)) = some (some (.agg #[.int .i64 (0), .int .i64 (0)]), 2, 16))
    (v : Value) (l : List K2) (k : K2) (b m : Nat) (hs : a.eval s = v) (hx : a.eval x = .slice (some ⟨b, 0, none⟩) 1 m) (h0 : W.cell? ⟨b, 0, none⟩ = some (.int .i64 k.c)) (h1 : W.cell? ⟨b, 1, none⟩ = some (.int .i64 k.i)) (HO : OwnK W base e v l) (hbase : base ≤ W.heap.size) (hl : l.length ≤ 100000)
    (h : ∀ v1 w1, OwnK w1 base e v1 (l ++ [k]) → W.grownBy w1 v.ownBlock → (v1.ownBlock = v.ownBlock ∨ ∃ b, v1.ownBlock = some b ∧ W.heap.size ≤ b) → wpList P ops Q rest (a.put o.dst v1) w1) : wpList P ops Q (o :: rest) a W := by
  obtain ⟨i0, hi, hzz⟩ := Option.map_eq_some_iff.1 hinfo
  simp only [Prod.mk.injEq] at hzz
  obtain ⟨hz0, hz1, hz2⟩ := hzz
  refine wpList_append_own_at W hgd s x t ho base e i0 (.agg #[.int .i64 (0), .int .i64 (0)]) 2 16 ht hi hz0 hz1 hz2 rfl (by omega) v l.length (flatK l) hs HO ⟨b, 0, none⟩ 1 m [.int .i64 k.c, .int .i64 k.i] hx rfl
    (fun j u hj => by
      rw [add_plain]
      match j, hj with
      | 0, hj => simp at hj; rw [← hj]; exact h0
      | 1, hj => simp at hj; rw [← hj]; exact h1
      | j + 2, hj => simp at hj) (by simp [Value.oneCell']) (by simp only [maxLen]; omega) (by omega) hbase fun v' w' h2 h3 h4 h5 => ?_
  refine h v' w' (OwnK.snoc h2) h3 ?_
  rcases h5 with h5 | h5
  · exact .inl h5
  · exact .inr ⟨_, h5, by simp⟩
/-- The key put on top. -/
theorem sl_InsertTop (p q : Nat) (l : List K2) (k : K2) (A : Option Addr) (c n : Nat) (w : World) (hn : l.length = n) (hz : n ≤ 10000) (hp : w.heap[p]? = some (.cells #[.slice A l.length c] 102 (0, 0))) (HO : OwnK w (p + 1) 62 (.slice A l.length c) l) (hnd : (l ++ [k]).Nodup)
    (hq : w.heap[q]? = some (.cells #[.int .i64 k.c, .int .i64 k.i] 62 (0, 0))) :
    Calls Try.prog 82 #[.slice A n c, .int .i64 n, .slice (some ⟨q, 0, none⟩) 1 1] w (PutP w p (.slice A l.length c) (l ++ [k])) := by
  have q0 : w.cell? ⟨q, 0, none⟩ = some (.int .i64 k.c) := by simp [World.cell?, hq]
  have q1 : w.cell? ⟨q, 1, none⟩ = some (.int .i64 k.i) := by simp [World.cell?, hq]
  have hlt := blk_lt hp
  obtain ⟨A', c', he, hkr⟩ := HO.kr
  injection he with he1 _ he2
  subst he1 he2
  have hcn : n ≤ c := by rw [← hn]; exact hkr.le
  have hcm := hkr.max
  have hnil := hkr.nil
  have HO' := Lib.hid HO
  have HP := Lib.hid hp
  have HND := Lib.hid hnd
  clear hkr hnd hq HO hp
  subst hn
  cases A with
  | none =>
    obtain rfl := hnil rfl
    go_enter Try.func82, Try.ntmps82
    go_wp2_with (first | (at_builtin; refine wpList_append_key (p + 1) rfl rfl Try.underlying68 info_s _ l k q 1 rfl rfl q0 q1 HO'.out (by omega) (by omega) ?_; intro v2 w2 hown2 hg2 hat2))
    go_ret
    obtain ⟨A2, c2, hv, hkr⟩ := hown2.kr
    have hblk := Stk.block3 HP.out HO'.out hg2
    exact ⟨A2, c2, _, congrArg Ending.returned hv, cell_one hblk, blk_frozen hblk 0, by rw [← hv]; exact Stk.update HP.out HO'.out hg2 hown2 hat2 HND.out⟩
  | some ad =>
    by_cases hcl : c = l.length
    all_goals
      try subst hcl
      go_enter Try.func82, Try.ntmps82
      go_wp2_with (first | (at_builtin; refine wpList_append_key (p + 1) rfl rfl Try.underlying68 info_s _ l k q 1 rfl rfl q0 q1 HO'.out (by omega) (by omega) ?_; intro v2 w2 hown2 hg2 hat2))
      go_ret
      obtain ⟨A2, c2, hv, hkr⟩ := hown2.kr
      have hblk := Stk.block3 HP.out HO'.out hg2
      exact ⟨A2, c2, _, congrArg Ending.returned hv, cell_one hblk, blk_frozen hblk 0, by rw [← hv]; exact Stk.update HP.out HO'.out hg2 hown2 hat2 HND.out⟩
end Go.Proofs.Yteldbnelfeiifaa
