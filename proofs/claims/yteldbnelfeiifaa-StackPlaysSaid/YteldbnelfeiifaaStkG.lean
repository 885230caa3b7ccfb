/- A key cut out of a row of keys, in place, walked. -/
import Derived.Test.YteldbnelfeiifaaStkF
namespace Go.Proofs.Yteldbnelfeiifaa
open Go.RowKit Go.Proofs.YteldbnelfeiifaaW.PrintWords
set_option linter.unusedSimpArgs false
set_option linter.unusedVariables false
set_option maxRecDepth 1000000
attribute [local go_sem high] eqK eqKS
theorem size_k : (Try.prog.info? 62).map (·.size) = some 2 := by kernel_rfl
/-- Keys behind others, in place. -/
theorem step_append_in {ops : Array Oper} {o : Oper} {a : Act} {W : World} {K : Act → World → Prop} {Q : Exit → Act → World → Prop} {E : Prop}
    (hgd : o.guard = none) (s x : Operand) (ho : o.op = .call { callee := .builtin .append, args := #[s, x], argTypes := #[68, 68] })
    (g n cap : Nat) (cur : Array Value) (hg : W.heap[g]? = some (.cells cur 62 (0, 0))) (b : List K2) (ad : Addr) (c m : Nat) (hm : m = b.length) (hs : a.eval s = .slice (some ⟨g, 0, none⟩) n cap) (hx : a.eval x = .slice (some ad) m c)
    (hnews : ∀ j u, (flatK b)[j]? = some u → W.cell? (ad.add j) = some u) (hroom : n + m ≤ cap) (hsz : cur.size = cap * 2)
    (h : ∀ w1, Hid (w1.heap[g]? = some (.cells (cur.toList.take (n * 2) ++ flatK b ++ cur.toList.drop (n * 2 + (flatK b).length)).toArray 62 (0, 0))) → W.grownBy w1 (some g) → w1.heap.size = W.heap.size → K (a.put o.dst (.slice (some ⟨g, 0, none⟩) (n + m) cap)) w1) :
    if Region.wanted o (yielded ops a.tmps) = true then Oper.wp Try.prog o a W K Q else E := by
  subst hm
  have hw : Region.wanted o (yielded ops a.tmps) = true := by simp [Region.wanted, hgd]
  rw [if_pos hw]
  cases hi : Try.prog.info? 62 with
  | none => have := size_k; rw [hi] at this; cases this
  | some i0 =>
    have hz : i0.size = 2 := by have := size_k; rw [hi] at this; simpa using this
    have hfl := flatK_len b
    have hrun := run_append_room (P := Try.prog) W 68 o.type 62 i0 Try.underlying68 hi g n cap cur hg ad b.length c (flatK b) (by rw [hz, hfl]) hnews (flatK_one' b) hroom (by rw [hz, hfl]; omega)
    rw [hz] at hrun
    unfold Oper.wp execOp
    simp only [ho, resolve, invoke, builtin, Sem.run_bind, Sem.run_pure, Result.andThen_ok, List.map_toArray, List.map_cons, List.map_nil, hs, hx, hrun]
    exact h _ (Lib.hid (setRow_heap W g cur _ _ _ hg)) ⟨rfl, rfl, rfl, by simp, fun k hk hne => setRow_other W g k _ (fun e => hne (by rw [e]))⟩ (by simp)
theorem zero_k (w : World) : (zeroValue 62).run Try.prog w = .ok (.agg #[.int .i64 (0), .int .i64 (0)]) w := by kernel_rfl
/-- One key, cleared. -/
theorem wpList_clear_one {ops : Array Oper} {rest : List Oper} {o : Oper} {a : Act} {Q : Exit → Act → World → Prop} {w : World} (hgd : o.guard = none) {s : Operand}
    (ho : o.op = .call { callee := .builtin .clear, args := #[s], argTypes := #[68] }) (g off c : Nat) (cur : Array Value) (hs : a.eval s = .slice (some ⟨g, off, none⟩) 1 c) (hg : w.heap[g]? = some (.cells cur 62 (0, 0))) (hl : off + 2 ≤ cur.size)
    (h : ∀ w1, Hid (w1.heap[g]? = some (.cells (cur.toList.take off ++ [Value.int .i64 0, Value.int .i64 0] ++ cur.toList.drop (off + 2)).toArray 62 (0, 0))) → w.grownBy w1 (some g) → w1.heap.size = w.heap.size → wpList Try.prog ops Q rest (a.put o.dst (.tuple #[])) w1) : wpList Try.prog ops Q (o :: rest) a w := by
  refine wpList_plain hgd fun K hK => ?_
  have hst := run_storeCells_at Try.prog g off 62 [.int .i64 0, .int .i64 0] 0 cur w hg (by simpa using hl) (by simp [Value.oneCell'])
  simp only [Nat.add_zero, List.length_cons, List.length_nil] at hst
  have hz : (Builtin.zeroCells (Value.cells (.agg #[.int .i64 (0), .int .i64 (0)])) 1).toList = [.int .i64 0, .int .i64 0] := by kernel_rfl
  unfold Oper.wp execOp
  simp only [ho, resolve, invoke, builtin, Sem.run_bind, Sem.run_pure, Result.andThen_ok, List.map_toArray, List.map_cons, List.map_nil, hs]
  simp [Builtin.clear_, run_underlying Try.underlying68, zero_k, hz, hst, Result.andThen]
  have hh := setRow_heap w g cur (cur.toList.take off ++ [Value.int .i64 0, Value.int .i64 0] ++ cur.toList.drop (off + 2)).toArray _ _ hg
  exact hK _ _ (h _ (Lib.hid (by simpa using hh)) ⟨rfl, rfl, rfl, by simp, fun k hk hne => setRow_other w g k _ (fun e => hne (by rw [e]))⟩ (by simp))
def DelP (w : World) (g n cap : Nat) (a b rest : List Value) (e : Ending) (w' : World) : Prop := e = .returned (.slice (some ⟨g, 0, none⟩) n cap) ∧ w.grownBy w' (some g) ∧ ∃ T, T.length = rest.length + 2 ∧ w'.heap[g]? = some (.cells (a ++ b ++ T).toArray 62 (0, 0))
theorem add_any (g o j : Nat) : (⟨g, o, none⟩ : Addr).add j = ⟨g, o + j, none⟩ := by unfold Addr.add; split <;> simp_all
theorem news_at {w : World} {g i : Nat} {a b : List K2} {x : K2} {rest : List Value} (hn : a.length = i) (hg : w.heap[g]? = some (.cells (flatK a ++ (flatK [x] ++ (flatK b ++ rest))).toArray 62 (0, 0))) :
    ∀ j u, (flatK b)[j]? = some u → w.cell? ((⟨g, (i + 1) * 2, none⟩ : Addr).add j) = some u := by
  intro j u h
  have hj := (List.getElem?_eq_some_iff.1 h).1
  have ha := flatK_len a
  have hx := flatK_len [x]
  rw [List.length_singleton] at hx
  rw [add_any, blk_cell hg, List.getElem?_toArray, List.getElem?_append_right (by omega), List.getElem?_append_right (by omega), List.getElem?_append_left (by omega)]
  rw [show (i + 1) * 2 + j - (flatK a).length - (flatK [x]).length = j by omega]; exact h
set_option maxHeartbeats 1000000 in
theorem sl_Delete (g cap i n m : Nat) (a b : List K2) (x : K2) (rest : List Value) (w : World) (hn : a.length = i) (hm : b.length = m) (hl : i + m = n) (hz : n + 1 ≤ cap) (hcap : cap ≤ 9223372036854775807)
    (hg : w.heap[g]? = some (.cells (flatK a ++ (flatK [x] ++ (flatK b ++ rest))).toArray 62 (0, 0))) (hsz : (flatK a ++ (flatK [x] ++ (flatK b ++ rest))).length = cap * 2) :
    Calls Try.prog 67 #[.slice (some ⟨g, 0, none⟩) (n + 1) cap, .int .i64 i, .int .i64 (i + 1)] w (DelP w g n cap (flatK a) (flatK b) rest) := by
  have fa := flatK_len a
  have fb := flatK_len b
  have fx := flatK_len [x]
  have HG := Lib.hid hg
  have HM := Lib.hid hm.symm
  have HN := Lib.hid (news_at hn hg)
  have HS := Lib.hid hsz
  obtain ⟨T, hT, hTl⟩ : ∃ T, (flatK a ++ (flatK [x] ++ (flatK b ++ rest))).drop (i * 2 + (flatK b).length) = T ∧ T.length = rest.length + 2 := ⟨_, rfl, by simp only [List.length_drop, List.length_append, List.length_singleton] at *; omega⟩
  have htk : (flatK a ++ (flatK [x] ++ (flatK b ++ rest))).take (i * 2) = flatK a := by rw [List.take_append_of_le_length (by omega), List.take_of_length_le (by omega)]
  have HT := Lib.hid hT
  have HTK := Lib.hid htk
  have HTL := Lib.hid hTl
  have fab : (flatK a).length + (flatK b).length = n * 2 := by omega
  have FAB := Lib.hid fab
  have fT : n * 2 + 2 ≤ (flatK a).length + (flatK b).length + T.length := by omega
  have FT := Lib.hid fT
  clear hg hm hsz hn hT hTl htk fab fT fa fb fx
  by_cases hjc : cap = i + 1
  · obtain rfl : m = 0 := by omega
    obtain rfl : i = n := by omega
    subst hjc
    obtain rfl : b = [] := List.eq_nil_of_length_eq_zero HM.out.symm
    go_enter Try.func67, Try.ntmps67
    go_wp2
    have b1 : (i : Int) ≤ (i : Int) + 1 := by omega
    have b2 : i + 1 - i = 1 := by omega
    have b4 : (0 : Int) ≤ (i : Int) + 1 := by omega
    go_region_law (refine step_append_in rfl (.tmp 22) (.tmp 25) rfl g i (i + 1) _ HG.out [] ⟨g, 0, none⟩ 0 0 rfl (by simp [Act.eval, Act.put]) (by simp [Act.eval, Act.put]) (fun j u h => by simp [flatK] at h) (by omega) (by simpa using HS.out) ?_; intro w1 hg1 hgr1 hsz1)
    have hg2 := Lib.hid (show w1.heap[g]? = some (.cells (flatK a ++ flatK [] ++ T).toArray 62 (0, 0)) from by have := hg1.out; simp only [List.toList_toArray] at this; rw [HTK.out, HT.out] at this; exact this)
    clear hg1
    go_wp2_with (first | (refine wpList_clear_one rfl rfl g (i * 2) 1 _ ?_ hg2.out ?_ ?_; (focus (simp [Act.eval, Act.put]; done)); (focus (have := FT.out; simp only [List.size_toArray, List.length_append]; omega)); intro w2 hg3 hgr2 hsz2))
    have hcl := Lib.hid (show w2.heap[g]? = some (.cells (flatK a ++ flatK [] ++ ([Value.int .i64 0, Value.int .i64 0] ++ T.drop 2)).toArray 62 (0, 0)) from by
      have := hg3.out
      have e := FAB.out
      try simp only [List.toList_toArray] at this
      rw [this]
      congr 2
      rw [← e, ← List.length_append, List.take_left, List.drop_append, show (flatK a ++ flatK []).length + 2 - (flatK a ++ flatK []).length = 2 by omega]
      simp)
    go_ret
    refine ⟨rfl, ?_, _, ?_, hcl.out⟩
    · exact World.grownBy.trans (show w.grownBy w1 (some g) from ⟨hgr1.os, hgr1.tape, hgr1.output, hgr1.size, hgr1.block⟩) hgr2
    · have := HTL.out; simp; omega
  · go_enter Try.func67, Try.ntmps67
    go_wp2
    have b1 : i ≤ cap := by omega
    have b2 : i ≤ n := by omega
    have b3 : i + 1 ≤ cap := by omega
    have b4 : (0 : Int) ≤ (i : Int) + 1 := by omega
    have b5 : n - i = m := by omega
    have b6 : i + (n - i) = n := by omega
    go_region_law (refine step_append_in rfl (.tmp 22) (.tmp 25) rfl g i cap _ HG.out b ⟨g, (i + 1) * 2, none⟩ (cap - (i + 1)) m HM.out (by simp [Act.eval, Act.put]) (by simp [Act.eval, Act.put]) HN.out (by omega) (by simpa using HS.out) ?_; intro w1 hg1 hgr1 hsz1)
    have hg2 := Lib.hid (show w1.heap[g]? = some (.cells (flatK a ++ flatK b ++ T).toArray 62 (0, 0)) from by have := hg1.out; simp only [List.toList_toArray] at this; rw [HTK.out, HT.out] at this; exact this)
    clear hg1
    go_wp2_with (first | (refine wpList_clear_one rfl rfl g (n * 2) (cap - n) _ ?_ hg2.out ?_ ?_; (focus (simp [Act.eval, Act.put]; done)); (focus (have := FT.out; simp only [List.size_toArray, List.length_append]; omega)); intro w2 hg3 hgr2 hsz2))
    have hcl := Lib.hid (show w2.heap[g]? = some (.cells (flatK a ++ flatK b ++ ([Value.int .i64 0, Value.int .i64 0] ++ T.drop 2)).toArray 62 (0, 0)) from by
      have := hg3.out
      have e := FAB.out
      try simp only [List.toList_toArray] at this
      rw [this]
      congr 2
      rw [← e, ← List.length_append, List.take_left, List.drop_append, show (flatK a ++ flatK b).length + 2 - (flatK a ++ flatK b).length = 2 by omega]
      simp)
    go_ret
    refine ⟨rfl, ?_, _, ?_, hcl.out⟩
    · exact World.grownBy.trans (show w.grownBy w1 (some g) from ⟨hgr1.os, hgr1.tape, hgr1.output, hgr1.size, hgr1.block⟩) hgr2
    · have := HTL.out; simp; omega
end Go.Proofs.Yteldbnelfeiifaa
