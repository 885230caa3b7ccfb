/- A key put among others, below the top, where there is no room, walked. -/
import Derived.Test.YteldbnelfeiifaaStkJ
namespace Go.Proofs.Yteldbnelfeiifaa
open Go.RowKit Go.Proofs.YteldbnelfeiifaaW.PrintWords
set_option linter.unusedSimpArgs false
set_option linter.unusedVariables false
set_option maxRecDepth 1000000
attribute [local go_sem high] eqK eqKS
theorem zeroCells_len (n : Nat) : (Builtin.zeroCells (Value.cells (.agg #[.int .i64 (0), .int .i64 (0)])) n).toList.length = n * 2 := by
  rw [Array.length_toList, size_zeroCells]; rfl
/-- Zero keys behind others, where there is no room. -/
theorem wpList_append_zeros_k {ops : Array Oper} {rest : List Oper} {o : Oper} {a : Act} {Q : Exit → Act → World → Prop} {w : World} (hgd : o.guard = none) {s x : Operand}
    (ho : o.op = .call { callee := .builtin .append, args := #[s, x], argTypes := #[68, 3] }) (g i c d N : Nat) (di : Int) (hdi : di = (d : Int)) (hN : i + d = N) (l : List K2) (hs : a.eval s = .slice (some ⟨g, 0, none⟩) i c) (hx : a.eval x = .int .i64 di)
    (R : List Value) (hg : w.heap[g]? = some (.cells (flatK l ++ R).toArray 62 (0, 0))) (hl : l.length = i) (hd : 0 < d) (hc : c < i + d) (hb : i + d ≤ 100000)
    (h : ∀ cap w1 Z, Hid (w1.heap[w.heap.size]? = some (.cells (flatK l ++ Z).toArray 62 (0, 0))) → Z.length = (cap - i) * 2 → N ≤ cap → cap ≤ 9223372036854775807 → Hid (w.grownBy w1 none) → w1.heap.size = w.heap.size + 1 → wpList Try.prog ops Q rest (a.put o.dst (.slice (some ⟨w.heap.size, 0, none⟩) N cap)) w1) : wpList Try.prog ops Q (o :: rest) a w := by
  subst hdi hN
  obtain ⟨i0, hi, hzz⟩ := Option.map_eq_some_iff.1 info_s
  simp only [Prod.mk.injEq] at hzz
  obtain ⟨hz0, hz1, hz2⟩ := hzz
  have hfl := flatK_len l
  have hold : (Builtin.firstCells i0.size i (.slice (some ⟨g, 0, none⟩) i c)).run Try.prog w.drew = .ok (flatK l).toArray w.drew := by
    rw [hz1]
    exact run_firstCells_some (P := Try.prog) w.drew 2 i ⟨g, 0, none⟩ i c (flatK l) (by rw [hfl, hl]) (part_at (P := []) (w := w) hg rfl)
  have hcap : c ≤ 100000 := by omega
  have hrun := Lib.run_append_grow_zeros (P := Try.prog) w 68 3 o.type 62 i0 (.agg #[.int .i64 (0), .int .i64 (0)]) .i64 .i64 Try.underlying68 Try.underlying3 hi hz0 (some ⟨g, 0, none⟩) i c (flatK l) hold d hd (by omega) hc (by omega) (by rw [hz2]; omega) (by rw [hz2]; exact growslice_fits hc (by omega))
  refine Lib.wpList_append_run w hgd s x _ _ ho _ _ hs hx _ _ hrun ?_
  have hge := grownCap_ge w (i + d) c 62
  have hle := grownCap_le_maxLen w (i + d) c 62 (by unfold maxLen; omega)
  obtain ⟨cap, hcp⟩ : ∃ cap, grownCap w (i + d) c 62 = cap := ⟨_, rfl⟩
  rw [hcp] at hge hle ⊢
  refine h cap _ ((Builtin.zeroCells (Value.cells (.agg #[.int .i64 (0), .int .i64 (0)])) d).toList ++ (Builtin.zeroCells (Value.cells (.agg #[.int .i64 (0), .int .i64 (0)])) (cap - (i + d))).toList) (Lib.hid ?_) ?_ hge (by unfold maxLen at hle; omega) (Lib.hid ⟨rfl, rfl, rfl, by simp, fun j hj _ => (by first | exact heap_alloc_old w.drew _ j hj | exact heap_alloc_old w.drew _ hj)⟩) (by simp)
  · rw [show w.heap.size = w.drew.heap.size from rfl, heap_alloc_new]
    congr 2
    apply Array.ext'
    simp
  · rw [List.length_append, zeroCells_len, zeroCells_len]; omega
def InsG (w : World) (n : Nat) (a b kc : List Value) (e : Ending) (w' : World) : Prop := ∃ cap, e = .returned (.slice (some ⟨w.heap.size, 0, none⟩) n cap) ∧ n ≤ cap ∧ cap ≤ 9223372036854775807 ∧ w.grownBy w' none ∧ ∃ T, (a ++ (kc ++ (b ++ T))).length = cap * 2 ∧ w'.heap[w.heap.size]? = some (.cells (a ++ (kc ++ (b ++ T))).toArray 62 (0, 0))
theorem grown_new {w w1 w2 : World} (h : w.grownBy w1 none) (k : w1.grownBy w2 (some w.heap.size)) : w.grownBy w2 none :=
  ⟨k.os.trans h.os, k.tape.trans h.tape, k.output.trans h.output, Nat.le_trans h.size k.size, fun j hj _ => (k.block j (Nat.lt_of_lt_of_le hj h.size) (fun e => by injection e with e; omega)).trans (h.block j hj (fun e => by cases e))⟩
set_option maxHeartbeats 1000000 in
theorem sl_InsertGrow (g q i n m : Nat) (a b : List K2) (k : K2) (rest : List Value) (w : World) (hn : a.length = i) (hm : b.length = m) (hl : i + m = n) (hm0 : 0 < m) (hz : n ≤ 10000)
    (hg : w.heap[g]? = some (.cells (flatK a ++ (flatK b ++ rest)).toArray 62 (0, 0))) (hq : w.heap[q]? = some (.cells #[.int .i64 k.c, .int .i64 k.i] 62 (0, 0))) (hqg : q ≠ g) :
    Calls Try.prog 82 #[.slice (some ⟨g, 0, none⟩) n n, .int .i64 i, .slice (some ⟨q, 0, none⟩) 1 1] w (InsG w (n + 1) (flatK a) (flatK b) (flatK [k])) := by
  have fa := flatK_len a
  have fb := flatK_len b
  rw [hn] at fa; rw [hm] at fb
  have HG := Lib.hid hg
  have HQ := Lib.hid hq
  have HFB := Lib.hid fb
  have HFA := Lib.hid fa
  have HN := Lib.hid hn
  have b2 : i ≤ n := by omega
  have b4 : (0 : Int) ≤ (i : Int) + 1 := by omega
  have b5 : n - i = m := by omega
  have b7 : ¬ n = i := by omega
  have b8 : n + 1 - i = m + 1 := by omega
  have b9 : n + 1 - (i + 1) = m := by omega
  have c1 : IntKind.i64.wrap ((i : Int) + 1) = (i : Int) + 1 := by rw [IntKind.wrap_i64]; omega
  have c2 : (i : Int) + 1 ≤ (n : Int) + 1 := by omega
  have c3 : (i : Int) ≤ (n : Int) + 1 := by omega
  have c4 : (n : Int) + 1 - (i : Int) = ((m + 1 : Nat) : Int) := by omega
  have hlti := blk_lt hg
  have HM1 := Lib.hid (show Nat.min m m = m from Nat.min_self m)
  have HM2 := Lib.hid (show Nat.min 1 (m + 1) = 1 from Nat.min_eq_left (by omega))
  clear hn hm fa fb hg hq
  have hqs := blk_lt HQ.out
  have d1 : n + 1 - i = m + 1 := by omega
  go_enter Try.func82, Try.ntmps82
  have E2 : (flatK [k]).length = 2 := rfl
  have HE2 := Lib.hid E2
  clear E2
  go_wp2_with (first | (at_builtin; refine wpList_append_zeros_k rfl rfl g i n (m + 1) (n + 1) ((m : Int) + 1) (by omega) (by omega) a ?_ ?_ (flatK b ++ rest) HG.out HN.out (by omega) (by omega) (by omega) ?_; (focus (simp [Act.eval, Act.put]; done)); (focus (simp [Act.eval, Act.put]; done)); intro cap w1 Z hg1 hZ hc1 hc2 hgr1 hsz1; have e1 : ¬ cap = i := (by omega); have e2 : ¬ cap = i + 1 := (by omega); have e3 : i ≤ cap := (by omega); have HZ := Lib.hid hZ; have HZ2 := Lib.hid (show (flatK [k]).length ≤ Z.length from by have := HE2.out; omega); clear hZ; have hq1 := Lib.hid (part_at (P := []) (R := []) (cs := flatK [k]) (o := 0) (t := 62) (w := w1) (g := q) ((hgr1.out.block q hqs (fun e => by cases e)).trans HQ.out) rfl)) | (refine wpList_copy_k rfl rfl w.heap.size (i * 2) (m + 1) (cap - i) ⟨q, 0, none⟩ 1 1 (flatK a) Z (flatK [k]) 1 ?_ ?_ hg1.out HFA.out HM2.out rfl HZ2.out hq1.out (flatK_one' [k]) ?_; (focus (simp [Act.eval, Act.put]; done)); (focus (simp [Act.eval, Act.put]; done)); intro w2 hg2 hgr2 hsz2))
  have hgr12 := grown_new hgr1.out hgr2
  have hg3 := Lib.hid (show w2.heap[w.heap.size]? = some (.cells ((flatK a ++ flatK [k]) ++ Z.drop 2).toArray 62 (0, 0)) from by have := hg2.out; rw [HE2.out] at this; rw [List.append_assoc]; exact this)
  have HPL := Lib.hid (show (flatK a ++ flatK [k]).length = (i + 1) * 2 from by have := HFA.out; have := HE2.out; rw [List.length_append]; omega)
  have HB2 := Lib.hid (part_at (w := w2) (g := g) (o := i * 2) (P := flatK a) (cs := flatK b) (R := rest) ((hgr12.block g hlti (fun e => by cases e)).trans HG.out) HFA.out)
  have HSl := Lib.hid (show (flatK b).length ≤ (Z.drop 2).length from by have := HZ.out; have := HFB.out; rw [List.length_drop]; omega)
  clear hg2 hq1 hg1 hgr1 hgr2
  go_region_law (refine step_copy_k rfl (.tmp 50) (.tmp 53) rfl w.heap.size ((i + 1) * 2) m (cap - (i + 1)) ⟨g, i * 2, none⟩ m m (flatK a ++ flatK [k]) (Z.drop 2) (flatK b) m (by simp [Act.eval, Act.put]) (by simp [Act.eval, Act.put]) hg3.out HPL.out HM1.out HFB.out HSl.out HB2.out (flatK_one' b) ?_; intro w3 hg4 hgr4 hsz4)
  have hgr5 : w.grownBy w3 none := grown_new hgr12 ⟨hgr4.os, hgr4.tape, hgr4.output, hgr4.size, hgr4.block⟩
  go_wp2
  go_ret
  refine ⟨cap, rfl, hc1, hc2, hgr5, (Z.drop 2).drop (flatK b).length, ?_, ?_⟩
  · have h1 := HFA.out; have h2 := HFB.out; have h3 := HSl.out; have h4 := HZ.out; have h5 := HE2.out
    simp only [List.length_append, List.length_drop] at *
    omega
  · have := hg4.out
    rw [List.append_assoc] at this
    exact this
end Go.Proofs.Yteldbnelfeiifaa
