/- A key put among others, below the top, walked. -/
import Derived.Test.YteldbnelfeiifaaStkI
namespace Go.Proofs.Yteldbnelfeiifaa
open Go.RowKit Go.Proofs.YteldbnelfeiifaaW.PrintWords
set_option linter.unusedSimpArgs false
set_option linter.unusedVariables false
set_option maxRecDepth 1000000
attribute [local go_sem high] eqK eqKS
/-- The cells of a part of a row. -/
theorem part_at {w : World} {g o : Nat} {P cs R : List Value} {t : TypeId} (hg : w.heap[g]? = some (.cells (P ++ (cs ++ R)).toArray t (0, 0))) (ho : P.length = o) : ∀ j u, cs[j]? = some u → w.cell? ((⟨g, o, none⟩ : Addr).add j) = some u := by
  intro j u h
  have hj := (List.getElem?_eq_some_iff.1 h).1
  rw [add_any, blk_cell hg, List.getElem?_toArray, List.getElem?_append_right (by omega), List.getElem?_append_left (by omega), show o + j - P.length = j by omega]
  exact h
def InsP (w : World) (g n cap : Nat) (a b kc : List Value) (e : Ending) (w' : World) : Prop := e = .returned (.slice (some ⟨g, 0, none⟩) n cap) ∧ w.grownBy w' (some g) ∧ ∃ T, (a ++ (kc ++ (b ++ T))).length = cap * 2 ∧ w'.heap[g]? = some (.cells (a ++ (kc ++ (b ++ T))).toArray 62 (0, 0))
set_option maxHeartbeats 1000000 in
theorem sl_InsertRoom (g q cap i n m : Nat) (a b : List K2) (k : K2) (rest : List Value) (w : World) (hn : a.length = i) (hm : b.length = m) (hl : i + m = n) (hm0 : 0 < m) (hz : n + 1 ≤ cap) (hcap : cap ≤ 9223372036854775807)
    (hg : w.heap[g]? = some (.cells (flatK a ++ (flatK b ++ rest)).toArray 62 (0, 0))) (hsz : (flatK a ++ (flatK b ++ rest)).length = cap * 2) (hq : w.heap[q]? = some (.cells #[.int .i64 k.c, .int .i64 k.i] 62 (0, 0))) (hqg : q ≠ g) :
    Calls Try.prog 82 #[.slice (some ⟨g, 0, none⟩) n cap, .int .i64 i, .slice (some ⟨q, 0, none⟩) 1 1] w (InsP w g (n + 1) cap (flatK a) (flatK b) (flatK [k])) := by
  have fa := flatK_len a
  have fb := flatK_len b
  rw [hn] at fa; rw [hm] at fb
  have hrl : (flatK b ++ rest).length = (cap - i) * 2 := by simp only [List.length_append] at hsz ⊢; omega
  obtain ⟨X, hX⟩ : ∃ X, (flatK b ++ rest).take 2 = X := ⟨_, rfl⟩
  obtain ⟨Y, hY⟩ : ∃ Y, (flatK b ++ rest).drop 2 = Y := ⟨_, rfl⟩
  have hXY : flatK b ++ rest = X ++ Y := by rw [← hX, ← hY, List.take_append_drop]
  have hXl : X.length = 2 := by rw [← hX]; simp only [List.length_take]; omega
  have hYl : Y.length = (cap - i) * 2 - 2 := by rw [← hY]; simp only [List.length_drop]; omega
  have HG := Lib.hid (show w.heap[g]? = some (.cells ((flatK a ++ X) ++ Y).toArray 62 (0, 0)) from by rw [List.append_assoc, ← hXY]; exact hg)
  have HB := Lib.hid (part_at hg fa)
  have HPL := Lib.hid (show (flatK a ++ X).length = (i + 1) * 2 from by rw [List.length_append]; omega)
  have HFB := Lib.hid fb
  have HFA := Lib.hid fa
  have HY := Lib.hid (show (flatK b).length ≤ Y.length from by omega)
  have HXl := Lib.hid hXl
  have HYl := Lib.hid (show i * 2 + 2 + Y.length = cap * 2 from by omega)
  have HQ := Lib.hid hq
  have hov := fun o lb cb => sl_overlaps q g 1 1 o lb cb w 2 (((flatK a ++ X) ++ Y).toArray.size) hqg (by simp [World.shape?, hq]) (by simp [World.shape?, HG.out]) (by have := HPL.out; simp only [List.size_toArray, List.length_append] at this ⊢; omega) (blk_frozen hq 0) (blk_frozen hq 2)
  have b1 : i ≤ cap := by omega
  have b2 : i ≤ n := by omega
  have b3 : i + 1 ≤ cap := by omega
  have b4 : (0 : Int) ≤ (i : Int) + 1 := by omega
  have b5 : n - i = m := by omega
  have b6 : ¬ cap = i + 1 := by omega
  have b7 : ¬ cap = i := by omega
  have b8 : n + 1 - i = m + 1 := by omega
  have b9 : n + 1 - (i + 1) = m := by omega
  have c1 : IntKind.i64.wrap ((i : Int) + 1) = (i : Int) + 1 := by rw [IntKind.wrap_i64]; omega
  have c2 : (i : Int) + 1 ≤ (n : Int) + 1 := by omega
  have c3 : (i : Int) ≤ (n : Int) + 1 := by omega
  have HM1 := Lib.hid (show Nat.min (m + 1) m = m from Nat.min_eq_right (by omega))
  have HM2 := Lib.hid (show Nat.min 1 (m + 1) = 1 from Nat.min_eq_left (by omega))
  clear hX hY hXY hrl hn hm fa fb hg hsz hq hXl hYl
  go_enter Try.func82, Try.ntmps82
  go_wp2
  go_region_law (refine step_copy_k rfl (.tmp 73) (.tmp 76) rfl g ((i + 1) * 2) m (cap - (i + 1)) ⟨g, i * 2, none⟩ (m + 1) (cap - i) (flatK a ++ X) Y (flatK b) m (by simp [Act.eval, Act.put]) (by simp [Act.eval, Act.put]) HG.out HPL.out HM1.out HFB.out HY.out HB.out (flatK_one' b) ?_; intro w1 hg1 hgr1 hsz1)
  have hg2 := Lib.hid (show w1.heap[g]? = some (.cells (flatK a ++ (X ++ (flatK b ++ Y.drop (flatK b).length))).toArray 62 (0, 0)) from by have := hg1.out; rw [List.append_assoc] at this; exact this)
  have hq1 := Lib.hid (part_at (P := []) (R := []) (cs := flatK [k]) (o := 0) (t := 62) (w := w1) (g := q) ((hgr1.block q (blk_lt HQ.out) (fun e => hqg (by injection e))).trans HQ.out) rfl)
  have HXS := Lib.hid (show (flatK [k]).length ≤ (X ++ (flatK b ++ Y.drop (flatK b).length)).length from by have := HXl.out; have e : (flatK [k]).length = 2 := rfl; simp only [List.length_append]; omega)
  have hgr0 : w.grownBy w1 (some g) := ⟨hgr1.os, hgr1.tape, hgr1.output, hgr1.size, hgr1.block⟩
  have HR := Lib.hid (show (X ++ (flatK b ++ Y.drop (flatK b).length)).drop (flatK [k]).length = flatK b ++ Y.drop (flatK b).length from by
    have e : (flatK [k]).length = X.length := by rw [HXl.out]; rfl
    rw [e, List.drop_left])
  clear hg1 hgr1
  go_wp2_with (first | (refine wpList_copy_k rfl rfl g (i * 2) (m + 1) (cap - i) ⟨q, 0, none⟩ 1 1 (flatK a) (X ++ (flatK b ++ Y.drop (flatK b).length)) (flatK [k]) 1 ?_ ?_ hg2.out HFA.out HM2.out rfl HXS.out hq1.out (flatK_one' [k]) ?_; (focus (simp [Act.eval, Act.put]; done)); (focus (simp [Act.eval, Act.put]; done)); intro w2 hg3 hgr2 hsz2))
  go_ret
  refine ⟨rfl, World.grownBy.trans hgr0 hgr2, Y.drop (flatK b).length, ?_, ?_⟩
  · have h1 := HFA.out; have h2 := HFB.out; have h3 := HY.out; have h4 := HYl.out
    have h5 : (flatK [k]).length = 2 := rfl
    simp only [List.length_append, List.length_drop] at *
    omega
  · have := hg3.out
    rw [HR.out] at this
    exact this
end Go.Proofs.Yteldbnelfeiifaa
