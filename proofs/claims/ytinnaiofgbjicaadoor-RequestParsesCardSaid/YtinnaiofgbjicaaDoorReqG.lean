/- What unpacked arguments are put where, walked. -/
import Derived.Test.YtinnaiofgbjicaaDoorReqF
namespace Go.Proofs.YtinnaiofgbjicaaDoor
open Go.RowKit Go.Proofs.YtinnaiofgbjicaaDoorW.PrintWords
set_option linter.unusedSimpArgs false
set_option linter.unusedVariables false
set_option maxRecDepth 1000000
def FilP (w : World) (g : Nat) (op id a b x0 y0 x1 y1 : Int) (s : ByteArray) (D : Value) (e : Ending) (w' : World) : Prop := e = .returned (.tuple #[]) ∧ w'.heap[g]? = some (.cells #[.int .i64 op, .int .i64 id, .int .i64 a, .int .i64 b, .int .i64 x0, .int .i64 y0, .int .i64 x1, .int .i64 y1, .string s, D] 36 (0, 0)) ∧ w.grownBy w' (some g)
theorem fill_0 (op id : Int) (g : Nat) (w : World) (A : Option Addr) (c : Nat) (hB : w.heap[g]? = some (.cells #[.int .i64 op, .int .i64 id, .int .i64 0, .int .i64 0, .int .i64 0, .int .i64 0, .int .i64 0, .int .i64 0, .string { data := #[] }, .slice none 0 0] 36 (0, 0))) : Calls Tryd.prog 43 #[.pointer (some ⟨g, 0, none⟩), .slice A 0 c] w (FilP w g op id 0 0 0 0 0 0 { data := #[] } (.slice none 0 0)) := by
  (have q2 := (blk_cell hB 2).trans rfl; have q3 := (blk_cell hB 3).trans rfl; have q4 := (blk_cell hB 4).trans rfl; have q5 := (blk_cell hB 5).trans rfl; have q6 := (blk_cell hB 6).trans rfl; have q7 := (blk_cell hB 7).trans rfl; have q8 := (blk_cell hB 8).trans rfl; have q9 := (blk_cell hB 9).trans rfl; have z2 := blk_frozen hB 2; have z3 := blk_frozen hB 3; have z4 := blk_frozen hB 4; have z5 := blk_frozen hB 5; have z6 := blk_frozen hB 6; have z7 := blk_frozen hB 7; have z8 := blk_frozen hB 8; have z9 := blk_frozen hB 9; have hgl := heap_lt hB; have HB := Lib.hid hB; clear hB)
  (go_enter Tryd.func43, Tryd.ntmps43; go_wp2; refine wp_loop_rounds 3 ?_; (repeat (rw [rounds_succ]; go_wp2)))
  (refine bodyPost_end (v := .tuple #[]) (by simp [results, Tryd.results43, go_sem]) rfl ⟨rfl, ?_, ?_⟩)
  · exact HB.out
  · exact World.grownBy.refl _ _
set_option maxHeartbeats 2000000 in
theorem fill_n (op id : Int) (g : Nat) (w : World) (A : Option Addr) (c : Nat) (hB : w.heap[g]? = some (.cells #[.int .i64 op, .int .i64 id, .int .i64 0, .int .i64 0, .int .i64 0, .int .i64 0, .int .i64 0, .int .i64 0, .string { data := #[] }, .slice none 0 0] 36 (0, 0))) (n : Int) (ad : Addr) (hA : A = some ad) (f0 : w.cell? ad = some (.iface 3 (.int .i64 n))) : Calls Tryd.prog 43 #[.pointer (some ⟨g, 0, none⟩), .slice A 1 c] w (FilP w g op id n 0 0 0 0 0 { data := #[] } (.slice none 0 0)) := by
  subst hA
  (have q2 := (blk_cell hB 2).trans rfl; have q3 := (blk_cell hB 3).trans rfl; have q4 := (blk_cell hB 4).trans rfl; have q5 := (blk_cell hB 5).trans rfl; have q6 := (blk_cell hB 6).trans rfl; have q7 := (blk_cell hB 7).trans rfl; have q8 := (blk_cell hB 8).trans rfl; have q9 := (blk_cell hB 9).trans rfl; have z2 := blk_frozen hB 2; have z3 := blk_frozen hB 3; have z4 := blk_frozen hB 4; have z5 := blk_frozen hB 5; have z6 := blk_frozen hB 6; have z7 := blk_frozen hB 7; have z8 := blk_frozen hB 8; have z9 := blk_frozen hB 9; have hgl := heap_lt hB; have HB := Lib.hid hB; clear hB)
  (go_enter Tryd.func43, Tryd.ntmps43; go_wp2; refine wp_loop_rounds 3 ?_; (repeat (rw [rounds_succ]; go_wp2)))
  (refine bodyPost_end (v := .tuple #[]) (by simp [results, Tryd.results43, go_sem]) rfl ⟨rfl, ?_, ?_⟩)
  · exact blk_set HB.out 2 _
  · exact grown_set
set_option maxHeartbeats 2000000 in
theorem fill_nn (op id : Int) (g : Nat) (w : World) (A : Option Addr) (c : Nat) (hB : w.heap[g]? = some (.cells #[.int .i64 op, .int .i64 id, .int .i64 0, .int .i64 0, .int .i64 0, .int .i64 0, .int .i64 0, .int .i64 0, .string { data := #[] }, .slice none 0 0] 36 (0, 0))) (n m : Int) (ad : Addr) (hA : A = some ad) (f0 : w.cell? ad = some (.iface 3 (.int .i64 n))) (f1 : w.cell? ⟨ad.block, ad.off + 1, none⟩ = some (.iface 3 (.int .i64 m))) (hne : ad.block ≠ g) : Calls Tryd.prog 43 #[.pointer (some ⟨g, 0, none⟩), .slice A 2 c] w (FilP w g op id n m 0 0 0 0 { data := #[] } (.slice none 0 0)) := by
  subst hA
  (have q2 := (blk_cell hB 2).trans rfl; have q3 := (blk_cell hB 3).trans rfl; have q4 := (blk_cell hB 4).trans rfl; have q5 := (blk_cell hB 5).trans rfl; have q6 := (blk_cell hB 6).trans rfl; have q7 := (blk_cell hB 7).trans rfl; have q8 := (blk_cell hB 8).trans rfl; have q9 := (blk_cell hB 9).trans rfl; have z2 := blk_frozen hB 2; have z3 := blk_frozen hB 3; have z4 := blk_frozen hB 4; have z5 := blk_frozen hB 5; have z6 := blk_frozen hB 6; have z7 := blk_frozen hB 7; have z8 := blk_frozen hB 8; have z9 := blk_frozen hB 9; have hgl := heap_lt hB; have HB := Lib.hid hB; clear hB)
  (go_enter Tryd.func43, Tryd.ntmps43; go_wp2; refine wp_loop_rounds 3 ?_; (repeat (rw [rounds_succ]; go_wp2)))
  (refine bodyPost_end (v := .tuple #[]) (by simp [results, Tryd.results43, go_sem]) rfl ⟨rfl, ?_, ?_⟩)
  · exact blk_set (blk_set HB.out 2 _) 3 _
  · exact grown_set.trans grown_set
set_option maxHeartbeats 2000000 in
theorem fill_s (op id : Int) (g : Nat) (w : World) (A : Option Addr) (c : Nat) (hB : w.heap[g]? = some (.cells #[.int .i64 op, .int .i64 id, .int .i64 0, .int .i64 0, .int .i64 0, .int .i64 0, .int .i64 0, .int .i64 0, .string { data := #[] }, .slice none 0 0] 36 (0, 0))) (s : ByteArray) (ad : Addr) (hA : A = some ad) (f0 : w.cell? ad = some (.iface 9 (.string s))) : Calls Tryd.prog 43 #[.pointer (some ⟨g, 0, none⟩), .slice A 1 c] w (FilP w g op id 0 0 0 0 0 0 s (.slice none 0 0)) := by
  subst hA
  (have q2 := (blk_cell hB 2).trans rfl; have q3 := (blk_cell hB 3).trans rfl; have q4 := (blk_cell hB 4).trans rfl; have q5 := (blk_cell hB 5).trans rfl; have q6 := (blk_cell hB 6).trans rfl; have q7 := (blk_cell hB 7).trans rfl; have q8 := (blk_cell hB 8).trans rfl; have q9 := (blk_cell hB 9).trans rfl; have z2 := blk_frozen hB 2; have z3 := blk_frozen hB 3; have z4 := blk_frozen hB 4; have z5 := blk_frozen hB 5; have z6 := blk_frozen hB 6; have z7 := blk_frozen hB 7; have z8 := blk_frozen hB 8; have z9 := blk_frozen hB 9; have hgl := heap_lt hB; have HB := Lib.hid hB; clear hB)
  (go_enter Tryd.func43, Tryd.ntmps43; go_wp2; refine wp_loop_rounds 3 ?_; (repeat (rw [rounds_succ]; go_wp2)))
  (refine bodyPost_end (v := .tuple #[]) (by simp [results, Tryd.results43, go_sem]) rfl ⟨rfl, ?_, ?_⟩)
  · exact blk_set HB.out 8 _
  · exact grown_set
set_option maxHeartbeats 2000000 in
theorem fill_r (op id : Int) (g : Nat) (w : World) (A : Option Addr) (c : Nat) (hB : w.heap[g]? = some (.cells #[.int .i64 op, .int .i64 id, .int .i64 0, .int .i64 0, .int .i64 0, .int .i64 0, .int .i64 0, .int .i64 0, .string { data := #[] }, .slice none 0 0] 36 (0, 0))) (x0 y0 x1 y1 : Int) (ad : Addr) (hA : A = some ad) (f0 : w.cell? ad = some (.iface 26 (.agg #[.int .i64 (x0), .int .i64 (y0), .int .i64 (x1), .int .i64 (y1)]))) : Calls Tryd.prog 43 #[.pointer (some ⟨g, 0, none⟩), .slice A 1 c] w (FilP w g op id 0 0 x0 y0 x1 y1 { data := #[] } (.slice none 0 0)) := by
  subst hA
  (have q2 := (blk_cell hB 2).trans rfl; have q3 := (blk_cell hB 3).trans rfl; have q4 := (blk_cell hB 4).trans rfl; have q5 := (blk_cell hB 5).trans rfl; have q6 := (blk_cell hB 6).trans rfl; have q7 := (blk_cell hB 7).trans rfl; have q8 := (blk_cell hB 8).trans rfl; have q9 := (blk_cell hB 9).trans rfl; have z2 := blk_frozen hB 2; have z3 := blk_frozen hB 3; have z4 := blk_frozen hB 4; have z5 := blk_frozen hB 5; have z6 := blk_frozen hB 6; have z7 := blk_frozen hB 7; have z8 := blk_frozen hB 8; have z9 := blk_frozen hB 9; have hgl := heap_lt hB; have HB := Lib.hid hB; clear hB)
  (go_enter Tryd.func43, Tryd.ntmps43; go_wp2; refine wp_loop_rounds 3 ?_; (repeat (rw [rounds_succ]; go_wp2)))
  (refine bodyPost_end (v := .tuple #[]) (by simp [results, Tryd.results43, go_sem]) rfl ⟨rfl, ?_, ?_⟩)
  · exact blk_alloc (blk_set (blk_set (blk_set (blk_set HB.out 4 _) 5 _) 6 _) 7 _) _
  · exact (((grown_set.trans grown_set).trans grown_set).trans grown_set).trans (World.grownBy_alloc _ _ _)
set_option maxHeartbeats 2000000 in
theorem fill_rb (op id : Int) (g : Nat) (w : World) (A : Option Addr) (c : Nat) (hB : w.heap[g]? = some (.cells #[.int .i64 op, .int .i64 id, .int .i64 0, .int .i64 0, .int .i64 0, .int .i64 0, .int .i64 0, .int .i64 0, .string { data := #[] }, .slice none 0 0] 36 (0, 0))) (x0 y0 x1 y1 : Int) (D : Option Addr) (dn dc : Nat) (ad : Addr) (hA : A = some ad) (f0 : w.cell? ad = some (.iface 26 (.agg #[.int .i64 (x0), .int .i64 (y0), .int .i64 (x1), .int .i64 (y1)]))) (f1 : w.cell? ⟨ad.block, ad.off + 1, none⟩ = some (.iface 22 (.slice D dn dc))) (hne : ad.block ≠ g) (hl : ad.block < w.heap.size) : Calls Tryd.prog 43 #[.pointer (some ⟨g, 0, none⟩), .slice A 2 c] w (FilP w g op id 0 0 x0 y0 x1 y1 { data := #[] } (.slice D dn dc)) := by
  subst hA
  (have q2 := (blk_cell hB 2).trans rfl; have q3 := (blk_cell hB 3).trans rfl; have q4 := (blk_cell hB 4).trans rfl; have q5 := (blk_cell hB 5).trans rfl; have q6 := (blk_cell hB 6).trans rfl; have q7 := (blk_cell hB 7).trans rfl; have q8 := (blk_cell hB 8).trans rfl; have q9 := (blk_cell hB 9).trans rfl; have z2 := blk_frozen hB 2; have z3 := blk_frozen hB 3; have z4 := blk_frozen hB 4; have z5 := blk_frozen hB 5; have z6 := blk_frozen hB 6; have z7 := blk_frozen hB 7; have z8 := blk_frozen hB 8; have z9 := blk_frozen hB 9; have hgl := heap_lt hB; have HB := Lib.hid hB; clear hB)
  (go_enter Tryd.func43, Tryd.ntmps43; go_wp2; refine wp_loop_rounds 3 ?_; (repeat (rw [rounds_succ]; go_wp2)))
  (refine bodyPost_end (v := .tuple #[]) (by simp [results, Tryd.results43, go_sem]) rfl ⟨rfl, ?_, ?_⟩)
  · exact blk_alloc (blk_set (blk_set (blk_set (blk_set (blk_set HB.out 4 _) 5 _) 6 _) 7 _) 9 _) _
  · exact ((((grown_set.trans grown_set).trans grown_set).trans grown_set).trans grown_set).trans (World.grownBy_alloc _ _ _)
end Go.Proofs.YtinnaiofgbjicaaDoor
