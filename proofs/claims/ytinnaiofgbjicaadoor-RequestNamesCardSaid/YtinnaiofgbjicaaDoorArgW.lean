/- The document's numbers of bytes, walked. -/
import Derived.Test.YtinnaiofgbjicaaDoorArgV
import Derived.Test.YtinnaiofgbjicaaDoorArgK
namespace Go.Proofs.YtinnaiofgbjicaaDoor
open Go.RowKit Go.Proofs.YtinnaiofgbjicaaDoorW.PrintWords
set_option linter.unusedSimpArgs false
set_option linter.unusedVariables false
set_option maxRecDepth 1000000
theorem ref_sign (n : Int) (w : World) (h : 0 ≤ n ∧ n ≤ 4294967295) : Calls Tryd.prog 80 #[.int .i64 n] w fun e w' => e = .returned (.int .i64 (signN n)) ∧ w = w' := by
  obtain ⟨h1, h2⟩ := h
  by_cases hc : 2147483647 < n
  · have hs := Lib.hid (show signN n = n - 4294967296 from by unfold signN; rw [if_pos hc])
    go_enter Tryd.func80, Tryd.ntmps80
    go_wp2
    go_ret
    exact ⟨by rw [hs.out]; rfl, rfl⟩
  · have hs := Lib.hid (show signN n = n from by unfold signN; rw [if_neg hc])
    go_enter Tryd.func80, Tryd.ntmps80
    go_wp2
    go_ret
    exact ⟨by rw [hs.out]; rfl, rfl⟩
theorem numU_at (b : List Int) (k : Nat) : numU (b.drop k) = b.getD k 0 * 16777216 + b.getD (k + 1) 0 * 65536 + b.getD (k + 2) 0 * 256 + b.getD (k + 3) 0 := by
  unfold numU; simp only [List.getD_eq_getElem?_getD, List.getElem?_drop, Nat.add_zero]
theorem ref_num (A : Option Addr) (b : List Int) (c k : Nat) (w : World) (hb : Byt b) (hn : b.length ≤ 1000000) (hk : k + 4 ≤ b.length) (hr : ReadsInt w .u8 A b.length b) : Calls Tryd.prog 79 #[.slice A b.length c, .int .i64 k] w fun e w' => e = .returned (.int .i64 (numU (b.drop k))) ∧ Below w.heap.size w w' := by
  obtain ⟨ad, rfl, hcell⟩ := hr.2.2 (by omega)
  have g0 := fun x => pw_cell_below (below_ext w x) (hcell k (by omega))
  have g1 : ∀ x, (ext w x).cell? { ad with off := ad.off + (k + 1), spot := none } = some (.int .u8 (b.getD (k + 1) 0)) := fun x => pw_cell_below (below_ext w x) (hcell (k + 1) (by omega))
  have g2 : ∀ x, (ext w x).cell? { ad with off := ad.off + (k + 2), spot := none } = some (.int .u8 (b.getD (k + 2) 0)) := fun x => pw_cell_below (below_ext w x) (hcell (k + 2) (by omega))
  have g3 : ∀ x, (ext w x).cell? { ad with off := ad.off + (k + 3), spot := none } = some (.int .u8 (b.getD (k + 3) 0)) := fun x => pw_cell_below (below_ext w x) (hcell (k + 3) (by omega))
  have y0 := hb.at_ k; have y1 := hb.at_ (k + 1); have y2 := hb.at_ (k + 2); have y3 := hb.at_ (k + 3)
  have hN := Lib.hid (numU_at b k)
  generalize b.getD k 0 = z0 at *
  generalize b.getD (k + 1) 0 = z1 at *
  generalize b.getD (k + 2) 0 = z2 at *
  generalize b.getD (k + 3) 0 = z3 at *
  obtain ⟨a0, b0⟩ := y0; obtain ⟨a1, b1⟩ := y1; obtain ⟨a2, b2⟩ := y2; obtain ⟨a3, b3⟩ := y3
  have e1 : IntKind.i64.wrap ((k : Int) + 1) = (k : Int) + 1 := by rw [IntKind.wrap_i64]; omega
  have e2 : IntKind.i64.wrap ((k : Int) + 2) = (k : Int) + 2 := by rw [IntKind.wrap_i64]; omega
  have e3 : IntKind.i64.wrap ((k : Int) + 3) = (k : Int) + 3 := by rw [IntKind.wrap_i64]; omega
  have t1 : ((k : Int) + 1).toNat = k + 1 := by omega
  have t2 : ((k : Int) + 2).toNat = k + 2 := by omega
  have t3 : ((k : Int) + 3).toNat = k + 3 := by omega
  have n1 : (0 : Int) ≤ (k : Int) + 1 := by omega
  have n2 : (0 : Int) ≤ (k : Int) + 2 := by omega
  have n3 : (0 : Int) ≤ (k : Int) + 3 := by omega
  have l0 : k < b.length := by omega
  have l1 : k + 1 < b.length := by omega
  have l2 : k + 2 < b.length := by omega
  have l3 : k + 3 < b.length := by omega
  clear hcell hr hb
  go_enter Tryd.func79, Tryd.ntmps79
  go_wp2_with fail
  (refine wp_region_ext_lit (by kernel_rfl) (by kernel_rfl) ?_; (repeat (go_big_quiet_step ((fail)))); refine wpQuiet_nil ?_; intro w1 hb_w1; obtain ⟨hc_w1, hf_w1⟩ := bcell hb_w1; have hz_w1 := hb_w1.size; (try simp only [World.size_alloc, World.size_setCell, World.size_drew] at hz_w1))
  clear g0 g1 g2 g3 e1 e2 e3 t1 t2 t3
  go_wp2
  go_ret
  exact ⟨by rw [hN.out]; rfl, hb_w1⟩
end Go.Proofs.YtinnaiofgbjicaaDoor
