/- The document's message of bytes, walked. -/
import Derived.Test.YtinnaiofgbjicaaDoorReqC
namespace Go.Proofs.YtinnaiofgbjicaaDoor
open Go.RowKit Go.Proofs.YtinnaiofgbjicaaDoorW.PrintWords
set_option linter.unusedSimpArgs false
set_option linter.unusedVariables false
set_option maxRecDepth 1000000
theorem bs_cells {w : World} {A : Option Addr} {b : List Int} {c : Nat} (hs : BS w A b c) (h : 0 < b.length) : ∃ ad, A = some ad ∧ ad.block < w.heap.size ∧ ∀ j, j < b.length → w.cell? (ad.add j) = some (.int .u8 (b.getD j 0)) := by
  obtain ⟨ad, e, hc⟩ := hs.rd.2.2 h
  exact ⟨ad, e, by have := lt_of_cell (hc 0 h); rwa [add_blk] at this, hc⟩
set_option maxHeartbeats 2000000 in
theorem ref_ReadE (A : Option Addr) (b : List Int) (c : Nat) (w : World) (hs : BS w A b c) (h : 2 ≤ b.length) (i : Int) (hi : ((numH b < 7 ∨ 4103 < numH b) ∧ i = 2) ∨ (7 ≤ numH b ∧ numH b ≤ 4103 ∧ (b.length : Int) < numH b ∧ i = 3)) : Calls Tryd.prog 89 #[.slice A b.length c] w (RdP w (fun g => ∃ ad, A = some ad ∧ g = ad.block) (.inl i)) := by
  obtain ⟨ad, rfl, hlo, hcell⟩ := bs_cells hs (by omega)
  have W0 : Below w.heap.size w (w.alloc (.cells #[.int .i64 0, .int .i64 0, .slice none 0 0] 24)) := by (repeat (first | (with_reducible exact Below.refl _ _) | ((with_reducible refine Below.alloc ?_ ?hB _); (case hB => (first | omega | (simp; done) | (simp; omega)))) | ((with_reducible refine Below.setCell ?_ ?hB _); (case hB => (first | omega | (simp; done) | (simp; omega)))) | (with_reducible refine Below.drew ?_) | ((with_reducible refine below_ext_of ?_ ?hB); (case hB => (first | omega | (simp; done) | (simp; omega)))) | ((with_reducible refine Below.trans ?_ (Below.mono (by assumption) ?hB)); (case hB => (first | omega | (simp; done) | (simp; omega))))))
  have g0 : ∀ x, (ext (w.alloc (.cells #[.int .i64 0, .int .i64 0, .slice none 0 0] 24)) x).cell? ad = some (.int .u8 (b.getD 0 0)) := fun x => pw_cell_below (below_ext _ x) (pw_cell_below W0 (by have := hcell 0 (by omega); simpa [Addr.add] using this))
  have g1 : ∀ x, (ext (w.alloc (.cells #[.int .i64 0, .int .i64 0, .slice none 0 0] 24)) x).cell? { ad with off := ad.off + 1, spot := none } = some (.int .u8 (b.getD 1 0)) := fun x => pw_cell_below (below_ext _ x) (pw_cell_below W0 (hcell 1 (by omega)))
  have y0 := hs.byt.at_ 0; have y1 := hs.byt.at_ 1
  have hN : numH b = b.getD 0 0 * 256 + b.getD 1 0 := rfl
  rw [hN] at hi
  generalize b.getD 0 0 = z0 at *; generalize b.getD 1 0 = z1 at *
  obtain ⟨a0, b0⟩ := y0; obtain ⟨a1, b1⟩ := y1
  have e1 : IntKind.i64.wrap (z0 * 256) = z0 * 256 := by rw [IntKind.wrap_i64]; omega
  have e2 : IntKind.i64.wrap (z0 * 256 + z1) = z0 * 256 + z1 := by rw [IntKind.wrap_i64]; omega
  clear hcell hs W0 hN
  rcases hi with ⟨h7 | h7, rfl⟩ | ⟨h7, h8, h9, rfl⟩
  · go_enter Tryd.func89, Tryd.ntmps89
    go_wp2_with fail
    (refine wp_region_ext_lit (by kernel_rfl) (by kernel_rfl) ?_; (repeat (go_big_quiet_step ((fail)))); refine wpQuiet_nil ?_; intro w1 hb_w1; obtain ⟨hc_w1, hf_w1⟩ := bcell hb_w1; have hz_w1 := hb_w1.size; (try simp only [World.size_alloc, World.size_setCell, World.size_drew] at hz_w1))
    clear g0 g1 e1 e2
    go_wp2
    refine bodyPost_ret (v := .tuple #[(.agg #[.int .i64 (0), .int .i64 (0), .slice (none) (0) (0)]), .int .i64 0, .int .i64 2]) (by simp [results, Tryd.results89, go_sem, ↓IntWalk.iteOmega, *]) rfl ?_
    exact ⟨rfl, by (repeat (first | (with_reducible exact Below.refl _ _) | ((with_reducible refine Below.alloc ?_ ?hB _); (case hB => (first | omega | (simp; done) | (simp; omega)))) | ((with_reducible refine Below.setCell ?_ ?hB _); (case hB => (first | omega | (simp; done) | (simp; omega)))) | (with_reducible refine Below.drew ?_) | ((with_reducible refine below_ext_of ?_ ?hB); (case hB => (first | omega | (simp; done) | (simp; omega)))) | ((with_reducible refine Below.trans ?_ (Below.mono (by assumption) ?hB)); (case hB => (first | omega | (simp; done) | (simp; omega))))))⟩
  · have h7' : ¬ z0 * 256 + z1 < 7 := by omega
    go_enter Tryd.func89, Tryd.ntmps89
    go_wp2_with fail
    (refine wp_region_ext_lit (by kernel_rfl) (by kernel_rfl) ?_; (repeat (go_big_quiet_step ((fail)))); refine wpQuiet_nil ?_; intro w1 hb_w1; obtain ⟨hc_w1, hf_w1⟩ := bcell hb_w1; have hz_w1 := hb_w1.size; (try simp only [World.size_alloc, World.size_setCell, World.size_drew] at hz_w1))
    clear g0 g1 e1 e2
    go_wp2
    refine bodyPost_ret (v := .tuple #[(.agg #[.int .i64 (0), .int .i64 (0), .slice (none) (0) (0)]), .int .i64 0, .int .i64 2]) (by simp [results, Tryd.results89, go_sem, ↓IntWalk.iteOmega, *]) rfl ?_
    exact ⟨rfl, by (repeat (first | (with_reducible exact Below.refl _ _) | ((with_reducible refine Below.alloc ?_ ?hB _); (case hB => (first | omega | (simp; done) | (simp; omega)))) | ((with_reducible refine Below.setCell ?_ ?hB _); (case hB => (first | omega | (simp; done) | (simp; omega)))) | (with_reducible refine Below.drew ?_) | ((with_reducible refine below_ext_of ?_ ?hB); (case hB => (first | omega | (simp; done) | (simp; omega)))) | ((with_reducible refine Below.trans ?_ (Below.mono (by assumption) ?hB)); (case hB => (first | omega | (simp; done) | (simp; omega))))))⟩
  · have h7' : ¬ z0 * 256 + z1 < 7 := by omega
    have h8' : ¬ z0 * 256 + z1 > 4103 := by omega
    go_enter Tryd.func89, Tryd.ntmps89
    go_wp2_with fail
    (refine wp_region_ext_lit (by kernel_rfl) (by kernel_rfl) ?_; (repeat (go_big_quiet_step ((fail)))); refine wpQuiet_nil ?_; intro w1 hb_w1; obtain ⟨hc_w1, hf_w1⟩ := bcell hb_w1; have hz_w1 := hb_w1.size; (try simp only [World.size_alloc, World.size_setCell, World.size_drew] at hz_w1))
    clear g0 g1 e1 e2
    go_wp2
    refine bodyPost_ret (v := .tuple #[(.agg #[.int .i64 (0), .int .i64 (0), .slice (none) (0) (0)]), .int .i64 0, .int .i64 3]) (by simp [results, Tryd.results89, go_sem, ↓IntWalk.iteOmega, *]) rfl ?_
    exact ⟨rfl, by (repeat (first | (with_reducible exact Below.refl _ _) | ((with_reducible refine Below.alloc ?_ ?hB _); (case hB => (first | omega | (simp; done) | (simp; omega)))) | ((with_reducible refine Below.setCell ?_ ?hB _); (case hB => (first | omega | (simp; done) | (simp; omega)))) | (with_reducible refine Below.drew ?_) | ((with_reducible refine below_ext_of ?_ ?hB); (case hB => (first | omega | (simp; done) | (simp; omega)))) | ((with_reducible refine Below.trans ?_ (Below.mono (by assumption) ?hB)); (case hB => (first | omega | (simp; done) | (simp; omega))))))⟩
theorem BS.drop {w : World} {ad : Addr} {b : List Int} {c : Nat} (h : BS w (some ad) b c) (n : Nat) (hn : n ≤ b.length) : BS w (some (ad.add n)) (b.drop n) (c - n) := by
  have := h.le
  have := h.max
  have hl : (b.drop n).length = b.length - n := List.length_drop
  exact ⟨by omega, (fun e => by cases e), by omega, by rw [hl]; exact reads_drop h.rd hn, h.byt.drop n⟩
theorem BS.drew' {w : World} {A : Option Addr} {b : List Int} {c : Nat} (h : BS w A b c) : BS w.drew A b c := h.below ((Below.refl _ _).drew)
set_option maxHeartbeats 4000000 in
theorem ref_ReadOk (A : Option Addr) (b : List Int) (c k : Nat) (w : World) (hs : BS w A b c) (h : 2 ≤ b.length) (hk : numH b = (k : Int)) (h7 : 7 ≤ k) (h8 : k ≤ 4103) (hkl : k ≤ b.length) : Calls Tryd.prog 89 #[.slice A b.length c] w (RdP w (fun g => ∃ ad, A = some ad ∧ g = ad.block) (.inr (⟨b.getD 2 0, numU (b.drop 3), (b.take k).drop 7⟩, k))) := by
  obtain ⟨ad, rfl, hlo, hcell⟩ := bs_cells hs (by omega)
  have HC := Lib.hid hcell
  have W0 : Below w.heap.size w (w.alloc (.cells #[.int .i64 0, .int .i64 0, .slice none 0 0] 24)) := by (repeat (first | (with_reducible exact Below.refl _ _) | ((with_reducible refine Below.alloc ?_ ?hB _); (case hB => (first | omega | (simp; done) | (simp; omega)))) | ((with_reducible refine Below.setCell ?_ ?hB _); (case hB => (first | omega | (simp; done) | (simp; omega)))) | (with_reducible refine Below.drew ?_) | ((with_reducible refine below_ext_of ?_ ?hB); (case hB => (first | omega | (simp; done) | (simp; omega)))) | ((with_reducible refine Below.trans ?_ (Below.mono (by assumption) ?hB)); (case hB => (first | omega | (simp; done) | (simp; omega))))))
  have g0 : ∀ x, (ext (w.alloc (.cells #[.int .i64 0, .int .i64 0, .slice none 0 0] 24)) x).cell? ad = some (.int .u8 (b.getD 0 0)) := fun x => pw_cell_below (below_ext _ x) (pw_cell_below W0 (by have := hcell 0 (by omega); simpa [Addr.add] using this))
  have g1 : ∀ x, (ext (w.alloc (.cells #[.int .i64 0, .int .i64 0, .slice none 0 0] 24)) x).cell? { ad with off := ad.off + 1, spot := none } = some (.int .u8 (b.getD 1 0)) := fun x => pw_cell_below (below_ext _ x) (pw_cell_below W0 (hcell 1 (by omega)))
  have y0 := hs.byt.at_ 0; have y1 := hs.byt.at_ 1; have y2 := hs.byt.at_ 2; have y3 := hs.byt.at_ 3; have y4 := hs.byt.at_ 4; have y5 := hs.byt.at_ 5; have y6 := hs.byt.at_ 6
  have C2 : w.cell? { ad with off := ad.off + 2, spot := none } = some (.int .u8 (b.getD 2 0)) := HC.out 2 (by omega)
  have C3 : w.cell? { ad with off := ad.off + 3, spot := none } = some (.int .u8 (b.getD 3 0)) := HC.out 3 (by omega)
  have C4 : w.cell? { ad with off := ad.off + 4, spot := none } = some (.int .u8 (b.getD 4 0)) := HC.out 4 (by omega)
  have C5 : w.cell? { ad with off := ad.off + 5, spot := none } = some (.int .u8 (b.getD 5 0)) := HC.out 5 (by omega)
  have C6 : w.cell? { ad with off := ad.off + 6, spot := none } = some (.int .u8 (b.getD 6 0)) := HC.out 6 (by omega)
  have hN : b.getD 0 0 * 256 + b.getD 1 0 = (k : Int) := hk
  have hU : numU (b.drop 3) = b.getD 3 0 * 16777216 + b.getD 4 0 * 65536 + b.getD 5 0 * 256 + b.getD 6 0 := numU_at b 3
  have hBB := (hs.take k hkl)
  have hlk : (b.take k).length = k := by simp; omega
  have hBD := hBB.drop 7 (by omega)
  have hld : ((b.take k).drop 7).length = k - 7 := by simp; omega
  obtain ⟨bb, hbb⟩ : ∃ bb, (b.take k).drop 7 = bb := ⟨_, rfl⟩
  rw [hbb] at hBD hld ⊢
  have HBD := Lib.hid hBD
  have HLD := Lib.hid hld
  have hle := hs.le
  have hmx := hs.max
  clear hcell hs W0 hk hBB hBD hbb hlk hld HC
  generalize b.getD 0 0 = z0 at *
  generalize b.getD 1 0 = z1 at *
  generalize b.getD 2 0 = z2 at *
  generalize b.getD 3 0 = z3 at *
  generalize b.getD 4 0 = z4 at *
  generalize b.getD 5 0 = z5 at *
  generalize b.getD 6 0 = z6 at *
  generalize numU (b.drop 3) = zi at *
  have C2 := Lib.hid C2; have C3 := Lib.hid C3; have C4 := Lib.hid C4; have C5 := Lib.hid C5; have C6 := Lib.hid C6
  obtain ⟨a0, b0⟩ := y0; obtain ⟨a1, b1⟩ := y1; obtain ⟨a2, b2⟩ := y2; obtain ⟨a3, b3⟩ := y3; obtain ⟨a4, b4⟩ := y4; obtain ⟨a5, b5⟩ := y5; obtain ⟨a6, b6⟩ := y6
  have e1 : IntKind.i64.wrap (z0 * 256) = z0 * 256 := by rw [IntKind.wrap_i64]; omega
  have e2 : IntKind.i64.wrap (z0 * 256 + z1) = (k : Int) := by rw [IntKind.wrap_i64]; omega
  have HU := Lib.hid hU
  clear hN hU
  go_enter Tryd.func89, Tryd.ntmps89
  go_wp2_with fail
  (refine wp_region_ext_lit (by kernel_rfl) (by kernel_rfl) ?_; (repeat (go_big_quiet_step ((fail)))); refine wpQuiet_nil ?_; intro w1 hb_w1; obtain ⟨hc_w1, hf_w1⟩ := bcell hb_w1; have hz_w1 := hb_w1.size; (try simp only [World.size_alloc, World.size_setCell, World.size_drew] at hz_w1))
  clear g0 g1 e1 e2
  have g3 := fun x => pw_cell_below (below_ext w1 x) (pw_cell_below (show Below w.heap.size w w1 from by (repeat (first | (with_reducible exact Below.refl _ _) | ((with_reducible refine Below.alloc ?_ ?hB _); (case hB => (first | omega | (simp; done) | (simp; omega)))) | ((with_reducible refine Below.setCell ?_ ?hB _); (case hB => (first | omega | (simp; done) | (simp; omega)))) | (with_reducible refine Below.drew ?_) | ((with_reducible refine below_ext_of ?_ ?hB); (case hB => (first | omega | (simp; done) | (simp; omega)))) | ((with_reducible refine Below.trans ?_ (Below.mono (by assumption) ?hB)); (case hB => (first | omega | (simp; done) | (simp; omega))))))) (C3).out)
  have g4 := fun x => pw_cell_below (below_ext w1 x) (pw_cell_below (show Below w.heap.size w w1 from by (repeat (first | (with_reducible exact Below.refl _ _) | ((with_reducible refine Below.alloc ?_ ?hB _); (case hB => (first | omega | (simp; done) | (simp; omega)))) | ((with_reducible refine Below.setCell ?_ ?hB _); (case hB => (first | omega | (simp; done) | (simp; omega)))) | (with_reducible refine Below.drew ?_) | ((with_reducible refine below_ext_of ?_ ?hB); (case hB => (first | omega | (simp; done) | (simp; omega)))) | ((with_reducible refine Below.trans ?_ (Below.mono (by assumption) ?hB)); (case hB => (first | omega | (simp; done) | (simp; omega))))))) (C4).out)
  have g5 := fun x => pw_cell_below (below_ext w1 x) (pw_cell_below (show Below w.heap.size w w1 from by (repeat (first | (with_reducible exact Below.refl _ _) | ((with_reducible refine Below.alloc ?_ ?hB _); (case hB => (first | omega | (simp; done) | (simp; omega)))) | ((with_reducible refine Below.setCell ?_ ?hB _); (case hB => (first | omega | (simp; done) | (simp; omega)))) | (with_reducible refine Below.drew ?_) | ((with_reducible refine below_ext_of ?_ ?hB); (case hB => (first | omega | (simp; done) | (simp; omega)))) | ((with_reducible refine Below.trans ?_ (Below.mono (by assumption) ?hB)); (case hB => (first | omega | (simp; done) | (simp; omega))))))) (C5).out)
  have g6 := fun x => pw_cell_below (below_ext w1 x) (pw_cell_below (show Below w.heap.size w w1 from by (repeat (first | (with_reducible exact Below.refl _ _) | ((with_reducible refine Below.alloc ?_ ?hB _); (case hB => (first | omega | (simp; done) | (simp; omega)))) | ((with_reducible refine Below.setCell ?_ ?hB _); (case hB => (first | omega | (simp; done) | (simp; omega)))) | (with_reducible refine Below.drew ?_) | ((with_reducible refine below_ext_of ?_ ?hB); (case hB => (first | omega | (simp; done) | (simp; omega)))) | ((with_reducible refine Below.trans ?_ (Below.mono (by assumption) ?hB)); (case hB => (first | omega | (simp; done) | (simp; omega))))))) (C6).out)
  have e3 : IntKind.i64.wrap (z3 * 16777216) = z3 * 16777216 := by rw [IntKind.wrap_i64]; omega
  have e4 : IntKind.i64.wrap (z4 * 65536) = z4 * 65536 := by rw [IntKind.wrap_i64]; omega
  have e5 : IntKind.i64.wrap (z5 * 256) = z5 * 256 := by rw [IntKind.wrap_i64]; omega
  have e6 : IntKind.i64.wrap (z3 * 16777216 + z4 * 65536) = z3 * 16777216 + z4 * 65536 := by rw [IntKind.wrap_i64]; omega
  have e7 : IntKind.i64.wrap (z3 * 16777216 + z4 * 65536 + z5 * 256) = z3 * 16777216 + z4 * 65536 + z5 * 256 := by rw [IntKind.wrap_i64]; omega
  have e8 : IntKind.i64.wrap (z3 * 16777216 + z4 * 65536 + z5 * 256 + z6) = z3 * 16777216 + z4 * 65536 + z5 * 256 + z6 := by rw [IntKind.wrap_i64]; omega
  go_wp2_with fail
  (refine wp_region_ext_lit (by kernel_rfl) (by kernel_rfl) ?_; (repeat (go_big_quiet_step ((fail)))); refine wpQuiet_nil ?_; intro w2 hb_w2; obtain ⟨hc_w2, hf_w2⟩ := bcell hb_w2; have hz_w2 := hb_w2.size; (try simp only [World.size_alloc, World.size_setCell, World.size_drew] at hz_w2))
  clear g3 g4 g5 g6 e3 e4 e5 e6 e7 e8
  have g2 := pw_cell_below (show Below w.heap.size w w2 from by (repeat (first | (with_reducible exact Below.refl _ _) | ((with_reducible refine Below.alloc ?_ ?hB _); (case hB => (first | omega | (simp; done) | (simp; omega)))) | ((with_reducible refine Below.setCell ?_ ?hB _); (case hB => (first | omega | (simp; done) | (simp; omega)))) | (with_reducible refine Below.drew ?_) | ((with_reducible refine below_ext_of ?_ ?hB); (case hB => (first | omega | (simp; done) | (simp; omega)))) | ((with_reducible refine Below.trans ?_ (Below.mono (by assumption) ?hB)); (case hB => (first | omega | (simp; done) | (simp; omega))))))) C2.out
  have hlo2 : ad.block < w2.heap.size := by omega
  have hwz : IntKind.i64.wrap z2 = z2 := by rw [IntKind.wrap_i64]; omega
  by_cases hc7 : c = 7
  · have hk7 : k = 7 := by omega
    subst hc7
    have HK := Lib.hid hk7
    have k1 : k ≤ 7 := by omega
    clear hk7
    have HB0 := Lib.hid (show bb = [] from List.eq_nil_of_length_eq_zero (by have := HLD.out; have := HK.out; omega))
    go_wp2_with fail
    go_region_with (fail)
    all_goals
     go_wp2
     refine bodyPost_ret (v := .tuple #[(.agg #[.int .i64 (z2), .int .i64 ((z3 * 16777216 + z4 * 65536 + z5 * 256 + z6)), .slice ((some ad)) (0) (0)]), .int .i64 k, .int .i64 0]) (by simp [results, Tryd.results89, go_sem, ↓IntWalk.iteOmega, *]) rfl ?_
     exact ⟨some ad, 0, by rw [HLD.out, HK.out, HU.out], by rw [HB0.out]; exact ⟨Nat.le_refl _, (fun e => by cases e), by omega, reads_nil _ _, Byt.nil⟩, by (repeat (first | (with_reducible exact Below.refl _ _) | ((with_reducible refine Below.alloc ?_ ?hB _); (case hB => (first | omega | (simp; done) | (simp; omega)))) | ((with_reducible refine Below.setCell ?_ ?hB _); (case hB => (first | omega | (simp; done) | (simp; omega)))) | (with_reducible refine Below.drew ?_) | ((with_reducible refine below_ext_of ?_ ?hB); (case hB => (first | omega | (simp; done) | (simp; omega)))) | ((with_reducible refine Below.trans ?_ (Below.mono (by assumption) ?hB)); (case hB => (first | omega | (simp; done) | (simp; omega)))))), fun h => by rw [HB0.out] at h; exact absurd h (by simp)⟩
  · go_wp2_with fail
    go_region_with (fail)
    all_goals
     go_wp2
     refine bodyPost_ret (v := .tuple #[(.agg #[.int .i64 (z2), .int .i64 ((z3 * 16777216 + z4 * 65536 + z5 * 256 + z6)), .slice ((some { ad with off := ad.off + 7, spot := none })) ((k - 7)) ((c - 7))]), .int .i64 k, .int .i64 0]) (by simp [results, Tryd.results89, go_sem, ↓IntWalk.iteOmega, *]) rfl ?_
     exact ⟨some (ad.add 7), c - 7, by rw [HLD.out, HU.out]; rfl, BS.drew' (BS.set3 (HBD.out.below (show Below w.heap.size w w2 from by (repeat (first | (with_reducible exact Below.refl _ _) | ((with_reducible refine Below.alloc ?_ ?hB _); (case hB => (first | omega | (simp; done) | (simp; omega)))) | ((with_reducible refine Below.setCell ?_ ?hB _); (case hB => (first | omega | (simp; done) | (simp; omega)))) | (with_reducible refine Below.drew ?_) | ((with_reducible refine below_ext_of ?_ ?hB); (case hB => (first | omega | (simp; done) | (simp; omega)))) | ((with_reducible refine Below.trans ?_ (Below.mono (by assumption) ?hB)); (case hB => (first | omega | (simp; done) | (simp; omega)))))))) ((show Below (w.heap.size + 1) (w.alloc (.cells #[.int .i64 0, .int .i64 0, .slice none 0 0] 24)) w2 from by (repeat (first | (with_reducible exact Below.refl _ _) | ((with_reducible refine Below.alloc ?_ ?hB _); (case hB => (first | omega | (simp; done) | (simp; omega)))) | ((with_reducible refine Below.setCell ?_ ?hB _); (case hB => (first | omega | (simp; done) | (simp; omega)))) | (with_reducible refine Below.drew ?_) | ((with_reducible refine below_ext_of ?_ ?hB); (case hB => (first | omega | (simp; done) | (simp; omega)))) | ((with_reducible refine Below.trans ?_ (Below.mono (by assumption) ?hB)); (case hB => (first | omega | (simp; done) | (simp; omega))))))).block (w.heap.size) (by omega)) (heap_alloc_new _ _) _ _ _), by (repeat (first | (with_reducible exact Below.refl _ _) | ((with_reducible refine Below.alloc ?_ ?hB _); (case hB => (first | omega | (simp; done) | (simp; omega)))) | ((with_reducible refine Below.setCell ?_ ?hB _); (case hB => (first | omega | (simp; done) | (simp; omega)))) | (with_reducible refine Below.drew ?_) | ((with_reducible refine below_ext_of ?_ ?hB); (case hB => (first | omega | (simp; done) | (simp; omega)))) | ((with_reducible refine Below.trans ?_ (Below.mono (by assumption) ?hB)); (case hB => (first | omega | (simp; done) | (simp; omega)))))), fun _ a hA => ⟨ad, rfl, by injection hA with hA; rw [← hA, add_blk]⟩⟩
end Go.Proofs.YtinnaiofgbjicaaDoor
