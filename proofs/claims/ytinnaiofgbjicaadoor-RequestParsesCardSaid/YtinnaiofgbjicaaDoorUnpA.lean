/- The document's numbers of bytes, walked. -/
import Derived.Test.YtinnaiofgbjicaaDoorArgV
import Derived.Test.YtinnaiofgbjicaaDoorArgM
import Derived.Test.YtinnaiofgbjicaaDoorArgQ
import Derived.Test.YtinnaiofgbjicaaDoorArgPack
namespace Go.Proofs.YtinnaiofgbjicaaDoor
open Go.RowKit Go.Proofs.YtinnaiofgbjicaaDoorW.PrintWords
set_option linter.unusedSimpArgs false
set_option linter.unusedVariables false
set_option maxRecDepth 1000000
theorem ref_sign (n : Int) (w : World) (h : 0 ≤ n ∧ n ≤ 4294967295) : Calls Tryd.prog 80 #[.int .i64 n] w fun e w' => e = .returned (.int .i64 (signN n)) ∧ w = w' := by
  obtain ⟨h1, h2⟩ := h
  by_cases hc : 2147483647 < n
  · have hs := Lib.hid (show signN n = n - 4294967296 from by unfold signN; rw [if_pos hc])
    go_enter Tryd.func80, Tryd.ntmps80
    go_wp2
    go_ret
    exact ⟨by rw [hs.out]; rfl, rfl⟩
  · have hs := Lib.hid (show signN n = n from by unfold signN; rw [if_neg hc])
    go_enter Tryd.func80, Tryd.ntmps80
    go_wp2
    go_ret
    exact ⟨by rw [hs.out]; rfl, rfl⟩
theorem numU_at (b : List Int) (k : Nat) : numU (b.drop k) = b.getD k 0 * 16777216 + b.getD (k + 1) 0 * 65536 + b.getD (k + 2) 0 * 256 + b.getD (k + 3) 0 := by
  unfold numU; simp only [List.getD_eq_getElem?_getD, List.getElem?_drop, Nat.add_zero]
theorem ref_num (A : Option Addr) (b : List Int) (c k : Nat) (w : World) (hb : Byt b) (hn : b.length ≤ 1000000) (hk : k + 4 ≤ b.length) (hr : ReadsInt w .u8 A b.length b) : Calls Tryd.prog 79 #[.slice A b.length c, .int .i64 k] w fun e w' => e = .returned (.int .i64 (numU (b.drop k))) ∧ Below w.heap.size w w' := by
  obtain ⟨ad, rfl, hcell⟩ := hr.2.2 (by omega)
  have g0 := fun x => pw_cell_below (below_ext w x) (hcell k (by omega))
  have g1 : ∀ x, (ext w x).cell? { ad with off := ad.off + (k + 1), spot := none } = some (.int .u8 (b.getD (k + 1) 0)) := fun x => pw_cell_below (below_ext w x) (hcell (k + 1) (by omega))
  have g2 : ∀ x, (ext w x).cell? { ad with off := ad.off + (k + 2), spot := none } = some (.int .u8 (b.getD (k + 2) 0)) := fun x => pw_cell_below (below_ext w x) (hcell (k + 2) (by omega))
  have g3 : ∀ x, (ext w x).cell? { ad with off := ad.off + (k + 3), spot := none } = some (.int .u8 (b.getD (k + 3) 0)) := fun x => pw_cell_below (below_ext w x) (hcell (k + 3) (by omega))
  have y0 := hb.at_ k; have y1 := hb.at_ (k + 1); have y2 := hb.at_ (k + 2); have y3 := hb.at_ (k + 3)
  have hN := Lib.hid (numU_at b k)
  generalize b.getD k 0 = z0 at *
  generalize b.getD (k + 1) 0 = z1 at *
  generalize b.getD (k + 2) 0 = z2 at *
  generalize b.getD (k + 3) 0 = z3 at *
  obtain ⟨a0, b0⟩ := y0; obtain ⟨a1, b1⟩ := y1; obtain ⟨a2, b2⟩ := y2; obtain ⟨a3, b3⟩ := y3
  have e1 : IntKind.i64.wrap ((k : Int) + 1) = (k : Int) + 1 := by rw [IntKind.wrap_i64]; omega
  have e2 : IntKind.i64.wrap ((k : Int) + 2) = (k : Int) + 2 := by rw [IntKind.wrap_i64]; omega
  have e3 : IntKind.i64.wrap ((k : Int) + 3) = (k : Int) + 3 := by rw [IntKind.wrap_i64]; omega
  have t1 : ((k : Int) + 1).toNat = k + 1 := by omega
  have t2 : ((k : Int) + 2).toNat = k + 2 := by omega
  have t3 : ((k : Int) + 3).toNat = k + 3 := by omega
  have n1 : (0 : Int) ≤ (k : Int) + 1 := by omega
  have n2 : (0 : Int) ≤ (k : Int) + 2 := by omega
  have n3 : (0 : Int) ≤ (k : Int) + 3 := by omega
  have l0 : k < b.length := by omega
  have l1 : k + 1 < b.length := by omega
  have l2 : k + 2 < b.length := by omega
  have l3 : k + 3 < b.length := by omega
  clear hcell hr hb
  go_enter Tryd.func79, Tryd.ntmps79
  go_wp2_with fail
  (refine wp_region_ext_lit (by kernel_rfl) (by kernel_rfl) ?_; (repeat (go_big_quiet_step ((fail)))); refine wpQuiet_nil ?_; intro w1 hb_w1; obtain ⟨hc_w1, hf_w1⟩ := bcell hb_w1; have hz_w1 := hb_w1.size; (try simp only [World.size_alloc, World.size_setCell, World.size_drew] at hz_w1))
  clear g0 g1 g2 g3 e1 e2 e3 t1 t2 t3
  go_wp2
  go_ret
  exact ⟨by rw [hN.out]; rfl, hb_w1⟩
end Go.Proofs.YtinnaiofgbjicaaDoor
namespace Go.Proofs.YtinnaiofgbjicaaDoor
open Go.RowKit Go.Proofs.YtinnaiofgbjicaaDoorW.PrintWords
set_option linter.unusedSimpArgs false
set_option linter.unusedVariables false
set_option maxRecDepth 1000000
def RefU (w : World) (r : Int × List V8) (e : Ending) (w' : World) : Prop := ∃ v, e = .returned (.tuple #[v, .int .i64 r.1]) ∧ OwnV w w' w.heap.size v r.2 ∧ Below w.heap.size w w'
theorem RefU.err {w w' : World} {r : Int × List V8} {i : Int} (h : r = (i, [])) (hb : Below w.heap.size w w') : RefU w r (.returned (.tuple #[.slice none 0 0, .int .i64 i])) w' := by
  subst h; exact ⟨_, rfl, OwnV.nil _ _ _, hb⟩
theorem RefU.ok {w w' : World} {r : Int × List V8} {l : List V8} {v : Value} (h : r = (0, l)) (ho : OwnV w w' w.heap.size v l) (hb : Below w.heap.size w w') : RefU w r (.returned (.tuple #[v, .int .i64 0])) w' := by
  subst h; exact ⟨_, rfl, ho, hb⟩
theorem unpack_short {f : ByteArray} {b r : List Int} {l : List V8} {k : Nat} (hf : formP f = true) (hk : k < f.size) (hu : unpackFrom f b k = some (l, r)) (ho : oneP (byN f k) r = none) : unpackP f b = (3, []) := by
  unfold unpackP; rw [if_pos hf]
  have := unpackFrom_none (unpackFrom_no hu ho) (f.size - (k + 1))
  rw [show k + 1 + (f.size - (k + 1)) = f.size by omega] at this
  rw [this]
theorem one_u_no {r : List Int} {c : Int} (h : c = 105 ∨ c = 117) (hl : r.length < 4) : oneP c r = none := by
  unfold oneP
  rcases h with rfl | rfl
  · rw [if_pos rfl, if_pos hl]
  · rw [if_neg (by decide), if_pos rfl, if_pos hl]
set_option maxHeartbeats 4000000 in
theorem ref_Unpack (f : ByteArray) (A : Option Addr) (b : List Int) (c : Nat) (w : World) (hz : f.size ≤ 140737488351232) (hb : Byt b) (hn : b.length ≤ 1000000) (hc : b.length ≤ c) (hA : A = none → c = 0) (hr : ReadsInt w .u8 A b.length b) : Calls Tryd.prog 46 #[.string f, .slice A b.length c] w (RefU w (unpackP f b)) := by
  have cf := fun w => ref_Form f w hz
  cases hf : formP f
  · have hP := Lib.hid (show unpackP f b = (1, []) from by unfold unpackP; rw [if_neg (by simp [hf])])
    rw [hf] at cf
    go_enter Tryd.func46, Tryd.ntmps46
    go_wp2_with (first | (go_at_call 61; (with_reducible refine (cf _).mono ?_); rintro e w1 ⟨rfl, rfl⟩))
    go_ret2
    exact RefU.err hP.out (by (repeat (first | (with_reducible exact Below.refl _ _) | ((with_reducible refine Below.alloc ?_ ?hB _); (case hB => (first | omega | (simp; done) | (simp; omega)))) | ((with_reducible refine Below.setCell ?_ ?hB _); (case hB => (first | omega | (simp; done) | (simp; omega)))) | (with_reducible refine Below.drew ?_) | ((with_reducible refine below_ext_of ?_ ?hB); (case hB => (first | omega | (simp; done) | (simp; omega)))) | ((with_reducible refine Below.trans ?_ (Below.mono (by assumption) ?hB)); (case hB => (first | omega | (simp; done) | (simp; omega)))))))
  · have HF := Lib.hid hf
    have h8 := formP_le hf
    rw [hf] at cf
    clear hf
    go_enter Tryd.func46, Tryd.ntmps46
    go_wp2_with (first | (go_at_call 61; (with_reducible refine (cf _).mono ?_); rintro e w1 ⟨rfl, rfl⟩))
    go_loopw [7, 8, 9] (fun v a i wr => ∃ (k : Nat) (l : List V8) (at_ : Nat), k ≤ f.size ∧ i = .int .i64 k ∧ a = .int .i64 at_ ∧ at_ ≤ b.length ∧ unpackFrom f b k = some (l, b.drop at_) ∧ l.length = k ∧ OwnV w wr w.heap.size v l ∧ Below w.heap.size w wr) (fun _ _ i _ => f.size - (intOf i).toNat)
    case atStart => exact ⟨0, [], 0, by omega, rfl, rfl, by omega, rfl, rfl, OwnV.nil _ _ _, Below.refl _ _⟩
    case round =>
      obtain ⟨k, l, at_, hk, rfl, rfl, hat, hu, hlk, hown, hbr⟩ := hrel
      by_cases hlt : k < f.size
      · have it := fun w => idx_string f k hlt w
        have eb := byN_at f k hlt
        have hfa := formP_at HF.out hlt
        obtain ⟨hlet, h98⟩ := hfa
        obtain ⟨L, hL, hLn, ho, hrd⟩ := hown.row_n
        have HN : L.length ≤ 1000000 := by rw [hLn, hlk]; omega
        have HL := Lib.hid hL
        have HR := Lib.hid hrd
        have hzr := hbr.size
        have HUU := Lib.hid hu
        have HLK := Lib.hid hlk
        have HBR := Lib.hid hbr
        have HC := Lib.hid hr
        have HY := Lib.hid hb
        have hdl : (b.drop at_).length = b.length - at_ := List.length_drop
        have hbd := byN_bd f k
        clear hL hrd hLn hlk hu hown hr hb
        obtain ⟨bd1, bd2⟩ := hbd
        have cn := fun w1 (hb : Below w.heap.size w w1) (h4 : at_ + 4 ≤ b.length) => ref_num A b c at_ w1 HY.out hn h4 (HC.out.below hb)
        by_cases c105 : byN f k = 105
        · have n105 : (byN f k == 105) = true := by simp; omega
          by_cases h4 : b.length < at_ + 4
          · have HU := Lib.hid (unpack_short HF.out hlt HUU.out (one_u_no (.inl c105) (by omega)))
            clear cn hlet h98 c105
            go_wp2
            (go_ret2; exact RefU.err HU.out HBR.out)
          · have HU := Lib.hid (unpackFrom_yes HUU.out (show oneP (byN f k) (b.drop at_) = some ({ v0 with n := signN (numU (b.drop at_)) }, b.drop (at_ + 4)) from by unfold oneP; rw [if_pos c105, if_neg (by omega), List.drop_drop]))
            have hq := numU_bd (HY.out.drop at_)
            have cn := fun w1 hb => cn w1 hb (by omega)
            obtain ⟨q, hq1⟩ : ∃ q, numU (b.drop at_) = q := ⟨_, rfl⟩
            rw [hq1] at cn HU hq
            have cs := fun w1 => ref_sign q w1 hq
            have HQ : Hid (VH.reads w ⟨{ v0 with n := signN q }, none, 0⟩) := Lib.hid ⟨Nat.le_refl _, reads_nilK w none⟩
            clear hlet h98 c105 hq1
            go_wp2_with (first | (go_at_call 79; (with_reducible refine (cn _ HBR.out).mono ?_); rintro e w1 ⟨rfl, hb1⟩; have hz1 := hb1.size; clear cn) | (go_at_call 80; (with_reducible refine (cs _).mono ?_); rintro e w1 ⟨rfl, rfl⟩) | (at_builtin; refine print_append_cells (w0 := w) (w).heap.size rfl _ _ 79 81 _ 8 88 rfl Tryd.underlying79 info_v rfl (by decide) (by decide) _ _ _ ([.int .i64 0, .int .i64 (signN q), .string ⟨#[]⟩, .int .i64 0, .int .i64 0, .int .i64 0, .int .i64 0, .slice none 0 0]) rfl ?_ rfl ?_ (pw_own_below ho ?_) ?_ ?_ ?_ ?_; (focus (go_simp; done)); (focus (simp [Value.oneCell']; done)); (focus ((repeat (first | (with_reducible exact Below.refl _ _) | ((with_reducible refine Below.alloc ?_ ?hB _); (case hB => (first | omega | (simp; done) | (simp; omega)))) | ((with_reducible refine Below.setCell ?_ ?hB _); (case hB => (first | omega | (simp; done) | (simp; omega)))) | (with_reducible refine Below.drew ?_) | ((with_reducible refine below_ext_of ?_ ?hB); (case hB => (first | omega | (simp; done) | (simp; omega)))) | ((with_reducible refine Below.trans ?_ (Below.mono (by assumption) ?hB)); (case hB => (first | omega | (simp; done) | (simp; omega)))))); done)); (focus ((repeat (first | (with_reducible exact Below.refl _ _) | ((with_reducible refine Below.alloc ?_ ?hB _); (case hB => (first | omega | (simp; done) | (simp; omega)))) | ((with_reducible refine Below.setCell ?_ ?hB _); (case hB => (first | omega | (simp; done) | (simp; omega)))) | (with_reducible refine Below.drew ?_) | ((with_reducible refine below_ext_of ?_ ?hB); (case hB => (first | omega | (simp; done) | (simp; omega)))) | ((with_reducible refine Below.trans ?_ (Below.mono (by assumption) ?hB)); (case hB => (first | omega | (simp; done) | (simp; omega)))))); done)); (focus ((first | omega | (simp; done) | (simp; omega)); done)); (focus omega); intro v2 w2 hown2 hb2 _ _; have hz2 := hb2.size; (try simp only [World.size_alloc, World.size_setCell, World.size_drew] at hz2)))
            (go_roundw; (case rel => exact ⟨k + 1, l ++ [{ v0 with n := signN q }], at_ + 4, by omega, by go_num, by (first | rfl | go_num), by omega, HU.out, by have := HLK.out; simp; omega, OwnV.snoc ⟨{ v0 with n := signN q }, none, 0⟩ (by exact hown2) HL.out HR.out HQ.out, hb2⟩); (case measure => (simp [intOf]; omega)))
        · have n105 : (byN f k == 105) = false := by simp; omega
          by_cases c117 : byN f k = 117
          · have n117 : (byN f k == 117) = true := by simp; omega
            by_cases h4 : b.length < at_ + 4
            · have HU := Lib.hid (unpack_short HF.out hlt HUU.out (one_u_no (.inr c117) (by omega)))
              clear cn hlet h98 c105 c117
              go_wp2
              (go_ret2; exact RefU.err HU.out HBR.out)
            · have HU := Lib.hid (unpackFrom_yes HUU.out (show oneP (byN f k) (b.drop at_) = some ({ v0 with n := numU (b.drop at_) }, b.drop (at_ + 4)) from by unfold oneP; rw [if_neg c105, if_pos c117, if_neg (by omega), List.drop_drop]))
              have hq := numU_bd (HY.out.drop at_)
              have cn := fun w1 hb => cn w1 hb (by omega)
              obtain ⟨q, hq1⟩ : ∃ q, numU (b.drop at_) = q := ⟨_, rfl⟩
              rw [hq1] at cn HU hq
              have HQ : Hid (VH.reads w ⟨{ v0 with n := q }, none, 0⟩) := Lib.hid ⟨Nat.le_refl _, reads_nilK w none⟩
              clear hlet h98 c105 c117 hq1
              go_wp2_with (first | (go_at_call 79; (with_reducible refine (cn _ HBR.out).mono ?_); rintro e w1 ⟨rfl, hb1⟩; have hz1 := hb1.size; clear cn) | (at_builtin; refine print_append_cells (w0 := w) (w).heap.size rfl _ _ 79 81 _ 8 88 rfl Tryd.underlying79 info_v rfl (by decide) (by decide) _ _ _ ([.int .i64 0, .int .i64 q, .string ⟨#[]⟩, .int .i64 0, .int .i64 0, .int .i64 0, .int .i64 0, .slice none 0 0]) rfl ?_ rfl ?_ (pw_own_below ho ?_) ?_ ?_ ?_ ?_; (focus (go_simp; done)); (focus (simp [Value.oneCell']; done)); (focus ((repeat (first | (with_reducible exact Below.refl _ _) | ((with_reducible refine Below.alloc ?_ ?hB _); (case hB => (first | omega | (simp; done) | (simp; omega)))) | ((with_reducible refine Below.setCell ?_ ?hB _); (case hB => (first | omega | (simp; done) | (simp; omega)))) | (with_reducible refine Below.drew ?_) | ((with_reducible refine below_ext_of ?_ ?hB); (case hB => (first | omega | (simp; done) | (simp; omega)))) | ((with_reducible refine Below.trans ?_ (Below.mono (by assumption) ?hB)); (case hB => (first | omega | (simp; done) | (simp; omega)))))); done)); (focus ((repeat (first | (with_reducible exact Below.refl _ _) | ((with_reducible refine Below.alloc ?_ ?hB _); (case hB => (first | omega | (simp; done) | (simp; omega)))) | ((with_reducible refine Below.setCell ?_ ?hB _); (case hB => (first | omega | (simp; done) | (simp; omega)))) | (with_reducible refine Below.drew ?_) | ((with_reducible refine below_ext_of ?_ ?hB); (case hB => (first | omega | (simp; done) | (simp; omega)))) | ((with_reducible refine Below.trans ?_ (Below.mono (by assumption) ?hB)); (case hB => (first | omega | (simp; done) | (simp; omega)))))); done)); (focus ((first | omega | (simp; done) | (simp; omega)); done)); (focus omega); intro v2 w2 hown2 hb2 _ _; have hz2 := hb2.size; (try simp only [World.size_alloc, World.size_setCell, World.size_drew] at hz2)))
              (go_roundw; (case rel => exact ⟨k + 1, l ++ [{ v0 with n := q }], at_ + 4, by omega, by go_num, by (first | rfl | go_num), by omega, HU.out, by have := HLK.out; simp; omega, OwnV.snoc ⟨{ v0 with n := q }, none, 0⟩ (by exact hown2) HL.out HR.out HQ.out, hb2⟩); (case measure => (simp [intOf]; omega)))
          · have n117 : (byN f k == 117) = false := by simp; omega
            by_cases c115 : byN f k = 115
            · have n115 : (byN f k == 115) = true := by simp; omega
              by_cases h1 : b.length < at_ + 1
              · have HU := Lib.hid (unpack_short HF.out hlt HUU.out (show oneP (byN f k) (b.drop at_) = none from by unfold oneP; rw [if_neg c105, if_neg c117, if_pos c115, if_pos (by omega)]))
                clear cn hlet h98 c105 c117 c115
                go_wp2
                (go_ret2; exact RefU.err HU.out HBR.out)
              · obtain ⟨ad, hA1, hcell⟩ := HC.out.2.2 (by omega)
                subst hA1
                have y0 := HY.out.at_ at_
                have hd0 : (b.drop at_).getD 0 0 = b.getD at_ 0 := by rw [List.getD_eq_getElem?_getD, List.getElem?_drop, List.getD_eq_getElem?_getD]; rfl
                obtain ⟨z, hzz⟩ : ∃ z : Nat, b.getD at_ 0 = z := ⟨(b.getD at_ 0).toNat, by omega⟩
                have g0 := pw_cell_below hbr (hcell at_ (by omega))
                rw [hzz] at g0 y0 hd0
                have hone : oneP (byN f k) (b.drop at_) = if b.length < at_ + 1 + z then none else some ({ v0 with kind := 1, s := strOfNums ((b.drop (at_ + 1)).take z) }, b.drop (at_ + 1 + z)) := by
                  unfold oneP; rw [if_neg c105, if_neg c117, if_pos c115, hd0, hdl, List.drop_drop, List.drop_drop]
                  simp only [Int.toNat_natCast]
                  by_cases hq : b.length < at_ + 1 + z
                  · rw [if_pos hq, if_pos (by omega)]
                  · rw [if_neg hq, if_neg (by omega), Nat.add_assoc]
                obtain ⟨ya, yb⟩ := y0
                by_cases h2 : b.length < at_ + 1 + z
                · have HU := Lib.hid (unpack_short HF.out hlt HUU.out (hone.trans (if_pos h2)))
                  clear cn hlet h98 c105 c117 c115 hone hcell hzz hd0
                  go_wp2
                  (go_ret2; exact RefU.err HU.out HBR.out)
                · have HU := Lib.hid (unpackFrom_yes HUU.out (hone.trans (if_neg h2)))
                  have hlen : ((b.drop (at_ + 1)).take z).length = z := by simp; omega
                  obtain ⟨s, hs⟩ : ∃ s, strOfNums ((b.drop (at_ + 1)).take z) = s := ⟨_, rfl⟩
                  have HQ : Hid (VH.reads w ⟨{ v0 with kind := 1, s := s }, none, 0⟩) := Lib.hid ⟨Nat.le_refl _, reads_nilK w none⟩
                  by_cases hcc : c = at_ + 1
                  · have hz0 : z = 0 := by omega
                    subst hz0
                    subst hcc
                    rw [List.take_zero] at hs
                    have hstr : ∀ m, (convert 22 9 (.slice (some ad) 0 m)).run Tryd.prog wr = .ok (.string s) wr := fun m => by
                      have := str_reads (c := m) (reads_nilK wr (some ad)); rw [hs] at this; exact this
                    rw [List.take_zero, hs] at HU
                    clear cn hlet h98 c105 c117 c115 hone hcell hzz hd0 hs hlen
                    go_wp2_with (first | (at_builtin; refine print_append_cells (w0 := w) (w).heap.size rfl _ _ 79 81 _ 8 88 rfl Tryd.underlying79 info_v rfl (by decide) (by decide) _ _ _ ([.int .i64 1, .int .i64 0, .string s, .int .i64 0, .int .i64 0, .int .i64 0, .int .i64 0, .slice none 0 0]) rfl ?_ rfl ?_ (pw_own_below ho ?_) ?_ ?_ ?_ ?_; (focus (go_simp; done)); (focus (simp [Value.oneCell']; done)); (focus ((repeat (first | (with_reducible exact Below.refl _ _) | ((with_reducible refine Below.alloc ?_ ?hB _); (case hB => (first | omega | (simp; done) | (simp; omega)))) | ((with_reducible refine Below.setCell ?_ ?hB _); (case hB => (first | omega | (simp; done) | (simp; omega)))) | (with_reducible refine Below.drew ?_) | ((with_reducible refine below_ext_of ?_ ?hB); (case hB => (first | omega | (simp; done) | (simp; omega)))) | ((with_reducible refine Below.trans ?_ (Below.mono (by assumption) ?hB)); (case hB => (first | omega | (simp; done) | (simp; omega)))))); done)); (focus ((repeat (first | (with_reducible exact Below.refl _ _) | ((with_reducible refine Below.alloc ?_ ?hB _); (case hB => (first | omega | (simp; done) | (simp; omega)))) | ((with_reducible refine Below.setCell ?_ ?hB _); (case hB => (first | omega | (simp; done) | (simp; omega)))) | (with_reducible refine Below.drew ?_) | ((with_reducible refine below_ext_of ?_ ?hB); (case hB => (first | omega | (simp; done) | (simp; omega)))) | ((with_reducible refine Below.trans ?_ (Below.mono (by assumption) ?hB)); (case hB => (first | omega | (simp; done) | (simp; omega)))))); done)); (focus ((first | omega | (simp; done) | (simp; omega)); done)); (focus omega); intro v2 w2 hown2 hb2 _ _; have hz2 := hb2.size; (try simp only [World.size_alloc, World.size_setCell, World.size_drew] at hz2)))
                    (go_roundw; (case rel => exact ⟨k + 1, l ++ [{ v0 with kind := 1, s := s }], at_ + 1, by omega, by go_num, by (first | rfl | go_num), by omega, HU.out, by have := HLK.out; simp; omega, OwnV.snoc ⟨{ v0 with kind := 1, s := s }, none, 0⟩ (by exact hown2) HL.out HR.out HQ.out, hb2⟩); (case measure => (simp [intOf]; omega)))
                  · have hstr : ∀ m, (convert 22 9 (.slice (some { ad with off := ad.off + (at_ + 1), spot := none }) z m)).run Tryd.prog wr = .ok (.string s) wr := fun m => by
                      have := str_reads (c := m) (reads_take (reads_drop (HC.out.below hbr) (show at_ + 1 ≤ b.length by omega)) (show z ≤ b.length - (at_ + 1) by omega))
                      rw [hs] at this; exact this
                    rw [hs] at HU
                    clear cn hlet h98 c105 c117 c115 hone hcell hzz hd0 hs hlen
                    go_wp2_with (first | (at_builtin; refine print_append_cells (w0 := w) (w).heap.size rfl _ _ 79 81 _ 8 88 rfl Tryd.underlying79 info_v rfl (by decide) (by decide) _ _ _ ([.int .i64 1, .int .i64 0, .string s, .int .i64 0, .int .i64 0, .int .i64 0, .int .i64 0, .slice none 0 0]) rfl ?_ rfl ?_ (pw_own_below ho ?_) ?_ ?_ ?_ ?_; (focus (go_simp; done)); (focus (simp [Value.oneCell']; done)); (focus ((repeat (first | (with_reducible exact Below.refl _ _) | ((with_reducible refine Below.alloc ?_ ?hB _); (case hB => (first | omega | (simp; done) | (simp; omega)))) | ((with_reducible refine Below.setCell ?_ ?hB _); (case hB => (first | omega | (simp; done) | (simp; omega)))) | (with_reducible refine Below.drew ?_) | ((with_reducible refine below_ext_of ?_ ?hB); (case hB => (first | omega | (simp; done) | (simp; omega)))) | ((with_reducible refine Below.trans ?_ (Below.mono (by assumption) ?hB)); (case hB => (first | omega | (simp; done) | (simp; omega)))))); done)); (focus ((repeat (first | (with_reducible exact Below.refl _ _) | ((with_reducible refine Below.alloc ?_ ?hB _); (case hB => (first | omega | (simp; done) | (simp; omega)))) | ((with_reducible refine Below.setCell ?_ ?hB _); (case hB => (first | omega | (simp; done) | (simp; omega)))) | (with_reducible refine Below.drew ?_) | ((with_reducible refine below_ext_of ?_ ?hB); (case hB => (first | omega | (simp; done) | (simp; omega)))) | ((with_reducible refine Below.trans ?_ (Below.mono (by assumption) ?hB)); (case hB => (first | omega | (simp; done) | (simp; omega)))))); done)); (focus ((first | omega | (simp; done) | (simp; omega)); done)); (focus omega); intro v2 w2 hown2 hb2 _ _; have hz2 := hb2.size; (try simp only [World.size_alloc, World.size_setCell, World.size_drew] at hz2)))
                    (go_roundw; (case rel => exact ⟨k + 1, l ++ [{ v0 with kind := 1, s := s }], at_ + 1 + z, by omega, by go_num, by (first | rfl | go_num), by omega, HU.out, by have := HLK.out; simp; omega, OwnV.snoc ⟨{ v0 with kind := 1, s := s }, none, 0⟩ (by exact hown2) HL.out HR.out HQ.out, hb2⟩); (case measure => (simp [intOf]; omega)))
            · have n115 : (byN f k == 115) = false := by simp; omega
              by_cases c114 : byN f k = 114
              · have n114 : (byN f k == 114) = true := by simp; omega
                by_cases h16 : b.length < at_ + 16
                · have HU := Lib.hid (unpack_short HF.out hlt HUU.out (show oneP (byN f k) (b.drop at_) = none from by unfold oneP; rw [if_neg c105, if_neg c117, if_neg c115, if_pos c114, if_pos (by omega)]))
                  clear cn hlet h98 c105 c117 c115 c114
                  go_wp2
                  (go_ret2; exact RefU.err HU.out HBR.out)
                · have HU := Lib.hid (unpackFrom_yes HUU.out (show oneP (byN f k) (b.drop at_) = some ({ v0 with kind := 2, x0 := signN (numU (b.drop at_)), y0 := signN (numU (b.drop (at_ + 4))), x1 := signN (numU (b.drop (at_ + 8))), y1 := signN (numU (b.drop (at_ + 12))) }, b.drop (at_ + 16)) from by unfold oneP; rw [if_neg c105, if_neg c117, if_neg c115, if_pos c114, if_neg (by omega)]; simp only [List.drop_drop]))
                  have cm := fun w1 j (hb : Below w.heap.size w w1) (h4 : j + 4 ≤ b.length) => ref_num A b c j w1 HY.out hn h4 (HC.out.below hb)
                  have d0 := fun w1 hb => cm w1 at_ hb (by omega)
                  have d1 : ∀ w1 (hb : Below w.heap.size w w1), Calls Tryd.prog 79 #[.slice A b.length c, .int .i64 ((at_ : Int) + 4)] w1 fun e w' => e = .returned (.int .i64 (numU (b.drop (at_ + 4)))) ∧ Below w1.heap.size w1 w' := fun w1 hb => cm w1 (at_ + 4) hb (by omega)
                  have d2 : ∀ w1 (hb : Below w.heap.size w w1), Calls Tryd.prog 79 #[.slice A b.length c, .int .i64 ((at_ : Int) + 8)] w1 fun e w' => e = .returned (.int .i64 (numU (b.drop (at_ + 8)))) ∧ Below w1.heap.size w1 w' := fun w1 hb => cm w1 (at_ + 8) hb (by omega)
                  have d3 : ∀ w1 (hb : Below w.heap.size w w1), Calls Tryd.prog 79 #[.slice A b.length c, .int .i64 ((at_ : Int) + 12)] w1 fun e w' => e = .returned (.int .i64 (numU (b.drop (at_ + 12)))) ∧ Below w1.heap.size w1 w' := fun w1 hb => cm w1 (at_ + 12) hb (by omega)
                  have b0 := numU_bd (HY.out.drop at_); have b1 := numU_bd (HY.out.drop (at_ + 4)); have b2 := numU_bd (HY.out.drop (at_ + 8)); have b3 := numU_bd (HY.out.drop (at_ + 12))
                  obtain ⟨q0, hq0⟩ : ∃ q, numU (b.drop at_) = q := ⟨_, rfl⟩
                  obtain ⟨q1, hq1⟩ : ∃ q, numU (b.drop (at_ + 4)) = q := ⟨_, rfl⟩
                  obtain ⟨q2, hq2⟩ : ∃ q, numU (b.drop (at_ + 8)) = q := ⟨_, rfl⟩
                  obtain ⟨q3, hq3⟩ : ∃ q, numU (b.drop (at_ + 12)) = q := ⟨_, rfl⟩
                  rw [hq0] at d0 b0 HU; rw [hq1] at d1 b1 HU; rw [hq2] at d2 b2 HU; rw [hq3] at d3 b3 HU
                  have s0 := fun w => ref_sign q0 w b0; have s1 := fun w => ref_sign q1 w b1; have s2 := fun w => ref_sign q2 w b2; have s3 := fun w => ref_sign q3 w b3
                  have HQ : Hid (VH.reads w ⟨{ v0 with kind := 2, x0 := signN q0, y0 := signN q1, x1 := signN q2, y1 := signN q3 }, none, 0⟩) := Lib.hid ⟨Nat.le_refl _, reads_nilK w none⟩
                  generalize signN q0 = r0 at *; generalize signN q1 = r1 at *; generalize signN q2 = r2 at *; generalize signN q3 = r3 at *
                  clear hlet h98 c105 c117 c115 c114 hq0 hq1 hq2 hq3 cn cm b0 b1 b2 b3
                  go_wp2_with (first | (go_at_call 79; (with_reducible refine (d0 _ (by (repeat (first | (with_reducible exact Below.refl _ _) | ((with_reducible refine Below.alloc ?_ ?hB _); (case hB => (first | omega | (simp; done) | (simp; omega)))) | ((with_reducible refine Below.setCell ?_ ?hB _); (case hB => (first | omega | (simp; done) | (simp; omega)))) | (with_reducible refine Below.drew ?_) | ((with_reducible refine below_ext_of ?_ ?hB); (case hB => (first | omega | (simp; done) | (simp; omega)))) | ((with_reducible refine Below.trans ?_ (Below.mono (by assumption) ?hB)); (case hB => (first | omega | (simp; done) | (simp; omega)))))))).mono ?_); rintro e w5 ⟨rfl, hb5⟩; have hz5 := hb5.size; clear d0) | (go_at_call 79; (with_reducible refine (d1 _ (by (repeat (first | (with_reducible exact Below.refl _ _) | ((with_reducible refine Below.alloc ?_ ?hB _); (case hB => (first | omega | (simp; done) | (simp; omega)))) | ((with_reducible refine Below.setCell ?_ ?hB _); (case hB => (first | omega | (simp; done) | (simp; omega)))) | (with_reducible refine Below.drew ?_) | ((with_reducible refine below_ext_of ?_ ?hB); (case hB => (first | omega | (simp; done) | (simp; omega)))) | ((with_reducible refine Below.trans ?_ (Below.mono (by assumption) ?hB)); (case hB => (first | omega | (simp; done) | (simp; omega)))))))).mono ?_); rintro e w6 ⟨rfl, hb6⟩; have hz6 := hb6.size; clear d1) | (go_at_call 79; (with_reducible refine (d2 _ (by (repeat (first | (with_reducible exact Below.refl _ _) | ((with_reducible refine Below.alloc ?_ ?hB _); (case hB => (first | omega | (simp; done) | (simp; omega)))) | ((with_reducible refine Below.setCell ?_ ?hB _); (case hB => (first | omega | (simp; done) | (simp; omega)))) | (with_reducible refine Below.drew ?_) | ((with_reducible refine below_ext_of ?_ ?hB); (case hB => (first | omega | (simp; done) | (simp; omega)))) | ((with_reducible refine Below.trans ?_ (Below.mono (by assumption) ?hB)); (case hB => (first | omega | (simp; done) | (simp; omega)))))))).mono ?_); rintro e w7 ⟨rfl, hb7⟩; have hz7 := hb7.size; clear d2) | (go_at_call 79; (with_reducible refine (d3 _ (by (repeat (first | (with_reducible exact Below.refl _ _) | ((with_reducible refine Below.alloc ?_ ?hB _); (case hB => (first | omega | (simp; done) | (simp; omega)))) | ((with_reducible refine Below.setCell ?_ ?hB _); (case hB => (first | omega | (simp; done) | (simp; omega)))) | (with_reducible refine Below.drew ?_) | ((with_reducible refine below_ext_of ?_ ?hB); (case hB => (first | omega | (simp; done) | (simp; omega)))) | ((with_reducible refine Below.trans ?_ (Below.mono (by assumption) ?hB)); (case hB => (first | omega | (simp; done) | (simp; omega)))))))).mono ?_); rintro e w8 ⟨rfl, hb8⟩; have hz8 := hb8.size; clear d3) | (go_at_call 80; (with_reducible refine (s0 _).mono ?_); rintro e w1 ⟨rfl, rfl⟩) | (go_at_call 80; (with_reducible refine (s1 _).mono ?_); rintro e w1 ⟨rfl, rfl⟩) | (go_at_call 80; (with_reducible refine (s2 _).mono ?_); rintro e w1 ⟨rfl, rfl⟩) | (go_at_call 80; (with_reducible refine (s3 _).mono ?_); rintro e w1 ⟨rfl, rfl⟩) | (at_builtin; refine print_append_cells (w0 := w) (w).heap.size rfl _ _ 79 81 _ 8 88 rfl Tryd.underlying79 info_v rfl (by decide) (by decide) _ _ _ ([.int .i64 2, .int .i64 0, .string ⟨#[]⟩, .int .i64 r0, .int .i64 r1, .int .i64 r2, .int .i64 r3, .slice none 0 0]) rfl ?_ rfl ?_ (pw_own_below ho ?_) ?_ ?_ ?_ ?_; (focus (go_simp; done)); (focus (simp [Value.oneCell']; done)); (focus ((repeat (first | (with_reducible exact Below.refl _ _) | ((with_reducible refine Below.alloc ?_ ?hB _); (case hB => (first | omega | (simp; done) | (simp; omega)))) | ((with_reducible refine Below.setCell ?_ ?hB _); (case hB => (first | omega | (simp; done) | (simp; omega)))) | (with_reducible refine Below.drew ?_) | ((with_reducible refine below_ext_of ?_ ?hB); (case hB => (first | omega | (simp; done) | (simp; omega)))) | ((with_reducible refine Below.trans ?_ (Below.mono (by assumption) ?hB)); (case hB => (first | omega | (simp; done) | (simp; omega)))))); done)); (focus ((repeat (first | (with_reducible exact Below.refl _ _) | ((with_reducible refine Below.alloc ?_ ?hB _); (case hB => (first | omega | (simp; done) | (simp; omega)))) | ((with_reducible refine Below.setCell ?_ ?hB _); (case hB => (first | omega | (simp; done) | (simp; omega)))) | (with_reducible refine Below.drew ?_) | ((with_reducible refine below_ext_of ?_ ?hB); (case hB => (first | omega | (simp; done) | (simp; omega)))) | ((with_reducible refine Below.trans ?_ (Below.mono (by assumption) ?hB)); (case hB => (first | omega | (simp; done) | (simp; omega)))))); done)); (focus ((first | omega | (simp; done) | (simp; omega)); done)); (focus omega); intro v2 w2 hown2 hb2 _ _; have hz2 := hb2.size; (try simp only [World.size_alloc, World.size_setCell, World.size_drew] at hz2)))
                  (go_roundw; (case rel => exact ⟨k + 1, l ++ [{ v0 with kind := 2, x0 := r0, y0 := r1, x1 := r2, y1 := r3 }], at_ + 16, by omega, by go_num, by (first | rfl | go_num), by omega, HU.out, by have := HLK.out; simp; omega, OwnV.snoc ⟨{ v0 with kind := 2, x0 := r0, y0 := r1, x1 := r2, y1 := r3 }, none, 0⟩ (by exact hown2) HL.out HR.out HQ.out, hb2⟩); (case measure => (simp [intOf]; omega)))
              · have n114 : (byN f k == 114) = false := by simp; omega
                have hl2 : (b.drop at_).length = b.length - at_ := hdl
                have HU := Lib.hid (unpackFrom_yes HUU.out (show oneP (byN f k) (b.drop at_) = some ({ v0 with kind := 3, b := b.drop at_ }, b.drop b.length) from by unfold oneP; rw [if_neg c105, if_neg c117, if_neg c115, if_neg c114, List.drop_length]))
                cases A with
                | none =>
                  have hc0 := hA rfl
                  subst hc0
                  have hb0 : b.length ≤ 0 := hc
                  have ha0 : at_ ≤ 0 := by omega
                  have HQ : Hid (VH.reads w ⟨{ v0 with kind := 3, b := b.drop at_ }, none, 0⟩) := Lib.hid ⟨by show (b.drop at_).length ≤ _; omega, by show ReadsInt w .u8 none (b.drop at_).length (b.drop at_); rw [List.eq_nil_of_length_eq_zero (show (b.drop at_).length = 0 by omega)]; exact reads_nilK _ _⟩
                  have HE := Lib.hid (show (VH.mk { v0 with kind := 3, b := b.drop at_ } none 0).cells = [.int .i64 3, .int .i64 0, .string ⟨#[]⟩, .int .i64 0, .int .i64 0, .int .i64 0, .int .i64 0, .slice none (b.length - at_) 0] from by simp only [VH.cells, hdl]; rfl)
                  clear cn hlet h98 c105 c117 c115 c114 hdl hl2
                  go_wp2_with (first | (at_builtin; refine print_append_cells (w0 := w) (w).heap.size rfl _ _ 79 81 _ 8 88 rfl Tryd.underlying79 info_v rfl (by decide) (by decide) _ _ _ ([.int .i64 3, .int .i64 0, .string ⟨#[]⟩, .int .i64 0, .int .i64 0, .int .i64 0, .int .i64 0, .slice none (b.length - at_) 0]) rfl ?_ rfl ?_ (pw_own_below ho ?_) ?_ ?_ ?_ ?_; (focus (go_simp; done)); (focus (simp [Value.oneCell']; done)); (focus ((repeat (first | (with_reducible exact Below.refl _ _) | ((with_reducible refine Below.alloc ?_ ?hB _); (case hB => (first | omega | (simp; done) | (simp; omega)))) | ((with_reducible refine Below.setCell ?_ ?hB _); (case hB => (first | omega | (simp; done) | (simp; omega)))) | (with_reducible refine Below.drew ?_) | ((with_reducible refine below_ext_of ?_ ?hB); (case hB => (first | omega | (simp; done) | (simp; omega)))) | ((with_reducible refine Below.trans ?_ (Below.mono (by assumption) ?hB)); (case hB => (first | omega | (simp; done) | (simp; omega)))))); done)); (focus ((repeat (first | (with_reducible exact Below.refl _ _) | ((with_reducible refine Below.alloc ?_ ?hB _); (case hB => (first | omega | (simp; done) | (simp; omega)))) | ((with_reducible refine Below.setCell ?_ ?hB _); (case hB => (first | omega | (simp; done) | (simp; omega)))) | (with_reducible refine Below.drew ?_) | ((with_reducible refine below_ext_of ?_ ?hB); (case hB => (first | omega | (simp; done) | (simp; omega)))) | ((with_reducible refine Below.trans ?_ (Below.mono (by assumption) ?hB)); (case hB => (first | omega | (simp; done) | (simp; omega)))))); done)); (focus ((first | omega | (simp; done) | (simp; omega)); done)); (focus omega); intro v2 w2 hown2 hb2 _ _; have hz2 := hb2.size; (try simp only [World.size_alloc, World.size_setCell, World.size_drew] at hz2)))
                  (go_roundw; (case rel => exact ⟨k + 1, l ++ [{ v0 with kind := 3, b := b.drop at_ }], b.length, by omega, by go_num, by (first | rfl | go_num), by omega, HU.out, by have := HLK.out; simp; omega, OwnV.snoc ⟨{ v0 with kind := 3, b := b.drop at_ }, none, 0⟩ (by rw [HE.out]; exact hown2) HL.out HR.out HQ.out, hb2⟩); (case measure => (simp [intOf]; omega)))
                | some ad =>
                  by_cases hcc : c = at_
                  · subst hcc
                    have hl0 : b.length = c := by omega
                    have HQ : Hid (VH.reads w ⟨{ v0 with kind := 3, b := b.drop c }, some ad, 0⟩) := Lib.hid ⟨by show (b.drop c).length ≤ _; omega, by show ReadsInt w .u8 (some ad) (b.drop c).length (b.drop c); rw [List.eq_nil_of_length_eq_zero (show (b.drop c).length = 0 by omega)]; exact reads_nilK _ _⟩
                    have HE := Lib.hid (show (VH.mk { v0 with kind := 3, b := b.drop c } (some ad) 0).cells = [.int .i64 3, .int .i64 0, .string ⟨#[]⟩, .int .i64 0, .int .i64 0, .int .i64 0, .int .i64 0, .slice (some ad) 0 0] from by
                      have h0 : (b.drop c).length = 0 := by omega
                      simp only [VH.cells, h0]; rfl)
                    clear cn hlet h98 c105 c117 c115 c114 hdl hl2 hl0
                    go_wp2_with (first | (at_builtin; refine print_append_cells (w0 := w) (w).heap.size rfl _ _ 79 81 _ 8 88 rfl Tryd.underlying79 info_v rfl (by decide) (by decide) _ _ _ ([.int .i64 3, .int .i64 0, .string ⟨#[]⟩, .int .i64 0, .int .i64 0, .int .i64 0, .int .i64 0, .slice (some ad) 0 0]) rfl ?_ rfl ?_ (pw_own_below ho ?_) ?_ ?_ ?_ ?_; (focus (go_simp; done)); (focus (simp [Value.oneCell']; done)); (focus ((repeat (first | (with_reducible exact Below.refl _ _) | ((with_reducible refine Below.alloc ?_ ?hB _); (case hB => (first | omega | (simp; done) | (simp; omega)))) | ((with_reducible refine Below.setCell ?_ ?hB _); (case hB => (first | omega | (simp; done) | (simp; omega)))) | (with_reducible refine Below.drew ?_) | ((with_reducible refine below_ext_of ?_ ?hB); (case hB => (first | omega | (simp; done) | (simp; omega)))) | ((with_reducible refine Below.trans ?_ (Below.mono (by assumption) ?hB)); (case hB => (first | omega | (simp; done) | (simp; omega)))))); done)); (focus ((repeat (first | (with_reducible exact Below.refl _ _) | ((with_reducible refine Below.alloc ?_ ?hB _); (case hB => (first | omega | (simp; done) | (simp; omega)))) | ((with_reducible refine Below.setCell ?_ ?hB _); (case hB => (first | omega | (simp; done) | (simp; omega)))) | (with_reducible refine Below.drew ?_) | ((with_reducible refine below_ext_of ?_ ?hB); (case hB => (first | omega | (simp; done) | (simp; omega)))) | ((with_reducible refine Below.trans ?_ (Below.mono (by assumption) ?hB)); (case hB => (first | omega | (simp; done) | (simp; omega)))))); done)); (focus ((first | omega | (simp; done) | (simp; omega)); done)); (focus omega); intro v2 w2 hown2 hb2 _ _; have hz2 := hb2.size; (try simp only [World.size_alloc, World.size_setCell, World.size_drew] at hz2)))
                    (go_roundw; (case rel => exact ⟨k + 1, l ++ [{ v0 with kind := 3, b := b.drop c }], b.length, by omega, by go_num, by (first | rfl | go_num), by omega, HU.out, by have := HLK.out; simp; omega, OwnV.snoc ⟨{ v0 with kind := 3, b := b.drop c }, some ad, 0⟩ (by rw [HE.out]; exact hown2) HL.out HR.out HQ.out, hb2⟩); (case measure => (simp [intOf]; omega)))
                  · have HQ : Hid (VH.reads w ⟨{ v0 with kind := 3, b := b.drop at_ }, some (ad.add at_), c - at_⟩) := Lib.hid ⟨by show (b.drop at_).length ≤ c - at_; rw [hdl]; omega, by show ReadsInt w .u8 (some (ad.add at_)) (b.drop at_).length (b.drop at_); rw [hdl]; exact reads_drop HC.out hat⟩
                    have HE := Lib.hid (show (VH.mk { v0 with kind := 3, b := b.drop at_ } (some (ad.add at_)) (c - at_)).cells = [.int .i64 3, .int .i64 0, .string ⟨#[]⟩, .int .i64 0, .int .i64 0, .int .i64 0, .int .i64 0, .slice (some (ad.add at_)) (b.length - at_) (c - at_)] from by simp only [VH.cells, hdl]; rfl)
                    clear cn hlet h98 c105 c117 c115 c114 hdl hl2
                    go_wp2_with (first | (at_builtin; refine print_append_cells (w0 := w) (w).heap.size rfl _ _ 79 81 _ 8 88 rfl Tryd.underlying79 info_v rfl (by decide) (by decide) _ _ _ ([.int .i64 3, .int .i64 0, .string ⟨#[]⟩, .int .i64 0, .int .i64 0, .int .i64 0, .int .i64 0, .slice (some (ad.add at_)) (b.length - at_) (c - at_)]) rfl ?_ rfl ?_ (pw_own_below ho ?_) ?_ ?_ ?_ ?_; (focus (go_simp; done)); (focus (simp [Value.oneCell']; done)); (focus ((repeat (first | (with_reducible exact Below.refl _ _) | ((with_reducible refine Below.alloc ?_ ?hB _); (case hB => (first | omega | (simp; done) | (simp; omega)))) | ((with_reducible refine Below.setCell ?_ ?hB _); (case hB => (first | omega | (simp; done) | (simp; omega)))) | (with_reducible refine Below.drew ?_) | ((with_reducible refine below_ext_of ?_ ?hB); (case hB => (first | omega | (simp; done) | (simp; omega)))) | ((with_reducible refine Below.trans ?_ (Below.mono (by assumption) ?hB)); (case hB => (first | omega | (simp; done) | (simp; omega)))))); done)); (focus ((repeat (first | (with_reducible exact Below.refl _ _) | ((with_reducible refine Below.alloc ?_ ?hB _); (case hB => (first | omega | (simp; done) | (simp; omega)))) | ((with_reducible refine Below.setCell ?_ ?hB _); (case hB => (first | omega | (simp; done) | (simp; omega)))) | (with_reducible refine Below.drew ?_) | ((with_reducible refine below_ext_of ?_ ?hB); (case hB => (first | omega | (simp; done) | (simp; omega)))) | ((with_reducible refine Below.trans ?_ (Below.mono (by assumption) ?hB)); (case hB => (first | omega | (simp; done) | (simp; omega)))))); done)); (focus ((first | omega | (simp; done) | (simp; omega)); done)); (focus omega); intro v2 w2 hown2 hb2 _ _; have hz2 := hb2.size; (try simp only [World.size_alloc, World.size_setCell, World.size_drew] at hz2)))
                    (go_roundw; (case rel => exact ⟨k + 1, l ++ [{ v0 with kind := 3, b := b.drop at_ }], b.length, by omega, by go_num, by (first | rfl | go_num), by omega, HU.out, by have := HLK.out; simp; omega, OwnV.snoc ⟨{ v0 with kind := 3, b := b.drop at_ }, some (ad.add at_), c - at_⟩ (by rw [HE.out]; exact hown2) HL.out HR.out HQ.out, hb2⟩); (case measure => (simp [intOf]; omega)))
      · obtain rfl : k = f.size := by omega
        have hP : unpackP f b = if (b.drop at_).length = 0 then (0, l) else (2, []) := by unfold unpackP; rw [if_pos HF.out, hu]
        rw [List.length_drop] at hP
        have HO := Lib.hid hown
        have HBR := Lib.hid hbr
        have HP := Lib.hid hP
        clear hown hbr hP hu hlk
        by_cases h0 : b.length - at_ = 0
        · have HQ := Lib.hid (HP.out.trans (if_pos h0))
          have h1 : ¬ at_ < b.length := by omega
          clear h0
          go_wp2
          go_ret2
          exact RefU.ok HQ.out HO.out HBR.out
        · have HQ := Lib.hid (HP.out.trans (if_neg h0))
          have h1 : at_ < b.length := by omega
          clear h0
          go_wp2
          go_ret2
          exact RefU.err HQ.out HBR.out
end Go.Proofs.YtinnaiofgbjicaaDoor
namespace Go.Proofs.YtinnaiofgbjicaaDoor
open Go.RowKit Go.Proofs.YtinnaiofgbjicaaDoorW.PrintWords
set_option linter.unusedSimpArgs false
set_option linter.unusedVariables false
set_option maxRecDepth 1000000
/-- What an argument of another kind would have is not there. -/
structure Canon (x : V8) : Prop where
  k0 : ¬ x.kind = 0 → x.n = 0
  k1 : ¬ x.kind = 1 → x.s = ⟨#[]⟩
  k2 : ¬ x.kind = 2 → x.x0 = 0 ∧ x.y0 = 0 ∧ x.x1 = 0 ∧ x.y1 = 0
  k3 : ¬ x.kind = 3 → x.b = []
theorem Canon.int {x : V8} (h : Canon x) : anyInt x = x.n := by unfold anyInt; split; rfl; exact (h.k0 ‹_›).symm
theorem Canon.str {x : V8} (h : Canon x) : anyStr x = x.s := by unfold anyStr; split; rfl; exact (h.k1 ‹_›).symm
theorem Canon.rect {x : V8} (h : Canon x) : anyX x x.x0 = x.x0 ∧ anyX x x.y0 = x.y0 ∧ anyX x x.x1 = x.x1 ∧ anyX x x.y1 = x.y1 := by
  unfold anyX; split
  · exact ⟨rfl, rfl, rfl, rfl⟩
  · have := h.k2 ‹_›; omega
theorem Canon.byt {x : V8} (h : Canon x) : anyB x = x.b := by unfold anyB; split; rfl; exact (h.k3 ‹_›).symm
theorem Canon.zero : Canon v0 := ⟨fun h => rfl, fun _ => rfl, fun _ => ⟨rfl, rfl, rfl, rfl⟩, fun _ => rfl⟩
end Go.Proofs.YtinnaiofgbjicaaDoor
namespace Go.Proofs.YtinnaiofgbjicaaDoor
open Go.ChangeShapes Go.WideShapes Go.ChangeAt Go.RowKit Go.Joins Go.Proofs.YtinnaiofgbjicaaDoorW.PrintWords
set_option linter.unusedSimpArgs false
set_option linter.unusedVariables false
set_option maxRecDepth 1000000
/-- A slice of bytes, read. -/
structure BS (w : World) (A : Option Addr) (b : List Int) (c : Nat) : Prop where
  le : b.length ≤ c
  nil : A = none → c = 0
  max : c ≤ 9223372036854775807
  rd : ReadsInt w .u8 A b.length b
  byt : Byt b
theorem BS.below {w w1 : World} {A : Option Addr} {b : List Int} {c : Nat} (h : BS w A b c) (hb : Below w.heap.size w w1) : BS w1 A b c := ⟨h.le, h.nil, h.max, h.rd.below hb, h.byt⟩
theorem BS.take {w : World} {A : Option Addr} {b : List Int} {c : Nat} (h : BS w A b c) (n : Nat) (hn : n ≤ b.length) : BS w A (b.take n) c := by
  have hl : (b.take n).length = n := by simp; omega
  have := h.le
  exact ⟨by omega, h.nil, h.max, by rw [hl]; exact reads_take h.rd hn, h.byt.take n⟩
theorem open_bytes {H : Type} {enc : TypeId × Value → H} {w : World} {base b0 : Nat} {spare : Nat → Bool} {held : Bool} {r : Reach} {v : Value} {d : DataW H} {p : List MemPlace} (hv : Value.okWide Tryd.prog w r b0 22 v) (h : DataW.Trod enc Tryd.prog w base spare held 22 v d p) :
    ∃ (A : Option Addr) (b : List Int) (c : Nat), v = .slice A b.length c ∧ BS w A b c := by
  obtain ⟨a0, len0, cap0, rfl⟩ := okWide_slice Tryd.underlying22 hv
  obtain ⟨fuel, hf⟩ := h
  rcases open_ints Tryd.underlying22 Tryd.underlying5 cells_byteV hf with ⟨hcs, _⟩ | ⟨a, len, cap, zs, hcs, _, hl, hm, hz, _, hcell, hwf⟩
  · simp [Value.cells] at hcs
    obtain ⟨rfl, rfl, rfl⟩ := hcs
    exact ⟨none, [], 0, rfl, Nat.le_refl _, fun _ => rfl, by omega, ⟨rfl, by simp, fun h => by simp at h⟩, Byt.nil⟩
  · simp [Value.cells] at hcs
    obtain ⟨rfl, rfl, rfl⟩ := hcs
    have hlz : len0 ≤ zs.length := by rw [hz]; split <;> omega
    have ht : (zs.take len0).length = len0 := by simp; omega
    unfold maxLen at hm
    refine ⟨some a, zs.take len0, cap0, by rw [ht], by omega, (fun e => by cases e), by omega, ?_, fun n hn => ?_⟩
    · refine ⟨rfl, by omega, fun hp => ⟨a, rfl, fun j hj => ?_⟩⟩
      rw [ht] at hj
      rw [hcell j (by omega)]
      congr 2
      rw [List.getD_eq_getElem?_getD, List.getD_eq_getElem?_getD, List.getElem?_take, if_pos hj]
    · have := hwf n (List.mem_of_mem_take hn)
      simpa [Lit.wf, IntKind.u8] using bounds_u8 this
theorem ref_Few (A : Option Addr) (n c : Nat) (m : Nat) (w : World) (hc : n ≤ c) (hm : m ≤ 1000000) (hn : n ≤ 9223372036854775807) : Calls Tryd.prog 11 #[.slice A n c, .int .i64 m] w fun e w' => e = .returned (.slice A (min n m) c) ∧ w = w' := by
  by_cases h : m < n
  · have e := Lib.hid (show min n m = m by omega)
    have h1 : m ≤ c := by omega
    go_enter Tryd.func11, Tryd.ntmps11
    go_wp2
    go_ret
    exact ⟨by rw [e.out]; rfl, rfl⟩
  · have e := Lib.hid (show min n m = n by omega)
    go_enter Tryd.func11, Tryd.ntmps11
    go_wp2
    go_ret
    exact ⟨by rw [e.out]; rfl, rfl⟩
theorem oneP_canon {c : Int} {b r : List Int} {x : V8} (h : oneP c b = some (x, r)) : Canon x ∧ x.b.length ≤ b.length ∧ r.length ≤ b.length := by
  unfold oneP at h
  split at h
  · split at h
    · cases h
    · injection h with h; injection h with h1 h2; subst h1; subst h2
      exact ⟨⟨fun e => absurd rfl e, fun _ => rfl, fun _ => ⟨rfl, rfl, rfl, rfl⟩, fun _ => rfl⟩, by simp [v0], by simp⟩
  · split at h
    · split at h
      · cases h
      · injection h with h; injection h with h1 h2; subst h1; subst h2
        exact ⟨⟨fun e => absurd rfl e, fun _ => rfl, fun _ => ⟨rfl, rfl, rfl, rfl⟩, fun _ => rfl⟩, by simp [v0], by simp⟩
    · split at h
      · split at h
        · cases h
        · injection h with h; injection h with h1 h2; subst h1; subst h2
          exact ⟨⟨fun _ => rfl, fun e => absurd rfl e, fun _ => ⟨rfl, rfl, rfl, rfl⟩, fun _ => rfl⟩, by simp [v0], by simp⟩
      · split at h
        · split at h
          · cases h
          · injection h with h; injection h with h1 h2; subst h1; subst h2
            exact ⟨⟨fun _ => rfl, fun _ => rfl, fun e => absurd rfl e, fun _ => rfl⟩, by simp [v0], by simp⟩
        · injection h with h; injection h with h1 h2; subst h1; subst h2
          exact ⟨⟨fun _ => rfl, fun _ => rfl, fun _ => ⟨rfl, rfl, rfl, rfl⟩, fun e => absurd rfl e⟩, by simp, by simp⟩
theorem unpackFrom_canon {f : ByteArray} {b : List Int} : ∀ (k : Nat) (l : List V8) (r : List Int), unpackFrom f b k = some (l, r) → l.length = k ∧ r.length ≤ b.length ∧ ∀ x ∈ l, Canon x ∧ x.b.length ≤ b.length
  | 0, l, r, h => by injection h with h; injection h with h1 h2; subst h1; subst h2; exact ⟨rfl, Nat.le_refl _, fun x hx => by cases hx⟩
  | k + 1, l, r, h => by
    unfold unpackFrom at h
    split at h
    · cases h
    · rename_i l1 r1 h1
      split at h
      · cases h
      · rename_i x r2 h2
        injection h with h; injection h with e1 e2; subst e1; subst e2
        obtain ⟨a1, a2, a3⟩ := unpackFrom_canon k l1 r1 h1
        obtain ⟨c1, c2, c3⟩ := oneP_canon h2
        refine ⟨by simp [a1], by omega, fun y hy => ?_⟩
        rcases List.mem_append.1 hy with hy | hy
        · exact a3 y hy
        · rw [List.mem_singleton.1 hy]; exact ⟨c1, by omega⟩
theorem unpackP_canon (f : ByteArray) (b : List Int) : (unpackP f b).2.length ≤ 8 ∧ ∀ x ∈ (unpackP f b).2, Canon x ∧ x.b.length ≤ b.length := by
  unfold unpackP
  split
  · rename_i hf
    split
    · exact ⟨by simp, fun x hx => by cases hx⟩
    · rename_i l r h
      obtain ⟨a1, a2, a3⟩ := unpackFrom_canon _ _ _ h
      split
      · exact ⟨by have := formP_le hf; simp only; omega, a3⟩
      · exact ⟨by simp, fun x hx => by cases hx⟩
  · exact ⟨by simp, fun x hx => by cases hx⟩
theorem at8_mem {l : List V8} {i : Nat} (h : i < l.length) : at8 l i ∈ l := by
  unfold at8; rw [List.getD_eq_getElem?_getD, List.getElem?_eq_getElem h]; exact List.getElem_mem _
end Go.Proofs.YtinnaiofgbjicaaDoor
