/- The document's arguments of bytes, walked. -/
import Derived.Test.YtinnaiofgbjicaaDoorArgW
namespace Go.Proofs.YtinnaiofgbjicaaDoor
open Go.RowKit Go.Proofs.YtinnaiofgbjicaaDoorW.PrintWords
set_option linter.unusedSimpArgs false
set_option linter.unusedVariables false
set_option maxRecDepth 1000000
def RefU (w : World) (r : Int × List V8) (e : Ending) (w' : World) : Prop := ∃ v, e = .returned (.tuple #[v, .int .i64 r.1]) ∧ OwnV w w' w.heap.size v r.2 ∧ Below w.heap.size w w'
theorem RefU.err {w w' : World} {r : Int × List V8} {i : Int} (h : r = (i, [])) (hb : Below w.heap.size w w') : RefU w r (.returned (.tuple #[.slice none 0 0, .int .i64 i])) w' := by
  subst h; exact ⟨_, rfl, OwnV.nil _ _ _, hb⟩
theorem RefU.ok {w w' : World} {r : Int × List V8} {l : List V8} {v : Value} (h : r = (0, l)) (ho : OwnV w w' w.heap.size v l) (hb : Below w.heap.size w w') : RefU w r (.returned (.tuple #[v, .int .i64 0])) w' := by
  subst h; exact ⟨_, rfl, ho, hb⟩
theorem unpack_short {f : ByteArray} {b r : List Int} {l : List V8} {k : Nat} (hf : formP f = true) (hk : k < f.size) (hu : unpackFrom f b k = some (l, r)) (ho : oneP (byN f k) r = none) : unpackP f b = (3, []) := by
  unfold unpackP; rw [if_pos hf]
  have := unpackFrom_none (unpackFrom_no hu ho) (f.size - (k + 1))
  rw [show k + 1 + (f.size - (k + 1)) = f.size by omega] at this
  rw [this]
theorem one_u_no {r : List Int} {c : Int} (h : c = 105 ∨ c = 117) (hl : r.length < 4) : oneP c r = none := by
  unfold oneP
  rcases h with rfl | rfl
  · rw [if_pos rfl, if_pos hl]
  · rw [if_neg (by decide), if_pos rfl, if_pos hl]
set_option maxHeartbeats 4000000 in
theorem ref_Unpack (f : ByteArray) (A : Option Addr) (b : List Int) (c : Nat) (w : World) (hz : f.size ≤ 140737488351232) (hb : Byt b) (hn : b.length ≤ 1000000) (hc : b.length ≤ c) (hA : A = none → c = 0) (hr : ReadsInt w .u8 A b.length b) : Calls Tryd.prog 46 #[.string f, .slice A b.length c] w (RefU w (unpackP f b)) := by
  have cf := fun w => ref_Form f w hz
  cases hf : formP f
  · have hP := Lib.hid (show unpackP f b = (1, []) from by unfold unpackP; rw [if_neg (by simp [hf])])
    rw [hf] at cf
    go_enter Tryd.func46, Tryd.ntmps46
    go_wp2_with (first | (go_at_call 61; (with_reducible refine (cf _).mono ?_); rintro e w1 ⟨rfl, rfl⟩))
    go_ret2
    exact RefU.err hP.out (by (repeat (first | (with_reducible exact Below.refl _ _) | ((with_reducible refine Below.alloc ?_ ?hB _); (case hB => (first | omega | (simp; done) | (simp; omega)))) | ((with_reducible refine Below.setCell ?_ ?hB _); (case hB => (first | omega | (simp; done) | (simp; omega)))) | (with_reducible refine Below.drew ?_) | ((with_reducible refine below_ext_of ?_ ?hB); (case hB => (first | omega | (simp; done) | (simp; omega)))) | ((with_reducible refine Below.trans ?_ (Below.mono (by assumption) ?hB)); (case hB => (first | omega | (simp; done) | (simp; omega)))))))
  · have HF := Lib.hid hf
    have h8 := formP_le hf
    rw [hf] at cf
    clear hf
    go_enter Tryd.func46, Tryd.ntmps46
    go_wp2_with (first | (go_at_call 61; (with_reducible refine (cf _).mono ?_); rintro e w1 ⟨rfl, rfl⟩))
    go_loopw [7, 8, 9] (fun v a i wr => ∃ (k : Nat) (l : List V8) (at_ : Nat), k ≤ f.size ∧ i = .int .i64 k ∧ a = .int .i64 at_ ∧ at_ ≤ b.length ∧ unpackFrom f b k = some (l, b.drop at_) ∧ l.length = k ∧ OwnV w wr w.heap.size v l ∧ Below w.heap.size w wr) (fun _ _ i _ => f.size - (intOf i).toNat)
    case atStart => exact ⟨0, [], 0, by omega, rfl, rfl, by omega, rfl, rfl, OwnV.nil _ _ _, Below.refl _ _⟩
    case round =>
      obtain ⟨k, l, at_, hk, rfl, rfl, hat, hu, hlk, hown, hbr⟩ := hrel
      by_cases hlt : k < f.size
      · have it := fun w => idx_string f k hlt w
        have eb := byN_at f k hlt
        have hfa := formP_at HF.out hlt
        obtain ⟨hlet, h98⟩ := hfa
        obtain ⟨L, hL, hLn, ho, hrd⟩ := hown.row_n
        have HN : L.length ≤ 1000000 := by rw [hLn, hlk]; omega
        have HL := Lib.hid hL
        have HR := Lib.hid hrd
        have hzr := hbr.size
        have HUU := Lib.hid hu
        have HLK := Lib.hid hlk
        have HBR := Lib.hid hbr
        have HC := Lib.hid hr
        have HY := Lib.hid hb
        have hdl : (b.drop at_).length = b.length - at_ := List.length_drop
        have hbd := byN_bd f k
        clear hL hrd hLn hlk hu hown hr hb
        obtain ⟨bd1, bd2⟩ := hbd
        have cn := fun w1 (hb : Below w.heap.size w w1) (h4 : at_ + 4 ≤ b.length) => ref_num A b c at_ w1 HY.out hn h4 (HC.out.below hb)
        by_cases c105 : byN f k = 105
        · have n105 : (byN f k == 105) = true := by simp; omega
          by_cases h4 : b.length < at_ + 4
          · have HU := Lib.hid (unpack_short HF.out hlt HUU.out (one_u_no (.inl c105) (by omega)))
            clear cn hlet h98 c105
            go_wp2
            (go_ret2; exact RefU.err HU.out HBR.out)
          · have HU := Lib.hid (unpackFrom_yes HUU.out (show oneP (byN f k) (b.drop at_) = some ({ v0 with n := signN (numU (b.drop at_)) }, b.drop (at_ + 4)) from by unfold oneP; rw [if_pos c105, if_neg (by omega), List.drop_drop]))
            have hq := numU_bd (HY.out.drop at_)
            have cn := fun w1 hb => cn w1 hb (by omega)
            obtain ⟨q, hq1⟩ : ∃ q, numU (b.drop at_) = q := ⟨_, rfl⟩
            rw [hq1] at cn HU hq
            have cs := fun w1 => ref_sign q w1 hq
            have HQ : Hid (VH.reads w ⟨{ v0 with n := signN q }, none, 0⟩) := Lib.hid ⟨Nat.le_refl _, reads_nilK w none⟩
            clear hlet h98 c105 hq1
            go_wp2_with (first | (go_at_call 79; (with_reducible refine (cn _ HBR.out).mono ?_); rintro e w1 ⟨rfl, hb1⟩; have hz1 := hb1.size; clear cn) | (go_at_call 80; (with_reducible refine (cs _).mono ?_); rintro e w1 ⟨rfl, rfl⟩) | (at_builtin; refine print_append_cells (w0 := w) (w).heap.size rfl _ _ 79 81 _ 8 88 rfl Tryd.underlying79 info_v rfl (by decide) (by decide) _ _ _ ([.int .i64 0, .int .i64 (signN q), .string ⟨#[]⟩, .int .i64 0, .int .i64 0, .int .i64 0, .int .i64 0, .slice none 0 0]) rfl ?_ rfl ?_ (pw_own_below ho ?_) ?_ ?_ ?_ ?_; (focus (go_simp; done)); (focus (simp [Value.oneCell']; done)); (focus ((repeat (first | (with_reducible exact Below.refl _ _) | ((with_reducible refine Below.alloc ?_ ?hB _); (case hB => (first | omega | (simp; done) | (simp; omega)))) | ((with_reducible refine Below.setCell ?_ ?hB _); (case hB => (first | omega | (simp; done) | (simp; omega)))) | (with_reducible refine Below.drew ?_) | ((with_reducible refine below_ext_of ?_ ?hB); (case hB => (first | omega | (simp; done) | (simp; omega)))) | ((with_reducible refine Below.trans ?_ (Below.mono (by assumption) ?hB)); (case hB => (first | omega | (simp; done) | (simp; omega)))))); done)); (focus ((repeat (first | (with_reducible exact Below.refl _ _) | ((with_reducible refine Below.alloc ?_ ?hB _); (case hB => (first | omega | (simp; done) | (simp; omega)))) | ((with_reducible refine Below.setCell ?_ ?hB _); (case hB => (first | omega | (simp; done) | (simp; omega)))) | (with_reducible refine Below.drew ?_) | ((with_reducible refine below_ext_of ?_ ?hB); (case hB => (first | omega | (simp; done) | (simp; omega)))) | ((with_reducible refine Below.trans ?_ (Below.mono (by assumption) ?hB)); (case hB => (first | omega | (simp; done) | (simp; omega)))))); done)); (focus ((first | omega | (simp; done) | (simp; omega)); done)); (focus omega); intro v2 w2 hown2 hb2 _ _; have hz2 := hb2.size; (try simp only [World.size_alloc, World.size_setCell, World.size_drew] at hz2)))
            (go_roundw; (case rel => exact ⟨k + 1, l ++ [{ v0 with n := signN q }], at_ + 4, by omega, by go_num, by (first | rfl | go_num), by omega, HU.out, by have := HLK.out; simp; omega, OwnV.snoc ⟨{ v0 with n := signN q }, none, 0⟩ (by exact hown2) HL.out HR.out HQ.out, hb2⟩); (case measure => (simp [intOf]; omega)))
        · have n105 : (byN f k == 105) = false := by simp; omega
          by_cases c117 : byN f k = 117
          · have n117 : (byN f k == 117) = true := by simp; omega
            by_cases h4 : b.length < at_ + 4
            · have HU := Lib.hid (unpack_short HF.out hlt HUU.out (one_u_no (.inr c117) (by omega)))
              clear cn hlet h98 c105 c117
              go_wp2
              (go_ret2; exact RefU.err HU.out HBR.out)
            · have HU := Lib.hid (unpackFrom_yes HUU.out (show oneP (byN f k) (b.drop at_) = some ({ v0 with n := numU (b.drop at_) }, b.drop (at_ + 4)) from by unfold oneP; rw [if_neg c105, if_pos c117, if_neg (by omega), List.drop_drop]))
              have hq := numU_bd (HY.out.drop at_)
              have cn := fun w1 hb => cn w1 hb (by omega)
              obtain ⟨q, hq1⟩ : ∃ q, numU (b.drop at_) = q := ⟨_, rfl⟩
              rw [hq1] at cn HU hq
              have HQ : Hid (VH.reads w ⟨{ v0 with n := q }, none, 0⟩) := Lib.hid ⟨Nat.le_refl _, reads_nilK w none⟩
              clear hlet h98 c105 c117 hq1
              go_wp2_with (first | (go_at_call 79; (with_reducible refine (cn _ HBR.out).mono ?_); rintro e w1 ⟨rfl, hb1⟩; have hz1 := hb1.size; clear cn) | (at_builtin; refine print_append_cells (w0 := w) (w).heap.size rfl _ _ 79 81 _ 8 88 rfl Tryd.underlying79 info_v rfl (by decide) (by decide) _ _ _ ([.int .i64 0, .int .i64 q, .string ⟨#[]⟩, .int .i64 0, .int .i64 0, .int .i64 0, .int .i64 0, .slice none 0 0]) rfl ?_ rfl ?_ (pw_own_below ho ?_) ?_ ?_ ?_ ?_; (focus (go_simp; done)); (focus (simp [Value.oneCell']; done)); (focus ((repeat (first | (with_reducible exact Below.refl _ _) | ((with_reducible refine Below.alloc ?_ ?hB _); (case hB => (first | omega | (simp; done) | (simp; omega)))) | ((with_reducible refine Below.setCell ?_ ?hB _); (case hB => (first | omega | (simp; done) | (simp; omega)))) | (with_reducible refine Below.drew ?_) | ((with_reducible refine below_ext_of ?_ ?hB); (case hB => (first | omega | (simp; done) | (simp; omega)))) | ((with_reducible refine Below.trans ?_ (Below.mono (by assumption) ?hB)); (case hB => (first | omega | (simp; done) | (simp; omega)))))); done)); (focus ((repeat (first | (with_reducible exact Below.refl _ _) | ((with_reducible refine Below.alloc ?_ ?hB _); (case hB => (first | omega | (simp; done) | (simp; omega)))) | ((with_reducible refine Below.setCell ?_ ?hB _); (case hB => (first | omega | (simp; done) | (simp; omega)))) | (with_reducible refine Below.drew ?_) | ((with_reducible refine below_ext_of ?_ ?hB); (case hB => (first | omega | (simp; done) | (simp; omega)))) | ((with_reducible refine Below.trans ?_ (Below.mono (by assumption) ?hB)); (case hB => (first | omega | (simp; done) | (simp; omega)))))); done)); (focus ((first | omega | (simp; done) | (simp; omega)); done)); (focus omega); intro v2 w2 hown2 hb2 _ _; have hz2 := hb2.size; (try simp only [World.size_alloc, World.size_setCell, World.size_drew] at hz2)))
              (go_roundw; (case rel => exact ⟨k + 1, l ++ [{ v0 with n := q }], at_ + 4, by omega, by go_num, by (first | rfl | go_num), by omega, HU.out, by have := HLK.out; simp; omega, OwnV.snoc ⟨{ v0 with n := q }, none, 0⟩ (by exact hown2) HL.out HR.out HQ.out, hb2⟩); (case measure => (simp [intOf]; omega)))
          · have n117 : (byN f k == 117) = false := by simp; omega
            by_cases c115 : byN f k = 115
            · have n115 : (byN f k == 115) = true := by simp; omega
              by_cases h1 : b.length < at_ + 1
              · have HU := Lib.hid (unpack_short HF.out hlt HUU.out (show oneP (byN f k) (b.drop at_) = none from by unfold oneP; rw [if_neg c105, if_neg c117, if_pos c115, if_pos (by omega)]))
                clear cn hlet h98 c105 c117 c115
                go_wp2
                (go_ret2; exact RefU.err HU.out HBR.out)
              · obtain ⟨ad, hA1, hcell⟩ := HC.out.2.2 (by omega)
                subst hA1
                have y0 := HY.out.at_ at_
                have hd0 : (b.drop at_).getD 0 0 = b.getD at_ 0 := by rw [List.getD_eq_getElem?_getD, List.getElem?_drop, List.getD_eq_getElem?_getD]; rfl
                obtain ⟨z, hzz⟩ : ∃ z : Nat, b.getD at_ 0 = z := ⟨(b.getD at_ 0).toNat, by omega⟩
                have g0 := pw_cell_below hbr (hcell at_ (by omega))
                rw [hzz] at g0 y0 hd0
                have hone : oneP (byN f k) (b.drop at_) = if b.length < at_ + 1 + z then none else some ({ v0 with kind := 1, s := strOfNums ((b.drop (at_ + 1)).take z) }, b.drop (at_ + 1 + z)) := by
                  unfold oneP; rw [if_neg c105, if_neg c117, if_pos c115, hd0, hdl, List.drop_drop, List.drop_drop]
                  simp only [Int.toNat_natCast]
                  by_cases hq : b.length < at_ + 1 + z
                  · rw [if_pos hq, if_pos (by omega)]
                  · rw [if_neg hq, if_neg (by omega), Nat.add_assoc]
                obtain ⟨ya, yb⟩ := y0
                by_cases h2 : b.length < at_ + 1 + z
                · have HU := Lib.hid (unpack_short HF.out hlt HUU.out (hone.trans (if_pos h2)))
                  clear cn hlet h98 c105 c117 c115 hone hcell hzz hd0
                  go_wp2
                  (go_ret2; exact RefU.err HU.out HBR.out)
                · have HU := Lib.hid (unpackFrom_yes HUU.out (hone.trans (if_neg h2)))
                  have hlen : ((b.drop (at_ + 1)).take z).length = z := by simp; omega
                  obtain ⟨s, hs⟩ : ∃ s, strOfNums ((b.drop (at_ + 1)).take z) = s := ⟨_, rfl⟩
                  have HQ : Hid (VH.reads w ⟨{ v0 with kind := 1, s := s }, none, 0⟩) := Lib.hid ⟨Nat.le_refl _, reads_nilK w none⟩
                  by_cases hcc : c = at_ + 1
                  · have hz0 : z = 0 := by omega
                    subst hz0
                    subst hcc
                    rw [List.take_zero] at hs
                    have hstr : ∀ m, (convert 22 9 (.slice (some ad) 0 m)).run Tryd.prog wr = .ok (.string s) wr := fun m => by
                      have := str_reads (c := m) (reads_nilK wr (some ad)); rw [hs] at this; exact this
                    rw [List.take_zero, hs] at HU
                    clear cn hlet h98 c105 c117 c115 hone hcell hzz hd0 hs hlen
                    go_wp2_with (first | (at_builtin; refine print_append_cells (w0 := w) (w).heap.size rfl _ _ 79 81 _ 8 88 rfl Tryd.underlying79 info_v rfl (by decide) (by decide) _ _ _ ([.int .i64 1, .int .i64 0, .string s, .int .i64 0, .int .i64 0, .int .i64 0, .int .i64 0, .slice none 0 0]) rfl ?_ rfl ?_ (pw_own_below ho ?_) ?_ ?_ ?_ ?_; (focus (go_simp; done)); (focus (simp [Value.oneCell']; done)); (focus ((repeat (first | (with_reducible exact Below.refl _ _) | ((with_reducible refine Below.alloc ?_ ?hB _); (case hB => (first | omega | (simp; done) | (simp; omega)))) | ((with_reducible refine Below.setCell ?_ ?hB _); (case hB => (first | omega | (simp; done) | (simp; omega)))) | (with_reducible refine Below.drew ?_) | ((with_reducible refine below_ext_of ?_ ?hB); (case hB => (first | omega | (simp; done) | (simp; omega)))) | ((with_reducible refine Below.trans ?_ (Below.mono (by assumption) ?hB)); (case hB => (first | omega | (simp; done) | (simp; omega)))))); done)); (focus ((repeat (first | (with_reducible exact Below.refl _ _) | ((with_reducible refine Below.alloc ?_ ?hB _); (case hB => (first | omega | (simp; done) | (simp; omega)))) | ((with_reducible refine Below.setCell ?_ ?hB _); (case hB => (first | omega | (simp; done) | (simp; omega)))) | (with_reducible refine Below.drew ?_) | ((with_reducible refine below_ext_of ?_ ?hB); (case hB => (first | omega | (simp; done) | (simp; omega)))) | ((with_reducible refine Below.trans ?_ (Below.mono (by assumption) ?hB)); (case hB => (first | omega | (simp; done) | (simp; omega)))))); done)); (focus ((first | omega | (simp; done) | (simp; omega)); done)); (focus omega); intro v2 w2 hown2 hb2 _ _; have hz2 := hb2.size; (try simp only [World.size_alloc, World.size_setCell, World.size_drew] at hz2)))
                    (go_roundw; (case rel => exact ⟨k + 1, l ++ [{ v0 with kind := 1, s := s }], at_ + 1, by omega, by go_num, by (first | rfl | go_num), by omega, HU.out, by have := HLK.out; simp; omega, OwnV.snoc ⟨{ v0 with kind := 1, s := s }, none, 0⟩ (by exact hown2) HL.out HR.out HQ.out, hb2⟩); (case measure => (simp [intOf]; omega)))
                  · have hstr : ∀ m, (convert 22 9 (.slice (some { ad with off := ad.off + (at_ + 1), spot := none }) z m)).run Tryd.prog wr = .ok (.string s) wr := fun m => by
                      have := str_reads (c := m) (reads_take (reads_drop (HC.out.below hbr) (show at_ + 1 ≤ b.length by omega)) (show z ≤ b.length - (at_ + 1) by omega))
                      rw [hs] at this; exact this
                    rw [hs] at HU
                    clear cn hlet h98 c105 c117 c115 hone hcell hzz hd0 hs hlen
                    go_wp2_with (first | (at_builtin; refine print_append_cells (w0 := w) (w).heap.size rfl _ _ 79 81 _ 8 88 rfl Tryd.underlying79 info_v rfl (by decide) (by decide) _ _ _ ([.int .i64 1, .int .i64 0, .string s, .int .i64 0, .int .i64 0, .int .i64 0, .int .i64 0, .slice none 0 0]) rfl ?_ rfl ?_ (pw_own_below ho ?_) ?_ ?_ ?_ ?_; (focus (go_simp; done)); (focus (simp [Value.oneCell']; done)); (focus ((repeat (first | (with_reducible exact Below.refl _ _) | ((with_reducible refine Below.alloc ?_ ?hB _); (case hB => (first | omega | (simp; done) | (simp; omega)))) | ((with_reducible refine Below.setCell ?_ ?hB _); (case hB => (first | omega | (simp; done) | (simp; omega)))) | (with_reducible refine Below.drew ?_) | ((with_reducible refine below_ext_of ?_ ?hB); (case hB => (first | omega | (simp; done) | (simp; omega)))) | ((with_reducible refine Below.trans ?_ (Below.mono (by assumption) ?hB)); (case hB => (first | omega | (simp; done) | (simp; omega)))))); done)); (focus ((repeat (first | (with_reducible exact Below.refl _ _) | ((with_reducible refine Below.alloc ?_ ?hB _); (case hB => (first | omega | (simp; done) | (simp; omega)))) | ((with_reducible refine Below.setCell ?_ ?hB _); (case hB => (first | omega | (simp; done) | (simp; omega)))) | (with_reducible refine Below.drew ?_) | ((with_reducible refine below_ext_of ?_ ?hB); (case hB => (first | omega | (simp; done) | (simp; omega)))) | ((with_reducible refine Below.trans ?_ (Below.mono (by assumption) ?hB)); (case hB => (first | omega | (simp; done) | (simp; omega)))))); done)); (focus ((first | omega | (simp; done) | (simp; omega)); done)); (focus omega); intro v2 w2 hown2 hb2 _ _; have hz2 := hb2.size; (try simp only [World.size_alloc, World.size_setCell, World.size_drew] at hz2)))
                    (go_roundw; (case rel => exact ⟨k + 1, l ++ [{ v0 with kind := 1, s := s }], at_ + 1 + z, by omega, by go_num, by (first | rfl | go_num), by omega, HU.out, by have := HLK.out; simp; omega, OwnV.snoc ⟨{ v0 with kind := 1, s := s }, none, 0⟩ (by exact hown2) HL.out HR.out HQ.out, hb2⟩); (case measure => (simp [intOf]; omega)))
            · have n115 : (byN f k == 115) = false := by simp; omega
              by_cases c114 : byN f k = 114
              · have n114 : (byN f k == 114) = true := by simp; omega
                by_cases h16 : b.length < at_ + 16
                · have HU := Lib.hid (unpack_short HF.out hlt HUU.out (show oneP (byN f k) (b.drop at_) = none from by unfold oneP; rw [if_neg c105, if_neg c117, if_neg c115, if_pos c114, if_pos (by omega)]))
                  clear cn hlet h98 c105 c117 c115 c114
                  go_wp2
                  (go_ret2; exact RefU.err HU.out HBR.out)
                · have HU := Lib.hid (unpackFrom_yes HUU.out (show oneP (byN f k) (b.drop at_) = some ({ v0 with kind := 2, x0 := signN (numU (b.drop at_)), y0 := signN (numU (b.drop (at_ + 4))), x1 := signN (numU (b.drop (at_ + 8))), y1 := signN (numU (b.drop (at_ + 12))) }, b.drop (at_ + 16)) from by unfold oneP; rw [if_neg c105, if_neg c117, if_neg c115, if_pos c114, if_neg (by omega)]; simp only [List.drop_drop]))
                  have cm := fun w1 j (hb : Below w.heap.size w w1) (h4 : j + 4 ≤ b.length) => ref_num A b c j w1 HY.out hn h4 (HC.out.below hb)
                  have d0 := fun w1 hb => cm w1 at_ hb (by omega)
                  have d1 : ∀ w1 (hb : Below w.heap.size w w1), Calls Tryd.prog 79 #[.slice A b.length c, .int .i64 ((at_ : Int) + 4)] w1 fun e w' => e = .returned (.int .i64 (numU (b.drop (at_ + 4)))) ∧ Below w1.heap.size w1 w' := fun w1 hb => cm w1 (at_ + 4) hb (by omega)
                  have d2 : ∀ w1 (hb : Below w.heap.size w w1), Calls Tryd.prog 79 #[.slice A b.length c, .int .i64 ((at_ : Int) + 8)] w1 fun e w' => e = .returned (.int .i64 (numU (b.drop (at_ + 8)))) ∧ Below w1.heap.size w1 w' := fun w1 hb => cm w1 (at_ + 8) hb (by omega)
                  have d3 : ∀ w1 (hb : Below w.heap.size w w1), Calls Tryd.prog 79 #[.slice A b.length c, .int .i64 ((at_ : Int) + 12)] w1 fun e w' => e = .returned (.int .i64 (numU (b.drop (at_ + 12)))) ∧ Below w1.heap.size w1 w' := fun w1 hb => cm w1 (at_ + 12) hb (by omega)
                  have b0 := numU_bd (HY.out.drop at_); have b1 := numU_bd (HY.out.drop (at_ + 4)); have b2 := numU_bd (HY.out.drop (at_ + 8)); have b3 := numU_bd (HY.out.drop (at_ + 12))
                  obtain ⟨q0, hq0⟩ : ∃ q, numU (b.drop at_) = q := ⟨_, rfl⟩
                  obtain ⟨q1, hq1⟩ : ∃ q, numU (b.drop (at_ + 4)) = q := ⟨_, rfl⟩
                  obtain ⟨q2, hq2⟩ : ∃ q, numU (b.drop (at_ + 8)) = q := ⟨_, rfl⟩
                  obtain ⟨q3, hq3⟩ : ∃ q, numU (b.drop (at_ + 12)) = q := ⟨_, rfl⟩
                  rw [hq0] at d0 b0 HU; rw [hq1] at d1 b1 HU; rw [hq2] at d2 b2 HU; rw [hq3] at d3 b3 HU
                  have s0 := fun w => ref_sign q0 w b0; have s1 := fun w => ref_sign q1 w b1; have s2 := fun w => ref_sign q2 w b2; have s3 := fun w => ref_sign q3 w b3
                  have HQ : Hid (VH.reads w ⟨{ v0 with kind := 2, x0 := signN q0, y0 := signN q1, x1 := signN q2, y1 := signN q3 }, none, 0⟩) := Lib.hid ⟨Nat.le_refl _, reads_nilK w none⟩
                  generalize signN q0 = r0 at *; generalize signN q1 = r1 at *; generalize signN q2 = r2 at *; generalize signN q3 = r3 at *
                  clear hlet h98 c105 c117 c115 c114 hq0 hq1 hq2 hq3 cn cm b0 b1 b2 b3
                  go_wp2_with (first | (go_at_call 79; (with_reducible refine (d0 _ (by (repeat (first | (with_reducible exact Below.refl _ _) | ((with_reducible refine Below.alloc ?_ ?hB _); (case hB => (first | omega | (simp; done) | (simp; omega)))) | ((with_reducible refine Below.setCell ?_ ?hB _); (case hB => (first | omega | (simp; done) | (simp; omega)))) | (with_reducible refine Below.drew ?_) | ((with_reducible refine below_ext_of ?_ ?hB); (case hB => (first | omega | (simp; done) | (simp; omega)))) | ((with_reducible refine Below.trans ?_ (Below.mono (by assumption) ?hB)); (case hB => (first | omega | (simp; done) | (simp; omega)))))))).mono ?_); rintro e w5 ⟨rfl, hb5⟩; have hz5 := hb5.size; clear d0) | (go_at_call 79; (with_reducible refine (d1 _ (by (repeat (first | (with_reducible exact Below.refl _ _) | ((with_reducible refine Below.alloc ?_ ?hB _); (case hB => (first | omega | (simp; done) | (simp; omega)))) | ((with_reducible refine Below.setCell ?_ ?hB _); (case hB => (first | omega | (simp; done) | (simp; omega)))) | (with_reducible refine Below.drew ?_) | ((with_reducible refine below_ext_of ?_ ?hB); (case hB => (first | omega | (simp; done) | (simp; omega)))) | ((with_reducible refine Below.trans ?_ (Below.mono (by assumption) ?hB)); (case hB => (first | omega | (simp; done) | (simp; omega)))))))).mono ?_); rintro e w6 ⟨rfl, hb6⟩; have hz6 := hb6.size; clear d1) | (go_at_call 79; (with_reducible refine (d2 _ (by (repeat (first | (with_reducible exact Below.refl _ _) | ((with_reducible refine Below.alloc ?_ ?hB _); (case hB => (first | omega | (simp; done) | (simp; omega)))) | ((with_reducible refine Below.setCell ?_ ?hB _); (case hB => (first | omega | (simp; done) | (simp; omega)))) | (with_reducible refine Below.drew ?_) | ((with_reducible refine below_ext_of ?_ ?hB); (case hB => (first | omega | (simp; done) | (simp; omega)))) | ((with_reducible refine Below.trans ?_ (Below.mono (by assumption) ?hB)); (case hB => (first | omega | (simp; done) | (simp; omega)))))))).mono ?_); rintro e w7 ⟨rfl, hb7⟩; have hz7 := hb7.size; clear d2) | (go_at_call 79; (with_reducible refine (d3 _ (by (repeat (first | (with_reducible exact Below.refl _ _) | ((with_reducible refine Below.alloc ?_ ?hB _); (case hB => (first | omega | (simp; done) | (simp; omega)))) | ((with_reducible refine Below.setCell ?_ ?hB _); (case hB => (first | omega | (simp; done) | (simp; omega)))) | (with_reducible refine Below.drew ?_) | ((with_reducible refine below_ext_of ?_ ?hB); (case hB => (first | omega | (simp; done) | (simp; omega)))) | ((with_reducible refine Below.trans ?_ (Below.mono (by assumption) ?hB)); (case hB => (first | omega | (simp; done) | (simp; omega)))))))).mono ?_); rintro e w8 ⟨rfl, hb8⟩; have hz8 := hb8.size; clear d3) | (go_at_call 80; (with_reducible refine (s0 _).mono ?_); rintro e w1 ⟨rfl, rfl⟩) | (go_at_call 80; (with_reducible refine (s1 _).mono ?_); rintro e w1 ⟨rfl, rfl⟩) | (go_at_call 80; (with_reducible refine (s2 _).mono ?_); rintro e w1 ⟨rfl, rfl⟩) | (go_at_call 80; (with_reducible refine (s3 _).mono ?_); rintro e w1 ⟨rfl, rfl⟩) | (at_builtin; refine print_append_cells (w0 := w) (w).heap.size rfl _ _ 79 81 _ 8 88 rfl Tryd.underlying79 info_v rfl (by decide) (by decide) _ _ _ ([.int .i64 2, .int .i64 0, .string ⟨#[]⟩, .int .i64 r0, .int .i64 r1, .int .i64 r2, .int .i64 r3, .slice none 0 0]) rfl ?_ rfl ?_ (pw_own_below ho ?_) ?_ ?_ ?_ ?_; (focus (go_simp; done)); (focus (simp [Value.oneCell']; done)); (focus ((repeat (first | (with_reducible exact Below.refl _ _) | ((with_reducible refine Below.alloc ?_ ?hB _); (case hB => (first | omega | (simp; done) | (simp; omega)))) | ((with_reducible refine Below.setCell ?_ ?hB _); (case hB => (first | omega | (simp; done) | (simp; omega)))) | (with_reducible refine Below.drew ?_) | ((with_reducible refine below_ext_of ?_ ?hB); (case hB => (first | omega | (simp; done) | (simp; omega)))) | ((with_reducible refine Below.trans ?_ (Below.mono (by assumption) ?hB)); (case hB => (first | omega | (simp; done) | (simp; omega)))))); done)); (focus ((repeat (first | (with_reducible exact Below.refl _ _) | ((with_reducible refine Below.alloc ?_ ?hB _); (case hB => (first | omega | (simp; done) | (simp; omega)))) | ((with_reducible refine Below.setCell ?_ ?hB _); (case hB => (first | omega | (simp; done) | (simp; omega)))) | (with_reducible refine Below.drew ?_) | ((with_reducible refine below_ext_of ?_ ?hB); (case hB => (first | omega | (simp; done) | (simp; omega)))) | ((with_reducible refine Below.trans ?_ (Below.mono (by assumption) ?hB)); (case hB => (first | omega | (simp; done) | (simp; omega)))))); done)); (focus ((first | omega | (simp; done) | (simp; omega)); done)); (focus omega); intro v2 w2 hown2 hb2 _ _; have hz2 := hb2.size; (try simp only [World.size_alloc, World.size_setCell, World.size_drew] at hz2)))
                  (go_roundw; (case rel => exact ⟨k + 1, l ++ [{ v0 with kind := 2, x0 := r0, y0 := r1, x1 := r2, y1 := r3 }], at_ + 16, by omega, by go_num, by (first | rfl | go_num), by omega, HU.out, by have := HLK.out; simp; omega, OwnV.snoc ⟨{ v0 with kind := 2, x0 := r0, y0 := r1, x1 := r2, y1 := r3 }, none, 0⟩ (by exact hown2) HL.out HR.out HQ.out, hb2⟩); (case measure => (simp [intOf]; omega)))
              · have n114 : (byN f k == 114) = false := by simp; omega
                have hl2 : (b.drop at_).length = b.length - at_ := hdl
                have HU := Lib.hid (unpackFrom_yes HUU.out (show oneP (byN f k) (b.drop at_) = some ({ v0 with kind := 3, b := b.drop at_ }, b.drop b.length) from by unfold oneP; rw [if_neg c105, if_neg c117, if_neg c115, if_neg c114, List.drop_length]))
                cases A with
                | none =>
                  have hc0 := hA rfl
                  subst hc0
                  have hb0 : b.length ≤ 0 := hc
                  have ha0 : at_ ≤ 0 := by omega
                  have HQ : Hid (VH.reads w ⟨{ v0 with kind := 3, b := b.drop at_ }, none, 0⟩) := Lib.hid ⟨by show (b.drop at_).length ≤ _; omega, by show ReadsInt w .u8 none (b.drop at_).length (b.drop at_); rw [List.eq_nil_of_length_eq_zero (show (b.drop at_).length = 0 by omega)]; exact reads_nilK _ _⟩
                  have HE := Lib.hid (show (VH.mk { v0 with kind := 3, b := b.drop at_ } none 0).cells = [.int .i64 3, .int .i64 0, .string ⟨#[]⟩, .int .i64 0, .int .i64 0, .int .i64 0, .int .i64 0, .slice none (b.length - at_) 0] from by simp only [VH.cells, hdl]; rfl)
                  clear cn hlet h98 c105 c117 c115 c114 hdl hl2
                  go_wp2_with (first | (at_builtin; refine print_append_cells (w0 := w) (w).heap.size rfl _ _ 79 81 _ 8 88 rfl Tryd.underlying79 info_v rfl (by decide) (by decide) _ _ _ ([.int .i64 3, .int .i64 0, .string ⟨#[]⟩, .int .i64 0, .int .i64 0, .int .i64 0, .int .i64 0, .slice none (b.length - at_) 0]) rfl ?_ rfl ?_ (pw_own_below ho ?_) ?_ ?_ ?_ ?_; (focus (go_simp; done)); (focus (simp [Value.oneCell']; done)); (focus ((repeat (first | (with_reducible exact Below.refl _ _) | ((with_reducible refine Below.alloc ?_ ?hB _); (case hB => (first | omega | (simp; done) | (simp; omega)))) | ((with_reducible refine Below.setCell ?_ ?hB _); (case hB => (first | omega | (simp; done) | (simp; omega)))) | (with_reducible refine Below.drew ?_) | ((with_reducible refine below_ext_of ?_ ?hB); (case hB => (first | omega | (simp; done) | (simp; omega)))) | ((with_reducible refine Below.trans ?_ (Below.mono (by assumption) ?hB)); (case hB => (first | omega | (simp; done) | (simp; omega)))))); done)); (focus ((repeat (first | (with_reducible exact Below.refl _ _) | ((with_reducible refine Below.alloc ?_ ?hB _); (case hB => (first | omega | (simp; done) | (simp; omega)))) | ((with_reducible refine Below.setCell ?_ ?hB _); (case hB => (first | omega | (simp; done) | (simp; omega)))) | (with_reducible refine Below.drew ?_) | ((with_reducible refine below_ext_of ?_ ?hB); (case hB => (first | omega | (simp; done) | (simp; omega)))) | ((with_reducible refine Below.trans ?_ (Below.mono (by assumption) ?hB)); (case hB => (first | omega | (simp; done) | (simp; omega)))))); done)); (focus ((first | omega | (simp; done) | (simp; omega)); done)); (focus omega); intro v2 w2 hown2 hb2 _ _; have hz2 := hb2.size; (try simp only [World.size_alloc, World.size_setCell, World.size_drew] at hz2)))
                  (go_roundw; (case rel => exact ⟨k + 1, l ++ [{ v0 with kind := 3, b := b.drop at_ }], b.length, by omega, by go_num, by (first | rfl | go_num), by omega, HU.out, by have := HLK.out; simp; omega, OwnV.snoc ⟨{ v0 with kind := 3, b := b.drop at_ }, none, 0⟩ (by rw [HE.out]; exact hown2) HL.out HR.out HQ.out, hb2⟩); (case measure => (simp [intOf]; omega)))
                | some ad =>
                  by_cases hcc : c = at_
                  · subst hcc
                    have hl0 : b.length = c := by omega
                    have HQ : Hid (VH.reads w ⟨{ v0 with kind := 3, b := b.drop c }, some ad, 0⟩) := Lib.hid ⟨by show (b.drop c).length ≤ _; omega, by show ReadsInt w .u8 (some ad) (b.drop c).length (b.drop c); rw [List.eq_nil_of_length_eq_zero (show (b.drop c).length = 0 by omega)]; exact reads_nilK _ _⟩
                    have HE := Lib.hid (show (VH.mk { v0 with kind := 3, b := b.drop c } (some ad) 0).cells = [.int .i64 3, .int .i64 0, .string ⟨#[]⟩, .int .i64 0, .int .i64 0, .int .i64 0, .int .i64 0, .slice (some ad) 0 0] from by
                      have h0 : (b.drop c).length = 0 := by omega
                      simp only [VH.cells, h0]; rfl)
                    clear cn hlet h98 c105 c117 c115 c114 hdl hl2 hl0
                    go_wp2_with (first | (at_builtin; refine print_append_cells (w0 := w) (w).heap.size rfl _ _ 79 81 _ 8 88 rfl Tryd.underlying79 info_v rfl (by decide) (by decide) _ _ _ ([.int .i64 3, .int .i64 0, .string ⟨#[]⟩, .int .i64 0, .int .i64 0, .int .i64 0, .int .i64 0, .slice (some ad) 0 0]) rfl ?_ rfl ?_ (pw_own_below ho ?_) ?_ ?_ ?_ ?_; (focus (go_simp; done)); (focus (simp [Value.oneCell']; done)); (focus ((repeat (first | (with_reducible exact Below.refl _ _) | ((with_reducible refine Below.alloc ?_ ?hB _); (case hB => (first | omega | (simp; done) | (simp; omega)))) | ((with_reducible refine Below.setCell ?_ ?hB _); (case hB => (first | omega | (simp; done) | (simp; omega)))) | (with_reducible refine Below.drew ?_) | ((with_reducible refine below_ext_of ?_ ?hB); (case hB => (first | omega | (simp; done) | (simp; omega)))) | ((with_reducible refine Below.trans ?_ (Below.mono (by assumption) ?hB)); (case hB => (first | omega | (simp; done) | (simp; omega)))))); done)); (focus ((repeat (first | (with_reducible exact Below.refl _ _) | ((with_reducible refine Below.alloc ?_ ?hB _); (case hB => (first | omega | (simp; done) | (simp; omega)))) | ((with_reducible refine Below.setCell ?_ ?hB _); (case hB => (first | omega | (simp; done) | (simp; omega)))) | (with_reducible refine Below.drew ?_) | ((with_reducible refine below_ext_of ?_ ?hB); (case hB => (first | omega | (simp; done) | (simp; omega)))) | ((with_reducible refine Below.trans ?_ (Below.mono (by assumption) ?hB)); (case hB => (first | omega | (simp; done) | (simp; omega)))))); done)); (focus ((first | omega | (simp; done) | (simp; omega)); done)); (focus omega); intro v2 w2 hown2 hb2 _ _; have hz2 := hb2.size; (try simp only [World.size_alloc, World.size_setCell, World.size_drew] at hz2)))
                    (go_roundw; (case rel => exact ⟨k + 1, l ++ [{ v0 with kind := 3, b := b.drop c }], b.length, by omega, by go_num, by (first | rfl | go_num), by omega, HU.out, by have := HLK.out; simp; omega, OwnV.snoc ⟨{ v0 with kind := 3, b := b.drop c }, some ad, 0⟩ (by rw [HE.out]; exact hown2) HL.out HR.out HQ.out, hb2⟩); (case measure => (simp [intOf]; omega)))
                  · have HQ : Hid (VH.reads w ⟨{ v0 with kind := 3, b := b.drop at_ }, some (ad.add at_), c - at_⟩) := Lib.hid ⟨by show (b.drop at_).length ≤ c - at_; rw [hdl]; omega, by show ReadsInt w .u8 (some (ad.add at_)) (b.drop at_).length (b.drop at_); rw [hdl]; exact reads_drop HC.out hat⟩
                    have HE := Lib.hid (show (VH.mk { v0 with kind := 3, b := b.drop at_ } (some (ad.add at_)) (c - at_)).cells = [.int .i64 3, .int .i64 0, .string ⟨#[]⟩, .int .i64 0, .int .i64 0, .int .i64 0, .int .i64 0, .slice (some (ad.add at_)) (b.length - at_) (c - at_)] from by simp only [VH.cells, hdl]; rfl)
                    clear cn hlet h98 c105 c117 c115 c114 hdl hl2
                    go_wp2_with (first | (at_builtin; refine print_append_cells (w0 := w) (w).heap.size rfl _ _ 79 81 _ 8 88 rfl Tryd.underlying79 info_v rfl (by decide) (by decide) _ _ _ ([.int .i64 3, .int .i64 0, .string ⟨#[]⟩, .int .i64 0, .int .i64 0, .int .i64 0, .int .i64 0, .slice (some (ad.add at_)) (b.length - at_) (c - at_)]) rfl ?_ rfl ?_ (pw_own_below ho ?_) ?_ ?_ ?_ ?_; (focus (go_simp; done)); (focus (simp [Value.oneCell']; done)); (focus ((repeat (first | (with_reducible exact Below.refl _ _) | ((with_reducible refine Below.alloc ?_ ?hB _); (case hB => (first | omega | (simp; done) | (simp; omega)))) | ((with_reducible refine Below.setCell ?_ ?hB _); (case hB => (first | omega | (simp; done) | (simp; omega)))) | (with_reducible refine Below.drew ?_) | ((with_reducible refine below_ext_of ?_ ?hB); (case hB => (first | omega | (simp; done) | (simp; omega)))) | ((with_reducible refine Below.trans ?_ (Below.mono (by assumption) ?hB)); (case hB => (first | omega | (simp; done) | (simp; omega)))))); done)); (focus ((repeat (first | (with_reducible exact Below.refl _ _) | ((with_reducible refine Below.alloc ?_ ?hB _); (case hB => (first | omega | (simp; done) | (simp; omega)))) | ((with_reducible refine Below.setCell ?_ ?hB _); (case hB => (first | omega | (simp; done) | (simp; omega)))) | (with_reducible refine Below.drew ?_) | ((with_reducible refine below_ext_of ?_ ?hB); (case hB => (first | omega | (simp; done) | (simp; omega)))) | ((with_reducible refine Below.trans ?_ (Below.mono (by assumption) ?hB)); (case hB => (first | omega | (simp; done) | (simp; omega)))))); done)); (focus ((first | omega | (simp; done) | (simp; omega)); done)); (focus omega); intro v2 w2 hown2 hb2 _ _; have hz2 := hb2.size; (try simp only [World.size_alloc, World.size_setCell, World.size_drew] at hz2)))
                    (go_roundw; (case rel => exact ⟨k + 1, l ++ [{ v0 with kind := 3, b := b.drop at_ }], b.length, by omega, by go_num, by (first | rfl | go_num), by omega, HU.out, by have := HLK.out; simp; omega, OwnV.snoc ⟨{ v0 with kind := 3, b := b.drop at_ }, some (ad.add at_), c - at_⟩ (by rw [HE.out]; exact hown2) HL.out HR.out HQ.out, hb2⟩); (case measure => (simp [intOf]; omega)))
      · obtain rfl : k = f.size := by omega
        have hP : unpackP f b = if (b.drop at_).length = 0 then (0, l) else (2, []) := by unfold unpackP; rw [if_pos HF.out, hu]
        rw [List.length_drop] at hP
        have HO := Lib.hid hown
        have HBR := Lib.hid hbr
        have HP := Lib.hid hP
        clear hown hbr hP hu hlk
        by_cases h0 : b.length - at_ = 0
        · have HQ := Lib.hid (HP.out.trans (if_pos h0))
          have h1 : ¬ at_ < b.length := by omega
          clear h0
          go_wp2
          go_ret2
          exact RefU.ok HQ.out HO.out HBR.out
        · have HQ := Lib.hid (HP.out.trans (if_neg h0))
          have h1 : at_ < b.length := by omega
          clear h0
          go_wp2
          go_ret2
          exact RefU.err HQ.out HBR.out
end Go.Proofs.YtinnaiofgbjicaaDoor
