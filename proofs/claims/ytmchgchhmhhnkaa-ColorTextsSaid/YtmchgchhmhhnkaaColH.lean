/- A color read from its digits: the program's Parse, walked. -/
import Derived.Test.YtmchgchhmhhnkaaColG
namespace Go.Proofs.Ytmchgchhmhhnkaa
open Go.RowKit
set_option linter.unusedSimpArgs false
set_option linter.unusedVariables false
set_option maxRecDepth 1000000
theorem idx_low (b : Int) (w : World) (h0 : 0 ≤ b) (h1 : b < 128) : Calls Try.prog 38 #[.string { data := #[48, 49, 50, 51, 52, 53, 54, 55, 56, 57, 97, 98, 99, 100, 101, 102] }, .int .i32 b] w fun e w' => e = .returned (.int .i64 (dv b)) ∧ w = w' := by
  have := str_IndexRune_low digB b w h0 h1
  rw [dig_idx b h0 h1] at this; exact this
theorem idx_not (b : Int) (w : World) (h0 : 128 ≤ b) : Calls Try.prog 38 #[.string { data := #[48, 49, 50, 51, 52, 53, 54, 55, 56, 57, 97, 98, 99, 100, 101, 102] }, .int .i32 b] w fun e w' => e = .returned (.int .i64 (-1)) ∧ Below w.heap.size w w' :=
  str_IndexRune_not digB b w dig_ascii (by decide) h0
theorem or16 (x d : Int) (h0 : 0 ≤ x) (hd : 0 ≤ d ∧ d < 16) : bits .or .u32 (x * 16 % 4294967296) d = x * 16 % 4294967296 + d :=
  bits_join .u32 32 (by decide) wraps_u32' 4 (x * 16 % 4294967296) d (by omega) (by omega) (by omega) hd.1 (by omega) (by omega)
theorem below_iter (w : World) (s : ByteArray) (pos : Nat) : Below w.heap.size w (w.iter s pos) := (Below.refl _ _).alloc (Nat.le_refl _) _
theorem size_iter (w : World) (s : ByteArray) (pos : Nat) : (w.iter s pos).heap.size = w.heap.size + 1 := by simp [World.iter]
set_option maxHeartbeats 1000000 in
theorem col_Parse (s : ByteArray) (w : World) (hz : s.size ≤ 9223372036854775807) : Calls Try.prog 29 #[.string s] w fun e w' => ParseP s e ∧ Below w.heap.size w w' := by
  go_enter Try.func29, Try.ntmps29
  go_wp2
  go_loopw [4] (fun v w' => ∃ (pos : Nat) (ci : Int), pos ≤ s.size ∧ w' = w.iter s pos ∧ v = .int .u32 ci ∧ 0 ≤ ci ∧ ci < 4294967296 ∧ Hid (AllD s pos) ∧ Hid (pos ≤ 8 → ci = valN s pos)) (fun _ w' => s.size - w'.iterPos w.heap.size)
  case atStart => exact ⟨0, 0, by omega, rfl, rfl, by omega, by omega, Lib.hid (fun i hi => by omega), Lib.hid (fun _ => rfl)⟩
  case round =>
    obtain ⟨pos, ci, hps, rfl, rfl, hc0, hc1, hall, hval⟩ := hrel
    have hbi := Lib.hid (below_iter w s pos)
    have hbj := Lib.hid (below_iter w s (pos + 1))
    have hbk := Lib.hid (below_iter w s (pos + (Utf8.decode s pos).2))
    by_cases hp : pos < s.size
    · have hbd := byN_bd s pos
      have eb := byN_at s pos hp
      by_cases hd : 0 ≤ dv (byN s pos)
      · have hdb := (dv_bd (byN s pos)).2
        have hlow : byN s pos < 128 := by
          unfold dv at hd
          split at hd
          · omega
          · split at hd <;> omega
        have ha : (s[pos]'hp).toNat < 128 := by omega
        have hnx := fun ty => run_next_ascii (P := Try.prog) w s pos ty hp ha
        have ci_ := fun w => idx_low (byN s pos) w hbd.1 hlow
        have HA := Lib.hid (hall.out.step hd)
        obtain ⟨d, hdd⟩ : ∃ d, dv (byN s pos) = d := ⟨_, rfl⟩
        rw [hdd] at hd hdb ci_
        have ho := or16 ci d hc0 ⟨hd, by omega⟩
        obtain ⟨c2, hc2⟩ : ∃ c2, ci * 16 % 4294967296 + d = c2 := ⟨_, rfl⟩
        have hc2b : 0 ≤ c2 ∧ c2 < 4294967296 := by omega
        have HV := Lib.hid (show pos + 1 ≤ 8 → c2 = valN s (pos + 1) from fun h8 => by
          have hv := hval.out (by omega)
          have hvb := valN_bd s (pos + 1) HA.out
          have h16 : (16 : Int) ^ (pos + 1) ≤ 16 ^ 8 := by
            have : (16 : Nat) ^ (pos + 1) ≤ 16 ^ 8 := Nat.pow_le_pow_right (by omega) (by omega)
            exact_mod_cast this
          have hv2 : valN s (pos + 1) = valN s pos * 16 + d := by rw [← hdd]; rfl
          rw [hv2] at hvb ⊢
          rw [← hv] at hvb ⊢
          omega)
        rw [hc2] at ho
        obtain ⟨hc20, hc21⟩ := hc2b
        clear hdd hc2 hbd
        go_wp2_with (first | (go_at_call 38; (with_reducible refine (ci_ _).mono ?_); rintro e w1 ⟨rfl, rfl⟩))
        go_roundw
        case rel => exact ⟨pos + 1, c2, by omega, rfl, rfl, hc20, hc21, HA, HV⟩
        case measure => simp; omega
      · have HF := Lib.hid (parsP_not hp (by omega))
        by_cases ha : (s[pos]'hp).toNat < 128
        · have hnx := fun ty => run_next_ascii (P := Try.prog) w s pos ty hp ha
          have ci_ := fun w => idx_low (byN s pos) w hbd.1 (by omega)
          have hm : dv (byN s pos) = -1 := by have := dv_bd (byN s pos); omega
          rw [hm] at ci_
          clear hd hm hbd
          go_wp2_with (first | (go_at_call 38; (with_reducible refine (ci_ _).mono ?_); rintro e w1 ⟨rfl, rfl⟩))
          go_ret2
          exact ⟨by unfold ParseP; rw [HF.out]; rfl, hbj.out⟩
        · have hdh := decode_high s pos hp (by omega)
          have hnx := fun ty => run_next_any (P := Try.prog) w s pos ty hp
          have ci_ := fun w => idx_not ((Utf8.decode s pos).1 : Int) w (by omega)
          clear hd hbd
          go_wp2_with (first | (go_at_call 38; (with_reducible refine (ci_ _).mono ?_); rintro e w1 ⟨rfl, hb1⟩; obtain ⟨hc1, hf1⟩ := bcell hb1; have hz1 := hb1.size; (try simp only [World.size_alloc, World.size_setCell, World.size_drew] at hz1)))
          go_ret2
          exact ⟨by unfold ParseP; rw [HF.out]; rfl, hbk.out.trans (hb1.mono (by rw [size_iter]; omega))⟩
    · have hnx := fun ty => run_next_end (P := Try.prog) w s pos ty hp
      obtain rfl : pos = s.size := by omega
      by_cases h8 : s.size = 8
      · have HY := Lib.hid (parsP_yes h8 (by have := hall.out; rw [h8] at this; exact this))
        have HV := Lib.hid (show ci = valN s 8 from by have := hval.out (by omega); rw [h8] at this; exact this)
        have e8 : ((s.size : Int) != 8) = false := by simp [h8]
        clear h8
        go_wp2
        go_ret2
        exact ⟨by unfold ParseP; rw [HY.out, ← HV.out]; rfl, hbi.out⟩
      · have HF := Lib.hid (parsP_len h8)
        have e8 : ((s.size : Int) != 8) = true := by simp; omega
        clear h8
        go_wp2
        go_ret2
        exact ⟨by unfold ParseP; rw [HF.out]; rfl, hbi.out⟩
end Go.Proofs.Ytmchgchhmhhnkaa
