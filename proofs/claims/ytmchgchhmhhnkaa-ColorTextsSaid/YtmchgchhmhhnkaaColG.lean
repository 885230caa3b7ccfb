/- A color read from its digits: the document's Parse, and the program's, walked: both are one function. -/
import Derived.Test.YtmchgchhmhhnkaaColF
namespace Go.Proofs.Ytmchgchhmhhnkaa
open Go.RowKit
set_option linter.unusedSimpArgs false
set_option linter.unusedVariables false
set_option maxRecDepth 1000000
def byN (s : ByteArray) (i : Nat) : Int := if h : i < s.size then ((s[i]'h).toNat : Int) else 0
theorem byN_at (s : ByteArray) (i : Nat) (h : i < s.size) : ((s[i]'h).toNat : Int) = byN s i := by simp [byN, h]
theorem byN_bd (s : ByteArray) (i : Nat) : 0 ≤ byN s i ∧ byN s i ≤ 255 := by
  unfold byN; split
  · have := (s[i]'‹_›).toNat_lt; omega
  · omega
/-- A digit's number, -1 of what is none. -/
def dv (b : Int) : Int := if 48 ≤ b ∧ b ≤ 57 then b - 48 else if 97 ≤ b ∧ b ≤ 102 then b - 87 else -1
theorem dv_bd (b : Int) : -1 ≤ dv b ∧ dv b ≤ 15 := by unfold dv; split <;> (try split) <;> omega
def digB : ByteArray := { data := #[48, 49, 50, 51, 52, 53, 54, 55, 56, 57, 97, 98, 99, 100, 101, 102] }
theorem dig_ascii : Ascii digB := by
  have : ∀ b ∈ digB.data.toList, b.toNat < 128 := by decide +kernel
  exact this
theorem dig_idx (b : Int) (h0 : 0 ≤ b) (h1 : b < 128) : firstIdx digB b.toNat.toUInt8 = dv b := by
  obtain ⟨n, rfl⟩ := Int.eq_ofNat_of_zero_le h0
  have : ∀ n : Fin 128, firstIdx digB ((n.val : Int)).toNat.toUInt8 = dv (n.val : Int) := by decide +kernel
  exact this ⟨n, by omega⟩
/-- The number of the first k digits. -/
def valN (s : ByteArray) : Nat → Int
  | 0 => 0
  | k + 1 => valN s k * 16 + dv (byN s k)
def AllD (s : ByteArray) (k : Nat) : Prop := ∀ i, i < k → 0 ≤ dv (byN s i)
theorem valN_bd (s : ByteArray) (k : Nat) (h : AllD s k) : 0 ≤ valN s k ∧ valN s k < 16 ^ k := by
  induction k with
  | zero => simp [valN]
  | succ k ih =>
    have h1 := ih (fun i hi => h i (by omega))
    have h2 := h k (by omega)
    have h3 := dv_bd (byN s k)
    simp only [valN, Int.pow_succ]; omega
instance (s : ByteArray) (k : Nat) : Decidable (AllD s k) := by unfold AllD; infer_instance
def parsP (s : ByteArray) : Int × Bool := if s.size = 8 ∧ AllD s 8 then (valN s 8, true) else (0, false)
theorem parsP_not {s : ByteArray} {k : Nat} (hk : k < s.size) (h : dv (byN s k) < 0) : parsP s = (0, false) := by
  unfold parsP; rw [if_neg]
  rintro ⟨h1, h2⟩
  have := h2 k (by omega); omega
theorem parsP_len {s : ByteArray} (h : ¬ s.size = 8) : parsP s = (0, false) := by unfold parsP; rw [if_neg (fun h' => h h'.1)]
theorem parsP_yes {s : ByteArray} (h : s.size = 8) (h2 : AllD s 8) : parsP s = (valN s 8, true) := by unfold parsP; rw [if_pos ⟨h, h2⟩]
theorem AllD.step {s : ByteArray} {k : Nat} (h : AllD s k) (hd : 0 ≤ dv (byN s k)) : AllD s (k + 1) := fun i hi => by
  by_cases e : i = k
  · subst e; exact hd
  · exact h i (by omega)
def ParseP (s : ByteArray) (e : Ending) : Prop := e = .returned (.tuple #[.int .u32 (parsP s).1, .bool (parsP s).2])
theorem ref_Parse (s : ByteArray) (w : World) (hz : s.size ≤ 9223372036854775807) : Calls Try.prog 30 #[.string s] w fun e w' => ParseP s e ∧ w = w' := by
  by_cases h8 : s.size = 8
  · have e8 : ((s.size : Int) != 8) = false := by simp [h8]
    have H8 := Lib.hid h8
    have hs8 : 8 ≤ s.size := by omega
    clear h8
    go_enter Try.func30, Try.ntmps30
    go_wp2
    go_loop [4, 5] (fun n i => ∃ k : Nat, k ≤ 8 ∧ i = .int .i64 k ∧ Hid (AllD s k) ∧ n = .int .i64 (valN s k)) (fun _ i => 8 - (intOf i).toNat)
    case atStart => exact ⟨0, by omega, rfl, Lib.hid (fun i hi => by omega), rfl⟩
    case round =>
      obtain ⟨k, hk, rfl, hall, rfl⟩ := hrel
      by_cases hlt : k < 8
      · have hp : k < s.size := by omega
        have hvb := valN_bd s k hall.out
        have h16 : (16 : Int) ^ k ≤ 16 ^ 8 := by
          have : (16 : Nat) ^ k ≤ 16 ^ 8 := Nat.pow_le_pow_right (by omega) (by omega)
          exact_mod_cast this
        have hv1 : valN s k < 4294967296 := by omega
        have hv0 := hvb.1
        have eb := byN_at s k hp
        have hbd := byN_bd s k
        have hvs := Lib.hid (show valN s (k + 1) = valN s k * 16 + dv (byN s k) from rfl)
        by_cases hd : 0 ≤ dv (byN s k)
        · have HA := Lib.hid (hall.out.step hd)
          have hcase : (48 ≤ byN s k ∧ byN s k ≤ 57 ∧ dv (byN s k) = byN s k - 48) ∨ (¬ byN s k ≤ 57 ∧ 97 ≤ byN s k ∧ byN s k ≤ 102 ∧ dv (byN s k) = byN s k - 87) := by
            unfold dv at hd ⊢
            split at hd
            · left; rw [if_pos ‹_›]; omega
            · split at hd
              · right; rw [if_neg ‹_›, if_pos ‹_›]; omega
              · omega
          clear hvb h16 hd
          generalize byN s k = b at *
          generalize valN s k = v at *
          rcases hcase with ⟨c1, c2, c3⟩ | ⟨c0, c1, c2, c3⟩
          · have C3 := Lib.hid c3
            clear c3
            go_wp2
            go_round
            case rel => exact ⟨k + 1, by omega, by go_num, HA, by rw [hvs.out, C3.out]; congr 1; omega⟩
            case measure => simp [intOf]; omega
          · have C3 := Lib.hid c3
            clear c3
            go_wp2
            go_round
            case rel => exact ⟨k + 1, by omega, by go_num, HA, by rw [hvs.out, C3.out]; congr 1; omega⟩
            case measure => simp [intOf]; omega
        · have HF := Lib.hid (parsP_not hp (by omega))
          have hcase : ¬ (48 ≤ byN s k ∧ byN s k ≤ 57) ∧ ¬ (97 ≤ byN s k ∧ byN s k ≤ 102) := by
            unfold dv at hd
            split at hd
            · omega
            · split at hd <;> omega
          obtain ⟨c1, c2⟩ := hcase
          clear hvb h16 hd hvs
          generalize byN s k = b at *
          generalize valN s k = v at *
          go_wp2
          all_goals (go_ret2; exact ⟨by unfold ParseP; rw [HF.out]; rfl, rfl⟩)
      · obtain rfl : k = 8 := by omega
        have HY := Lib.hid (parsP_yes H8.out hall.out)
        have hvb := valN_bd s 8 hall.out
        have hv1 : valN s 8 < 4294967296 := by have := hvb.2; omega
        have hv0 := hvb.1
        clear hvb
        generalize valN s 8 = v at *
        go_wp2
        go_ret2
        exact ⟨by unfold ParseP; rw [HY.out]; rfl, rfl⟩
  · have e8 : ((s.size : Int) != 8) = true := by simp; omega
    have HF := Lib.hid (parsP_len h8)
    clear h8
    go_enter Try.func30, Try.ntmps30
    go_wp2
    go_ret2
    exact ⟨by unfold ParseP; rw [HF.out]; rfl, rfl⟩
end Go.Proofs.Ytmchgchhmhhnkaa
