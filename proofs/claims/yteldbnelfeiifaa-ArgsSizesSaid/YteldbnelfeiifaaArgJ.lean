/- A form that is made of any text; arguments that fit it, made of any: walked. -/
import Derived.Test.YteldbnelfeiifaaArgI
namespace Go.Proofs.Yteldbnelfeiifaa
open Go.RowKit Go.Proofs.YteldbnelfeiifaaW.PrintWords
set_option linter.unusedSimpArgs false
set_option linter.unusedVariables false
set_option maxRecDepth 1000000
def lcode (s : ByteArray) (i : Nat) : Nat := if (byN s i).toNat % 5 = 4 ∧ i + 1 < min s.size 8 then 3 else (byN s i).toNat % 5
def ltS (c : Nat) : ByteArray := ByteArray.extract { data := #[105, 117, 115, 114, 98] } c (c + 1)
def lettersS (s : ByteArray) : Nat → ByteArray
  | 0 => { data := #[] }
  | k + 1 => lettersS s k ++ ltS (lcode s k)
theorem lcode_lt (s : ByteArray) (i : Nat) : lcode s i < 5 := by unfold lcode; split <;> omega
theorem ltS_size (c : Nat) (h : c < 5) : (ltS c).size = 1 := by
  have : ∀ c : Fin 5, (ltS c.val).size = 1 := by decide +kernel
  exact this ⟨c, h⟩
theorem lettersS_size (s : ByteArray) (k : Nat) : (lettersS s k).size = k := by
  induction k with
  | zero => rfl
  | succ k ih => simp only [lettersS]; rw [ByteArray.size_append, ih, ltS_size _ (lcode_lt s k)]
theorem ltS_def (c : Nat) : ByteArray.extract { data := #[105, 117, 115, 114, 98] } c (c + 1) = ltS c := rfl
theorem lettersS_succ (s : ByteArray) (k : Nat) : lettersS s (k + 1) = lettersS s k ++ ltS (lcode s k) := rfl
attribute [irreducible] ltS lettersS
def lettersP (s : ByteArray) : ByteArray := lettersS s (min s.size 8)
theorem ref_Letters (s : ByteArray) (w : World) (hz : s.size ≤ 9223372036854775807) : Calls Try.prog 15 #[.string s] w fun e w' => e = .returned (.string (lettersP s)) ∧ w = w' := by
  obtain ⟨n8, hn8⟩ : ∃ n8 : Nat, n8 = min s.size 8 := ⟨_, rfl⟩
  have e8 : min (s.size : Int) 8 = (n8 : Int) := by omega
  have l8 : n8 ≤ 8 ∧ n8 ≤ s.size := by omega
  have HF := Lib.hid (show lettersP s = lettersS s n8 from by rw [hn8]; rfl)
  have H8 := Lib.hid hn8
  obtain ⟨l80, l81⟩ := l8
  clear hn8
  go_enter Try.func15, Try.ntmps15
  go_wp2
  go_loop [3, 4] (fun v i => ∃ k : Nat, k ≤ n8 ∧ i = .int .i64 k ∧ v = .string (lettersS s k)) (fun _ i => 8 - (intOf i).toNat)
  case atStart => exact ⟨0, by omega, rfl, by unfold lettersS; rfl⟩
  case round =>
    obtain ⟨k, hk, rfl, rfl⟩ := hrel
    by_cases hlt : k < n8
    · have hp : k < s.size := by omega
      have k8 : (k : Int) < 8 := by omega
      have hbd := byN_bd s k
      have e : ((s[k]'hp).toNat : Int) = byN s k := byN_at s k hp
      obtain ⟨c, hc⟩ : ∃ c : Nat, c = (byN s k).toNat % 5 := ⟨_, rfl⟩
      have ec : byN s k % 5 = (c : Int) := by omega
      have c5 : c < 5 := by omega
      have hsz := lettersS_size s k
      have hsu := Lib.hid (lettersS_succ s k)
      by_cases c4 : c = 4
      · by_cases hl : k + 1 < n8
        · have HC := Lib.hid (show lcode s k = 3 from by unfold lcode; rw [if_pos ⟨by omega, by have := H8.out; omega⟩])
          have h1 := ltS_size 3 (by omega)
          have ed : ByteArray.extract { data := #[105, 117, 115, 114, 98] } 3 4 = ltS 3 := ltS_def 3
          have t1 : (k : Int) < (n8 : Int) - 1 := by omega
          subst c4
          clear hc
          go_wp2
          go_round
          case rel => exact ⟨k + 1, by omega, by go_num, by rw [hsu.out, HC.out]⟩
          case measure => simp [intOf]; omega
        · have HC := Lib.hid (show lcode s k = 4 from by unfold lcode; rw [if_neg (by have := H8.out; omega)]; omega)
          have h1 := ltS_size 4 (by omega)
          have ed : ByteArray.extract { data := #[105, 117, 115, 114, 98] } 4 5 = ltS 4 := ltS_def 4
          have t1 : ¬ (k : Int) < (n8 : Int) - 1 := by omega
          subst c4
          clear hc
          go_wp2
          go_round
          case rel => exact ⟨k + 1, by omega, by go_num, by rw [hsu.out, HC.out]⟩
          case measure => simp [intOf]; omega
      · have HC := Lib.hid (show lcode s k = c from by unfold lcode; rw [if_neg (by omega)]; omega)
        have h1 := ltS_size c (by omega)
        have ed : ByteArray.extract { data := #[105, 117, 115, 114, 98] } c (c + 1) = ltS c := ltS_def c
        have t1 : ((c : Int) == 4) = false := by simp; omega
        clear hc
        go_wp2
        go_round
        case rel => exact ⟨k + 1, by omega, by go_num, by rw [hsu.out, HC.out]⟩
        case measure => simp [intOf]; omega
    · obtain rfl : k = n8 := by omega
      by_cases h1 : k < s.size
      · have h2 : ¬ (k : Int) < 8 := by have := H8.out; omega
        go_wp2
        (go_ret; refine ⟨?_, rfl⟩); rw [HF.out]; rfl
      · go_wp2
        (go_ret; refine ⟨?_, rfl⟩); rw [HF.out]; rfl
end Go.Proofs.Yteldbnelfeiifaa
