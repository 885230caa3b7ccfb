/- The forms of arguments: the program's Form and the document's, walked. -/
import Derived.Test.YtinnaiofgbjicaaDoorRunes
namespace Go.Proofs.YtinnaiofgbjicaaDoor
open Go.RowKit
set_option linter.unusedSimpArgs false
set_option linter.unusedVariables false
set_option maxRecDepth 1000000
/-- A byte of a text, as a number; 0 behind its end. -/
def byN (s : ByteArray) (i : Nat) : Int := if h : i < s.size then ((s[i]'h).toNat : Int) else 0
theorem byN_at (s : ByteArray) (i : Nat) (h : i < s.size) : ((s[i]'h).toNat : Int) = byN s i := by simp [byN, h]
theorem byN_bd (s : ByteArray) (i : Nat) : 0 ≤ byN s i ∧ byN s i ≤ 255 := by
  unfold byN; split
  · have := (s[i]'‹_›).toNat_lt; omega
  · omega
def letC (c : Int) : Prop := c = 105 ∨ c = 117 ∨ c = 115 ∨ c = 114 ∨ c = 98
instance (c : Int) : Decidable (letC c) := by unfold letC; infer_instance
def FormAt (s : ByteArray) (i : Nat) : Prop := letC (byN s i) ∧ (byN s i = 98 → s.size ≤ i + 1)
instance (s : ByteArray) (i : Nat) : Decidable (FormAt s i) := by unfold FormAt; infer_instance
def formP (s : ByteArray) : Bool := decide ((∀ i, i < s.size → FormAt s i) ∧ s.size ≤ 8)
theorem formP_not (s : ByteArray) (k : Nat) (hk : k < s.size) (h : ¬ FormAt s k) : formP s = false := by
  unfold formP; rw [decide_eq_false_iff_not]; exact fun ⟨h1, _⟩ => h (h1 k hk)
theorem form_b {s : ByteArray} {i : Nat} (h : ¬ FormAt s i) (hl : letC (byN s i)) : byN s i = 98 ∧ i + 1 < s.size := by
  by_cases h1 : byN s i = 98
  · refine ⟨h1, ?_⟩
    by_cases h2 : i + 1 < s.size
    · exact h2
    · exact absurd ⟨hl, fun _ => by omega⟩ h
  · exact absurd ⟨hl, fun h2 => absurd h2 h1⟩ h
def lettersB : ByteArray := { data := #[105, 117, 115, 114, 98] }
theorem letters_ascii : Ascii lettersB := by
  intro b hb
  simp only [lettersB, List.mem_cons, List.not_mem_nil, or_false] at hb
  rcases hb with rfl | rfl | rfl | rfl | rfl <;> decide
theorem letters_has (c : Int) (h0 : 0 ≤ c) (h1 : c < 128) : hasB lettersB c = decide (letC c) := by
  obtain ⟨n, rfl⟩ := Int.eq_ofNat_of_zero_le h0
  have h : n < 128 := by omega
  revert h
  have : ∀ n : Fin 128, hasB lettersB (n.val : Int) = decide (letC (n.val : Int)) := by decide +kernel
  intro h
  exact this ⟨n, h⟩
theorem has_yes (c : Int) (h0 : 0 ≤ c) (h1 : c < 128) (h : letC c) (w : World) : Calls Tryd.prog 94 #[.string { data := #[105, 117, 115, 114, 98] }, .int .i32 c] w fun e w' => e = .returned (.bool true) ∧ w = w' := by
  have := str_ContainsRune_low lettersB c w h0 h1
  rw [letters_has c h0 h1, decide_eq_true h] at this; exact this
theorem has_no (c : Int) (h0 : 0 ≤ c) (h : ¬ letC c) (w : World) : Calls Tryd.prog 94 #[.string { data := #[105, 117, 115, 114, 98] }, .int .i32 c] w fun e w' => e = .returned (.bool false) ∧ Below w.heap.size w w' := by
  by_cases h1 : c < 128
  · have := str_ContainsRune_low lettersB c w h0 h1
    rw [letters_has c h0 h1, decide_eq_false h] at this; exact this.mono fun e w' ⟨he, hw⟩ => ⟨he, hw ▸ Below.refl _ _⟩
  · exact str_ContainsRune_not lettersB c w letters_ascii (by decide) (by omega)
theorem below_iter (w : World) (s : ByteArray) (pos : Nat) : Below w.heap.size w (w.iter s pos) := (Below.refl _ _).alloc (Nat.le_refl _) _
theorem size_iter (w : World) (s : ByteArray) (pos : Nat) : (w.iter s pos).heap.size = w.heap.size + 1 := by simp [World.iter]
set_option maxHeartbeats 1000000 in
theorem args_Form (s : ByteArray) (w : World) (hz : s.size ≤ 140737488351232) : Calls Tryd.prog 65 #[.string s] w fun e w' => e = .returned (.bool (formP s)) ∧ Below w.heap.size w w' := by
  go_enter Tryd.func65, Tryd.ntmps65
  go_wp2
  go_loopw [] (fun w' => ∃ pos, pos ≤ s.size ∧ w' = w.iter s pos ∧ ∀ i, i < pos → FormAt s i) (fun w' => s.size - w'.iterPos w.heap.size)
  case atStart => exact ⟨0, by omega, rfl, fun i hi => by omega⟩
  case round =>
    obtain ⟨pos, hps, rfl, hall⟩ := hrel
    have hsz := size_iter w s pos
    have hbi := Lib.hid (below_iter w s pos)
    have hbj := Lib.hid (below_iter w s (pos + 1))
    have hbk := Lib.hid (below_iter w s (pos + (Utf8.decode s pos).2))
    by_cases hp : pos < s.size
    · by_cases hg : FormAt s pos
      · obtain ⟨hl, hb⟩ := hg
        have ha : (s[pos]'hp).toNat < 128 := by
          have e := byN_at s pos hp
          unfold letC at hl; omega
        have hnx := fun ty => run_next_ascii (P := Tryd.prog) w s pos ty hp ha
        have hc := fun w => has_yes (byN s pos) (by unfold letC at hl; omega) (by unfold letC at hl; omega) hl w
        rw [← byN_at s pos hp] at hc
        have hall' : ∀ i, i < pos + 1 → FormAt s i := fun i hi => by
          by_cases e : i = pos
          · subst e; exact ⟨hl, hb⟩
          · exact hall i (by omega)
        have H := Lib.hid hall'
        clear hall hall'
        by_cases h98 : byN s pos = 98
        · have e1 : (((s[pos]'hp).toNat : Int) == 98) = true := by simp [byN_at, h98]
          have e2 := hb h98
          have e3 : decide ((pos : Int) < (s.size : Int) - 1) = false := by simp; omega
          have e4 : ¬ (pos : Int) < (s.size : Int) - 1 := by omega
          go_wp2_with (first | (go_at_call 94; (with_reducible refine (hc _).mono ?_); rintro e w1 ⟨rfl, rfl⟩))
          go_roundw
          case rel => exact ⟨pos + 1, by omega, rfl, H.out⟩
          case measure => simp; omega
        · have e1 : (((s[pos]'hp).toNat : Int) == 98) = false := by simp [byN_at, h98]
          go_wp2_with (first | (go_at_call 94; (with_reducible refine (hc _).mono ?_); rintro e w1 ⟨rfl, rfl⟩))
          go_roundw
          case rel => exact ⟨pos + 1, by omega, rfl, H.out⟩
          case measure => simp; omega
      · have hf := Lib.hid (formP_not s pos hp hg)
        by_cases hl : letC (byN s pos)
        · have h98 : byN s pos = 98 ∧ pos + 1 < s.size := form_b hg hl
          obtain ⟨h98, hlt⟩ := h98
          have ha : (s[pos]'hp).toNat < 128 := by
            have e := byN_at s pos hp
            omega
          have hnx := fun ty => run_next_ascii (P := Tryd.prog) w s pos ty hp ha
          have hc := fun w => has_yes (byN s pos) (by omega) (by omega) hl w
          rw [← byN_at s pos hp] at hc
          have e1 : (((s[pos]'hp).toNat : Int) == 98) = true := by simp [byN_at, h98]
          have e4 : (pos : Int) < (s.size : Int) - 1 := by omega
          clear hall h98 hg hl
          go_wp2_with (first | (go_at_call 94; (with_reducible refine (hc _).mono ?_); rintro e w1 ⟨rfl, rfl⟩))
          go_ret; exact ⟨by rw [hf.out]; rfl, hbj.out⟩
        · by_cases ha : (s[pos]'hp).toNat < 128
          · have hnx := fun ty => run_next_ascii (P := Tryd.prog) w s pos ty hp ha
            have hc := fun w => has_no (byN s pos) (byN_bd s pos).1 hl w
            rw [← byN_at s pos hp] at hc
            clear hall hg hl
            go_wp2_with (first | (go_at_call 94; (with_reducible refine (hc _).mono ?_); rintro e w1 ⟨rfl, hb1⟩; obtain ⟨hc1, hf1⟩ := bcell hb1; have hz1 := hb1.size; (try simp only [World.size_alloc, World.size_setCell, World.size_drew] at hz1)))
            go_ret; exact ⟨by rw [hf.out]; rfl, hbj.out.trans (hb1.mono (by rw [size_iter]; omega))⟩
          · have hd := decode_high s pos hp (by omega)
            have hnx := fun ty => run_next_any (P := Tryd.prog) w s pos ty hp
            have hc := fun w => has_no ((Utf8.decode s pos).1 : Int) (by omega) (by unfold letC; omega) w
            clear hall hg hl
            go_wp2_with (first | (go_at_call 94; (with_reducible refine (hc _).mono ?_); rintro e w1 ⟨rfl, hb1⟩; obtain ⟨hc1, hf1⟩ := bcell hb1; have hz1 := hb1.size; (try simp only [World.size_alloc, World.size_setCell, World.size_drew] at hz1)))
            go_ret; exact ⟨by rw [hf.out]; rfl, hbk.out.trans (hb1.mono (by rw [size_iter]; omega))⟩
    · have hnx := fun ty => run_next_end (P := Tryd.prog) w s pos ty hp
      have hall' : formP s = decide (s.size ≤ 8) := by
        unfold formP; exact decide_eq_decide.2 ⟨fun h => h.2, fun h => ⟨fun i hi => hall i (by omega), h⟩⟩
      have H := Lib.hid hall'
      clear hall hall'
      go_wp2
      go_ret; exact ⟨by rw [H.out]; exact congrArg (fun b => Ending.returned (.bool b)) (decide_eq_decide.2 (by omega)), hbi.out⟩
theorem ref_Form (s : ByteArray) (w : World) (hz : s.size ≤ 140737488351232) : Calls Tryd.prog 61 #[.string s] w fun e w' => e = .returned (.bool (formP s)) ∧ w = w' := by
  go_enter Tryd.func61, Tryd.ntmps61
  go_wp2
  go_loop [3] (fun i => ∃ k : Nat, k ≤ s.size ∧ i = .int .i64 k ∧ ∀ i, i < k → FormAt s i) (fun i => s.size - (intOf i).toNat)
  case atStart => exact ⟨0, by omega, rfl, fun i hi => by omega⟩
  case round =>
    obtain ⟨k, hk, rfl, hall⟩ := hrel
    by_cases hp : k < s.size
    · have hbd := byN_bd s k
      by_cases hl : letC (byN s k)
      · by_cases h98 : byN s k = 98
        · by_cases hlt : s.size ≤ k + 1
          · have H := Lib.hid (fun i (hi : i < k + 1) => show FormAt s i from by
              by_cases e : i = k
              · subst e; exact ⟨hl, fun _ => hlt⟩
              · exact hall i (by omega))
            have h0 : ((s[k]'hp).toNat : Int) = 98 := by rw [byN_at]; exact h98
            have e2 : ((k : Int) == (s.size : Int) - 1) = true := by simp; omega
            have e3 : ((k : Int) != (s.size : Int) - 1) = false := by simp; omega
            clear hall hl h98
            go_wp2
            go_round
            case rel => exact ⟨k + 1, by omega, by go_num, H.out⟩
            case measure => simp [intOf]; omega
          · have hf := Lib.hid (formP_not s k hp (fun h => hlt (h.2 h98)))
            have h0 : ((s[k]'hp).toNat : Int) = 98 := by rw [byN_at]; exact h98
            have e3 : ((k : Int) != (s.size : Int) - 1) = true := by simp; omega
            clear hall hl h98
            go_wp2
            go_ret; exact ⟨by rw [hf.out]; rfl, rfl⟩
        · have H := Lib.hid (fun i (hi : i < k + 1) => show FormAt s i from by
              by_cases e : i = k
              · subst e; exact ⟨hl, fun h => absurd h h98⟩
              · exact hall i (by omega))
          have h0 := byN_at s k hp
          have hl' : ((s[k]'hp).toNat : Int) = 105 ∨ ((s[k]'hp).toNat : Int) = 117 ∨ ((s[k]'hp).toNat : Int) = 115 ∨ ((s[k]'hp).toNat : Int) = 114 := by rw [h0]; unfold letC at hl; omega
          clear hall hl h98 h0 hbd
          rcases hl' with h0 | h0 | h0 | h0
          all_goals
            go_wp2
            go_round
            case rel => exact ⟨k + 1, by omega, by go_num, H.out⟩
            case measure => simp [intOf]; omega
      · have hf := Lib.hid (formP_not s k hp (fun h => hl h.1))
        have h0 := byN_at s k hp
        have hl' : ¬ (((s[k]'hp).toNat : Int) = 105 ∨ ((s[k]'hp).toNat : Int) = 117 ∨ ((s[k]'hp).toNat : Int) = 115 ∨ ((s[k]'hp).toNat : Int) = 114 ∨ ((s[k]'hp).toNat : Int) = 98) := by rw [h0]; unfold letC at hl; exact hl
        clear hall hl h0 hbd
        obtain ⟨c, hc⟩ : ∃ c : Int, c = ((s[k]'hp).toNat : Int) := ⟨_, rfl⟩
        have n1 : (((s[k]'hp).toNat : Int) != 105) = true := by simp; omega
        have n2 : (((s[k]'hp).toNat : Int) != 117) = true := by simp; omega
        have n3 : (((s[k]'hp).toNat : Int) != 115) = true := by simp; omega
        have n4 : (((s[k]'hp).toNat : Int) != 114) = true := by simp; omega
        have n5 : (((s[k]'hp).toNat : Int) != 98) = true := by simp; omega
        clear hl' hc
        go_wp2
        go_ret; exact ⟨by rw [hf.out]; rfl, rfl⟩
    · have hall' : formP s = decide ((s.size : Int) ≤ 8) := by
        unfold formP; exact decide_eq_decide.2 ⟨fun h => by omega, fun h => ⟨fun i hi => hall i (by omega), by omega⟩⟩
      have H := Lib.hid hall'
      clear hall hall'
      go_wp2
      (go_ret; refine ⟨?_, rfl⟩); rw [H.out]; rfl
end Go.Proofs.YtinnaiofgbjicaaDoor
