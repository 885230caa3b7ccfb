/- Looking a rune up in a text of ASCII bytes, by walking the library's own functions. -/
import Derived.Test.YtinnaiofgbjicaaDoorProg
import Derived.Test.YtinnaiofgbjicaaDoorMk
import Derived.Laws.Runes
import Derived.Lib.OthersKept
import Derived.Lib.Bytealg
import Derived.Test.YtinnaiofgbjicaaDoorWWords
namespace Go.Proofs.YtinnaiofgbjicaaDoor
open Go.RowKit
set_option linter.unusedSimpArgs false
set_option linter.unusedVariables false
set_option maxRecDepth 1000000
def Ascii (s : ByteArray) : Prop := ∀ b ∈ s.data.toList, b.toNat < 128
theorem call_IndexByteString (s : ByteArray) (c : Int) (w : World) : (callFunc 137 #[.string s, .int .u8 c]).run Tryd.prog w = .ok (.value (.int .i64 (firstIdx s c.toNat.toUInt8))) w := by
  rw [run_callFunc_extern (fn := Tryd.f137) (e := Extern.BytealgIndexByte.indexByte) Tryd.func137 (by kernel_rfl) (by kernel_rfl) (by kernel_rfl) (by kernel_rfl), run_indexByte_string]
  rfl
theorem str_IndexByte (s : ByteArray) (c : Int) (w : World) : Calls Tryd.prog 118 #[.string s, .int .u8 c] w fun e w' => e = .returned (.int .i64 (firstIdx s c.toNat.toUInt8)) ∧ w = w' := by
  have hx := fun s c w => call_IndexByteString s c w
  go_enter Tryd.func118, Tryd.ntmps118
  go_wp2
  (go_ret; refine ⟨?_, rfl⟩); rfl
theorem str_IndexRune_low (s : ByteArray) (r : Int) (w : World) (h0 : 0 ≤ r) (h1 : r < 128) : Calls Tryd.prog 107 #[.string s, .int .i32 r] w fun e w' => e = .returned (.int .i64 (firstIdx s r.toNat.toUInt8)) ∧ w = w' := by
  go_enter Tryd.func107, Tryd.ntmps107
  go_wp2_with (first | (go_at_call 118; (with_reducible refine (str_IndexByte _ _ _).mono ?_); rintro e w1 ⟨rfl, rfl⟩))
  (go_ret; refine ⟨?_, rfl⟩); rfl
theorem str_ValidRune (r : Int) (w : World) : Calls Tryd.prog 119 #[.int .i32 r] w fun e w' => e = .returned (.bool (validRune r)) ∧ w = w' := by
  unfold validRune
  go_enter Tryd.func119, Tryd.ntmps119
  go_wp2
  all_goals ((go_ret; refine ⟨?_, rfl⟩); simp; omega)
theorem str_IndexRune_odd (s : ByteArray) (r : Int) (w : World) (h0 : 128 ≤ r) (h1 : ¬ r = 65533) (hv : validRune r = false) : Calls Tryd.prog 107 #[.string s, .int .i32 r] w fun e w' => e = .returned (.int .i64 (-1)) ∧ w = w' := by
  have e1 : (r == 65533) = false := by simpa using h1
  have cv := fun w => str_ValidRune r w
  rw [hv] at cv
  go_enter Tryd.func107, Tryd.ntmps107
  go_wp2_with (first | (go_at_call 119; (with_reducible refine (cv _).mono ?_); rintro e w1 ⟨rfl, rfl⟩))
  (go_ret; refine ⟨?_, rfl⟩); rfl
theorem str_IndexRune_err (s : ByteArray) (w : World) (hs : Ascii s) : Calls Tryd.prog 107 #[.string s, .int .i32 65533] w fun e w' => e = .returned (.int .i64 (-1)) ∧ Below w.heap.size w w' := by
  go_enter Tryd.func107, Tryd.ntmps107
  go_wp2
  go_loopw [] (fun w' => ∃ pos, w' = w.iter s pos) (fun w' => s.size - w'.iterPos w.heap.size)
  case atStart => exact ⟨0, rfl⟩
  case round =>
    obtain ⟨pos, rfl⟩ := hrel
    by_cases hp : pos < s.size
    · have ha : (s[pos]'hp).toNat < 128 := hs _ (Array.getElem_mem_toList (xs := s.data) hp)
      have hne : (((s[pos]'hp).toNat : Int) == 65533) = false := by simp; omega
      have hnx := fun ty => run_next_ascii (P := Tryd.prog) w s pos ty hp ha
      go_wp2
      go_roundw
      case rel => exact ⟨pos + 1, rfl⟩
      case measure => simp; omega
    · have hnx := fun ty => run_next_end (P := Tryd.prog) w s pos ty hp
      go_wp2
      go_ret
      exact ⟨rfl, (Below.refl _ _).alloc (Nat.le_refl _) _⟩
theorem idx_string (s : ByteArray) (i : Nat) (h : i < s.size) (w : World) : (Instr.index 9 (.string s) (.int .i64 i)).run Tryd.prog w = .ok (.int .u8 ((s[i]'h).toNat : Int)) w := by
  rw [run_index_string (h := Tryd.underlying9)]
  simp [h]
theorem ascii_ne (s t : ByteArray) (i j : Nat) (hs : Ascii s) (hi : i < s.size) (hj : j < t.size) (ht : 128 ≤ (t[j]'hj).toNat) : (((s[i]'hi).toNat : Int) != ((t[j]'hj).toNat : Int)) = true := by
  have := hs _ (Array.getElem_mem_toList (xs := s.data) hi)
  have h2 : (s[i]'hi).toNat < 128 := this
  simp; omega
set_option maxHeartbeats 1000000 in
theorem str_IndexRune_high (s : ByteArray) (r : Int) (w : World) (hs : Ascii s) (hz : s.size ≤ 1000000) (h0 : 128 ≤ r) (h1 : ¬ r = 65533) (hv : validRune r = true) : Calls Tryd.prog 107 #[.string s, .int .i32 r] w fun e w' => e = .returned (.int .i64 (-1)) ∧ Below w.heap.size w w' := by
  have e1 : (r == 65533) = false := by simpa using h1
  have cv := fun w => str_ValidRune r w
  rw [hv] at cv
  obtain ⟨g0, g1, g2⟩ := encode_facts r (by rw [validRune_eq]; exact hv) h0
  have g3 := g2 (by omega)
  clear g2
  obtain ⟨t, ht⟩ : ∃ t, t = Utf8.encode r := ⟨_, rfl⟩
  have cr : ∀ w, (convert 21 9 (.int .i32 r)).run Tryd.prog w = .ok (.string t) w := fun w => by rw [ht]; exact run_convert_int_string w _ _ _ _ (by kernel_rfl) Tryd.underlying9
  rw [← ht] at g0 g1
  have g4 : 128 ≤ (t[t.size - 1]'(by omega)).toNat := by subst ht; exact g3
  clear g3 ht
  obtain ⟨L, hL⟩ : ∃ L, t.size = L + 1 := ⟨t.size - 1, by omega⟩
  have hLt : L < t.size := by omega
  have g5 : 128 ≤ (t[L]'hLt).toNat := by simpa [hL] using g4
  have gl : 1 ≤ L ∧ L ≤ 3 := by omega
  clear g4 g0 g1
  obtain ⟨gl0, gl1⟩ := gl
  have hb : (t[L]'hLt).toNat < 256 := (t[L]'hLt).toNat_lt
  by_cases hi : L < s.size
  · have hne := ascii_ne s t L L hs hi hLt g5
    have ci : ∀ w, Calls Tryd.prog 118 #[.string (s.extract (L + 1) s.size), .int .u8 ((t[L]'hLt).toNat : Int)] w fun e w' => e = .returned (.int .i64 (-1)) ∧ w = w' := fun w => by
      have h := str_IndexByte (s.extract (L + 1) s.size) ((t[L]'hLt).toNat : Int) w
      rwa [firstIdx_ascii s _ _ _ hs (by simpa using g5)] at h
    have it := fun w => idx_string t L hLt w
    have q1 : IntKind.i64.wrap ((L : Int) + 1) = (L : Int) + 1 := IntWalk.i64_in _ (by omega)
    have q2 : 0 ≤ (L : Int) + 1 := by omega
    have q3 : ((L : Int) + 1).toNat = L + 1 := by omega
    have q4 : (L : Int) + 1 ≤ (s.size : Int) := by omega
    go_enter Tryd.func107, Tryd.ntmps107
    go_wp2_with (first | (go_at_call 119; (with_reducible refine (cv _).mono ?_); rintro e w1 ⟨rfl, rfl⟩))
    go_step3
    go_wp2_with fail
    refine wp_loop_rounds 1 ?_
    rw [rounds_succ]
    go_wp2_with fail
    go_step3
    go_wp2_with fail
    (refine wp_region_ext_lit (by kernel_rfl) (by kernel_rfl) ?_; (repeat (go_big_quiet_step ((fail)))); refine wpQuiet_nil ?_; intro w4 hb_w4; obtain ⟨hc_w4, hf_w4⟩ := bcell hb_w4; have hz_w4 := hb_w4.size; (try simp only [World.size_alloc, World.size_setCell, World.size_drew] at hz_w4))
    go_wp2_with fail
    (refine wp_region_ext_lit (by kernel_rfl) (by kernel_rfl) ?_; (repeat (go_big_quiet_step ((first | (go_at_call 118; with_reducible exact ext_same (ci _)))))); refine wpQuiet_nil ?_; intro w5 hb_w5; obtain ⟨hc_w5, hf_w5⟩ := bcell hb_w5; have hz_w5 := hb_w5.size; (try simp only [World.size_alloc, World.size_setCell, World.size_drew] at hz_w5))
    go_wp2_with fail
    rw [Exit.noGoto_ret]
    go_wp2_with fail
    rw [Exit.noGoto_ret]
    go_ret
    exact ⟨rfl, by (repeat (first | (with_reducible exact Below.refl _ _) | ((with_reducible refine Below.alloc ?_ ?hB _); (case hB => (first | omega | (simp; done) | (simp; omega)))) | ((with_reducible refine Below.setCell ?_ ?hB _); (case hB => (first | omega | (simp; done) | (simp; omega)))) | (with_reducible refine Below.drew ?_) | ((with_reducible refine below_ext_of ?_ ?hB); (case hB => (first | omega | (simp; done) | (simp; omega)))) | ((with_reducible refine Below.trans ?_ (Below.mono (by assumption) ?hB)); (case hB => (first | omega | (simp; done) | (simp; omega))))))⟩
  · go_enter Tryd.func107, Tryd.ntmps107
    go_wp2_with (first | (go_at_call 119; (with_reducible refine (cv _).mono ?_); rintro e w1 ⟨rfl, rfl⟩))
    go_step3
    go_wp2_with fail
    refine wp_loop_rounds 1 ?_
    rw [rounds_succ]
    go_wp2_with fail
    rw [Exit.noGoto_ret]
    go_ret
    exact ⟨rfl, Below.refl _ _⟩
theorem str_IndexRune_not (s : ByteArray) (r : Int) (w : World) (hs : Ascii s) (hz : s.size ≤ 1000000) (h0 : 128 ≤ r) : Calls Tryd.prog 107 #[.string s, .int .i32 r] w fun e w' => e = .returned (.int .i64 (-1)) ∧ Below w.heap.size w w' := by
  by_cases h1 : r = 65533
  · subst h1; exact str_IndexRune_err s w hs
  · cases hv : validRune r
    · exact (str_IndexRune_odd s r w h0 h1 hv).mono fun e w' ⟨he, hw⟩ => ⟨he, hw ▸ Below.refl _ _⟩
    · exact str_IndexRune_high s r w hs hz h0 h1 hv
def hasB (s : ByteArray) (c : Int) : Bool := decide (0 ≤ firstIdx s c.toNat.toUInt8)
theorem str_ContainsRune_low (s : ByteArray) (r : Int) (w : World) (h0 : 0 ≤ r) (h1 : r < 128) : Calls Tryd.prog 94 #[.string s, .int .i32 r] w fun e w' => e = .returned (.bool (hasB s r)) ∧ w = w' := by
  have ci := fun w => str_IndexRune_low s r w h0 h1
  go_enter Tryd.func94, Tryd.ntmps94
  go_wp2_with (first | (go_at_call 107; (with_reducible refine (ci _).mono ?_); rintro e w1 ⟨rfl, rfl⟩))
  (go_ret; refine ⟨?_, rfl⟩); rfl
theorem str_ContainsRune_not (s : ByteArray) (r : Int) (w : World) (hs : Ascii s) (hz : s.size ≤ 1000000) (h0 : 128 ≤ r) : Calls Tryd.prog 94 #[.string s, .int .i32 r] w fun e w' => e = .returned (.bool false) ∧ Below w.heap.size w w' := by
  have ci := fun w => str_IndexRune_not s r w hs hz h0
  go_enter Tryd.func94, Tryd.ntmps94
  go_wp2_with (first | (go_at_call 107; (with_reducible refine (ci _).mono ?_); rintro e w1 ⟨rfl, hb1⟩; obtain ⟨hc1, hf1⟩ := bcell hb1; have hz1 := hb1.size; (try simp only [World.size_alloc, World.size_setCell, World.size_drew] at hz1)))
  (go_ret; refine ⟨?_, by (repeat (first | (with_reducible exact Below.refl _ _) | ((with_reducible refine Below.alloc ?_ ?hB _); (case hB => (first | omega | (simp; done) | (simp; omega)))) | ((with_reducible refine Below.setCell ?_ ?hB _); (case hB => (first | omega | (simp; done) | (simp; omega)))) | (with_reducible refine Below.drew ?_) | ((with_reducible refine below_ext_of ?_ ?hB); (case hB => (first | omega | (simp; done) | (simp; omega)))) | ((with_reducible refine Below.trans ?_ (Below.mono (by assumption) ?hB)); (case hB => (first | omega | (simp; done) | (simp; omega))))))⟩); rfl
end Go.Proofs.YtinnaiofgbjicaaDoor
namespace Go.Proofs.YtinnaiofgbjicaaDoor
open Go.RowKit
set_option linter.unusedSimpArgs false
set_option linter.unusedVariables false
set_option maxRecDepth 1000000
/-- A byte of a text, as a number; 0 behind its end. -/
def byN (s : ByteArray) (i : Nat) : Int := if h : i < s.size then ((s[i]'h).toNat : Int) else 0
theorem byN_at (s : ByteArray) (i : Nat) (h : i < s.size) : ((s[i]'h).toNat : Int) = byN s i := by simp [byN, h]
theorem byN_bd (s : ByteArray) (i : Nat) : 0 ≤ byN s i ∧ byN s i ≤ 255 := by
  unfold byN; split
  · have := (s[i]'‹_›).toNat_lt; omega
  · omega
def letC (c : Int) : Prop := c = 105 ∨ c = 117 ∨ c = 115 ∨ c = 114 ∨ c = 98
instance (c : Int) : Decidable (letC c) := by unfold letC; infer_instance
def FormAt (s : ByteArray) (i : Nat) : Prop := letC (byN s i) ∧ (byN s i = 98 → s.size ≤ i + 1)
instance (s : ByteArray) (i : Nat) : Decidable (FormAt s i) := by unfold FormAt; infer_instance
def formP (s : ByteArray) : Bool := decide ((∀ i, i < s.size → FormAt s i) ∧ s.size ≤ 8)
theorem formP_not (s : ByteArray) (k : Nat) (hk : k < s.size) (h : ¬ FormAt s k) : formP s = false := by
  unfold formP; rw [decide_eq_false_iff_not]; exact fun ⟨h1, _⟩ => h (h1 k hk)
theorem form_b {s : ByteArray} {i : Nat} (h : ¬ FormAt s i) (hl : letC (byN s i)) : byN s i = 98 ∧ i + 1 < s.size := by
  by_cases h1 : byN s i = 98
  · refine ⟨h1, ?_⟩
    by_cases h2 : i + 1 < s.size
    · exact h2
    · exact absurd ⟨hl, fun _ => by omega⟩ h
  · exact absurd ⟨hl, fun h2 => absurd h2 h1⟩ h
def lettersB : ByteArray := { data := #[105, 117, 115, 114, 98] }
theorem letters_ascii : Ascii lettersB := by
  intro b hb
  simp only [lettersB, List.mem_cons, List.not_mem_nil, or_false] at hb
  rcases hb with rfl | rfl | rfl | rfl | rfl <;> decide
theorem letters_has (c : Int) (h0 : 0 ≤ c) (h1 : c < 128) : hasB lettersB c = decide (letC c) := by
  obtain ⟨n, rfl⟩ := Int.eq_ofNat_of_zero_le h0
  have h : n < 128 := by omega
  revert h
  have : ∀ n : Fin 128, hasB lettersB (n.val : Int) = decide (letC (n.val : Int)) := by decide +kernel
  intro h
  exact this ⟨n, h⟩
theorem has_yes (c : Int) (h0 : 0 ≤ c) (h1 : c < 128) (h : letC c) (w : World) : Calls Tryd.prog 94 #[.string { data := #[105, 117, 115, 114, 98] }, .int .i32 c] w fun e w' => e = .returned (.bool true) ∧ w = w' := by
  have := str_ContainsRune_low lettersB c w h0 h1
  rw [letters_has c h0 h1, decide_eq_true h] at this; exact this
theorem has_no (c : Int) (h0 : 0 ≤ c) (h : ¬ letC c) (w : World) : Calls Tryd.prog 94 #[.string { data := #[105, 117, 115, 114, 98] }, .int .i32 c] w fun e w' => e = .returned (.bool false) ∧ Below w.heap.size w w' := by
  by_cases h1 : c < 128
  · have := str_ContainsRune_low lettersB c w h0 h1
    rw [letters_has c h0 h1, decide_eq_false h] at this; exact this.mono fun e w' ⟨he, hw⟩ => ⟨he, hw ▸ Below.refl _ _⟩
  · exact str_ContainsRune_not lettersB c w letters_ascii (by decide) (by omega)
theorem below_iter (w : World) (s : ByteArray) (pos : Nat) : Below w.heap.size w (w.iter s pos) := (Below.refl _ _).alloc (Nat.le_refl _) _
theorem size_iter (w : World) (s : ByteArray) (pos : Nat) : (w.iter s pos).heap.size = w.heap.size + 1 := by simp [World.iter]
set_option maxHeartbeats 1000000 in
theorem args_Form (s : ByteArray) (w : World) (hz : s.size ≤ 140737488351232) : Calls Tryd.prog 65 #[.string s] w fun e w' => e = .returned (.bool (formP s)) ∧ Below w.heap.size w w' := by
  go_enter Tryd.func65, Tryd.ntmps65
  go_wp2
  go_loopw [] (fun w' => ∃ pos, pos ≤ s.size ∧ w' = w.iter s pos ∧ ∀ i, i < pos → FormAt s i) (fun w' => s.size - w'.iterPos w.heap.size)
  case atStart => exact ⟨0, by omega, rfl, fun i hi => by omega⟩
  case round =>
    obtain ⟨pos, hps, rfl, hall⟩ := hrel
    have hsz := size_iter w s pos
    have hbi := Lib.hid (below_iter w s pos)
    have hbj := Lib.hid (below_iter w s (pos + 1))
    have hbk := Lib.hid (below_iter w s (pos + (Utf8.decode s pos).2))
    by_cases hp : pos < s.size
    · by_cases hg : FormAt s pos
      · obtain ⟨hl, hb⟩ := hg
        have ha : (s[pos]'hp).toNat < 128 := by
          have e := byN_at s pos hp
          unfold letC at hl; omega
        have hnx := fun ty => run_next_ascii (P := Tryd.prog) w s pos ty hp ha
        have hc := fun w => has_yes (byN s pos) (by unfold letC at hl; omega) (by unfold letC at hl; omega) hl w
        rw [← byN_at s pos hp] at hc
        have hall' : ∀ i, i < pos + 1 → FormAt s i := fun i hi => by
          by_cases e : i = pos
          · subst e; exact ⟨hl, hb⟩
          · exact hall i (by omega)
        have H := Lib.hid hall'
        clear hall hall'
        by_cases h98 : byN s pos = 98
        · have e1 : (((s[pos]'hp).toNat : Int) == 98) = true := by simp [byN_at, h98]
          have e2 := hb h98
          have e3 : decide ((pos : Int) < (s.size : Int) - 1) = false := by simp; omega
          have e4 : ¬ (pos : Int) < (s.size : Int) - 1 := by omega
          go_wp2_with (first | (go_at_call 94; (with_reducible refine (hc _).mono ?_); rintro e w1 ⟨rfl, rfl⟩))
          go_roundw
          case rel => exact ⟨pos + 1, by omega, rfl, H.out⟩
          case measure => simp; omega
        · have e1 : (((s[pos]'hp).toNat : Int) == 98) = false := by simp [byN_at, h98]
          go_wp2_with (first | (go_at_call 94; (with_reducible refine (hc _).mono ?_); rintro e w1 ⟨rfl, rfl⟩))
          go_roundw
          case rel => exact ⟨pos + 1, by omega, rfl, H.out⟩
          case measure => simp; omega
      · have hf := Lib.hid (formP_not s pos hp hg)
        by_cases hl : letC (byN s pos)
        · have h98 : byN s pos = 98 ∧ pos + 1 < s.size := form_b hg hl
          obtain ⟨h98, hlt⟩ := h98
          have ha : (s[pos]'hp).toNat < 128 := by
            have e := byN_at s pos hp
            omega
          have hnx := fun ty => run_next_ascii (P := Tryd.prog) w s pos ty hp ha
          have hc := fun w => has_yes (byN s pos) (by omega) (by omega) hl w
          rw [← byN_at s pos hp] at hc
          have e1 : (((s[pos]'hp).toNat : Int) == 98) = true := by simp [byN_at, h98]
          have e4 : (pos : Int) < (s.size : Int) - 1 := by omega
          clear hall h98 hg hl
          go_wp2_with (first | (go_at_call 94; (with_reducible refine (hc _).mono ?_); rintro e w1 ⟨rfl, rfl⟩))
          go_ret; exact ⟨by rw [hf.out]; rfl, hbj.out⟩
        · by_cases ha : (s[pos]'hp).toNat < 128
          · have hnx := fun ty => run_next_ascii (P := Tryd.prog) w s pos ty hp ha
            have hc := fun w => has_no (byN s pos) (byN_bd s pos).1 hl w
            rw [← byN_at s pos hp] at hc
            clear hall hg hl
            go_wp2_with (first | (go_at_call 94; (with_reducible refine (hc _).mono ?_); rintro e w1 ⟨rfl, hb1⟩; obtain ⟨hc1, hf1⟩ := bcell hb1; have hz1 := hb1.size; (try simp only [World.size_alloc, World.size_setCell, World.size_drew] at hz1)))
            go_ret; exact ⟨by rw [hf.out]; rfl, hbj.out.trans (hb1.mono (by rw [size_iter]; omega))⟩
          · have hd := decode_high s pos hp (by omega)
            have hnx := fun ty => run_next_any (P := Tryd.prog) w s pos ty hp
            have hc := fun w => has_no ((Utf8.decode s pos).1 : Int) (by omega) (by unfold letC; omega) w
            clear hall hg hl
            go_wp2_with (first | (go_at_call 94; (with_reducible refine (hc _).mono ?_); rintro e w1 ⟨rfl, hb1⟩; obtain ⟨hc1, hf1⟩ := bcell hb1; have hz1 := hb1.size; (try simp only [World.size_alloc, World.size_setCell, World.size_drew] at hz1)))
            go_ret; exact ⟨by rw [hf.out]; rfl, hbk.out.trans (hb1.mono (by rw [size_iter]; omega))⟩
    · have hnx := fun ty => run_next_end (P := Tryd.prog) w s pos ty hp
      have hall' : formP s = decide (s.size ≤ 8) := by
        unfold formP; exact decide_eq_decide.2 ⟨fun h => h.2, fun h => ⟨fun i hi => hall i (by omega), h⟩⟩
      have H := Lib.hid hall'
      clear hall hall'
      go_wp2
      go_ret; exact ⟨by rw [H.out]; exact congrArg (fun b => Ending.returned (.bool b)) (decide_eq_decide.2 (by omega)), hbi.out⟩
theorem ref_Form (s : ByteArray) (w : World) (hz : s.size ≤ 140737488351232) : Calls Tryd.prog 61 #[.string s] w fun e w' => e = .returned (.bool (formP s)) ∧ w = w' := by
  go_enter Tryd.func61, Tryd.ntmps61
  go_wp2
  go_loop [3] (fun i => ∃ k : Nat, k ≤ s.size ∧ i = .int .i64 k ∧ ∀ i, i < k → FormAt s i) (fun i => s.size - (intOf i).toNat)
  case atStart => exact ⟨0, by omega, rfl, fun i hi => by omega⟩
  case round =>
    obtain ⟨k, hk, rfl, hall⟩ := hrel
    by_cases hp : k < s.size
    · have hbd := byN_bd s k
      by_cases hl : letC (byN s k)
      · by_cases h98 : byN s k = 98
        · by_cases hlt : s.size ≤ k + 1
          · have H := Lib.hid (fun i (hi : i < k + 1) => show FormAt s i from by
              by_cases e : i = k
              · subst e; exact ⟨hl, fun _ => hlt⟩
              · exact hall i (by omega))
            have h0 : ((s[k]'hp).toNat : Int) = 98 := by rw [byN_at]; exact h98
            have e2 : ((k : Int) == (s.size : Int) - 1) = true := by simp; omega
            have e3 : ((k : Int) != (s.size : Int) - 1) = false := by simp; omega
            clear hall hl h98
            go_wp2
            go_round
            case rel => exact ⟨k + 1, by omega, by go_num, H.out⟩
            case measure => simp [intOf]; omega
          · have hf := Lib.hid (formP_not s k hp (fun h => hlt (h.2 h98)))
            have h0 : ((s[k]'hp).toNat : Int) = 98 := by rw [byN_at]; exact h98
            have e3 : ((k : Int) != (s.size : Int) - 1) = true := by simp; omega
            clear hall hl h98
            go_wp2
            go_ret; exact ⟨by rw [hf.out]; rfl, rfl⟩
        · have H := Lib.hid (fun i (hi : i < k + 1) => show FormAt s i from by
              by_cases e : i = k
              · subst e; exact ⟨hl, fun h => absurd h h98⟩
              · exact hall i (by omega))
          have h0 := byN_at s k hp
          have hl' : ((s[k]'hp).toNat : Int) = 105 ∨ ((s[k]'hp).toNat : Int) = 117 ∨ ((s[k]'hp).toNat : Int) = 115 ∨ ((s[k]'hp).toNat : Int) = 114 := by rw [h0]; unfold letC at hl; omega
          clear hall hl h98 h0 hbd
          rcases hl' with h0 | h0 | h0 | h0
          all_goals
            go_wp2
            go_round
            case rel => exact ⟨k + 1, by omega, by go_num, H.out⟩
            case measure => simp [intOf]; omega
      · have hf := Lib.hid (formP_not s k hp (fun h => hl h.1))
        have h0 := byN_at s k hp
        have hl' : ¬ (((s[k]'hp).toNat : Int) = 105 ∨ ((s[k]'hp).toNat : Int) = 117 ∨ ((s[k]'hp).toNat : Int) = 115 ∨ ((s[k]'hp).toNat : Int) = 114 ∨ ((s[k]'hp).toNat : Int) = 98) := by rw [h0]; unfold letC at hl; exact hl
        clear hall hl h0 hbd
        obtain ⟨c, hc⟩ : ∃ c : Int, c = ((s[k]'hp).toNat : Int) := ⟨_, rfl⟩
        have n1 : (((s[k]'hp).toNat : Int) != 105) = true := by simp; omega
        have n2 : (((s[k]'hp).toNat : Int) != 117) = true := by simp; omega
        have n3 : (((s[k]'hp).toNat : Int) != 115) = true := by simp; omega
        have n4 : (((s[k]'hp).toNat : Int) != 114) = true := by simp; omega
        have n5 : (((s[k]'hp).toNat : Int) != 98) = true := by simp; omega
        clear hl' hc
        go_wp2
        go_ret; exact ⟨by rw [hf.out]; rfl, rfl⟩
    · have hall' : formP s = decide ((s.size : Int) ≤ 8) := by
        unfold formP; exact decide_eq_decide.2 ⟨fun h => by omega, fun h => ⟨fun i hi => hall i (by omega), by omega⟩⟩
      have H := Lib.hid hall'
      clear hall hall'
      go_wp2
      (go_ret; refine ⟨?_, rfl⟩); rw [H.out]; rfl
end Go.Proofs.YtinnaiofgbjicaaDoor
namespace Go.Proofs.YtinnaiofgbjicaaDoor
open Go.RowKit Go.Proofs.YtinnaiofgbjicaaDoorW.PrintWords
set_option linter.unusedSimpArgs false
set_option linter.unusedVariables false
set_option maxRecDepth 1000000
@[go_sem] theorem ta_ii (v : Value) (w : World) : (Instr.typeAssert (.iface 3 v) 20 3 true).run Tryd.prog w = .ok (.tuple #[v, .bool true]) w := by kernel_rfl
@[go_sem] theorem ta_ss (v : Value) (w : World) : (Instr.typeAssert (.iface 9 v) 20 9 true).run Tryd.prog w = .ok (.tuple #[v, .bool true]) w := by kernel_rfl
@[go_sem] theorem ta_rr (v : Value) (w : World) : (Instr.typeAssert (.iface 26 v) 20 26 true).run Tryd.prog w = .ok (.tuple #[v, .bool true]) w := by kernel_rfl
@[go_sem] theorem ta_bb (v : Value) (w : World) : (Instr.typeAssert (.iface 22 v) 20 22 true).run Tryd.prog w = .ok (.tuple #[v, .bool true]) w := by kernel_rfl
@[go_sem] theorem tx_is (v : Value) (w : World) : (Instr.typeAssert (.iface 3 v) 20 9 true).run Tryd.prog w = .ok (.tuple #[.string ⟨#[]⟩, .bool false]) w := by kernel_rfl
@[go_sem] theorem tx_ir (v : Value) (w : World) : (Instr.typeAssert (.iface 3 v) 20 26 true).run Tryd.prog w = .ok (.tuple #[(.agg #[.int .i64 (0), .int .i64 (0), .int .i64 (0), .int .i64 (0)]), .bool false]) w := by kernel_rfl
@[go_sem] theorem tx_ib (v : Value) (w : World) : (Instr.typeAssert (.iface 3 v) 20 22 true).run Tryd.prog w = .ok (.tuple #[.slice none 0 0, .bool false]) w := by kernel_rfl
@[go_sem] theorem tx_si (v : Value) (w : World) : (Instr.typeAssert (.iface 9 v) 20 3 true).run Tryd.prog w = .ok (.tuple #[.int .i64 0, .bool false]) w := by kernel_rfl
@[go_sem] theorem tx_sr (v : Value) (w : World) : (Instr.typeAssert (.iface 9 v) 20 26 true).run Tryd.prog w = .ok (.tuple #[(.agg #[.int .i64 (0), .int .i64 (0), .int .i64 (0), .int .i64 (0)]), .bool false]) w := by kernel_rfl
@[go_sem] theorem tx_sb (v : Value) (w : World) : (Instr.typeAssert (.iface 9 v) 20 22 true).run Tryd.prog w = .ok (.tuple #[.slice none 0 0, .bool false]) w := by kernel_rfl
@[go_sem] theorem tx_ri (v : Value) (w : World) : (Instr.typeAssert (.iface 26 v) 20 3 true).run Tryd.prog w = .ok (.tuple #[.int .i64 0, .bool false]) w := by kernel_rfl
@[go_sem] theorem tx_rs (v : Value) (w : World) : (Instr.typeAssert (.iface 26 v) 20 9 true).run Tryd.prog w = .ok (.tuple #[.string ⟨#[]⟩, .bool false]) w := by kernel_rfl
@[go_sem] theorem tx_rb (v : Value) (w : World) : (Instr.typeAssert (.iface 26 v) 20 22 true).run Tryd.prog w = .ok (.tuple #[.slice none 0 0, .bool false]) w := by kernel_rfl
@[go_sem] theorem tx_bi (v : Value) (w : World) : (Instr.typeAssert (.iface 22 v) 20 3 true).run Tryd.prog w = .ok (.tuple #[.int .i64 0, .bool false]) w := by kernel_rfl
@[go_sem] theorem tx_bs (v : Value) (w : World) : (Instr.typeAssert (.iface 22 v) 20 9 true).run Tryd.prog w = .ok (.tuple #[.string ⟨#[]⟩, .bool false]) w := by kernel_rfl
@[go_sem] theorem tx_br (v : Value) (w : World) : (Instr.typeAssert (.iface 22 v) 20 26 true).run Tryd.prog w = .ok (.tuple #[(.agg #[.int .i64 (0), .int .i64 (0), .int .i64 (0), .int .i64 (0)]), .bool false]) w := by kernel_rfl
@[go_sem] theorem tx_fi (v : Value) (w : World) : (Instr.typeAssert (.iface 4 v) 20 3 true).run Tryd.prog w = .ok (.tuple #[.int .i64 0, .bool false]) w := by kernel_rfl
@[go_sem] theorem tx_fs (v : Value) (w : World) : (Instr.typeAssert (.iface 4 v) 20 9 true).run Tryd.prog w = .ok (.tuple #[.string ⟨#[]⟩, .bool false]) w := by kernel_rfl
@[go_sem] theorem tx_fr (v : Value) (w : World) : (Instr.typeAssert (.iface 4 v) 20 26 true).run Tryd.prog w = .ok (.tuple #[(.agg #[.int .i64 (0), .int .i64 (0), .int .i64 (0), .int .i64 (0)]), .bool false]) w := by kernel_rfl
@[go_sem] theorem tx_fb (v : Value) (w : World) : (Instr.typeAssert (.iface 4 v) 20 22 true).run Tryd.prog w = .ok (.tuple #[.slice none 0 0, .bool false]) w := by kernel_rfl
theorem bcellB {B : Nat} {W w1 : World} (hb : Below B W w1) : (∀ b o, w1.cell? ⟨b, o, none⟩ = if b < B then W.cell? ⟨b, o, none⟩ else cellOf w1 b o) ∧ (∀ b o, w1.frozen? ⟨b, o, none⟩ = takeB (if b < B then some (W.frozen? ⟨b, o, none⟩) else none) (frozenOf w1 b o)) := by
  refine ⟨fun b o => ?_, fun b o => ?_⟩
  · split
    · exact hb.cell (p := ⟨b, o, none⟩) ‹_›
    · rfl
  · split
    · exact hb.frozen (p := ⟨b, o, none⟩) ‹_›
    · rfl
/-- A number's four bytes. -/
def b4 (n : Int) : List Int := [n / 16777216 % 256, n / 65536 % 256, n / 256 % 256, n % 256]
theorem args_number (n : Int) (w : World) (hn : -9223372036854775808 ≤ n ∧ n ≤ 9223372036854775807) : Calls Tryd.prog 105 #[.int .i64 n] w fun e w' => e = .returned (.slice (some ⟨w.heap.size, 0, none⟩) 4 4) ∧ w.alloc (.cells (nums .u8 (b4 n)).toArray 5) = w' := by
  go_enter Tryd.func105, Tryd.ntmps105
  go_wp2
  go_ret
  exact ⟨rfl, by simp [nums, b4]⟩
theorem ref_digits (n : Int) (w : World) (hn : -2147483648 ≤ n ∧ n < 4294967296) : Calls Tryd.prog 92 #[.int .i64 n] w fun e w' => e = .returned (.slice (some ⟨w.heap.size, 0, none⟩) 4 4) ∧ w.alloc (.cells (nums .u8 (b4 n)).toArray 5) = w' := by
  by_cases h : n < 0
  · go_enter Tryd.func92, Tryd.ntmps92
    go_wp2
    go_ret
    refine ⟨rfl, ?_⟩
    refine congrArg (fun l : List Value => w.alloc (.cells l.toArray 5)) ?_
    simp only [nums, b4, List.map_cons, List.map_nil, List.cons.injEq, Value.int.injEq, true_and, and_true]
    omega
  · go_enter Tryd.func92, Tryd.ntmps92
    go_wp2
    go_ret
    refine ⟨rfl, ?_⟩
    refine congrArg (fun l : List Value => w.alloc (.cells l.toArray 5)) ?_
    simp only [nums, b4, List.map_cons, List.map_nil, List.cons.injEq, Value.int.injEq, true_and, and_true]
    omega
theorem ref_small (n : Int) (w : World) : Calls Tryd.prog 91 #[.int .i64 n] w fun e w' => e = .returned (.bool (decide (-2147483648 ≤ n ∧ n ≤ 2147483647))) ∧ w = w' := by
  go_enter Tryd.func91, Tryd.ntmps91
  go_wp2
  all_goals ((go_ret; refine ⟨?_, rfl⟩); simp; omega)
theorem ret2b {v : Value} {a b : Bool} (h : a = b) : Ending.returned (.tuple #[v, .bool a]) = .returned (.tuple #[v, .bool b]) := by rw [h]
def fitI (c n : Int) : Bool := decide ((c = 105 ∧ -2147483648 ≤ n ∧ n < 2147483648) ∨ (c = 117 ∧ 0 ≤ n ∧ n < 4294967296))
def fitS (c : Int) (s : ByteArray) : Bool := decide (c = 115 ∧ s.size ≤ 255)
def fitB (c : Int) (n : Nat) : Bool := decide (c = 98 ∧ n ≤ 4096)
theorem info_u8 : (Tryd.prog.info? 5).map (fun i => (i.zero, i.size, i.bytes)) = some (some (.int .u8 0), 1, 1) := by kernel_rfl
theorem put_int (c n : Int) (w : World) (hn : -9223372036854775808 ≤ n ∧ n ≤ 9223372036854775807) : Calls Tryd.prog 90 #[.int .u8 c, (.iface 3 (.int .i64 n))] w fun e w' => e = .returned (.tuple #[.slice (some ⟨w.heap.size, 0, none⟩) 4 4, .bool (fitI c n)]) ∧ w.alloc (.cells (nums .u8 (b4 n)).toArray 5) = w' := by
  go_enter Tryd.func90, Tryd.ntmps90
  go_wp2_with (first | (go_at_call 105; (with_reducible refine (args_number _ _ hn).mono ?_); rintro e w1 ⟨rfl, rfl⟩))
  all_goals (go_ret2; exact ⟨ret2b (by (first | rfl | (rw [Bool.eq_iff_iff]; simp [fitI]; done) | (rw [Bool.eq_iff_iff]; simp [fitI]; omega))), rfl⟩)
theorem put_oth (c : Int) (w : World) : Calls Tryd.prog 90 #[.int .u8 c, (.iface 4 (.bool true))] w fun e w' => e = .returned (.tuple #[.slice none 0 0, .bool false]) ∧ w = w' := by
  go_enter Tryd.func90, Tryd.ntmps90
  go_wp2
  go_ret2
  exact ⟨rfl, rfl⟩
theorem put_byt (c : Int) (A : Option Addr) (n cap : Nat) (w : World) : Calls Tryd.prog 90 #[.int .u8 c, (.iface 22 (.slice A n cap))] w fun e w' => e = .returned (.tuple #[.slice A n cap, .bool (fitB c n)]) ∧ w = w' := by
  go_enter Tryd.func90, Tryd.ntmps90
  go_wp2
  all_goals (go_ret2; exact ⟨ret2b (by (first | rfl | (rw [Bool.eq_iff_iff]; simp [fitB]; done) | (rw [Bool.eq_iff_iff]; simp [fitB]; omega))), rfl⟩)
def strB (s : ByteArray) : List Int := ((s.size : Int) % 256) :: bytesOf s
theorem put_str (c : Int) (s : ByteArray) (w : World) (hs : s.size ≤ 140737488351232) : Calls Tryd.prog 90 #[.int .u8 c, (.iface 9 (.string s))] w fun e w' => ∃ v, e = .returned (.tuple #[v, .bool (fitS c s)]) ∧ w'.ownsRow w.heap.size 5 1 v (strB s).length (nums .u8 (strB s)) ∧ Below w.heap.size w w' := by
  have hlit := own_lit w w.heap.size 5 .u8 [(s.size : Int) % 256] (Nat.le_refl _) (by simp)
  have hbl : Below w.heap.size w (w.alloc (.cells (nums .u8 [(s.size : Int) % 256]).toArray 5)) := by (repeat (first | (with_reducible exact Below.refl _ _) | ((with_reducible refine Below.alloc ?_ ?hB _); (case hB => (first | omega | (simp; done) | (simp; omega)))) | ((with_reducible refine Below.setCell ?_ ?hB _); (case hB => (first | omega | (simp; done) | (simp; omega)))) | (with_reducible refine Below.drew ?_) | ((with_reducible refine below_ext_of ?_ ?hB); (case hB => (first | omega | (simp; done) | (simp; omega)))) | ((with_reducible refine Below.trans ?_ (Below.mono (by assumption) ?hB)); (case hB => (first | omega | (simp; done) | (simp; omega))))))
  simp only [nums, List.map_cons, List.map_nil, List.length_cons, List.length_nil] at hlit hbl
  go_enter Tryd.func90, Tryd.ntmps90
  go_wp2_with (first | (at_builtin; refine print_append_str (w0 := w) w.heap.size rfl _ _ 22 9 5 rfl Tryd.underlying22 Tryd.underlying9 info_u8 _ [(s.size : Int) % 256] s rfl rfl hlit hbl ?hbase ?hl ?_; (case hbase => (first | omega | (simp; done) | (simp; omega))); (case hl => simp; omega); intro v2 w2 hown2 hb2 hg2))
  all_goals (go_ret2; exact ⟨v2, ret2b (by (first | rfl | (rw [Bool.eq_iff_iff]; simp [fitS]; done) | (rw [Bool.eq_iff_iff]; simp [fitS]; omega))), hown2, hb2⟩)
end Go.Proofs.YtinnaiofgbjicaaDoor
namespace Go.Proofs.YtinnaiofgbjicaaDoor
open Go.RowKit Go.Proofs.YtinnaiofgbjicaaDoorW.PrintWords
set_option linter.unusedSimpArgs false
set_option linter.unusedVariables false
set_option maxRecDepth 1000000
def smI (n : Int) : Prop := -2147483648 ≤ n ∧ n < 2147483648
instance (n : Int) : Decidable (smI n) := by unfold smI; infer_instance
def fitR (k a b c d : Int) : Bool := decide (k = 114 ∧ smI a ∧ smI b ∧ smI c ∧ smI d)
def rectB (a b c d : Int) : List Int := b4 a ++ b4 b ++ b4 c ++ b4 d
theorem b4_len (n : Int) : (b4 n).length = 4 := rfl
theorem fit105 (n : Int) : fitI 105 n = decide (smI n) := by
  unfold fitI; exact decide_eq_decide.2 (by unfold smI; omega)
theorem own_nilB (W : World) (base : Nat) : W.ownsRow base 5 1 (.slice none 0 0) ([] : List Int).length (nums .u8 []) := own_nil W base _ 1
theorem reads_lit (W : World) (xs : List Int) (hm : xs.length ≤ 9223372036854775807) : ReadsInt (W.alloc (.cells (nums .u8 xs).toArray 5)) .u8 (some ⟨W.heap.size, 0, none⟩) xs.length xs := by
  obtain ⟨A, c, e, h⟩ := own_reads (own_lit W W.heap.size 5 .u8 xs (Nat.le_refl _) hm)
  injection e with e1 e2 e3
  rw [e1]; exact h
section
variable {ops : Array Oper} {rest : List Oper} {o : Oper} {a : Act} {Q : Exit → Act → World → Prop}
/-- Bytes of a block that was just made, appended to a row of the call's own. -/
theorem append_lit {w0 W : World} (base : Nat) (hgd : o.guard = none) {s x : Operand}
    (ho : o.op = .call { callee := .builtin .append, args := #[s, x], argTypes := #[22, 22] })
    (v : Value) (xs ys : List Int) (hs : a.eval s = v) (hx : a.eval x = .slice (some ⟨W.heap.size, 0, none⟩) ys.length ys.length)
    (HO : W.ownsRow base 5 1 v xs.length (nums .u8 xs)) (HB : Below base w0 W) (hbase : base ≤ W.heap.size) (hl : xs.length + ys.length ≤ 140737488355328)
    (h : ∀ v1 w1, w1.ownsRow base 5 1 v1 (xs ++ ys).length (nums .u8 (xs ++ ys)) → Below base w0 w1 → wpList Tryd.prog ops Q rest (a.put o.dst v1) w1) :
    wpList Tryd.prog ops Q (o :: rest) a (W.alloc (.cells (nums .u8 ys).toArray 5)) := by
  refine print_append_row (w0 := w0) base hgd s x 22 5 .u8 1 ho Tryd.underlying22 info_u8 (by decide) v xs ys _ _ _ hs hx (pw_own_below HO (Below.alloc (Below.refl _ _) (Nat.le_refl _) _)) (reads_lit W ys (by omega)) (HB.alloc hbase _) (by simp; omega) (by omega) ?_
  intro v1 w1 h1 h2 _ _
  exact h v1 w1 h1 h2
end
theorem putI (n : Int) (v : Bool) (hn : -9223372036854775808 ≤ n ∧ n ≤ 9223372036854775807) (h : decide (smI n) = v) (w : World) : Calls Tryd.prog 90 #[.int .u8 105, (.iface 3 (.int .i64 n))] w fun e w' => e = .returned (.tuple #[.slice (some ⟨w.heap.size, 0, none⟩) 4 4, .bool v]) ∧ w.alloc (.cells (nums .u8 (b4 n)).toArray 5) = w' := by
  have := put_int 105 n w hn
  rw [fit105, h] at this; exact this
theorem put_rect (k a b c d : Int) (w : World) (ha : -9223372036854775808 ≤ a ∧ a ≤ 9223372036854775807) (hb : -9223372036854775808 ≤ b ∧ b ≤ 9223372036854775807) (hc : -9223372036854775808 ≤ c ∧ c ≤ 9223372036854775807) (hd : -9223372036854775808 ≤ d ∧ d ≤ 9223372036854775807) : Calls Tryd.prog 90 #[.int .u8 k, (.iface 26 ((.agg #[.int .i64 (a), .int .i64 (b), .int .i64 (c), .int .i64 (d)])))] w fun e w' => ∃ v, e = .returned (.tuple #[v, .bool (fitR k a b c d)]) ∧ w'.ownsRow w.heap.size 5 1 v (rectB a b c d).length (nums .u8 (rectB a b c d)) ∧ Below w.heap.size w w' := by
  have i0 : ∀ w, (Instr.index 140 (.agg #[.int .i64 (a), .int .i64 (b), .int .i64 (c), .int .i64 (d)]) (.int .i64 0)).run Tryd.prog w = .ok (.int .i64 a) w := fun _ => by kernel_rfl
  have i1 : ∀ w, (Instr.index 140 (.agg #[.int .i64 (a), .int .i64 (b), .int .i64 (c), .int .i64 (d)]) (.int .i64 1)).run Tryd.prog w = .ok (.int .i64 b) w := fun _ => by kernel_rfl
  have i2 : ∀ w, (Instr.index 140 (.agg #[.int .i64 (a), .int .i64 (b), .int .i64 (c), .int .i64 (d)]) (.int .i64 2)).run Tryd.prog w = .ok (.int .i64 c) w := fun _ => by kernel_rfl
  have i3 : ∀ w, (Instr.index 140 (.agg #[.int .i64 (a), .int .i64 (b), .int .i64 (c), .int .i64 (d)]) (.int .i64 3)).run Tryd.prog w = .ok (.int .i64 d) w := fun _ => by kernel_rfl
  have p0 := fun w => putI a _ ha rfl w
  have p1 := fun w => putI b _ hb rfl w
  have p2 := fun w => putI c _ hc rfl w
  have p3 := fun w => putI d _ hd rfl w
  have H := Lib.hid (show fitR k a b c d = (decide (k = 114) && decide (smI a) && decide (smI b) && decide (smI c) && decide (smI d)) from by
    unfold fitR; rw [Bool.eq_iff_iff]; simp; simp only [and_assoc])
  generalize decide (smI a) = va at *
  generalize decide (smI b) = vb at *
  generalize decide (smI c) = vc at *
  generalize decide (smI d) = vd at *
  go_enter Tryd.func90, Tryd.ntmps90
  go_wp2
  refine wp_loop_rounds 5 ?_
  rw [rounds_succ]
  go_wp2_with (first | (go_at_call 90; (with_reducible refine (p0 _).mono ?_); rintro e w1 ⟨rfl, rfl⟩) | (at_builtin; refine append_lit (w0 := w) (w.heap.size) rfl rfl _ ([]) (b4 a) rfl ?_ (pw_own_below (own_nilB w w.heap.size) ?_) ?_ ?_ ?_ ?_; (focus (first | (go_simp; done) | (go_simp; rfl))); (focus ((repeat (first | (with_reducible exact Below.refl _ _) | ((with_reducible refine Below.alloc ?_ ?hB _); (case hB => (first | omega | (simp; done) | (simp; omega)))) | ((with_reducible refine Below.setCell ?_ ?hB _); (case hB => (first | omega | (simp; done) | (simp; omega)))) | (with_reducible refine Below.drew ?_) | ((with_reducible refine below_ext_of ?_ ?hB); (case hB => (first | omega | (simp; done) | (simp; omega)))) | ((with_reducible refine Below.trans ?_ (Below.mono (by assumption) ?hB)); (case hB => (first | omega | (simp; done) | (simp; omega)))))); done)); (focus ((repeat (first | (with_reducible exact Below.refl _ _) | ((with_reducible refine Below.alloc ?_ ?hB _); (case hB => (first | omega | (simp; done) | (simp; omega)))) | ((with_reducible refine Below.setCell ?_ ?hB _); (case hB => (first | omega | (simp; done) | (simp; omega)))) | (with_reducible refine Below.drew ?_) | ((with_reducible refine below_ext_of ?_ ?hB); (case hB => (first | omega | (simp; done) | (simp; omega)))) | ((with_reducible refine Below.trans ?_ (Below.mono (by assumption) ?hB)); (case hB => (first | omega | (simp; done) | (simp; omega)))))); done)); (focus ((first | omega | (simp; done) | (simp; omega)); done)); (focus ((simp only [List.length_append, List.length_cons, List.length_nil, b4]); omega)); intro v2 w2 hown2 hb2; have hz2 := hb2.size; (try simp only [World.size_alloc, World.size_setCell, World.size_drew] at hz2); obtain ⟨hc2, hf2⟩ := bcellB hb2))
  all_goals
    rw [rounds_succ]
    go_wp2_with (first | (go_at_call 90; (with_reducible refine (p1 _).mono ?_); rintro e w1 ⟨rfl, rfl⟩) | (at_builtin; refine append_lit (w0 := w) (w.heap.size) rfl rfl _ ([] ++ b4 a) (b4 b) rfl ?_ (pw_own_below hown2 ?_) ?_ ?_ ?_ ?_; (focus (first | (go_simp; done) | (go_simp; rfl))); (focus ((repeat (first | (with_reducible exact Below.refl _ _) | ((with_reducible refine Below.alloc ?_ ?hB _); (case hB => (first | omega | (simp; done) | (simp; omega)))) | ((with_reducible refine Below.setCell ?_ ?hB _); (case hB => (first | omega | (simp; done) | (simp; omega)))) | (with_reducible refine Below.drew ?_) | ((with_reducible refine below_ext_of ?_ ?hB); (case hB => (first | omega | (simp; done) | (simp; omega)))) | ((with_reducible refine Below.trans ?_ (Below.mono (by assumption) ?hB)); (case hB => (first | omega | (simp; done) | (simp; omega)))))); done)); (focus ((repeat (first | (with_reducible exact Below.refl _ _) | ((with_reducible refine Below.alloc ?_ ?hB _); (case hB => (first | omega | (simp; done) | (simp; omega)))) | ((with_reducible refine Below.setCell ?_ ?hB _); (case hB => (first | omega | (simp; done) | (simp; omega)))) | (with_reducible refine Below.drew ?_) | ((with_reducible refine below_ext_of ?_ ?hB); (case hB => (first | omega | (simp; done) | (simp; omega)))) | ((with_reducible refine Below.trans ?_ (Below.mono (by assumption) ?hB)); (case hB => (first | omega | (simp; done) | (simp; omega)))))); done)); (focus ((first | omega | (simp; done) | (simp; omega)); done)); (focus ((simp only [List.length_append, List.length_cons, List.length_nil, b4]); omega)); intro v3 w3 hown3 hb3; have hz3 := hb3.size; (try simp only [World.size_alloc, World.size_setCell, World.size_drew] at hz3); obtain ⟨hc3, hf3⟩ := bcellB hb3))
  all_goals
    rw [rounds_succ]
    go_wp2_with (first | (go_at_call 90; (with_reducible refine (p2 _).mono ?_); rintro e w1 ⟨rfl, rfl⟩) | (at_builtin; refine append_lit (w0 := w) (w.heap.size) rfl rfl _ ([] ++ b4 a ++ b4 b) (b4 c) rfl ?_ (pw_own_below hown3 ?_) ?_ ?_ ?_ ?_; (focus (first | (go_simp; done) | (go_simp; rfl))); (focus ((repeat (first | (with_reducible exact Below.refl _ _) | ((with_reducible refine Below.alloc ?_ ?hB _); (case hB => (first | omega | (simp; done) | (simp; omega)))) | ((with_reducible refine Below.setCell ?_ ?hB _); (case hB => (first | omega | (simp; done) | (simp; omega)))) | (with_reducible refine Below.drew ?_) | ((with_reducible refine below_ext_of ?_ ?hB); (case hB => (first | omega | (simp; done) | (simp; omega)))) | ((with_reducible refine Below.trans ?_ (Below.mono (by assumption) ?hB)); (case hB => (first | omega | (simp; done) | (simp; omega)))))); done)); (focus ((repeat (first | (with_reducible exact Below.refl _ _) | ((with_reducible refine Below.alloc ?_ ?hB _); (case hB => (first | omega | (simp; done) | (simp; omega)))) | ((with_reducible refine Below.setCell ?_ ?hB _); (case hB => (first | omega | (simp; done) | (simp; omega)))) | (with_reducible refine Below.drew ?_) | ((with_reducible refine below_ext_of ?_ ?hB); (case hB => (first | omega | (simp; done) | (simp; omega)))) | ((with_reducible refine Below.trans ?_ (Below.mono (by assumption) ?hB)); (case hB => (first | omega | (simp; done) | (simp; omega)))))); done)); (focus ((first | omega | (simp; done) | (simp; omega)); done)); (focus ((simp only [List.length_append, List.length_cons, List.length_nil, b4]); omega)); intro v4 w4 hown4 hb4; have hz4 := hb4.size; (try simp only [World.size_alloc, World.size_setCell, World.size_drew] at hz4); obtain ⟨hc4, hf4⟩ := bcellB hb4))
  all_goals
    rw [rounds_succ]
    go_wp2_with (first | (go_at_call 90; (with_reducible refine (p3 _).mono ?_); rintro e w1 ⟨rfl, rfl⟩) | (at_builtin; refine append_lit (w0 := w) (w.heap.size) rfl rfl _ ([] ++ b4 a ++ b4 b ++ b4 c) (b4 d) rfl ?_ (pw_own_below hown4 ?_) ?_ ?_ ?_ ?_; (focus (first | (go_simp; done) | (go_simp; rfl))); (focus ((repeat (first | (with_reducible exact Below.refl _ _) | ((with_reducible refine Below.alloc ?_ ?hB _); (case hB => (first | omega | (simp; done) | (simp; omega)))) | ((with_reducible refine Below.setCell ?_ ?hB _); (case hB => (first | omega | (simp; done) | (simp; omega)))) | (with_reducible refine Below.drew ?_) | ((with_reducible refine below_ext_of ?_ ?hB); (case hB => (first | omega | (simp; done) | (simp; omega)))) | ((with_reducible refine Below.trans ?_ (Below.mono (by assumption) ?hB)); (case hB => (first | omega | (simp; done) | (simp; omega)))))); done)); (focus ((repeat (first | (with_reducible exact Below.refl _ _) | ((with_reducible refine Below.alloc ?_ ?hB _); (case hB => (first | omega | (simp; done) | (simp; omega)))) | ((with_reducible refine Below.setCell ?_ ?hB _); (case hB => (first | omega | (simp; done) | (simp; omega)))) | (with_reducible refine Below.drew ?_) | ((with_reducible refine below_ext_of ?_ ?hB); (case hB => (first | omega | (simp; done) | (simp; omega)))) | ((with_reducible refine Below.trans ?_ (Below.mono (by assumption) ?hB)); (case hB => (first | omega | (simp; done) | (simp; omega)))))); done)); (focus ((first | omega | (simp; done) | (simp; omega)); done)); (focus ((simp only [List.length_append, List.length_cons, List.length_nil, b4]); omega)); intro v5 w5 hown5 hb5; have hz5 := hb5.size; (try simp only [World.size_alloc, World.size_setCell, World.size_drew] at hz5); obtain ⟨hc5, hf5⟩ := bcellB hb5))
  all_goals
    rw [rounds_succ]
    go_wp2_with fail
    go_ret2
    refine ⟨v5, ret2b ?_, hown5, hb5⟩
    rw [H.out]
    first | rfl | (simp [*]; done)
end Go.Proofs.YtinnaiofgbjicaaDoor
namespace Go.Proofs.YtinnaiofgbjicaaDoor
open Go.RowKit Go.Proofs.YtinnaiofgbjicaaDoorW.PrintWords
set_option linter.unusedSimpArgs false
set_option linter.unusedVariables false
set_option maxRecDepth 1000000
/-- An argument, as data. -/
structure V8 where
  kind : Int
  n : Int
  s : ByteArray
  x0 : Int
  y0 : Int
  x1 : Int
  y1 : Int
  b : List Int
/-- Its numbers are of their kinds, its texts and bytes of a size that a machine holds. -/
structure V8.Ok (x : V8) : Prop where
  kind : -9223372036854775808 ≤ x.kind ∧ x.kind ≤ 9223372036854775807
  n : -9223372036854775808 ≤ x.n ∧ x.n ≤ 9223372036854775807
  s : x.s.size ≤ 140737488351232
  x0 : -9223372036854775808 ≤ x.x0 ∧ x.x0 ≤ 9223372036854775807
  y0 : -9223372036854775808 ≤ x.y0 ∧ x.y0 ≤ 9223372036854775807
  x1 : -9223372036854775808 ≤ x.x1 ∧ x.x1 ≤ 9223372036854775807
  y1 : -9223372036854775808 ≤ x.y1 ∧ x.y1 ≤ 9223372036854775807
  b : x.b.length ≤ 140737488351232
def putOk (k : Int) (x : V8) : Bool := decide ((x.kind = 0 ∧ fitI k x.n = true) ∨ (x.kind = 1 ∧ fitS k x.s = true) ∨ (x.kind = 2 ∧ fitR k x.x0 x.y0 x.x1 x.y1 = true) ∨ (x.kind = 3 ∧ fitB k x.b.length = true))
def putB (x : V8) : List Int := if x.kind = 0 then b4 x.n else if x.kind = 1 then strB x.s else if x.kind = 2 then rectB x.x0 x.y0 x.x1 x.y1 else x.b
/-- What an argument's bytes are said to be, or that it may not be. -/
def PutPost (w : World) (k : Int) (x : V8) (e : Ending) (w' : World) : Prop := ∃ A n c, e = .returned (.tuple #[.slice A n c, .bool (putOk k x)]) ∧ (putOk k x = true → n = (putB x).length ∧ n ≤ c ∧ ReadsInt w' .u8 A n (putB x)) ∧ Below w.heap.size w w'
theorem PutPost.no {w w' : World} {k : Int} {x : V8} (h : putOk k x = false) (hb : Below w.heap.size w w') : PutPost w k x (.returned (.tuple #[.slice none 0 0, .bool false])) w' :=
  ⟨none, 0, 0, by rw [h], (fun h' => Bool.noConfusion (h.symm.trans h')), hb⟩
theorem PutPost.own {w w' : World} {k : Int} {x : V8} {base : Nat} {v : Value} {l : List Int} (h : putOk k x = true) (hl : putB x = l) (ho : w'.ownsRow base 5 1 v l.length (nums .u8 l)) (hb : Below w.heap.size w w') : PutPost w k x (.returned (.tuple #[v, .bool true])) w' := by
  obtain ⟨A, c, rfl, hr⟩ := own_reads ho
  subst hl
  exact ⟨A, _, c, by rw [h], fun _ => ⟨rfl, own_le ho, hr⟩, hb⟩
theorem PutPost.row {w w' : World} {k : Int} {x : V8} {A : Option Addr} {n c : Nat} {l : List Int} (h : putOk k x = true) (hl : putB x = l) (hn : n = l.length) (hc : n ≤ c) (hr : ReadsInt w' .u8 A n l) (hb : Below w.heap.size w w') : PutPost w k x (.returned (.tuple #[.slice A n c, .bool true])) w' := by
  subst hl
  exact ⟨A, _, c, by rw [h], fun _ => ⟨hn, hc, hr⟩, hb⟩
theorem ref_putI (x : V8) (ok : x.Ok) (A : Option Addr) (m : Nat) (w : World) (hk : x.kind = 0) (hf : smI x.n) : Calls Tryd.prog 62 #[.int .u8 105, (.agg #[.int .i64 (x.kind), .int .i64 (x.n), .string (x.s), .int .i64 (x.x0), .int .i64 (x.y0), .int .i64 (x.x1), .int .i64 (x.y1), .slice (A) (x.b.length) (m)])] w (PutPost w 105 x) := by
  have hP := Lib.hid (show putOk 105 x = true from by unfold putOk; rw [decide_eq_true_iff]; exact .inl ⟨hk, by rw [fit105, decide_eq_true hf]⟩)
  have hB := Lib.hid (show putB x = b4 x.n from by unfold putB; rw [if_pos hk])
  obtain ⟨kind, n, s, x0, y0, x1, y1, b⟩ := x
  simp only at hk hf hB ⊢
  subst hk
  obtain ⟨f0, f1⟩ := hf
  have hs := fun w => ref_small n w
  rw [decide_eq_true (show -2147483648 ≤ n ∧ n ≤ 2147483647 by omega)] at hs
  have hd := fun w => ref_digits n w (by omega)
  go_enter Tryd.func62, Tryd.ntmps62
  go_wp2_with (first | (go_at_call 91; (with_reducible refine (hs _).mono ?_); rintro e w1 ⟨rfl, rfl⟩) | (go_at_call 92; (with_reducible refine (hd _).mono ?_); rintro e w1 ⟨rfl, rfl⟩))
  go_ret2
  refine PutPost.row hP.out hB.out rfl (Nat.le_refl _) ?_ (by (repeat (first | (with_reducible exact Below.refl _ _) | ((with_reducible refine Below.alloc ?_ ?hB _); (case hB => (first | omega | (simp; done) | (simp; omega)))) | ((with_reducible refine Below.setCell ?_ ?hB _); (case hB => (first | omega | (simp; done) | (simp; omega)))) | (with_reducible refine Below.drew ?_) | ((with_reducible refine below_ext_of ?_ ?hB); (case hB => (first | omega | (simp; done) | (simp; omega)))) | ((with_reducible refine Below.trans ?_ (Below.mono (by assumption) ?hB)); (case hB => (first | omega | (simp; done) | (simp; omega)))))))
  have := reads_lit (w.alloc (.cells #[.int .i64 0, .int .i64 n, .string s, .int .i64 x0, .int .i64 y0, .int .i64 x1, .int .i64 y1, .slice A b.length m] 81)) (b4 n) (by simp [b4])
  simpa [b4] using this
theorem ref_putU (x : V8) (ok : x.Ok) (A : Option Addr) (m : Nat) (w : World) (hk : x.kind = 0) (hf : 0 ≤ x.n ∧ x.n < 4294967296) : Calls Tryd.prog 62 #[.int .u8 117, (.agg #[.int .i64 (x.kind), .int .i64 (x.n), .string (x.s), .int .i64 (x.x0), .int .i64 (x.y0), .int .i64 (x.x1), .int .i64 (x.y1), .slice (A) (x.b.length) (m)])] w (PutPost w 117 x) := by
  have hP := Lib.hid (show putOk 117 x = true from by unfold putOk fitI; rw [decide_eq_true_iff]; exact .inl ⟨hk, by rw [decide_eq_true_iff]; omega⟩)
  have hB := Lib.hid (show putB x = b4 x.n from by unfold putB; rw [if_pos hk])
  obtain ⟨kind, n, s, x0, y0, x1, y1, b⟩ := x
  simp only at hk hf hB ⊢
  subst hk
  obtain ⟨f0, f1⟩ := hf
  have hd := fun w => ref_digits n w (by omega)
  go_enter Tryd.func62, Tryd.ntmps62
  go_wp2_with (first | (go_at_call 92; (with_reducible refine (hd _).mono ?_); rintro e w1 ⟨rfl, rfl⟩))
  go_ret2
  refine PutPost.row hP.out hB.out rfl (Nat.le_refl _) ?_ (by (repeat (first | (with_reducible exact Below.refl _ _) | ((with_reducible refine Below.alloc ?_ ?hB _); (case hB => (first | omega | (simp; done) | (simp; omega)))) | ((with_reducible refine Below.setCell ?_ ?hB _); (case hB => (first | omega | (simp; done) | (simp; omega)))) | (with_reducible refine Below.drew ?_) | ((with_reducible refine below_ext_of ?_ ?hB); (case hB => (first | omega | (simp; done) | (simp; omega)))) | ((with_reducible refine Below.trans ?_ (Below.mono (by assumption) ?hB)); (case hB => (first | omega | (simp; done) | (simp; omega)))))))
  have := reads_lit (w.alloc (.cells #[.int .i64 0, .int .i64 n, .string s, .int .i64 x0, .int .i64 y0, .int .i64 x1, .int .i64 y1, .slice A b.length m] 81)) (b4 n) (by simp [b4])
  simpa [b4] using this
theorem ref_putS (x : V8) (ok : x.Ok) (A : Option Addr) (m : Nat) (w : World) (hk : x.kind = 1) (hf : x.s.size ≤ 255) : Calls Tryd.prog 62 #[.int .u8 115, (.agg #[.int .i64 (x.kind), .int .i64 (x.n), .string (x.s), .int .i64 (x.x0), .int .i64 (x.y0), .int .i64 (x.x1), .int .i64 (x.y1), .slice (A) (x.b.length) (m)])] w (PutPost w 115 x) := by
  have hP := Lib.hid (show putOk 115 x = true from by unfold putOk fitS; rw [decide_eq_true_iff]; exact .inr (.inl ⟨hk, by simp; exact hf⟩))
  have hB := Lib.hid (show putB x = [(x.s.size : Int)] ++ bytesOf x.s from by unfold putB strB; rw [if_neg (by omega), if_pos hk, Int.emod_eq_of_lt (by omega) (by omega)]; rfl)
  obtain ⟨kind, n, s, x0, y0, x1, y1, b⟩ := x
  simp only at hk hf hB ⊢
  subst hk
  have hlit := own_lit (w.alloc (.cells #[.int .i64 1, .int .i64 n, .string s, .int .i64 x0, .int .i64 y0, .int .i64 x1, .int .i64 y1, .slice A b.length m] 81)) (w.heap.size + 1) 5 .u8 [(s.size : Int)] (by simp) (by simp)
  have hbl : Below (w.heap.size + 1) (w.alloc (.cells #[.int .i64 1, .int .i64 n, .string s, .int .i64 x0, .int .i64 y0, .int .i64 x1, .int .i64 y1, .slice A b.length m] 81)) ((w.alloc (.cells #[.int .i64 1, .int .i64 n, .string s, .int .i64 x0, .int .i64 y0, .int .i64 x1, .int .i64 y1, .slice A b.length m] 81)).alloc (.cells (nums .u8 [(s.size : Int)]).toArray 5)) := Below.alloc (Below.refl _ _) (by simp) _
  simp only [nums, List.map_cons, List.map_nil, List.length_cons, List.length_nil, World.size_alloc] at hlit hbl
  have hz : (s.size : Int) ≤ 255 := by omega
  go_enter Tryd.func62, Tryd.ntmps62
  go_wp2_with (first | (at_builtin; go_must ((refine print_append_str (w0 := (w.alloc (.cells #[.int .i64 1, .int .i64 n, .string s, .int .i64 x0, .int .i64 y0, .int .i64 x1, .int .i64 y1, .slice A b.length m] 81))) (w.heap.size + 1) rfl _ _ 22 9 5 rfl Tryd.underlying22 Tryd.underlying9 info_u8 _ [(s.size : Int)] s rfl rfl hlit hbl ?_ ?_ ?_; (focus ((first | omega | (simp; done) | (simp; omega)); done)); (focus (simp; omega)); intro v2 w2 hown2 hb2 hg2))))
  go_ret2
  exact PutPost.own hP.out hB.out hown2 ((show Below w.heap.size w (w.alloc (.cells #[.int .i64 1, .int .i64 n, .string s, .int .i64 x0, .int .i64 y0, .int .i64 x1, .int .i64 y1, .slice A b.length m] 81)) from by (repeat (first | (with_reducible exact Below.refl _ _) | ((with_reducible refine Below.alloc ?_ ?hB _); (case hB => (first | omega | (simp; done) | (simp; omega)))) | ((with_reducible refine Below.setCell ?_ ?hB _); (case hB => (first | omega | (simp; done) | (simp; omega)))) | (with_reducible refine Below.drew ?_) | ((with_reducible refine below_ext_of ?_ ?hB); (case hB => (first | omega | (simp; done) | (simp; omega)))) | ((with_reducible refine Below.trans ?_ (Below.mono (by assumption) ?hB)); (case hB => (first | omega | (simp; done) | (simp; omega))))))).trans (hb2.mono (by omega)))
theorem ref_putB (x : V8) (ok : x.Ok) (A : Option Addr) (m : Nat) (w : World) (hk : x.kind = 3) (hf : x.b.length ≤ 4096) (hm : x.b.length ≤ m) (hr : ReadsInt w .u8 A x.b.length x.b) : Calls Tryd.prog 62 #[.int .u8 98, (.agg #[.int .i64 (x.kind), .int .i64 (x.n), .string (x.s), .int .i64 (x.x0), .int .i64 (x.y0), .int .i64 (x.x1), .int .i64 (x.y1), .slice (A) (x.b.length) (m)])] w (PutPost w 98 x) := by
  have hP := Lib.hid (show putOk 98 x = true from by unfold putOk fitB; rw [decide_eq_true_iff]; exact .inr (.inr (.inr ⟨hk, by simp; exact hf⟩)))
  have hB := Lib.hid (show putB x = x.b from by unfold putB; rw [if_neg (by omega), if_neg (by omega), if_neg (by omega)])
  obtain ⟨kind, n, s, x0, y0, x1, y1, b⟩ := x
  simp only at hk hf hB hr hm ⊢
  subst hk
  have hz : (b.length : Int) ≤ 4096 := by omega
  have HR := Lib.hid hr
  clear hr
  go_enter Tryd.func62, Tryd.ntmps62
  go_wp2
  go_ret2
  exact PutPost.row hP.out hB.out rfl hm (HR.out.below (by (repeat (first | (with_reducible exact Below.refl _ _) | ((with_reducible refine Below.alloc ?_ ?hB _); (case hB => (first | omega | (simp; done) | (simp; omega)))) | ((with_reducible refine Below.setCell ?_ ?hB _); (case hB => (first | omega | (simp; done) | (simp; omega)))) | (with_reducible refine Below.drew ?_) | ((with_reducible refine below_ext_of ?_ ?hB); (case hB => (first | omega | (simp; done) | (simp; omega)))) | ((with_reducible refine Below.trans ?_ (Below.mono (by assumption) ?hB)); (case hB => (first | omega | (simp; done) | (simp; omega)))))))) (by (repeat (first | (with_reducible exact Below.refl _ _) | ((with_reducible refine Below.alloc ?_ ?hB _); (case hB => (first | omega | (simp; done) | (simp; omega)))) | ((with_reducible refine Below.setCell ?_ ?hB _); (case hB => (first | omega | (simp; done) | (simp; omega)))) | (with_reducible refine Below.drew ?_) | ((with_reducible refine below_ext_of ?_ ?hB); (case hB => (first | omega | (simp; done) | (simp; omega)))) | ((with_reducible refine Below.trans ?_ (Below.mono (by assumption) ?hB)); (case hB => (first | omega | (simp; done) | (simp; omega)))))))
theorem ref_putR (x : V8) (ok : x.Ok) (A : Option Addr) (m : Nat) (w : World) (hk : x.kind = 2) (h0 : smI x.x0) (h1 : smI x.y0) (h2 : smI x.x1) (h3 : smI x.y1) : Calls Tryd.prog 62 #[.int .u8 114, (.agg #[.int .i64 (x.kind), .int .i64 (x.n), .string (x.s), .int .i64 (x.x0), .int .i64 (x.y0), .int .i64 (x.x1), .int .i64 (x.y1), .slice (A) (x.b.length) (m)])] w (PutPost w 114 x) := by
  have hP := Lib.hid (show putOk 114 x = true from by unfold putOk fitR; rw [decide_eq_true_iff]; exact .inr (.inr (.inl ⟨hk, by rw [decide_eq_true_iff]; exact ⟨rfl, h0, h1, h2, h3⟩⟩)))
  have hB := Lib.hid (show putB x = b4 x.x0 ++ b4 x.y0 ++ b4 x.x1 ++ b4 x.y1 from by unfold putB; rw [if_neg (by omega), if_neg (by omega), if_pos hk]; rfl)
  obtain ⟨kind, n, s, x0, y0, x1, y1, b⟩ := x
  simp only at hk h0 h1 h2 h3 hB ⊢
  subst hk
  obtain ⟨a0, a1⟩ := h0
  obtain ⟨b0, b1⟩ := h1
  obtain ⟨c0, c1⟩ := h2
  obtain ⟨d0, d1⟩ := h3
  have s0 := fun w => ref_small x0 w
  rw [decide_eq_true (show -2147483648 ≤ x0 ∧ x0 ≤ 2147483647 by omega)] at s0
  have s1 := fun w => ref_small y0 w
  rw [decide_eq_true (show -2147483648 ≤ y0 ∧ y0 ≤ 2147483647 by omega)] at s1
  have s2 := fun w => ref_small x1 w
  rw [decide_eq_true (show -2147483648 ≤ x1 ∧ x1 ≤ 2147483647 by omega)] at s2
  have s3 := fun w => ref_small y1 w
  rw [decide_eq_true (show -2147483648 ≤ y1 ∧ y1 ≤ 2147483647 by omega)] at s3
  have g0 := fun w => ref_digits x0 w (by omega)
  have g1 := fun w => ref_digits y0 w (by omega)
  have g2 := fun w => ref_digits x1 w (by omega)
  have g3 := fun w => ref_digits y1 w (by omega)
  have hlit := own_lit (w.alloc (.cells #[.int .i64 2, .int .i64 n, .string s, .int .i64 x0, .int .i64 y0, .int .i64 x1, .int .i64 y1, .slice A b.length m] 81)) (w.heap.size + 1) 5 .u8 (b4 x0) (by simp) (by simp [b4])
  simp only [World.size_alloc] at hlit
  go_enter Tryd.func62, Tryd.ntmps62
  go_wp2_with (first | (go_at_call 91; (with_reducible refine (s0 _).mono ?_); rintro e w1 ⟨rfl, rfl⟩) | (go_at_call 91; (with_reducible refine (s1 _).mono ?_); rintro e w1 ⟨rfl, rfl⟩) | (go_at_call 91; (with_reducible refine (s2 _).mono ?_); rintro e w1 ⟨rfl, rfl⟩) | (go_at_call 91; (with_reducible refine (s3 _).mono ?_); rintro e w1 ⟨rfl, rfl⟩) | (go_at_call 92; (with_reducible refine (g0 _).mono ?_); rintro e w1 ⟨rfl, rfl⟩))
  go_wp2_with (first | (go_at_call 92; (with_reducible refine (g1 _).mono ?_); rintro e w1 ⟨rfl, rfl⟩) | (at_builtin; refine append_lit (w0 := (w.alloc (.cells #[.int .i64 2, .int .i64 n, .string s, .int .i64 x0, .int .i64 y0, .int .i64 x1, .int .i64 y1, .slice A b.length m] 81))) (w.heap.size + 1) rfl rfl _ (b4 x0) (b4 y0) rfl ?_ (pw_own_below hlit ?_) ?_ ?_ ?_ ?_; (focus (first | (go_simp; done) | (go_simp; rfl))); (focus ((repeat (first | (with_reducible exact Below.refl _ _) | ((with_reducible refine Below.alloc ?_ ?hB _); (case hB => (first | omega | (simp; done) | (simp; omega)))) | ((with_reducible refine Below.setCell ?_ ?hB _); (case hB => (first | omega | (simp; done) | (simp; omega)))) | (with_reducible refine Below.drew ?_) | ((with_reducible refine below_ext_of ?_ ?hB); (case hB => (first | omega | (simp; done) | (simp; omega)))) | ((with_reducible refine Below.trans ?_ (Below.mono (by assumption) ?hB)); (case hB => (first | omega | (simp; done) | (simp; omega)))))); done)); (focus ((repeat (first | (with_reducible exact Below.refl _ _) | ((with_reducible refine Below.alloc ?_ ?hB _); (case hB => (first | omega | (simp; done) | (simp; omega)))) | ((with_reducible refine Below.setCell ?_ ?hB _); (case hB => (first | omega | (simp; done) | (simp; omega)))) | (with_reducible refine Below.drew ?_) | ((with_reducible refine below_ext_of ?_ ?hB); (case hB => (first | omega | (simp; done) | (simp; omega)))) | ((with_reducible refine Below.trans ?_ (Below.mono (by assumption) ?hB)); (case hB => (first | omega | (simp; done) | (simp; omega)))))); done)); (focus ((first | omega | (simp; done) | (simp; omega)); done)); (focus ((simp only [List.length_append, List.length_cons, List.length_nil, b4]); omega)); intro v2 w2 hown2 hb2; have hz2 := hb2.size; (try simp only [World.size_alloc, World.size_setCell, World.size_drew] at hz2); obtain ⟨hc2, hf2⟩ := bcellB hb2))
  go_wp2_with (first | (go_at_call 92; (with_reducible refine (g2 _).mono ?_); rintro e w1 ⟨rfl, rfl⟩) | (at_builtin; refine append_lit (w0 := (w.alloc (.cells #[.int .i64 2, .int .i64 n, .string s, .int .i64 x0, .int .i64 y0, .int .i64 x1, .int .i64 y1, .slice A b.length m] 81))) (w.heap.size + 1) rfl rfl _ (b4 x0 ++ b4 y0) (b4 x1) rfl ?_ (pw_own_below hown2 ?_) ?_ ?_ ?_ ?_; (focus (first | (go_simp; done) | (go_simp; rfl))); (focus ((repeat (first | (with_reducible exact Below.refl _ _) | ((with_reducible refine Below.alloc ?_ ?hB _); (case hB => (first | omega | (simp; done) | (simp; omega)))) | ((with_reducible refine Below.setCell ?_ ?hB _); (case hB => (first | omega | (simp; done) | (simp; omega)))) | (with_reducible refine Below.drew ?_) | ((with_reducible refine below_ext_of ?_ ?hB); (case hB => (first | omega | (simp; done) | (simp; omega)))) | ((with_reducible refine Below.trans ?_ (Below.mono (by assumption) ?hB)); (case hB => (first | omega | (simp; done) | (simp; omega)))))); done)); (focus ((repeat (first | (with_reducible exact Below.refl _ _) | ((with_reducible refine Below.alloc ?_ ?hB _); (case hB => (first | omega | (simp; done) | (simp; omega)))) | ((with_reducible refine Below.setCell ?_ ?hB _); (case hB => (first | omega | (simp; done) | (simp; omega)))) | (with_reducible refine Below.drew ?_) | ((with_reducible refine below_ext_of ?_ ?hB); (case hB => (first | omega | (simp; done) | (simp; omega)))) | ((with_reducible refine Below.trans ?_ (Below.mono (by assumption) ?hB)); (case hB => (first | omega | (simp; done) | (simp; omega)))))); done)); (focus ((first | omega | (simp; done) | (simp; omega)); done)); (focus ((simp only [List.length_append, List.length_cons, List.length_nil, b4]); omega)); intro v3 w3 hown3 hb3; have hz3 := hb3.size; (try simp only [World.size_alloc, World.size_setCell, World.size_drew] at hz3); obtain ⟨hc3, hf3⟩ := bcellB hb3))
  go_wp2_with (first | (go_at_call 92; (with_reducible refine (g3 _).mono ?_); rintro e w1 ⟨rfl, rfl⟩) | (at_builtin; refine append_lit (w0 := (w.alloc (.cells #[.int .i64 2, .int .i64 n, .string s, .int .i64 x0, .int .i64 y0, .int .i64 x1, .int .i64 y1, .slice A b.length m] 81))) (w.heap.size + 1) rfl rfl _ (b4 x0 ++ b4 y0 ++ b4 x1) (b4 y1) rfl ?_ (pw_own_below hown3 ?_) ?_ ?_ ?_ ?_; (focus (first | (go_simp; done) | (go_simp; rfl))); (focus ((repeat (first | (with_reducible exact Below.refl _ _) | ((with_reducible refine Below.alloc ?_ ?hB _); (case hB => (first | omega | (simp; done) | (simp; omega)))) | ((with_reducible refine Below.setCell ?_ ?hB _); (case hB => (first | omega | (simp; done) | (simp; omega)))) | (with_reducible refine Below.drew ?_) | ((with_reducible refine below_ext_of ?_ ?hB); (case hB => (first | omega | (simp; done) | (simp; omega)))) | ((with_reducible refine Below.trans ?_ (Below.mono (by assumption) ?hB)); (case hB => (first | omega | (simp; done) | (simp; omega)))))); done)); (focus ((repeat (first | (with_reducible exact Below.refl _ _) | ((with_reducible refine Below.alloc ?_ ?hB _); (case hB => (first | omega | (simp; done) | (simp; omega)))) | ((with_reducible refine Below.setCell ?_ ?hB _); (case hB => (first | omega | (simp; done) | (simp; omega)))) | (with_reducible refine Below.drew ?_) | ((with_reducible refine below_ext_of ?_ ?hB); (case hB => (first | omega | (simp; done) | (simp; omega)))) | ((with_reducible refine Below.trans ?_ (Below.mono (by assumption) ?hB)); (case hB => (first | omega | (simp; done) | (simp; omega)))))); done)); (focus ((first | omega | (simp; done) | (simp; omega)); done)); (focus ((simp only [List.length_append, List.length_cons, List.length_nil, b4]); omega)); intro v4 w4 hown4 hb4; have hz4 := hb4.size; (try simp only [World.size_alloc, World.size_setCell, World.size_drew] at hz4); obtain ⟨hc4, hf4⟩ := bcellB hb4))
  go_ret2
  exact PutPost.own hP.out hB.out hown4 ((show Below w.heap.size w (w.alloc (.cells #[.int .i64 2, .int .i64 n, .string s, .int .i64 x0, .int .i64 y0, .int .i64 x1, .int .i64 y1, .slice A b.length m] 81)) from by (repeat (first | (with_reducible exact Below.refl _ _) | ((with_reducible refine Below.alloc ?_ ?hB _); (case hB => (first | omega | (simp; done) | (simp; omega)))) | ((with_reducible refine Below.setCell ?_ ?hB _); (case hB => (first | omega | (simp; done) | (simp; omega)))) | (with_reducible refine Below.drew ?_) | ((with_reducible refine below_ext_of ?_ ?hB); (case hB => (first | omega | (simp; done) | (simp; omega)))) | ((with_reducible refine Below.trans ?_ (Below.mono (by assumption) ?hB)); (case hB => (first | omega | (simp; done) | (simp; omega))))))).trans (hb4.mono (by omega)))
end Go.Proofs.YtinnaiofgbjicaaDoor
