/- Looking a rune up in a text of ASCII bytes, by walking the library's own functions. -/
import Derived.Test.YtinnaiofgbjicaaDoorProg
import Derived.Test.YtinnaiofgbjicaaDoorMk
import Derived.Laws.Runes
import Derived.Lib.OthersKept
import Derived.Lib.Bytealg
namespace Go.Proofs.YtinnaiofgbjicaaDoor
open Go.RowKit
set_option linter.unusedSimpArgs false
set_option linter.unusedVariables false
set_option maxRecDepth 1000000
def Ascii (s : ByteArray) : Prop := ∀ b ∈ s.data.toList, b.toNat < 128
theorem call_IndexByteString (s : ByteArray) (c : Int) (w : World) : (callFunc 137 #[.string s, .int .u8 c]).run Tryd.prog w = .ok (.value (.int .i64 (firstIdx s c.toNat.toUInt8))) w := by
  rw [run_callFunc_extern (fn := Tryd.f137) (e := Extern.BytealgIndexByte.indexByte) Tryd.func137 (by kernel_rfl) (by kernel_rfl) (by kernel_rfl) (by kernel_rfl), run_indexByte_string]
  rfl
theorem str_IndexByte (s : ByteArray) (c : Int) (w : World) : Calls Tryd.prog 118 #[.string s, .int .u8 c] w fun e w' => e = .returned (.int .i64 (firstIdx s c.toNat.toUInt8)) ∧ w = w' := by
  have hx := fun s c w => call_IndexByteString s c w
  go_enter Tryd.func118, Tryd.ntmps118
  go_wp2
  (go_ret; refine ⟨?_, rfl⟩); rfl
theorem str_IndexRune_low (s : ByteArray) (r : Int) (w : World) (h0 : 0 ≤ r) (h1 : r < 128) : Calls Tryd.prog 107 #[.string s, .int .i32 r] w fun e w' => e = .returned (.int .i64 (firstIdx s r.toNat.toUInt8)) ∧ w = w' := by
  go_enter Tryd.func107, Tryd.ntmps107
  go_wp2_with (first | (go_at_call 118; (with_reducible refine (str_IndexByte _ _ _).mono ?_); rintro e w1 ⟨rfl, rfl⟩))
  (go_ret; refine ⟨?_, rfl⟩); rfl
theorem str_ValidRune (r : Int) (w : World) : Calls Tryd.prog 119 #[.int .i32 r] w fun e w' => e = .returned (.bool (validRune r)) ∧ w = w' := by
  unfold validRune
  go_enter Tryd.func119, Tryd.ntmps119
  go_wp2
  all_goals ((go_ret; refine ⟨?_, rfl⟩); simp; omega)
theorem str_IndexRune_odd (s : ByteArray) (r : Int) (w : World) (h0 : 128 ≤ r) (h1 : ¬ r = 65533) (hv : validRune r = false) : Calls Tryd.prog 107 #[.string s, .int .i32 r] w fun e w' => e = .returned (.int .i64 (-1)) ∧ w = w' := by
  have e1 : (r == 65533) = false := by simpa using h1
  have cv := fun w => str_ValidRune r w
  rw [hv] at cv
  go_enter Tryd.func107, Tryd.ntmps107
  go_wp2_with (first | (go_at_call 119; (with_reducible refine (cv _).mono ?_); rintro e w1 ⟨rfl, rfl⟩))
  (go_ret; refine ⟨?_, rfl⟩); rfl
theorem str_IndexRune_err (s : ByteArray) (w : World) (hs : Ascii s) : Calls Tryd.prog 107 #[.string s, .int .i32 65533] w fun e w' => e = .returned (.int .i64 (-1)) ∧ Below w.heap.size w w' := by
  go_enter Tryd.func107, Tryd.ntmps107
  go_wp2
  go_loopw [] (fun w' => ∃ pos, w' = w.iter s pos) (fun w' => s.size - w'.iterPos w.heap.size)
  case atStart => exact ⟨0, rfl⟩
  case round =>
    obtain ⟨pos, rfl⟩ := hrel
    by_cases hp : pos < s.size
    · have ha : (s[pos]'hp).toNat < 128 := hs _ (Array.getElem_mem_toList (xs := s.data) hp)
      have hne : (((s[pos]'hp).toNat : Int) == 65533) = false := by simp; omega
      have hnx := fun ty => run_next_ascii (P := Tryd.prog) w s pos ty hp ha
      go_wp2
      go_roundw
      case rel => exact ⟨pos + 1, rfl⟩
      case measure => simp; omega
    · have hnx := fun ty => run_next_end (P := Tryd.prog) w s pos ty hp
      go_wp2
      go_ret
      exact ⟨rfl, (Below.refl _ _).alloc (Nat.le_refl _) _⟩
theorem idx_string (s : ByteArray) (i : Nat) (h : i < s.size) (w : World) : (Instr.index 9 (.string s) (.int .i64 i)).run Tryd.prog w = .ok (.int .u8 ((s[i]'h).toNat : Int)) w := by
  rw [run_index_string (h := Tryd.underlying9)]
  simp [h]
theorem ascii_ne (s t : ByteArray) (i j : Nat) (hs : Ascii s) (hi : i < s.size) (hj : j < t.size) (ht : 128 ≤ (t[j]'hj).toNat) : (((s[i]'hi).toNat : Int) != ((t[j]'hj).toNat : Int)) = true := by
  have := hs _ (Array.getElem_mem_toList (xs := s.data) hi)
  have h2 : (s[i]'hi).toNat < 128 := this
  simp; omega
set_option maxHeartbeats 1000000 in
theorem str_IndexRune_high (s : ByteArray) (r : Int) (w : World) (hs : Ascii s) (hz : s.size ≤ 1000000) (h0 : 128 ≤ r) (h1 : ¬ r = 65533) (hv : validRune r = true) : Calls Tryd.prog 107 #[.string s, .int .i32 r] w fun e w' => e = .returned (.int .i64 (-1)) ∧ Below w.heap.size w w' := by
  have e1 : (r == 65533) = false := by simpa using h1
  have cv := fun w => str_ValidRune r w
  rw [hv] at cv
  obtain ⟨g0, g1, g2⟩ := encode_facts r (by rw [validRune_eq]; exact hv) h0
  have g3 := g2 (by omega)
  clear g2
  obtain ⟨t, ht⟩ : ∃ t, t = Utf8.encode r := ⟨_, rfl⟩
  have cr : ∀ w, (convert 21 9 (.int .i32 r)).run Tryd.prog w = .ok (.string t) w := fun w => by rw [ht]; exact run_convert_int_string w _ _ _ _ (by kernel_rfl) Tryd.underlying9
  rw [← ht] at g0 g1
  have g4 : 128 ≤ (t[t.size - 1]'(by omega)).toNat := by subst ht; exact g3
  clear g3 ht
  obtain ⟨L, hL⟩ : ∃ L, t.size = L + 1 := ⟨t.size - 1, by omega⟩
  have hLt : L < t.size := by omega
  have g5 : 128 ≤ (t[L]'hLt).toNat := by simpa [hL] using g4
  have gl : 1 ≤ L ∧ L ≤ 3 := by omega
  clear g4 g0 g1
  obtain ⟨gl0, gl1⟩ := gl
  have hb : (t[L]'hLt).toNat < 256 := (t[L]'hLt).toNat_lt
  by_cases hi : L < s.size
  · have hne := ascii_ne s t L L hs hi hLt g5
    have ci : ∀ w, Calls Tryd.prog 118 #[.string (s.extract (L + 1) s.size), .int .u8 ((t[L]'hLt).toNat : Int)] w fun e w' => e = .returned (.int .i64 (-1)) ∧ w = w' := fun w => by
      have h := str_IndexByte (s.extract (L + 1) s.size) ((t[L]'hLt).toNat : Int) w
      rwa [firstIdx_ascii s _ _ _ hs (by simpa using g5)] at h
    have it := fun w => idx_string t L hLt w
    have q1 : IntKind.i64.wrap ((L : Int) + 1) = (L : Int) + 1 := IntWalk.i64_in _ (by omega)
    have q2 : 0 ≤ (L : Int) + 1 := by omega
    have q3 : ((L : Int) + 1).toNat = L + 1 := by omega
    have q4 : (L : Int) + 1 ≤ (s.size : Int) := by omega
    go_enter Tryd.func107, Tryd.ntmps107
    go_wp2_with (first | (go_at_call 119; (with_reducible refine (cv _).mono ?_); rintro e w1 ⟨rfl, rfl⟩))
    go_step3
    go_wp2_with fail
    refine wp_loop_rounds 1 ?_
    rw [rounds_succ]
    go_wp2_with fail
    go_step3
    go_wp2_with fail
    (refine wp_region_ext_lit (by kernel_rfl) (by kernel_rfl) ?_; (repeat (go_big_quiet_step ((fail)))); refine wpQuiet_nil ?_; intro w4 hb_w4; obtain ⟨hc_w4, hf_w4⟩ := bcell hb_w4; have hz_w4 := hb_w4.size; (try simp only [World.size_alloc, World.size_setCell, World.size_drew] at hz_w4))
    go_wp2_with fail
    (refine wp_region_ext_lit (by kernel_rfl) (by kernel_rfl) ?_; (repeat (go_big_quiet_step ((first | (go_at_call 118; with_reducible exact ext_same (ci _)))))); refine wpQuiet_nil ?_; intro w5 hb_w5; obtain ⟨hc_w5, hf_w5⟩ := bcell hb_w5; have hz_w5 := hb_w5.size; (try simp only [World.size_alloc, World.size_setCell, World.size_drew] at hz_w5))
    go_wp2_with fail
    rw [Exit.noGoto_ret]
    go_wp2_with fail
    rw [Exit.noGoto_ret]
    go_ret
    exact ⟨rfl, by (repeat (first | (with_reducible exact Below.refl _ _) | ((with_reducible refine Below.alloc ?_ ?hB _); (case hB => (first | omega | (simp; done) | (simp; omega)))) | ((with_reducible refine Below.setCell ?_ ?hB _); (case hB => (first | omega | (simp; done) | (simp; omega)))) | (with_reducible refine Below.drew ?_) | ((with_reducible refine below_ext_of ?_ ?hB); (case hB => (first | omega | (simp; done) | (simp; omega)))) | ((with_reducible refine Below.trans ?_ (Below.mono (by assumption) ?hB)); (case hB => (first | omega | (simp; done) | (simp; omega))))))⟩
  · go_enter Tryd.func107, Tryd.ntmps107
    go_wp2_with (first | (go_at_call 119; (with_reducible refine (cv _).mono ?_); rintro e w1 ⟨rfl, rfl⟩))
    go_step3
    go_wp2_with fail
    refine wp_loop_rounds 1 ?_
    rw [rounds_succ]
    go_wp2_with fail
    rw [Exit.noGoto_ret]
    go_ret
    exact ⟨rfl, Below.refl _ _⟩
theorem str_IndexRune_not (s : ByteArray) (r : Int) (w : World) (hs : Ascii s) (hz : s.size ≤ 1000000) (h0 : 128 ≤ r) : Calls Tryd.prog 107 #[.string s, .int .i32 r] w fun e w' => e = .returned (.int .i64 (-1)) ∧ Below w.heap.size w w' := by
  by_cases h1 : r = 65533
  · subst h1; exact str_IndexRune_err s w hs
  · cases hv : validRune r
    · exact (str_IndexRune_odd s r w h0 h1 hv).mono fun e w' ⟨he, hw⟩ => ⟨he, hw ▸ Below.refl _ _⟩
    · exact str_IndexRune_high s r w hs hz h0 h1 hv
def hasB (s : ByteArray) (c : Int) : Bool := decide (0 ≤ firstIdx s c.toNat.toUInt8)
theorem str_ContainsRune_low (s : ByteArray) (r : Int) (w : World) (h0 : 0 ≤ r) (h1 : r < 128) : Calls Tryd.prog 94 #[.string s, .int .i32 r] w fun e w' => e = .returned (.bool (hasB s r)) ∧ w = w' := by
  have ci := fun w => str_IndexRune_low s r w h0 h1
  go_enter Tryd.func94, Tryd.ntmps94
  go_wp2_with (first | (go_at_call 107; (with_reducible refine (ci _).mono ?_); rintro e w1 ⟨rfl, rfl⟩))
  (go_ret; refine ⟨?_, rfl⟩); rfl
theorem str_ContainsRune_not (s : ByteArray) (r : Int) (w : World) (hs : Ascii s) (hz : s.size ≤ 1000000) (h0 : 128 ≤ r) : Calls Tryd.prog 94 #[.string s, .int .i32 r] w fun e w' => e = .returned (.bool false) ∧ Below w.heap.size w w' := by
  have ci := fun w => str_IndexRune_not s r w hs hz h0
  go_enter Tryd.func94, Tryd.ntmps94
  go_wp2_with (first | (go_at_call 107; (with_reducible refine (ci _).mono ?_); rintro e w1 ⟨rfl, hb1⟩; obtain ⟨hc1, hf1⟩ := bcell hb1; have hz1 := hb1.size; (try simp only [World.size_alloc, World.size_setCell, World.size_drew] at hz1)))
  (go_ret; refine ⟨?_, by (repeat (first | (with_reducible exact Below.refl _ _) | ((with_reducible refine Below.alloc ?_ ?hB _); (case hB => (first | omega | (simp; done) | (simp; omega)))) | ((with_reducible refine Below.setCell ?_ ?hB _); (case hB => (first | omega | (simp; done) | (simp; omega)))) | (with_reducible refine Below.drew ?_) | ((with_reducible refine below_ext_of ?_ ?hB); (case hB => (first | omega | (simp; done) | (simp; omega)))) | ((with_reducible refine Below.trans ?_ (Below.mono (by assumption) ?hB)); (case hB => (first | omega | (simp; done) | (simp; omega))))))⟩); rfl
end Go.Proofs.YtinnaiofgbjicaaDoor
