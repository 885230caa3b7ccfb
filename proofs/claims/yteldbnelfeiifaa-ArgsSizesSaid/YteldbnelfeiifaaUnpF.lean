/- How many bytes the arguments of a form have, walked. -/
import Derived.Test.YteldbnelfeiifaaUnpE
namespace Go.Proofs.Yteldbnelfeiifaa
open Go.RowKit Go.Proofs.YteldbnelfeiifaaW.PrintWords
set_option linter.unusedSimpArgs false
set_option linter.unusedVariables false
set_option maxRecDepth 1000000
/-- No text, no bytes among the first letters. -/
def noSB (g : ByteArray) (k : Nat) : Bool := decide (∀ i, i < k → ¬ byN g i = 115 ∧ ¬ byN g i = 98)
theorem noSB_succ (g : ByteArray) (k : Nat) : noSB g (k + 1) = (noSB g k && decide (¬ byN g k = 115 ∧ ¬ byN g k = 98)) := by
  unfold noSB; rw [Bool.eq_iff_iff, Bool.and_eq_true, decide_eq_true_iff, decide_eq_true_iff, decide_eq_true_iff]
  constructor
  · intro h; exact ⟨fun i hi => h i (by omega), h k (by omega)⟩
  · rintro ⟨h1, h2⟩ i hi
    by_cases e : i = k
    · subst e; exact h2
    · exact h1 i (by omega)
def sbS : ByteArray := { data := #[115, 98] }
theorem sb_low (c : Int) (h0 : 0 ≤ c) (h1 : c < 128) : decide (0 ≤ firstIdx sbS c.toNat.toUInt8) = decide (c = 115 ∨ c = 98) := by
  have key : ∀ m : Fin 128, decide (0 ≤ firstIdx sbS m.val.toUInt8) = decide ((m.val : Int) = 115 ∨ (m.val : Int) = 98) := by decide +kernel
  obtain ⟨m, rfl⟩ := Int.eq_ofNat_of_zero_le h0
  have := key ⟨m, by omega⟩
  simpa using this
theorem use_set (n : Nat) (w : World) (h : n ≤ 8) : Calls Try.prog 100 #[.int .i64 n] w fun e w' => e = .returned (.bool false) ∧ w = w' := by
  have hd : decide (8 < (n : Int)) = false := decide_eq_false (by omega)
  go_enter Try.func100, Try.ntmps100
  go_wp2
  (go_ret; refine ⟨?_, rfl⟩); rfl
def AnyP (w : World) (v : Bool) (e : Ending) (w' : World) : Prop := ∃ n : Int, e = .returned (.int .i64 n) ∧ decide (0 ≤ n) = v ∧ Below w.heap.size w w'
set_option maxHeartbeats 1000000 in
theorem str_IndexAny (f : ByteArray) (w : World) (hf : formP f = true) : Calls Try.prog 89 #[.string f, .string { data := #[115, 98] }] w (AnyP w (!noSB f f.size)) := by
  have h8 := formP_le hf
  have HF := Lib.hid hf
  clear hf
  have cu := fun w => use_set f.size w h8
  go_enter Try.func89, Try.ntmps89
  go_wp2_with (first | (go_at_call 100; (with_reducible refine (cu _).mono ?_); rintro e w1 ⟨rfl, rfl⟩))
  go_loopw [] (fun w' => ∃ pos, pos ≤ f.size ∧ w' = w.iter f pos ∧ noSB f pos = true) (fun w' => f.size - w'.iterPos w.heap.size)
  case atStart => exact ⟨0, by omega, rfl, by unfold noSB; exact decide_eq_true (fun i hi => by omega)⟩
  case round =>
    obtain ⟨pos, hps, rfl, hall⟩ := hrel
    have hsz := size_iter w f pos
    have hbi := Lib.hid (below_iter w f pos)
    have hbj := Lib.hid (below_iter w f (pos + 1))
    have HN := Lib.hid hall
    clear hall
    by_cases hp : pos < f.size
    · have hfa := formP_at HF.out hp
      obtain ⟨hlet, _⟩ := hfa
      have ha : (f[pos]'hp).toNat < 128 := by
        have e := byN_at f pos hp
        unfold letC at hlet; omega
      have hnx := fun ty => run_next_ascii (P := Try.prog) w f pos ty hp ha
      have hbd := byN_bd f pos
      have hc := fun w => str_IndexRune_low sbS (byN f pos) w hbd.1 (by unfold letC at hlet; omega)
      have hq := sb_low (byN f pos) hbd.1 (by unfold letC at hlet; omega)
      obtain ⟨z, hz⟩ : ∃ z, firstIdx sbS (byN f pos).toNat.toUInt8 = z := ⟨_, rfl⟩
      rw [hz] at hc hq
      have HS := Lib.hid (noSB_succ f pos)
      have hc : ∀ w, Calls Try.prog 81 #[.string { data := #[115, 98] }, .int .i32 (byN f pos)] w fun e w' => e = .returned (.int .i64 z) ∧ w = w' := hc
      rw [← byN_at f pos hp] at hc
      by_cases hsb : byN f pos = 115 ∨ byN f pos = 98
      · have hz0 : 0 ≤ z := by rw [decide_eq_true hsb] at hq; exact of_decide_eq_true hq
        have HV := Lib.hid (show (!noSB f f.size) = true from by
          have : noSB f f.size = false := by unfold noSB; exact decide_eq_false (fun h => by have := h pos hp; omega)
          rw [this]; rfl)
        clear hz hq hsb hlet
        go_wp2_with (first | (go_at_call 81; (with_reducible refine (hc _).mono ?_); rintro e w1 ⟨rfl, rfl⟩))
        go_ret
        exact ⟨_, rfl, by rw [HV.out]; exact decide_eq_true (by omega), hbj.out⟩
      · have hz0 : z < 0 := by rw [decide_eq_false hsb] at hq; have := of_decide_eq_false hq; omega
        have HV := Lib.hid (show noSB f (pos + 1) = true from by rw [HS.out, HN.out]; simp; omega)
        clear hz hq hsb hlet
        go_wp2_with (first | (go_at_call 81; (with_reducible refine (hc _).mono ?_); rintro e w1 ⟨rfl, rfl⟩))
        go_roundw
        case rel => exact ⟨pos + 1, by omega, rfl, HV.out⟩
        case measure => simp; omega
    · have hnx := fun ty => run_next_end (P := Try.prog) w f pos ty hp
      obtain rfl : pos = f.size := by omega
      go_wp2
      go_ret
      exact ⟨_, rfl, by rw [HN.out]; rfl, hbi.out⟩
theorem str_ContainsAny (f : ByteArray) (w : World) (hf : formP f = true) : Calls Try.prog 76 #[.string f, .string { data := #[115, 98] }] w fun e w' => e = .returned (.bool (!noSB f f.size)) ∧ Below w.heap.size w w' := by
  have cI := str_IndexAny f w hf
  obtain ⟨v, hv⟩ : ∃ v, (!noSB f f.size) = v := ⟨_, rfl⟩
  rw [hv] at cI ⊢
  unfold AnyP at cI
  clear hv
  go_enter Try.func76, Try.ntmps76
  cases v
  · go_wp2_with (first | (go_at_call 89; (with_reducible refine cI.mono ?_); rintro e w1 ⟨n, rfl, hn, hb1⟩; have hn := of_decide_eq_false hn))
    go_ret
    exact ⟨rfl, hb1⟩
  · go_wp2_with (first | (go_at_call 89; (with_reducible refine cI.mono ?_); rintro e w1 ⟨n, rfl, hn, hb1⟩; have hn := of_decide_eq_true hn))
    go_ret
    exact ⟨rfl, hb1⟩
def cntR (f : ByteArray) : Nat := Lib.countByte f.data.toList 114
theorem call_CountString (s : ByteArray) (c : Int) (w : World) : (callFunc 91 #[.string s, .int .u8 c]).run Try.prog w = .ok (.value (.int .i64 (Lib.countByte s.data.toList c.toNat.toUInt8))) w := by
  rw [run_callFunc_extern (fn := Try.f91) (e := Extern.BytealgCount.count) Try.func91 (by kernel_rfl) (by kernel_rfl) (by kernel_rfl) (by kernel_rfl), Lib.run_countString]
  rfl
theorem str_Count (f : ByteArray) (w : World) : Calls Try.prog 77 #[.string f, .string { data := #[114] }] w fun e w' => e = .returned (.int .i64 (cntR f)) ∧ w = w' := by
  have hx := fun w => call_CountString f 114 w
  have e1 : (114 : Int).toNat.toUInt8 = 114 := by decide
  rw [e1] at hx
  have HC := Lib.hid (show Lib.countByte f.data.toList 114 = cntR f from rfl)
  have e0 : ((({ data := #[114] } : ByteArray)[0]'(by decide)).toNat : Int) = 114 := by decide
  go_enter Try.func77, Try.ntmps77
  go_wp2
  go_ret
  exact ⟨rfl, rfl⟩
end Go.Proofs.Yteldbnelfeiifaa
