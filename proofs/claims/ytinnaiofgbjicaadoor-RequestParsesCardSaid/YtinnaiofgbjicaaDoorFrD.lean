/- All messages of bytes, in plain lists; rows of messages. -/
import Derived.Test.YtinnaiofgbjicaaDoorFrBa
import Derived.Test.YtinnaiofgbjicaaDoorFrC
namespace Go.Proofs.YtinnaiofgbjicaaDoor
open Go.RowKit Go.Proofs.YtinnaiofgbjicaaDoorW.PrintWords
set_option linter.unusedSimpArgs false
set_option linter.unusedVariables false
set_option maxRecDepth 1000000
theorem readP_short {b : List Int} (h : b.length < 2) : readP b = .inl 3 := by unfold readP; rw [if_pos h]
theorem readP_form {b : List Int} (h : 2 ≤ b.length) (hn : numH b < 7 ∨ 4103 < numH b) : readP b = .inl 2 := by unfold readP; rw [if_neg (by omega), if_pos hn]
theorem readP_less {b : List Int} (h : 2 ≤ b.length) (h7 : 7 ≤ numH b) (h8 : numH b ≤ 4103) (hl : (b.length : Int) < numH b) : readP b = .inl 3 := by unfold readP; rw [if_neg (by omega), if_neg (by omega), if_pos hl]
theorem readP_ok {b : List Int} {k : Nat} (h : 2 ≤ b.length) (hk : numH b = (k : Int)) (h7 : 7 ≤ k) (h8 : k ≤ 4103) (hl : k ≤ b.length) : readP b = .inr (⟨b.getD 2 0, numU (b.drop 3), (b.take k).drop 7⟩, k) := by
  unfold readP; rw [if_neg (by omega), hk, if_neg (by omega), if_neg (by omega), Int.toNat_natCast]
theorem readP_cases (b : List Int) (hb : Byt b) : b.length < 2 ∨ (2 ≤ b.length ∧ (numH b < 7 ∨ 4103 < numH b)) ∨ (2 ≤ b.length ∧ 7 ≤ numH b ∧ numH b ≤ 4103 ∧ (b.length : Int) < numH b) ∨ (2 ≤ b.length ∧ ∃ k : Nat, numH b = (k : Int) ∧ 7 ≤ k ∧ k ≤ 4103 ∧ k ≤ b.length) := by
  have := numH_bd hb
  by_cases h : b.length < 2
  · exact .inl h
  · by_cases h1 : numH b < 7 ∨ 4103 < numH b
    · exact .inr (.inl ⟨by omega, h1⟩)
    · by_cases h2 : (b.length : Int) < numH b
      · exact .inr (.inr (.inl ⟨by omega, by omega, by omega, h2⟩))
      · exact .inr (.inr (.inr ⟨by omega, (numH b).toNat, by omega, by omega, by omega, by omega⟩))
theorem frame_Read (A : Option Addr) (b : List Int) (c : Nat) (w : World) (hs : BS w A b c) : Calls Tryd.prog 88 #[.slice A b.length c] w (RdP w (fun g => w.heap.size ≤ g) (readP b)) := by
  rcases readP_cases b hs.byt with h | ⟨h, hn⟩ | ⟨h, h7, h8, hl⟩ | ⟨h, k, hk, h7, h8, hl⟩
  · rw [readP_short h]; exact frame_Read3 A b c w hs h
  · rw [readP_form h hn]; exact frame_ReadE A b c w hs h 2 (.inl ⟨hn, rfl⟩)
  · rw [readP_less h h7 h8 hl]; exact frame_ReadE A b c w hs h 3 (.inr ⟨h7, h8, hl, rfl⟩)
  · rw [readP_ok h hk h7 h8 hl]; exact frame_ReadOk A b c k w hs h hk h7 h8 hl
theorem ref_Read (A : Option Addr) (b : List Int) (c : Nat) (w : World) (hs : BS w A b c) : Calls Tryd.prog 89 #[.slice A b.length c] w (RdP w (fun g => ∃ ad, A = some ad ∧ g = ad.block) (readP b)) := by
  rcases readP_cases b hs.byt with h | ⟨h, hn⟩ | ⟨h, h7, h8, hl⟩ | ⟨h, k, hk, h7, h8, hl⟩
  · rw [readP_short h]; exact ref_Read3 A b c w hs h
  · rw [readP_form h hn]; exact ref_ReadE A b c w hs h 2 (.inl ⟨hn, rfl⟩)
  · rw [readP_less h h7 h8 hl]; exact ref_ReadE A b c w hs h 3 (.inr ⟨h7, h8, hl, rfl⟩)
  · rw [readP_ok h hk h7 h8 hl]; exact ref_ReadOk A b c k w hs h hk h7 h8 hl
/-- All messages that bytes begin with, how many bytes they are, the error's number. -/
def splitF : Nat → List Int → List M3 × Nat × Int
  | 0, _ => ([], 0, 0)
  | f + 1, b => if b.length = 0 then ([], 0, 0) else match readP b with
    | .inl i => ([], 0, i)
    | .inr (m, n) => (m :: (splitF f (b.drop n)).1, n + (splitF f (b.drop n)).2.1, (splitF f (b.drop n)).2.2)
def splitP (b : List Int) : List M3 × Nat × Int := splitF (b.length + 1) b
/-- What has come when the bytes from a place on are left. -/
def SplitAt (b : List Int) (L : List M3) (at_ f : Nat) : Prop := splitP b = (L ++ (splitF f (b.drop at_)).1, at_ + (splitF f (b.drop at_)).2.1, (splitF f (b.drop at_)).2.2) ∧ b.length - at_ < f ∧ at_ ≤ b.length
theorem SplitAt.start (b : List Int) : SplitAt b [] 0 (b.length + 1) := ⟨by simp [splitP], by omega, by omega⟩
theorem readP_n {b : List Int} {m : M3} {n : Nat} (hb : Byt b) (h : readP b = .inr (m, n)) : 7 ≤ n ∧ n ≤ b.length ∧ 2 ≤ b.length := by
  rcases readP_cases b hb with h1 | ⟨h1, hn⟩ | ⟨h1, h7, h8, hl⟩ | ⟨h1, k, hk, h7, h8, hl⟩
  · rw [readP_short h1] at h; cases h
  · rw [readP_form h1 hn] at h; cases h
  · rw [readP_less h1 h7 h8 hl] at h; cases h
  · rw [readP_ok h1 hk h7 h8 hl] at h; injection h with h; injection h with e1 e2; omega
theorem SplitAt.step {b : List Int} {L : List M3} {at_ f n : Nat} {m : M3} (hb : Byt b) (h : SplitAt b L at_ f) (hr : readP (b.drop at_) = .inr (m, n)) : SplitAt b (L ++ [m]) (at_ + n) (f - 1) := by
  obtain ⟨h1, h2, h3⟩ := h
  have hn := readP_n (hb.drop at_) hr
  have hl : (b.drop at_).length = b.length - at_ := List.length_drop
  obtain ⟨f, rfl⟩ : ∃ g, f = g + 1 := ⟨f - 1, by omega⟩
  have e : splitF (f + 1) (b.drop at_) = (m :: (splitF f ((b.drop at_).drop n)).1, n + (splitF f ((b.drop at_).drop n)).2.1, (splitF f ((b.drop at_).drop n)).2.2) := by
    rw [splitF, if_neg (by omega), hr]
  rw [e, List.drop_drop] at h1
  refine ⟨?_, by simp only [Nat.add_sub_cancel]; omega, by omega⟩
  rw [h1]
  simp only [Nat.add_sub_cancel, List.append_assoc, List.singleton_append, Nat.add_assoc]
theorem SplitAt.stop {b : List Int} {L : List M3} {at_ f : Nat} {i : Int} (hb : Byt b) (h : SplitAt b L at_ f) (hlt : at_ < b.length) (hr : readP (b.drop at_) = .inl i) : splitP b = (L, at_, i) := by
  obtain ⟨h1, h2, h3⟩ := h
  have hl : (b.drop at_).length = b.length - at_ := List.length_drop
  obtain ⟨f, rfl⟩ : ∃ g, f = g + 1 := ⟨f - 1, by omega⟩
  rw [splitF, if_neg (by omega), hr] at h1
  rw [h1]; simp
theorem SplitAt.end_ {b : List Int} {L : List M3} {at_ f : Nat} (h : SplitAt b L at_ f) (hlt : ¬ at_ < b.length) : splitP b = (L, b.length, 0) := by
  obtain ⟨h1, h2, h3⟩ := h
  have hl : (b.drop at_).length = b.length - at_ := List.length_drop
  obtain ⟨f, rfl⟩ : ∃ g, f = g + 1 := ⟨f - 1, by omega⟩
  rw [splitF, if_pos (by omega)] at h1
  rw [h1]; simp; omega
end Go.Proofs.YtinnaiofgbjicaaDoor
