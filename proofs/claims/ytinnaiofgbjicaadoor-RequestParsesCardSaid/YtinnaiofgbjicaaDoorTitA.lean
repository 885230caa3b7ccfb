/- The signs of a text, plain: what cleaning leaves, and that it leaves just the titles as they are. -/
import Derived.Test.YtinnaiofgbjicaaDoorTail
import Derived.Lib.DecodeN
import Derived.Lib.RuneBytes
import Derived.Shelf.Unicode.DecodeSlow
namespace Go.Proofs.YtinnaiofgbjicaaDoor
set_option linter.unusedSimpArgs false
set_option linter.unusedVariables false
/-- The sign at a place: its number, and how many bytes it has. -/
def sg (s : ByteArray) (i : Nat) : Nat × Nat := Utf8.decode s i
def oddN (r : Nat) : Bool := decide (r < 32 ∨ r = 127 ∨ (8232 ≤ r ∧ r ≤ 8238))
def brk (x : Nat × Nat) : Bool := decide (x.1 = 65533 ∧ x.2 < 2)
def badAt (s : ByteArray) (i : Nat) : Bool := oddN (sg s i).1 || brk (sg s i)
/-- Where the signs begin. -/
def posF : Nat → ByteArray → Nat → List Nat
  | 0, _, _ => []
  | f + 1, s, i => if i < s.size then i :: posF f s (i + (sg s i).2) else []
def poss (s : ByteArray) : List Nat := posF s.size s 0
def outR (s : ByteArray) (i : Nat) : Int := if badAt s i then 63 else ((sg s i).1 : Int)
def outL (s : ByteArray) (l : List Nat) : List UInt8 := l.flatMap fun i => Lib.encodeRune (outR s i)
def cleanP (s : ByteArray) : ByteArray := ⟨(outL s ((poss s).take 64)).toArray⟩
def mayT (s : ByteArray) : Bool := decide ((poss s).length ≤ 64 ∧ ∀ i ∈ poss s, badAt s i = false)
theorem decN_ge1 (n b0 b1 b2 b3 : Nat) : 1 ≤ (Lib.decodeN n b0 b1 b2 b3).2 := by
  unfold Lib.decodeN
  repeat' split
  all_goals simp
theorem sg_pos (s : ByteArray) (i : Nat) : 1 ≤ (sg s i).2 := by unfold sg; rw [Lib.decode_at]; exact decN_ge1 _ _ _ _ _
theorem get_list {s : ByteArray} {i : Nat} (h : i < s.size) : ∃ x, s.data.toList[i]? = some x ∧ s.get! i = x := by
  have h' : i < s.data.size := h
  refine ⟨s.data[i], by simp [h'], ?_⟩
  simp only [ByteArray.get!]
  exact getElem!_pos s.data i h'
theorem get_out {s : ByteArray} {i : Nat} (h : ¬ i < s.size) : s.get! i = 0 := by
  have h' : ¬ i < s.data.size := h
  simp only [ByteArray.get!]
  exact getElem!_neg s.data i h'
theorem enc_map {l : List Int} {m : List UInt8} (h : l = m.map fun x => (x.toNat : Int)) : (l.map fun x => x.toNat.toUInt8) = m := by
  subst h
  rw [List.map_map]
  conv => rhs; rw [← List.map_id m]
  apply List.map_congr_left
  intro x _
  simp [Function.comp]
/-- What one sign that is not broken is made of. -/
theorem decN_enc (n d0 d1 d2 d3 : Nat) (h0 : 1 ≤ n) (l0 : d0 < 256) (l1 : d1 < 256) (l2 : d2 < 256) (l3 : d3 < 256) (hb : brk (Lib.decodeN n d0 d1 d2 d3) = false) :
    (Lib.decodeN n d0 d1 d2 d3).2 ≤ n ∧ (Lib.decodeN n d0 d1 d2 d3).2 ≤ 4 ∧ Lib.encodeRuneZ (((Lib.decodeN n d0 d1 d2 d3).1 : Nat) : Int) = ([(d0 : Int), d1, d2, d3].take (Lib.decodeN n d0 d1 d2 d3).2) := by
  revert hb
  unfold Lib.decodeN
  split
  · intro _
    refine ⟨h0, by simp, ?_⟩
    rw [Lib.encodeRuneZ_one (by simp) (by simp; omega)]
    rfl
  · split
    · split
      · intro _
        refine ⟨by simp; omega, by simp, ?_⟩
        rw [Lib.encodeRuneZ_two (by simp only; omega) (by simp only; omega)]
        simp only [List.take_succ_cons, List.take_zero, List.cons.injEq, and_true]
        constructor <;> omega
      · intro h; exact absurd h (by unfold brk; decide)
    · split
      · split
        · intro _
          refine ⟨by simp; omega, by simp, ?_⟩
          rw [Lib.encodeRuneZ_three (by simp only; omega)]
          simp only [List.take_succ_cons, List.take_zero, List.cons.injEq, and_true]
          refine ⟨?_, ?_, ?_⟩ <;> omega
        · intro h; exact absurd h (by unfold brk; decide)
      · split
        · split
          · intro _
            refine ⟨by simp; omega, by simp, ?_⟩
            rw [Lib.encodeRuneZ_four (by simp only; omega) (by simp only; omega)]
            simp only [List.take_succ_cons, List.take_zero, List.cons.injEq, and_true]
            refine ⟨?_, ?_, ?_, ?_⟩ <;> omega
          · intro h; exact absurd h (by unfold brk; decide)
        · intro h; exact absurd h (by unfold brk; decide)
theorem get_at {s : ByteArray} {i : Nat} (h : i < s.size) : s.data.toList[i]? = some (s.get! i) := by
  obtain ⟨x, h1, h2⟩ := get_list h; rw [h1, h2]
theorem drop_take {l : List UInt8} {i : Nat} {a b c d : UInt8} (k : Nat) (hk : k ≤ 4) (hl : i + k ≤ l.length) (h0 : 0 < k → l[i]? = some a) (h1 : 1 < k → l[i + 1]? = some b) (h2 : 2 < k → l[i + 2]? = some c) (h3 : 3 < k → l[i + 3]? = some d) :
    (l.drop i).take k = [a, b, c, d].take k := by
  apply List.ext_getElem?
  intro j
  rw [List.getElem?_take, List.getElem?_take]
  by_cases hj : j < k
  · rw [if_pos hj, if_pos hj, List.getElem?_drop]
    have : j = 0 ∨ j = 1 ∨ j = 2 ∨ j = 3 := by omega
    rcases this with rfl | rfl | rfl | rfl
    · exact h0 hj
    · exact h1 hj
    · exact h2 hj
    · exact h3 hj
  · rw [if_neg hj, if_neg hj]
theorem size_list (s : ByteArray) : s.data.toList.length = s.size := Array.length_toList
theorem sg_enc {s : ByteArray} {i : Nat} (hi : i < s.size) (hb : brk (sg s i) = false) : i + (sg s i).2 ≤ s.size ∧ Lib.encodeRune ((sg s i).1 : Nat) = (s.data.toList.drop i).take (sg s i).2 := by
  unfold sg at hb ⊢
  rw [Lib.decode_at] at hb ⊢
  obtain ⟨h1, h2, h3⟩ := decN_enc (s.size - i) _ _ _ _ (by omega) (UInt8.toNat_lt _) (UInt8.toNat_lt _) (UInt8.toNat_lt _) (UInt8.toNat_lt _) hb
  generalize hk : (Lib.decodeN (s.size - i) (s.get! i).toNat (s.get! (i + 1)).toNat (s.get! (i + 2)).toNat (s.get! (i + 3)).toNat) = p at *
  refine ⟨by omega, ?_⟩
  rw [drop_take p.2 h2 (by rw [size_list]; omega) (fun h => get_at hi) (fun h => get_at (by omega)) (fun h => get_at (by omega)) (fun h => get_at (by omega))]
  unfold Lib.encodeRune
  rw [h3]
  refine enc_map ?_
  rw [List.map_take]
  rfl
theorem sg_63 {s : ByteArray} {i : Nat} (hi : i < s.size) (h : s.get! i = 63) : badAt s i = false := by
  unfold badAt sg
  rw [Lib.decode_at, h]
  have : Lib.decodeN (s.size - i) (63 : UInt8).toNat (s.get! (i + 1)).toNat (s.get! (i + 2)).toNat (s.get! (i + 3)).toNat = (63, 1) := by
    unfold Lib.decodeN; rw [if_pos (by decide)]; rfl
  rw [this]; decide
theorem enc_63 : Lib.encodeRune 63 = [63] := by decide
theorem outL_cons (s : ByteArray) (i : Nat) (l : List Nat) : outL s (i :: l) = Lib.encodeRune (outR s i) ++ outL s l := by simp [outL]
theorem posF_end (f : Nat) (s : ByteArray) (i : Nat) (h : ¬ i < s.size) : posF f s i = [] := by
  cases f with
  | zero => rfl
  | succ f => simp [posF, h]
theorem outL_iff (s : ByteArray) : ∀ (f i k : Nat), i ≤ s.size → s.size - i ≤ f → (outL s ((posF f s i).take k) = s.data.toList.drop i ↔ (posF f s i).length ≤ k ∧ ∀ j ∈ posF f s i, badAt s j = false)
  | 0, i, k, hi, hf => by
    have : i = s.size := by omega
    subst this
    simp [posF, outL, size_list]
  | f + 1, i, k, hi, hf => by
    by_cases h : i < s.size
    · have hp : posF (f + 1) s i = i :: posF f s (i + (sg s i).2) := by simp [posF, h]
      rw [hp]
      cases k with
      | zero =>
        constructor
        · intro e
          exfalso
          have := congrArg List.length e
          simp [outL, size_list] at this
          have := size_list s; omega
        · intro e; simp at e
      | succ k =>
        rw [List.take_succ_cons, outL_cons]
        have hd : s.data.toList.drop i = s.get! i :: s.data.toList.drop (i + 1) := by
          rw [List.drop_eq_getElem_cons (by rw [size_list]; exact h)]
          congr 1
          have := get_at h
          rw [List.getElem?_eq_getElem (by rw [size_list]; exact h)] at this
          exact Option.some.inj this
        by_cases hb : badAt s i = true
        · constructor
          · intro e
            exfalso
            unfold outR at e
            rw [if_pos hb, enc_63, hd] at e
            have h63 : s.get! i = 63 := by
              injection e with e1 e2; exact e1.symm
            rw [sg_63 h h63] at hb; cases hb
          · rintro ⟨_, e⟩
            exfalso
            rw [e i (List.mem_cons_self ..)] at hb; cases hb
        · have hb' : badAt s i = false := by simpa using hb
          have hk : brk (sg s i) = false := by
            unfold badAt at hb'; simp only [Bool.or_eq_false_iff] at hb'; exact hb'.2
          obtain ⟨h1, h2⟩ := sg_enc h hk
          have hpos := sg_pos s i
          have hr : outR s i = ((sg s i).1 : Int) := by unfold outR; rw [if_neg hb]
          rw [hr, h2]
          have hsp : s.data.toList.drop i = (s.data.toList.drop i).take (sg s i).2 ++ s.data.toList.drop (i + (sg s i).2) := by
            rw [← List.drop_drop, List.take_append_drop]
          conv => lhs; rhs; rw [hsp]
          rw [List.append_cancel_left_eq, outL_iff s f (i + (sg s i).2) k h1 (by omega)]
          simp only [List.length_cons, Nat.add_le_add_iff_right, List.mem_cons, forall_eq_or_imp, hb', true_and]
    · rw [posF_end _ _ _ h]
      have : i = s.size := by omega
      subst this
      simp [outL]
theorem clean_may (s : ByteArray) : (cleanP s = s) ↔ mayT s = true := by
  unfold mayT
  rw [decide_eq_true_iff]
  have := outL_iff s s.size 0 64 (Nat.zero_le _) (by omega)
  unfold poss
  rw [← this, List.drop_zero]
  unfold cleanP poss
  constructor
  · intro h
    have h2 := congrArg (fun x => x.data.toList) h
    simpa using h2
  · intro h
    rw [h]
/-- Cleaning leaves few bytes. -/
theorem outL_len (s : ByteArray) : ∀ l : List Nat, (outL s l).length ≤ 4 * l.length
  | [] => by simp [outL]
  | i :: l => by
    have h1 := outL_len s l
    have h2 := Lib.runeCells_le (outR s i)
    rw [Lib.runeCells_length] at h2
    rw [outL_cons, List.length_append, List.length_cons]; omega
end Go.Proofs.YtinnaiofgbjicaaDoor
