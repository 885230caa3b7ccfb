/- A form that is made of any text; arguments that fit it, made of any: walked. -/
import Derived.Test.YtinnaiofgbjicaaDoorArgI
namespace Go.Proofs.YtinnaiofgbjicaaDoor
open Go.RowKit Go.Proofs.YtinnaiofgbjicaaDoorW.PrintWords
set_option linter.unusedSimpArgs false
set_option linter.unusedVariables false
set_option maxRecDepth 1000000
def lcode (s : ByteArray) (i : Nat) : Nat := if (byN s i).toNat % 5 = 4 ∧ i + 1 < min s.size 8 then 3 else (byN s i).toNat % 5
def ltS (c : Nat) : ByteArray := ByteArray.extract { data := #[105, 117, 115, 114, 98] } c (c + 1)
def lettersS (s : ByteArray) : Nat → ByteArray
  | 0 => { data := #[] }
  | k + 1 => lettersS s k ++ ltS (lcode s k)
theorem lcode_lt (s : ByteArray) (i : Nat) : lcode s i < 5 := by unfold lcode; split <;> omega
theorem ltS_size (c : Nat) (h : c < 5) : (ltS c).size = 1 := by
  have : ∀ c : Fin 5, (ltS c.val).size = 1 := by decide +kernel
  exact this ⟨c, h⟩
theorem lettersS_size (s : ByteArray) (k : Nat) : (lettersS s k).size = k := by
  induction k with
  | zero => rfl
  | succ k ih => simp only [lettersS]; rw [ByteArray.size_append, ih, ltS_size _ (lcode_lt s k)]
theorem ltS_def (c : Nat) : ByteArray.extract { data := #[105, 117, 115, 114, 98] } c (c + 1) = ltS c := rfl
theorem lettersS_succ (s : ByteArray) (k : Nat) : lettersS s (k + 1) = lettersS s k ++ ltS (lcode s k) := rfl
attribute [irreducible] ltS lettersS
def lettersP (s : ByteArray) : ByteArray := lettersS s (min s.size 8)
end Go.Proofs.YtinnaiofgbjicaaDoor
