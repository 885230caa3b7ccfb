/- The arguments of bytes, as plain lists. -/
import Derived.Test.YtinnaiofgbjicaaDoorArgG
namespace Go.Proofs.YtinnaiofgbjicaaDoor
open Go.RowKit Go.Proofs.YtinnaiofgbjicaaDoorW.PrintWords
set_option linter.unusedSimpArgs false
set_option linter.unusedVariables false
set_option maxRecDepth 1000000
/-- Bytes are of their kind. -/
def Byt (b : List Int) : Prop := ∀ n ∈ b, 0 ≤ n ∧ n ≤ 255
theorem Byt.take {b : List Int} (h : Byt b) (n : Nat) : Byt (b.take n) := fun m hm => h m (List.mem_of_mem_take hm)
theorem Byt.drop {b : List Int} (h : Byt b) (n : Nat) : Byt (b.drop n) := fun m hm => h m (List.mem_of_mem_drop hm)
theorem Byt.at_ {b : List Int} (h : Byt b) (i : Nat) : 0 ≤ b.getD i 0 ∧ b.getD i 0 ≤ 255 := by
  rw [List.getD_eq_getElem?_getD]
  by_cases hi : i < b.length
  · rw [List.getElem?_eq_getElem hi]; exact h _ (List.getElem_mem _)
  · rw [List.getElem?_eq_none (by omega)]; exact ⟨by decide, by decide⟩
theorem Byt.nil : Byt [] := fun n h => by simp at h
theorem Byt.zeros (n : Nat) : Byt (List.replicate n 0) := fun m hm => by rw [(List.mem_replicate.1 hm).2]; omega
def numU (b : List Int) : Int := b.getD 0 0 * 16777216 + b.getD 1 0 * 65536 + b.getD 2 0 * 256 + b.getD 3 0
theorem numU_bd {b : List Int} (h : Byt b) : 0 ≤ numU b ∧ numU b ≤ 4294967295 := by
  have h0 := h.at_ 0; have h1 := h.at_ 1; have h2 := h.at_ 2; have h3 := h.at_ 3
  unfold numU; omega
def signN (n : Int) : Int := if 2147483647 < n then n - 4294967296 else n
theorem signN_bd {n : Int} (h : 0 ≤ n ∧ n ≤ 4294967295) : -2147483648 ≤ signN n ∧ signN n ≤ 2147483647 := by unfold signN; split <;> omega
/-- So many bytes, or as many zeros; what is left of them; the error. -/
def takeV (n : Nat) (b : List Int) : List Int := if n ≤ b.length then b.take n else List.replicate n 0
def takeR (n : Nat) (b : List Int) : List Int := if n ≤ b.length then b.drop n else []
def takeE (n : Nat) (b : List Int) (e : Int) : Int := if n ≤ b.length then e else 3
theorem takeV_len (n : Nat) (b : List Int) : (takeV n b).length = n := by unfold takeV; split <;> simp <;> omega
theorem takeV_byt {b : List Int} (h : Byt b) (n : Nat) : Byt (takeV n b) := by unfold takeV; split; exact h.take n; exact Byt.zeros n
theorem takeR_byt {b : List Int} (h : Byt b) (n : Nat) : Byt (takeR n b) := by unfold takeR; split; exact h.drop n; exact Byt.nil
theorem takeR_le (n : Nat) (b : List Int) : (takeR n b).length ≤ b.length := by unfold takeR; split <;> simp
theorem numU_take (b : List Int) (n : Nat) (h : 4 ≤ n) : numU (b.take n) = numU b := by
  unfold numU; simp only [List.getD_eq_getElem?_getD, List.getElem?_take, show 0 < n by omega, show 1 < n by omega, show 2 < n by omega, show 3 < n by omega, if_true]
theorem numU_zeros (n : Nat) : numU (List.replicate n 0) = 0 := by
  have h : ∀ i, (List.replicate n (0 : Int)).getD i 0 = 0 := fun i => by
    rw [List.getD_eq_getElem?_getD, List.getElem?_replicate]; split <;> rfl
  unfold numU; rw [h, h, h, h]; omega
/-- One argument of bytes, and what is left of them; none: they do not suffice. -/
def oneP (c : Int) (b : List Int) : Option (V8 × List Int) :=
  if c = 105 then (if b.length < 4 then none else some ({ v0 with n := signN (numU b) }, b.drop 4))
  else if c = 117 then (if b.length < 4 then none else some ({ v0 with n := numU b }, b.drop 4))
  else if c = 115 then (if b.length < 1 + (b.getD 0 0).toNat then none else some ({ v0 with kind := 1, s := strOfNums ((b.drop 1).take (b.getD 0 0).toNat) }, b.drop (1 + (b.getD 0 0).toNat)))
  else if c = 114 then (if b.length < 16 then none else some ({ v0 with kind := 2, x0 := signN (numU b), y0 := signN (numU (b.drop 4)), x1 := signN (numU (b.drop 8)), y1 := signN (numU (b.drop 12)) }, b.drop 16))
  else some ({ v0 with kind := 3, b := b }, [])
def unpackFrom (f : ByteArray) (b : List Int) : Nat → Option (List V8 × List Int)
  | 0 => some ([], b)
  | k + 1 => match unpackFrom f b k with
    | none => none
    | some (l, r) => match oneP (byN f k) r with
      | none => none
      | some (x, r') => some (l ++ [x], r')
theorem unpackFrom_yes {f : ByteArray} {b r r' : List Int} {k : Nat} {l : List V8} {x : V8} (h : unpackFrom f b k = some (l, r)) (h1 : oneP (byN f k) r = some (x, r')) : unpackFrom f b (k + 1) = some (l ++ [x], r') := by
  simp only [unpackFrom, h, h1]
theorem unpackFrom_no {f : ByteArray} {b r : List Int} {k : Nat} {l : List V8} (h : unpackFrom f b k = some (l, r)) (h1 : oneP (byN f k) r = none) : unpackFrom f b (k + 1) = none := by
  simp only [unpackFrom, h, h1]
theorem unpackFrom_none {f : ByteArray} {b : List Int} {k : Nat} (h : unpackFrom f b k = none) : ∀ j, unpackFrom f b (k + j) = none
  | 0 => h
  | j + 1 => by
    have := unpackFrom_none h j
    show unpackFrom f b ((k + j) + 1) = none
    simp only [unpackFrom, this]
/-- What bytes are unpacked to: the error's number, the arguments. -/
def unpackP (f : ByteArray) (b : List Int) : Int × List V8 :=
  if formP f = true then
    match unpackFrom f b f.size with
    | none => (3, [])
    | some (l, r) => if r.length = 0 then (0, l) else (2, [])
  else (1, [])
theorem oneP_byt {c : Int} {b r : List Int} {x : V8} (hb : Byt b) (h : oneP c b = some (x, r)) : Byt r ∧ r.length ≤ b.length ∧ (x.kind = 3 → r = [] ∧ ¬ c = 105 ∧ ¬ c = 117 ∧ ¬ c = 115 ∧ ¬ c = 114) := by
  unfold oneP at h
  split at h
  · split at h
    · cases h
    · injection h with h; injection h with h1 h2; subst h1; subst h2
      exact ⟨hb.drop 4, by simp, fun h => by simp [v0] at h⟩
  · split at h
    · split at h
      · cases h
      · injection h with h; injection h with h1 h2; subst h1; subst h2
        exact ⟨hb.drop 4, by simp, fun h => by simp [v0] at h⟩
    · split at h
      · split at h
        · cases h
        · injection h with h; injection h with h1 h2; subst h1; subst h2
          exact ⟨hb.drop _, by simp, fun h => by simp at h⟩
      · split at h
        · split at h
          · cases h
          · injection h with h; injection h with h1 h2; subst h1; subst h2
            exact ⟨hb.drop 16, by simp, fun h => by simp at h⟩
        · injection h with h; injection h with h1 h2; subst h1; subst h2
          exact ⟨Byt.nil, by simp, fun _ => ⟨rfl, ‹_›, ‹_›, ‹_›, ‹_›⟩⟩
end Go.Proofs.YtinnaiofgbjicaaDoor
