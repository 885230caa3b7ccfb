/- Arguments that fit a form, made of any: walked. -/
import Derived.Test.YtinnaiofgbjicaaDoorArgJ
namespace Go.Proofs.YtinnaiofgbjicaaDoor
open Go.RowKit Go.Proofs.YtinnaiofgbjicaaDoorW.PrintWords
set_option linter.unusedSimpArgs false
set_option linter.unusedVariables false
set_option maxRecDepth 1000000
theorem reads_nilK (w : World) (A : Option Addr) : ReadsInt w .u8 A 0 [] := ⟨rfl, by omega, fun h => by omega⟩
theorem cell_al {w : World} {p : Addr} {v : Value} (h : w.cell? p = some v) (o : Obj) : (w.alloc o).cell? p = some v := pw_cell_below ((Below.refl _ _).alloc (Nat.le_refl _) o) h
def tm (n : Int) : Int := Int.tmod n 2147483648
theorem tm_bd (n : Int) : -2147483648 < tm n ∧ tm n < 2147483648 := by
  unfold tm
  have h1 := Int.tmod_lt_of_pos n (show (0 : Int) < 2147483648 by omega)
  by_cases h : 0 ≤ n
  · have := Int.tmod_nonneg 2147483648 h; omega
  · have := Int.tmod_nonneg 2147483648 (show 0 ≤ -n by omega)
    have h3 := Int.tmod_lt_of_pos (-n) (show (0 : Int) < 2147483648 by omega)
    rw [Int.neg_tmod] at this h3; omega
def goodX (c : Int) (x : V8) : V8 :=
  if c = 105 then { v0 with n := tm x.n }
  else if c = 117 then { v0 with n := max (tm x.n) (-tm x.n) }
  else if c = 115 then { v0 with kind := 1, s := x.s.extract 0 (min x.s.size 20) }
  else if c = 114 then { v0 with kind := 2, x0 := tm x.x0, y0 := tm x.y0, x1 := tm x.x1, y1 := tm x.y1 }
  else { v0 with kind := 3, b := x.b.take (min x.b.length 20) }
def goodN (f : ByteArray) (l : List V8) (k : Nat) : List V8 := (List.range k).map fun i => goodX (byN f i) (at8 l i)
def goodL (f : ByteArray) (l : List V8) : List V8 := goodN f l f.size
theorem goodN_succ (f : ByteArray) (l : List V8) (k : Nat) : goodN f l (k + 1) = goodN f l k ++ [goodX (byN f k) (at8 l k)] := by
  unfold goodN; rw [List.range_succ, List.map_append]; rfl
theorem goodN_len (f : ByteArray) (l : List V8) (k : Nat) : (goodN f l k).length = k := by simp [goodN]
theorem at8_out (l : List V8) (k : Nat) (h : ¬ k < l.length) : at8 l k = v0 := by
  unfold at8; rw [List.getD_eq_getElem?_getD, List.getElem?_eq_none (by omega)]; rfl
end Go.Proofs.YtinnaiofgbjicaaDoor
