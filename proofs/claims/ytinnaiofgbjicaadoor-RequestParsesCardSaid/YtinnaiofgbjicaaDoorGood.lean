/- A good request, the document's: walked (plain). -/
import Derived.Test.YtinnaiofgbjicaaDoorTitI
import Derived.Test.YtinnaiofgbjicaaDoorReqV
import Derived.Test.YtinnaiofgbjicaaDoorRectB
import Derived.Test.YtinnaiofgbjicaaDoorUnpD
import Derived.Test.YtinnaiofgbjicaaDoorUnpA
namespace Go.Proofs.YtinnaiofgbjicaaDoor
open Go.RowKit Go.Proofs.YtinnaiofgbjicaaDoorW.PrintWords
set_option linter.unusedSimpArgs false
set_option linter.unusedVariables false
set_option maxRecDepth 1000000
structure Q9.Bw (q : Q9) : Prop where
  op : -9223372036854775808 ≤ q.op ∧ q.op ≤ 9223372036854775807
  id : -9223372036854775808 ≤ q.id ∧ q.id ≤ 9223372036854775807
  a : -9223372036854775808 ≤ q.a ∧ q.a ≤ 9223372036854775807
  b : -9223372036854775808 ≤ q.b ∧ q.b ≤ 9223372036854775807
  x0 : -9223372036854775808 ≤ q.x0 ∧ q.x0 ≤ 9223372036854775807
  y0 : -9223372036854775808 ≤ q.y0 ∧ q.y0 ≤ 9223372036854775807
  x1 : -9223372036854775808 ≤ q.x1 ∧ q.x1 ≤ 9223372036854775807
  y1 : -9223372036854775808 ≤ q.y1 ∧ q.y1 ≤ 9223372036854775807
  s : q.s.size ≤ 9223372036854775807
  d : q.d.length ≤ 9223372036854775807
  byt : Byt q.d
/-- A good request, made of any. -/
def goodQ (q : Q9) : Q9 :=
  if around q.op 19 = 0 then ⟨0, (1 + around q.id 9), (1 + around q.a 16), (1 + around q.b 16), 0, 0, 0, 0, { data := #[] }, []⟩
  else if around q.op 19 = 1 then ⟨1, (1 + around q.id 9), 0, 0, 0, 0, 0, 0, { data := #[] }, []⟩
  else if around q.op 19 = 2 then ⟨2, (1 + around q.id 9), 0, 0, (around q.x0 8), (around q.y0 8), (around q.x0 8 + 1 + around q.x1 4), (around q.y0 8 + 1 + around q.y1 4), { data := #[] }, (q.d.take 64)⟩
  else if around q.op 19 = 3 then ⟨3, (1 + around q.id 9), 0, 0, 0, 0, 0, 0, { data := #[] }, []⟩
  else if around q.op 19 = 4 then ⟨4, (1 + around q.id 9), 0, 0, 0, 0, 0, 0, { data := #[] }, []⟩
  else if around q.op 19 = 5 then ⟨5, (1 + around q.id 9), (around q.a 10), 0, 0, 0, 0, 0, { data := #[] }, []⟩
  else if around q.op 19 = 6 then ⟨6, (1 + around q.id 9), 0, 0, (rSmall q.x0 q.y0 q.x1 q.y1).x0, (rSmall q.x0 q.y0 q.x1 q.y1).y0, (rSmall q.x0 q.y0 q.x1 q.y1).x1, (rSmall q.x0 q.y0 q.x1 q.y1).y1, { data := #[] }, []⟩
  else if around q.op 19 = 7 then ⟨7, (1 + around q.id 9), (around q.a 40 - 10), (around q.b 40 - 10), 0, 0, 0, 0, { data := #[] }, []⟩
  else if around q.op 19 = 8 then ⟨8, (1 + around q.id 9), (around q.a 10), 0, 0, 0, 0, 0, { data := #[] }, []⟩
  else if around q.op 19 = 9 then ⟨9, (1 + around q.id 9), 0, 0, 0, 0, 0, 0, { data := #[] }, []⟩
  else if around q.op 19 = 10 then ⟨10, (1 + around q.id 9), (1 + around q.a 3), 0, 0, 0, 0, 0, { data := #[] }, []⟩
  else if around q.op 19 = 11 then ⟨11, (1 + around q.id 9), 0, 0, (rSmall q.x0 q.y0 q.x1 q.y1).x0, (rSmall q.x0 q.y0 q.x1 q.y1).y0, (rSmall q.x0 q.y0 q.x1 q.y1).x1, (rSmall q.x0 q.y0 q.x1 q.y1).y1, { data := #[] }, []⟩
  else if around q.op 19 = 12 then ⟨12, (1 + around q.id 9), 0, 0, (rSmall q.x0 q.y0 q.x1 q.y1).x0, (rSmall q.x0 q.y0 q.x1 q.y1).y0, (rSmall q.x0 q.y0 q.x1 q.y1).x1, (rSmall q.x0 q.y0 q.x1 q.y1).y1, { data := #[] }, []⟩
  else if around q.op 19 = 13 then ⟨13, (1 + around q.id 9), (around q.a 256), 0, 0, 0, 0, 0, { data := #[] }, []⟩
  else if around q.op 19 = 14 then ⟨14, (1 + around q.id 9), 0, 0, 0, 0, 0, 0, (cleanP (q.s.extract 0 (min q.s.size 20))), []⟩
  else if around q.op 19 = 15 then ⟨15, (1 + around q.id 9), (around q.a 10), 0, 0, 0, 0, 0, { data := #[] }, []⟩
  else if around q.op 19 = 16 then ⟨16, (1 + around q.id 9), 0, 0, 0, 0, 0, 0, { data := #[] }, []⟩
  else if around q.op 19 = 17 then ⟨17, (1 + around q.id 9), (around q.a 40 - 10), (around q.b 40 - 10), 0, 0, 0, 0, { data := #[] }, []⟩
  else ⟨18, 0, (around q.a 40 - 10), (around q.b 40 - 10), 0, 0, 0, 0, { data := #[] }, []⟩
def GudP (w : World) (g : Q9) (e : Ending) (w' : World) : Prop := ∃ DA dc, e = .returned (.agg #[.int .i64 g.op, .int .i64 g.id, .int .i64 g.a, .int .i64 g.b, .int .i64 g.x0, .int .i64 g.y0, .int .i64 g.x1, .int .i64 g.y1, .string g.s, .slice DA g.d.length dc]) ∧ g.d.length ≤ dc ∧ ReadsInt w' .u8 DA g.d.length g.d ∧ Below w.heap.size w w'
theorem reads_takeB {w : World} {A : Option Addr} {d : List Int} (h : ReadsInt w .u8 A d.length d) (m : Nat) : ReadsInt w .u8 A (min d.length m) (d.take m) := by
  have h2 := reads_take h (n := min d.length m) (Nat.min_le_left _ _)
  have : d.take (min d.length m) = d.take m := by rw [List.take_eq_take_iff]; omega
  rw [this] at h2; exact h2
end Go.Proofs.YtinnaiofgbjicaaDoor
