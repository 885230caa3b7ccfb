/- The message of a request, the program's: walked. -/
import Derived.Test.YtinnaiofgbjicaaDoorReqQ
namespace Go.Proofs.YtinnaiofgbjicaaDoor
open Go.RowKit Go.Proofs.YtinnaiofgbjicaaDoorW.PrintWords
set_option linter.unusedSimpArgs false
set_option linter.unusedVariables false
set_option maxRecDepth 1000000
theorem BS.nil' (w : World) : BS w none [] 0 := ⟨Nat.le_refl _, fun _ => rfl, by omega, reads_nil _ _, Byt.nil⟩
theorem BS.own {w : World} {base : Nat} {v : Value} {b : List Int} (h : w.ownsRow base 5 1 v b.length (nums .u8 b)) (hy : Byt b) : ∃ A c, v = .slice A b.length c ∧ BS w A b c := by
  obtain ⟨A, c, rfl, hr⟩ := own_reads h
  obtain ⟨h2, h3⟩ := own_nilc h
  exact ⟨A, c, rfl, own_le h, h2, h3, hr, hy⟩
/-- A request's arguments. -/
def argsQ (k : Nat) (q : Q9) : List V8 :=
  if k = 0 ∨ k = 7 ∨ k = 17 ∨ k = 18 then [vI q.a, vI q.b]
  else if k = 2 then [vR q.x0 q.y0 q.x1 q.y1, vB q.d]
  else if k = 6 ∨ k = 11 ∨ k = 12 then [vR q.x0 q.y0 q.x1 q.y1]
  else if k = 14 then [vS q.s]
  else if k = 5 ∨ k = 8 ∨ k = 10 ∨ k = 13 ∨ k = 15 then [vI q.a]
  else []
structure Q9.Bd (q : Q9) : Prop where
  op : -9223372036854775808 ≤ q.op ∧ q.op ≤ 9223372036854775807
  id : -9223372036854775808 ≤ q.id ∧ q.id ≤ 9223372036854775807
  a : -9223372036854775808 ≤ q.a ∧ q.a ≤ 9223372036854775807
  b : -9223372036854775808 ≤ q.b ∧ q.b ≤ 9223372036854775807
  x0 : -9223372036854775808 ≤ q.x0 ∧ q.x0 ≤ 9223372036854775807
  y0 : -9223372036854775808 ≤ q.y0 ∧ q.y0 ≤ 9223372036854775807
  x1 : -9223372036854775808 ≤ q.x1 ∧ q.x1 ≤ 9223372036854775807
  y1 : -9223372036854775808 ≤ q.y1 ∧ q.y1 ≤ 9223372036854775807
  s : q.s.size ≤ 140737488351232
  d : q.d.length ≤ 140737488351232
  byt : Byt q.d
theorem vI_ok9 {n : Int} (h : -9223372036854775808 ≤ n ∧ n ≤ 9223372036854775807) : (vI n).Ok := ⟨by simp [vI, v0], h, by simp [vI, v0, ByteArray.size], by simp [vI, v0], by simp [vI, v0], by simp [vI, v0], by simp [vI, v0], by simp [vI, v0]⟩
theorem vS_ok {s : ByteArray} (h : s.size ≤ 140737488351232) : (vS s).Ok := ⟨by simp [vS, v0], by simp [vS, v0], h, by simp [vS, v0], by simp [vS, v0], by simp [vS, v0], by simp [vS, v0], by simp [vS, v0]⟩
theorem vR_ok {x0 y0 x1 y1 : Int} (h0 : -9223372036854775808 ≤ x0 ∧ x0 ≤ 9223372036854775807) (h1 : -9223372036854775808 ≤ y0 ∧ y0 ≤ 9223372036854775807) (h2 : -9223372036854775808 ≤ x1 ∧ x1 ≤ 9223372036854775807) (h3 : -9223372036854775808 ≤ y1 ∧ y1 ≤ 9223372036854775807) : (vR x0 y0 x1 y1).Ok := ⟨by simp [vR, v0], by simp [vR, v0], by simp [vR, v0, ByteArray.size], h0, h1, h2, h3, by simp [vR, v0]⟩
theorem vB_ok {d : List Int} (h : d.length ≤ 140737488351232) : (vB d).Ok := ⟨by simp [vB, v0], by simp [vB, v0], by simp [vB, v0, ByteArray.size], by simp [vB, v0], by simp [vB, v0], by simp [vB, v0], by simp [vB, v0], h⟩
theorem ok_0 : AllOk [] := fun i hi => by simp at hi
theorem ok_1 {x : V8} (h : x.Ok) : AllOk [x] := fun i hi => by
  obtain rfl : i = 0 := by simp at hi; omega
  exact h
theorem ok_2 {x y : V8} (h : x.Ok) (h' : y.Ok) : AllOk [x, y] := fun i hi => by
  have : i = 0 ∨ i = 1 := by simp at hi; omega
  rcases this with rfl | rfl
  · exact h
  · exact h'
theorem args_ok (k : Nat) {q : Q9} (h : q.Bd) : AllOk (argsQ k q) := by
  unfold argsQ
  split
  · exact ok_2 (vI_ok9 h.a) (vI_ok9 h.b)
  · split
    · exact ok_2 (vR_ok h.x0 h.y0 h.x1 h.y1) (vB_ok h.d)
    · split
      · exact ok_1 (vR_ok h.x0 h.y0 h.x1 h.y1)
      · split
        · exact ok_1 (vS_ok h.s)
        · split
          · exact ok_1 (vI_ok9 h.a)
          · exact ok_0
theorem args_byt (k : Nat) {q : Q9} (h : q.Bd) (i : Nat) : Byt (at8 (argsQ k q) i).b := by
  unfold argsQ
  split
  · match i with
    | 0 => exact Byt.nil
    | 1 => exact Byt.nil
    | j + 2 => exact Byt.nil
  · split
    · match i with
      | 0 => exact Byt.nil
      | 1 => exact h.byt
      | j + 2 => exact Byt.nil
    · split
      · match i with
        | 0 => exact Byt.nil
        | j + 1 => exact Byt.nil
      · split
        · match i with
          | 0 => exact Byt.nil
          | j + 1 => exact Byt.nil
        · split
          · match i with
            | 0 => exact Byt.nil
            | j + 1 => exact Byt.nil
          · exact Byt.nil
theorem packFrom_byt {f : ByteArray} {l : List V8} (h : ∀ i, Byt (at8 l i).b) : ∀ (k : Nat) (b : List Int), packFrom f l k = some b → Byt b
  | 0, b, e => by simp only [packFrom, Option.some.injEq] at e; rw [← e]; exact Byt.nil
  | k + 1, b, e => by
    simp only [packFrom] at e
    split at e
    · cases e
    · split at e
      · injection e with e
        rw [← e]
        exact Byt.append (packFrom_byt h k _ ‹_›) (putB_byt (h k))
      · cases e
theorem packP_byt {f : ByteArray} {l : List V8} (h : ∀ i, Byt (at8 l i).b) : Byt (packP f l).2 := by
  unfold packP
  split
  · split
    · exact Byt.nil
    · split
      · exact packFrom_byt h _ _ ‹_›
      · exact Byt.nil
  · exact Byt.nil
theorem packP_len (f : ByteArray) (l : List V8) : (packP f l).2.length ≤ 4096 := by
  unfold packP
  split
  · split
    · simp
    · split
      · assumption
      · simp
  · simp
theorem args_len {k : Nat} (hk : k < 19) (q : Q9) : (formQ k).size = (argsQ k q).length := by
  rcases lt19 hk with rfl | rfl | rfl | rfl | rfl | rfl | rfl | rfl | rfl | rfl | rfl | rfl | rfl | rfl | rfl | rfl | rfl | rfl | rfl <;> rfl
/-- The error's number and the message of a request. -/
def encK (T : ByteArray → Bool) (k : Nat) (q : Q9) : Int × M3 :=
  if (packP (formQ k) (argsQ k q)).1 = 0 ∧ mayM k q.id (packP (formQ k) (argsQ k q)).2.length = true ∧ (decK T k q.id (packP (formQ k) (argsQ k q)).2).1 = 0 ∧ (decK T k q.id (packP (formQ k) (argsQ k q)).2).2 = q then (0, ⟨k, q.id, (packP (formQ k) (argsQ k q)).2⟩) else (1, ⟨0, 0, []⟩)
def EncPost (w : World) (r : Int × M3) (e : Ending) (w' : World) : Prop := ∃ A c, e = .returned (.tuple #[(.agg #[.int .i64 (r.2.op), .int .i64 (r.2.id), .slice A r.2.b.length c]), .int .i64 r.1]) ∧ BS w' A r.2.b c ∧ Below w.heap.size w w'
end Go.Proofs.YtinnaiofgbjicaaDoor
