/- Rows of elements of k cells: read, and of the call's own. -/
import Derived.Test.YtbkhcdmmnlkhdaaGreatProg
import Derived.Test.YtbkhcdmmnlkhdaaGreatTail
import Derived.Test.YtbkhcdmmnlkhdaaGreatWWords
import Derived.OwnWalk
import Derived.Laws.AppendOwnNone
import Derived.Laws.OwnMore
import Derived.Deep.Slices
namespace Go.Proofs.YtbkhcdmmnlkhdaaGreat
open Go.RowKit Go.Proofs.YtbkhcdmmnlkhdaaGreatW.PrintWords
set_option linter.unusedSimpArgs false
set_option linter.unusedVariables false
/-- How elements stand in memory. -/
structure Enc (α : Type) where
  k : Nat
  cells : α → List Value
  len : ∀ x, (cells x).length = k
  pos : 0 < k
  one : ∀ x, ∀ u ∈ cells x, u.oneCell' = true
section
variable {α : Type} (E : Enc α)
def flatE (l : List α) : List Value := l.flatMap E.cells
theorem flatE_nil : flatE E [] = [] := rfl
theorem flatE_cons (x : α) (l : List α) : flatE E (x :: l) = E.cells x ++ flatE E l := rfl
theorem flatE_append (l m : List α) : flatE E (l ++ m) = flatE E l ++ flatE E m := by simp [flatE]
theorem flatE_one (x : α) : flatE E [x] = E.cells x := by simp [flatE]
theorem flatE_len (l : List α) : (flatE E l).length = l.length * E.k := by
  induction l with
  | nil => simp [flatE]
  | cons x l ih => rw [flatE_cons, List.length_append, ih, E.len, List.length_cons, Nat.succ_mul]; omega
theorem flatE_get (l : List α) (i j : Nat) (hi : i < l.length) (hj : j < E.k) : (flatE E l)[i * E.k + j]? = (E.cells l[i])[j]? := by
  induction l generalizing i with
  | nil => simp at hi
  | cons h l ih =>
    rw [flatE_cons]
    have hl := E.len h
    cases i with
    | zero => simp only [Nat.zero_mul, Nat.zero_add, List.getElem_cons_zero]; rw [List.getElem?_append_left (by omega)]
    | succ i =>
      rw [List.getElem?_append_right (by rw [Nat.succ_mul]; omega), show (i + 1) * E.k + j - (E.cells h).length = i * E.k + j by rw [Nat.succ_mul]; omega]
      exact ih i (by simpa using hi)
theorem flatE_ones (l : List α) : ∀ u ∈ flatE E l, u.oneCell' = true := by
  intro u hu
  obtain ⟨x, _, hx⟩ := List.mem_flatMap.1 hu
  exact E.one x u hx
theorem flatE_set (l : List α) (i : Nat) (x : α) (hi : i < l.length) : flatE E (l.set i x) = (flatE E l).take (i * E.k) ++ (E.cells x ++ (flatE E l).drop ((i + 1) * E.k)) := by
  have h1 : l = l.take i ++ (l[i] :: l.drop (i + 1)) := by rw [← List.drop_eq_getElem_cons hi, List.take_append_drop]
  have h2 : l.set i x = l.take i ++ (x :: l.drop (i + 1)) := by rw [List.set_eq_take_append_cons_drop, if_pos hi]
  have e1 : (flatE E (l.take i)).length = i * E.k := by rw [flatE_len, List.length_take, Nat.min_eq_left (by omega)]
  have e2 : flatE E l = flatE E (l.take i) ++ (E.cells l[i] ++ flatE E (l.drop (i + 1))) := by
    conv => lhs; rw [h1]
    rw [flatE_append, flatE_cons]
  rw [h2, flatE_append, flatE_cons, e2, List.take_left' e1]
  have e3 : ((i + 1) * E.k) = (flatE E (l.take i) ++ E.cells l[i]).length := by rw [List.length_append, e1, E.len, Nat.succ_mul]
  rw [← List.append_assoc (flatE E (l.take i)) (E.cells l[i]), e3, List.drop_left]
/-- A slice of elements, read. -/
structure RdG (w : World) (A : Option Addr) (l : List α) (c : Nat) : Prop where
  le : l.length ≤ c
  nil : A = none → c = 0
  max : c ≤ 9223372036854775807
  row : ∀ j u, (flatE E l)[j]? = some u → ∃ ad, A = some ad ∧ w.cell? (ad.add j) = some u
variable {E}
theorem RdG.below {w w1 : World} {A : Option Addr} {l : List α} {c : Nat} (h : RdG E w A l c) (hb : Below w.heap.size w w1) : RdG E w1 A l c :=
  ⟨h.le, h.nil, h.max, fun j u hj => let ⟨ad, ha, hc⟩ := h.row j u hj; ⟨ad, ha, pw_cell_below hb hc⟩⟩
theorem RdG.same {w w1 : World} {A : Option Addr} {l : List α} {c : Nat} (h : RdG E w A l c) (hs : ∀ ad, A = some ad → w1.heap[ad.block]? = w.heap[ad.block]?) : RdG E w1 A l c :=
  ⟨h.le, h.nil, h.max, fun j u hj => let ⟨ad, ha, hc⟩ := h.row j u hj; ⟨ad, ha, by
    have e : (ad.add j).block = ad.block := by unfold Addr.add; split <;> rfl
    rw [World.cell?_of_block (a := ad.add j) (w := w) (w' := w1) (by rw [e]; exact hs ad ha)]; exact hc⟩⟩
theorem RdG.len {w : World} {A : Option Addr} {l : List α} {c : Nat} (h : RdG E w A l c) : l.length ≤ 9223372036854775807 := Nat.le_trans h.le h.max
theorem RdG.nil' (w : World) (A : Option Addr) (c : Nat) (hA : A = none → c = 0) (hc : c ≤ 9223372036854775807) : RdG E w A [] c := ⟨Nat.zero_le _, hA, hc, fun j u h => by simp [flatE] at h⟩
theorem RdG.nil0 (w : World) : RdG E w none [] 0 := RdG.nil' w none 0 (fun _ => rfl) (by omega)
theorem RdG.news {w : World} {ad : Addr} {l : List α} {c : Nat} (h : RdG E w (some ad) l c) : ∀ j u, (flatE E l)[j]? = some u → w.cell? (ad.add j) = some u := fun j u hj => by
  obtain ⟨ad', e, hc⟩ := h.row j u hj
  injection e with e; subst e; exact hc
/-- Where the elements lie. -/
theorem RdG.place {w : World} {A : Option Addr} {l : List α} {c : Nat} (h : RdG E w A l c) (hl : 0 < l.length) : ∃ b off, A = some ⟨b, off, none⟩ ∧ b < w.heap.size ∧ ∀ i, (hi : i < l.length) → ∀ j v, (E.cells l[i])[j]? = some v → w.cell? ⟨b, off + i * E.k + j, none⟩ = some v := by
  have hp := E.pos
  have h0 : (flatE E l)[0 * E.k + 0]? = (E.cells l[0])[0]? := flatE_get E l 0 0 hl hp
  have hc := E.len l[0]
  rw [List.getElem?_eq_getElem (by omega : 0 < (E.cells l[0]).length)] at h0
  obtain ⟨ad, rfl, h1⟩ := h.row _ _ h0
  have hs : ad.spot = none := by
    have := World.cell?_spot h1
    simpa [Addr.add] using this
  obtain ⟨b, off, sp⟩ := ad
  simp only at hs
  subst hs
  have key : ∀ j, (⟨b, off, none⟩ : Addr).add j = ⟨b, off + j, none⟩ := fun j => by unfold Addr.add; split <;> simp_all
  refine ⟨b, off, rfl, ?_, fun i hi j v hj => ?_⟩
  · have := World.block_lt_of_cell? _ _ h1
    rwa [key] at this
  · have hjk : j < E.k := by
      have := (List.getElem?_eq_some_iff.1 hj).1
      rwa [E.len] at this
    have h2 := h.news (i * E.k + j) v (by rw [flatE_get E l i j hi hjk]; exact hj)
    rw [key, ← Nat.add_assoc] at h2
    exact h2
theorem RdG.take {w : World} {A : Option Addr} {l : List α} {c : Nat} (h : RdG E w A l c) (n : Nat) (hn : n ≤ l.length) : RdG E w A (l.take n) c := by
  refine ⟨by have := h.le; simp; omega, h.nil, h.max, fun j u hj => ?_⟩
  refine h.row j u ?_
  have hlt := (List.getElem?_eq_some_iff.1 hj).1
  have e : flatE E l = flatE E (l.take n) ++ flatE E (l.drop n) := by rw [← flatE_append, List.take_append_drop]
  rw [e, List.getElem?_append_left hlt]; exact hj
/-- A row of elements of the call's own. -/
def OwnG (E : Enc α) (w : World) (base : Nat) (e : TypeId) (v : Value) (l : List α) : Prop := w.ownsRow base e E.k v l.length (flatE E l)
theorem OwnG.nil (w : World) (base : Nat) (e : TypeId) : OwnG E w base e (.slice none 0 0) [] := World.ownsRow_nil _ _ _ _
theorem OwnG.below {w w1 : World} {base : Nat} {e : TypeId} {v : Value} {l : List α} (h : OwnG E w base e v l) (hb : Below w.heap.size w w1) : OwnG E w1 base e v l := pw_own_below h hb
theorem OwnG.mono {w : World} {b1 b2 : Nat} {e : TypeId} {v : Value} {l : List α} (h : OwnG E w b1 e v l) (hb : b2 ≤ b1) : OwnG E w b2 e v l := by
  refine ⟨h.1, h.2.imp id fun ⟨g, cap, cur, h0, h1, h2⟩ => ⟨g, cap, cur, h0, by omega, h2⟩⟩
theorem OwnG.rd {w : World} {base : Nat} {e : TypeId} {v : Value} {l : List α} (h : OwnG E w base e v l) : ∃ A c, v = .slice A l.length c ∧ RdG E w A l c ∧ ∀ ad, A = some ad → base ≤ ad.block := by
  rcases h.2 with ⟨rfl, h0⟩ | ⟨g, cap, cur, rfl, hg, hh, h1, h2, _⟩
  · obtain rfl := List.eq_nil_of_length_eq_zero h0
    exact ⟨none, 0, rfl, RdG.nil0 w, fun ad e => by cases e⟩
  · refine ⟨_, cap, rfl, ⟨h1, fun e => (by cases e), (by unfold maxLen at h2; omega), fun j u hj => ⟨_, rfl, World.ownsRow.cells h (g := g) rfl j u hj⟩⟩, fun ad e => ?_⟩
    injection e with e; subst e; exact hg
theorem OwnG.snoc {w : World} {base : Nat} {e : TypeId} {v : Value} {l : List α} {x : α} (h : w.ownsRow base e E.k v (l.length + 1) (flatE E l ++ E.cells x)) : OwnG E w base e v (l ++ [x]) := by
  unfold OwnG; rw [flatE_append, flatE_one, List.length_append]; exact h
theorem OwnG.same {w w' : World} {base : Nat} {e : TypeId} {v : Value} {l : List α} (h : OwnG E w base e v l) (hs : ∀ b, v.ownBlock = some b → w'.heap[b]? = w.heap[b]?) : OwnG E w' base e v l := by
  refine ⟨h.1, ?_⟩
  rcases h.2 with hn | ⟨g, cap, cur, rfl, hb, hgg, rest⟩
  · exact .inl hn
  · exact .inr ⟨g, cap, cur, rfl, hb, (hs g rfl).trans hgg, rest⟩
theorem OwnG.form {w : World} {base : Nat} {e : TypeId} {v : Value} {l : List α} (h : OwnG E w base e v l) (hl : 0 < l.length) : ∃ g cap rest, v = .slice (some ⟨g, 0, none⟩) l.length cap ∧ base ≤ g ∧ w.heap[g]? = some (.cells (flatE E l ++ rest).toArray e (0, 0)) ∧ l.length ≤ cap ∧ cap ≤ maxLen ∧ (flatE E l ++ rest).length = cap * E.k := by
  rcases h.2 with ⟨_, h0⟩ | ⟨g, cap, cur, rfl, hg, hh, h1, h2, h3, h4⟩
  · omega
  · obtain ⟨rest, hr⟩ : ∃ rest, cur.toList = flatE E l ++ rest := by
      refine ⟨cur.toList.drop (l.length * E.k), ?_⟩
      have : cur.toList.take (l.length * E.k) = flatE E l := by simpa using h4
      rw [← this, List.take_append_drop]
    refine ⟨g, cap, rest, rfl, hg, ?_, h1, h2, ?_⟩
    · rw [← hr]; simpa using hh
    · rw [← hr]; simpa using h3
theorem OwnG.of_form {w : World} {base : Nat} {e : TypeId} {l : List α} {g cap : Nat} {rest : List Value} (hg : base ≤ g) (hh : w.heap[g]? = some (.cells (flatE E l ++ rest).toArray e (0, 0))) (h1 : l.length ≤ cap) (h2 : cap ≤ maxLen) (h3 : (flatE E l ++ rest).length = cap * E.k) : OwnG E w base e (.slice (some ⟨g, 0, none⟩) l.length cap) l := by
  refine ⟨flatE_len E l, .inr ⟨g, cap, _, rfl, hg, hh, h1, h2, by simpa using h3, ?_⟩⟩
  have := flatE_len E l
  simp [this]
variable {P : Program} {ops : Array Oper} {rest : List Oper} {o : Oper} {a : Act} {Q : Exit → Act → World → Prop}
/-- append(v, x). -/
theorem appG_one {w0 W : World} (base : Nat) (hgd : o.guard = none) (s x : Operand) (t e : TypeId) (z : Value) (size bytes : Nat) (hk : E.k = size)
    (ho : o.op = .call { callee := .builtin .append, args := #[s, x], argTypes := #[t, t] })
    (ht : P.underlying t = some (.slice e)) (hinfo : (P.info? e).map (fun i => (i.zero, i.size, i.bytes)) = some (some z, size, bytes)) (hz : z.cells.size = size) (hb0 : 0 < bytes)
    (v : Value) (l : List α) (y : α) (ys : List Value) (hs : a.eval s = v) (hx : a.eval x = .slice (some ⟨W.heap.size, 0, none⟩) 1 1) (hys : E.cells y = ys)
    (HO : OwnG E W base e v l) (HB : Below base w0 W) (hbase : base ≤ W.heap.size) (hl : (l.length + 1) * bytes ≤ 140737488355328)
    (h : ∀ v1 w1, OwnG E w1 base e v1 (l ++ [y]) → Below base w0 w1 → W.grownBy w1 v.ownBlock → (v1.ownBlock = v.ownBlock ∨ ∃ b, v1.ownBlock = some b ∧ W.heap.size ≤ b) → wpList P ops Q rest (a.put o.dst v1) w1) :
    wpList P ops Q (o :: rest) a (W.alloc (.cells ys.toArray e)) := by
  subst hk hys
  exact print_append_cells base hgd s x t e z E.k bytes ho ht hinfo hz E.pos hb0 v l.length (flatE E l) (E.cells y) hs hx (E.len y) (E.one y) HO HB hbase hl fun v1 w1 hown hB hg hat => h v1 w1 (OwnG.snoc hown) hB hg hat
/-- append(v, row..). -/
theorem appG_row {w0 W : World} (base : Nat) (hgd : o.guard = none) (s x : Operand) (t e : TypeId) (z : Value) (size bytes : Nat) (hk : E.k = size)
    (ho : o.op = .call { callee := .builtin .append, args := #[s, x], argTypes := #[t, t] })
    (ht : P.underlying t = some (.slice e)) (hinfo : (P.info? e).map (fun i => (i.zero, i.size, i.bytes)) = some (some z, size, bytes)) (hz : z.cells.size = size) (hb0 : 0 < bytes)
    (v : Value) (l m : List α) (A : Option Addr) (c : Nat) (hs : a.eval s = v) (hx : a.eval x = .slice A m.length c) (HO : OwnG E W base e v l) (HR : RdG E W A m c) (HB : Below base w0 W) (hbase : base ≤ W.heap.size) (hl : (l.length + m.length) * bytes ≤ 140737488355328)
    (h : ∀ v1 w1, OwnG E w1 base e v1 (l ++ m) → Below base w0 w1 → W.grownBy w1 v.ownBlock → (v1.ownBlock = v.ownBlock ∨ ∃ b, v1.ownBlock = some b ∧ W.heap.size ≤ b) → wpList P ops Q rest (a.put o.dst v1) w1) :
    wpList P ops Q (o :: rest) a W := by
  subst hk
  obtain ⟨i0, hi, hzz⟩ := Option.map_eq_some_iff.1 hinfo
  simp only [Prod.mk.injEq] at hzz
  obtain ⟨hz0, hz1, hz2⟩ := hzz
  cases A with
  | none =>
    obtain rfl : m = [] := List.eq_nil_of_length_eq_zero (by have := HR.le; have := HR.nil rfl; omega)
    obtain rfl := HR.nil rfl
    refine wpList_append_own_none hgd s x t ho base e i0 E.k ht hi v _ _ hs HO hx ?_
    exact h v W (by rw [List.append_nil]; exact HO) HB ⟨rfl, rfl, rfl, Nat.le_refl _, fun _ _ _ => rfl⟩ (.inl rfl)
  | some ad =>
    have hlen : l.length + m.length ≤ 140737488355328 := Nat.le_trans (Nat.le_mul_of_pos_right _ hb0) hl
    refine wpList_append_own_at W hgd s x t ho base e i0 _ E.k bytes ht hi hz0 hz1 hz2 hz E.pos v _ _ hs HO ad m.length c (flatE E m) hx (flatE_len E m) HR.news (flatE_ones E m) (by simp only [maxLen]; omega) hl hbase ?_
    intro v1 w1 hown hg _ hat
    refine h v1 w1 (by unfold OwnG; rw [flatE_append, List.length_append]; exact hown) (HB.grown hg hbase (own_base HO)) hg ?_
    rcases hat with hat | hat
    · exact .inl hat
    · exact .inr ⟨_, hat, by simp⟩
end
/-- What a call gives that gives a row of its own. -/
def RowP {α : Type} (E : Enc α) (t : TypeId) (w : World) (l : List α) (e : Ending) (w' : World) : Prop := ∃ v, e = .returned v ∧ OwnG E w' w.heap.size t v l ∧ Below w.heap.size w w'
/-- Whole numbers. -/
def EI (q : IntKind) : Enc Int := ⟨1, fun x => [.int q x], fun _ => rfl, by decide, fun x u hu => by simp at hu; subst hu; rfl⟩
theorem flatE_int (q : IntKind) (l : List Int) : flatE (EI q) l = nums q l := by
  induction l with
  | nil => rfl
  | cons x l ih => rw [flatE_cons, ih]; rfl
theorem own_int {q : IntKind} {w : World} {base : Nat} {e : TypeId} {v : Value} {l : List Int} : OwnG (EI q) w base e v l ↔ w.ownsRow base e 1 v l.length (nums q l) := by
  unfold OwnG; rw [flatE_int]; exact Iff.rfl
end Go.Proofs.YtbkhcdmmnlkhdaaGreat
