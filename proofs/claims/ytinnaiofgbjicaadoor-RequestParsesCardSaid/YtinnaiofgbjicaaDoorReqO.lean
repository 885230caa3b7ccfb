/- The request of a message, the program's and the document's: what both tell, plainly. -/
import Derived.Test.YtinnaiofgbjicaaDoorReqM
import Derived.Test.YtinnaiofgbjicaaDoorReqJ
import Derived.Test.YtinnaiofgbjicaaDoorReqI
import Derived.Test.YtinnaiofgbjicaaDoorUnpD
namespace Go.Proofs.YtinnaiofgbjicaaDoor
open Go.RowKit Go.Proofs.YtinnaiofgbjicaaDoorW.PrintWords
set_option linter.unusedSimpArgs false
set_option linter.unusedVariables false
set_option maxRecDepth 1000000
def vS (s : ByteArray) : V8 := { v0 with kind := 1, s := s }
def vR (x0 y0 x1 y1 : Int) : V8 := { v0 with kind := 2, x0 := x0, y0 := y0, x1 := x1, y1 := y1 }
def vB (d : List Int) : V8 := { v0 with kind := 3, b := d }
theorem unp_1 {f : ByteArray} {b : List Int} {l : List V8} (hs : f.size = 1) (h : unpackP f b = (0, l)) : ∃ x r, oneP (byN f 0) b = some (x, r) ∧ l = [x] ∧ r = [] := by
  unfold unpackP at h
  split at h
  · rw [hs] at h
    simp only [unpackFrom] at h
    cases ho : oneP (byN f 0) b with
    | none => rw [ho] at h; simp at h
    | some p =>
      obtain ⟨x, r⟩ := p
      rw [ho] at h
      simp only at h
      split at h
      · injection h with h1 h2
        exact ⟨x, r, rfl, by rw [← h2]; rfl, List.length_eq_zero_iff.1 ‹_›⟩
      · simp at h
  · simp at h
theorem unp_2 {f : ByteArray} {b : List Int} {l : List V8} (hs : f.size = 2) (h : unpackP f b = (0, l)) : ∃ x r y r', oneP (byN f 0) b = some (x, r) ∧ oneP (byN f 1) r = some (y, r') ∧ l = [x, y] ∧ r' = [] := by
  unfold unpackP at h
  split at h
  · rw [hs] at h
    simp only [unpackFrom] at h
    cases ho : oneP (byN f 0) b with
    | none => rw [ho] at h; simp at h
    | some p =>
      obtain ⟨x, r⟩ := p
      rw [ho] at h
      simp only at h
      cases ho2 : oneP (byN f 1) r with
      | none => rw [ho2] at h; simp at h
      | some p2 =>
        obtain ⟨y, r'⟩ := p2
        rw [ho2] at h
        simp only at h
        split at h
        · injection h with h1 h2
          exact ⟨x, r, y, r', rfl, ho2, by rw [← h2]; rfl, List.length_eq_zero_iff.1 ‹_›⟩
        · simp at h
  · simp at h
theorem unp_0 {f : ByteArray} {b : List Int} {l : List V8} (hs : f.size = 0) (h : unpackP f b = (0, l)) : l = [] := by
  unfold unpackP at h
  split at h
  · rw [hs] at h
    simp only [unpackFrom] at h
    split at h
    · injection h with h1 h2; exact h2.symm
    · simp at h
  · simp at h
theorem one_u' {b r : List Int} {x : V8} (h : oneP 117 b = some (x, r)) : ∃ n, x = vI n := by
  unfold oneP at h
  rw [if_neg (by omega), if_pos rfl] at h
  split at h
  · simp at h
  · injection h with h; injection h with h1 h2; exact ⟨_, h1.symm⟩
theorem one_i' {b r : List Int} {x : V8} (h : oneP 105 b = some (x, r)) : ∃ n, x = vI n := by
  unfold oneP at h
  rw [if_pos rfl] at h
  split at h
  · simp at h
  · injection h with h; injection h with h1 h2; exact ⟨_, h1.symm⟩
theorem one_s' {b r : List Int} {x : V8} (h : oneP 115 b = some (x, r)) : ∃ s, x = vS s := by
  unfold oneP at h
  rw [if_neg (by omega), if_neg (by omega), if_pos rfl] at h
  split at h
  · simp at h
  · injection h with h; injection h with h1 h2; exact ⟨_, h1.symm⟩
theorem one_r' {b r : List Int} {x : V8} (h : oneP 114 b = some (x, r)) : ∃ x0 y0 x1 y1, x = vR x0 y0 x1 y1 := by
  unfold oneP at h
  rw [if_neg (by omega), if_neg (by omega), if_neg (by omega), if_pos rfl] at h
  split at h
  · simp at h
  · injection h with h; injection h with h1 h2; exact ⟨_, _, _, _, h1.symm⟩
theorem one_b' {b r : List Int} {x : V8} (h : oneP 98 b = some (x, r)) : x = vB b := by
  unfold oneP at h
  rw [if_neg (by omega), if_neg (by omega), if_neg (by omega), if_neg (by omega)] at h
  injection h with h; injection h with h1 h2; exact h1.symm
theorem unp_shape {k : Nat} (hk : k < 19) {b : List Int} {l : List V8} (h : unpackP (formQ k) b = (0, l)) : (l = [] ∨ (∃ n, l = [vI n]) ∨ (∃ n m, l = [vI n, vI m]) ∨ (∃ s, l = [vS s]) ∨ (∃ x0 y0 x1 y1, l = [vR x0 y0 x1 y1]) ∨ (∃ x0 y0 x1 y1 d, l = [vR x0 y0 x1 y1, vB d])) := by
  have h0 : ∀ f : ByteArray, f.size = 0 → unpackP f b = (0, l) → (l = [] ∨ (∃ n, l = [vI n]) ∨ (∃ n m, l = [vI n, vI m]) ∨ (∃ s, l = [vS s]) ∨ (∃ x0 y0 x1 y1, l = [vR x0 y0 x1 y1]) ∨ (∃ x0 y0 x1 y1 d, l = [vR x0 y0 x1 y1, vB d])) := fun f hs h => .inl (unp_0 hs h)
  have hu : ∀ f : ByteArray, f.size = 1 → byN f 0 = 117 → unpackP f b = (0, l) → (l = [] ∨ (∃ n, l = [vI n]) ∨ (∃ n m, l = [vI n, vI m]) ∨ (∃ s, l = [vS s]) ∨ (∃ x0 y0 x1 y1, l = [vR x0 y0 x1 y1]) ∨ (∃ x0 y0 x1 y1 d, l = [vR x0 y0 x1 y1, vB d])) := fun f hs hb h => by
    obtain ⟨x, r, ho, hl, _⟩ := unp_1 hs h
    rw [hb] at ho; obtain ⟨n, rfl⟩ := one_u' ho
    exact .inr (.inl ⟨n, hl⟩)
  have hr : ∀ f : ByteArray, f.size = 1 → byN f 0 = 114 → unpackP f b = (0, l) → (l = [] ∨ (∃ n, l = [vI n]) ∨ (∃ n m, l = [vI n, vI m]) ∨ (∃ s, l = [vS s]) ∨ (∃ x0 y0 x1 y1, l = [vR x0 y0 x1 y1]) ∨ (∃ x0 y0 x1 y1 d, l = [vR x0 y0 x1 y1, vB d])) := fun f hs hb h => by
    obtain ⟨x, r, ho, hl, _⟩ := unp_1 hs h
    rw [hb] at ho; obtain ⟨x0, y0, x1, y1, rfl⟩ := one_r' ho
    exact .inr (.inr (.inr (.inr (.inl ⟨_, _, _, _, hl⟩))))
  have hst : ∀ f : ByteArray, f.size = 1 → byN f 0 = 115 → unpackP f b = (0, l) → (l = [] ∨ (∃ n, l = [vI n]) ∨ (∃ n m, l = [vI n, vI m]) ∨ (∃ s, l = [vS s]) ∨ (∃ x0 y0 x1 y1, l = [vR x0 y0 x1 y1]) ∨ (∃ x0 y0 x1 y1 d, l = [vR x0 y0 x1 y1, vB d])) := fun f hs hb h => by
    obtain ⟨x, r, ho, hl, _⟩ := unp_1 hs h
    rw [hb] at ho; obtain ⟨s, rfl⟩ := one_s' ho
    exact .inr (.inr (.inr (.inl ⟨_, hl⟩)))
  have huu : ∀ f : ByteArray, f.size = 2 → byN f 0 = 117 → byN f 1 = 117 → unpackP f b = (0, l) → (l = [] ∨ (∃ n, l = [vI n]) ∨ (∃ n m, l = [vI n, vI m]) ∨ (∃ s, l = [vS s]) ∨ (∃ x0 y0 x1 y1, l = [vR x0 y0 x1 y1]) ∨ (∃ x0 y0 x1 y1 d, l = [vR x0 y0 x1 y1, vB d])) := fun f hs hb hb1 h => by
    obtain ⟨x, r, y, r', ho, ho1, hl, _⟩ := unp_2 hs h
    rw [hb] at ho; rw [hb1] at ho1; obtain ⟨n, rfl⟩ := one_u' ho; obtain ⟨m, rfl⟩ := one_u' ho1
    exact .inr (.inr (.inl ⟨_, _, hl⟩))
  have hii : ∀ f : ByteArray, f.size = 2 → byN f 0 = 105 → byN f 1 = 105 → unpackP f b = (0, l) → (l = [] ∨ (∃ n, l = [vI n]) ∨ (∃ n m, l = [vI n, vI m]) ∨ (∃ s, l = [vS s]) ∨ (∃ x0 y0 x1 y1, l = [vR x0 y0 x1 y1]) ∨ (∃ x0 y0 x1 y1 d, l = [vR x0 y0 x1 y1, vB d])) := fun f hs hb hb1 h => by
    obtain ⟨x, r, y, r', ho, ho1, hl, _⟩ := unp_2 hs h
    rw [hb] at ho; rw [hb1] at ho1; obtain ⟨n, rfl⟩ := one_i' ho; obtain ⟨m, rfl⟩ := one_i' ho1
    exact .inr (.inr (.inl ⟨_, _, hl⟩))
  have hrb : ∀ f : ByteArray, f.size = 2 → byN f 0 = 114 → byN f 1 = 98 → unpackP f b = (0, l) → (l = [] ∨ (∃ n, l = [vI n]) ∨ (∃ n m, l = [vI n, vI m]) ∨ (∃ s, l = [vS s]) ∨ (∃ x0 y0 x1 y1, l = [vR x0 y0 x1 y1]) ∨ (∃ x0 y0 x1 y1 d, l = [vR x0 y0 x1 y1, vB d])) := fun f hs hb hb1 h => by
    obtain ⟨x, r, y, r', ho, ho1, hl, _⟩ := unp_2 hs h
    rw [hb] at ho; rw [hb1] at ho1; obtain ⟨x0, y0, x1, y1, rfl⟩ := one_r' ho; have := one_b' ho1; subst this
    exact .inr (.inr (.inr (.inr (.inr ⟨_, _, _, _, _, hl⟩))))
  rcases lt19 hk with rfl | rfl | rfl | rfl | rfl | rfl | rfl | rfl | rfl | rfl | rfl | rfl | rfl | rfl | rfl | rfl | rfl | rfl | rfl
  · exact huu _ rfl rfl rfl h
  · exact h0 _ rfl h
  · exact hrb _ rfl rfl rfl h
  · exact h0 _ rfl h
  · exact h0 _ rfl h
  · exact hu _ rfl rfl h
  · exact hr _ rfl rfl h
  · exact hii _ rfl rfl rfl h
  · exact hu _ rfl rfl h
  · exact h0 _ rfl h
  · exact hu _ rfl rfl h
  · exact hr _ rfl rfl h
  · exact hr _ rfl rfl h
  · exact hu _ rfl rfl h
  · exact hst _ rfl rfl h
  · exact hu _ rfl rfl h
  · exact h0 _ rfl h
  · exact hii _ rfl rfl rfl h
  · exact hii _ rfl rfl rfl h
theorem form_small {k : Nat} (hk : k < 19) : (formQ k).size ≤ 2 := by
  rcases lt19 hk with rfl | rfl | rfl | rfl | rfl | rfl | rfl | rfl | rfl | rfl | rfl | rfl | rfl | rfl | rfl | rfl | rfl | rfl | rfl <;> decide
def FilQ (w : World) (g : Nat) (q : Q9) (e : Ending) (w' : World) : Prop := FilX w g q.op q.id q.a q.b q.x0 q.y0 q.x1 q.y1 q.s q.d e w'
theorem any_int {w : World} {n : Int} {u : Value} (h : AnyR w (vI n) u) : u = (.iface 3 (.int .i64 n)) := by
  cases h with
  | int h => rfl
  | str h => simp [vI, v0] at h
  | rect h => simp [vI, v0] at h
  | byt h => simp [vI, v0] at h
  | oth h => simp [vI, v0] at h
theorem any_str {w : World} {s : ByteArray} {u : Value} (h : AnyR w (vS s) u) : u = (.iface 9 (.string s)) := by
  cases h with
  | int h => simp [vS, v0] at h
  | str h => rfl
  | rect h => simp [vS, v0] at h
  | byt h => simp [vS, v0] at h
  | oth h => simp [vS, v0] at h
theorem any_rect {w : World} {x0 y0 x1 y1 : Int} {u : Value} (h : AnyR w (vR x0 y0 x1 y1) u) : u = (.iface 26 ((.agg #[.int .i64 (x0), .int .i64 (y0), .int .i64 (x1), .int .i64 (y1)]))) := by
  cases h with
  | int h => simp [vR, v0] at h
  | str h => simp [vR, v0] at h
  | rect h => rfl
  | byt h => simp [vR, v0] at h
  | oth h => simp [vR, v0] at h
theorem any_byt {w : World} {d : List Int} {u : Value} (h : AnyR w (vB d) u) : ∃ A m, u = (.iface 22 (.slice A d.length m)) ∧ d.length ≤ m ∧ ReadsInt w .u8 A d.length d := by
  cases h with
  | int h => simp [vB, v0] at h
  | str h => simp [vB, v0] at h
  | rect h => simp [vB, v0] at h
  | byt h A m hm hr => exact ⟨A, m, rfl, hm, hr⟩
  | oth h => simp [vB, v0] at h
theorem row_0 {w : World} {A : Option Addr} {l : List V8} (h : AnyRow w A l) (hl : 0 < l.length) : ∃ ad u, A = some ad ∧ w.cell? ad = some u ∧ AnyR w (at8 l 0) u ∧ ad.block < w.heap.size := by
  obtain ⟨ad, u, hA, hc, hx⟩ := h 0 hl
  rw [show ad.add 0 = ad by simp [Addr.add]] at hc
  exact ⟨ad, u, hA, hc, hx, lt_of_cell hc⟩
theorem row_1 {w : World} {A : Option Addr} {l : List V8} {ad : Addr} (h : AnyRow w A l) (hA : A = some ad) (hl : 1 < l.length) : ∃ u, w.cell? ⟨ad.block, ad.off + 1, none⟩ = some u ∧ AnyR w (at8 l 1) u := by
  obtain ⟨ad', u, hA', hc, hx⟩ := h 1 hl
  rw [hA] at hA'; injection hA' with e; subst e
  exact ⟨u, hc, hx⟩
theorem fil_all (k : Nat) (id : Int) (l : List V8) (h : (l = [] ∨ (∃ n, l = [vI n]) ∨ (∃ n m, l = [vI n, vI m]) ∨ (∃ s, l = [vS s]) ∨ (∃ x0 y0 x1 y1, l = [vR x0 y0 x1 y1]) ∨ (∃ x0 y0 x1 y1 d, l = [vR x0 y0 x1 y1, vB d]))) (w2 : World) (A2 : Option Addr) (c2 : Nat) (hr : AnyRow w2 A2 l) : Calls Tryd.prog 43 #[.pointer (some ⟨w2.heap.size, 0, none⟩), .slice A2 l.length c2] (w2.alloc (.cells #[.int .i64 (k : Int), .int .i64 id, .int .i64 0, .int .i64 0, .int .i64 0, .int .i64 0, .int .i64 0, .int .i64 0, .string { data := #[] }, .slice none 0 0] 36)) (FilQ (w2.alloc (.cells #[.int .i64 (k : Int), .int .i64 id, .int .i64 0, .int .i64 0, .int .i64 0, .int .i64 0, .int .i64 0, .int .i64 0, .string { data := #[] }, .slice none 0 0] 36)) w2.heap.size (foldQ (startQ k id) l l.length)) := by
  have hB : (w2.alloc (.cells #[.int .i64 (k : Int), .int .i64 id, .int .i64 0, .int .i64 0, .int .i64 0, .int .i64 0, .int .i64 0, .int .i64 0, .string { data := #[] }, .slice none 0 0] 36)).heap[w2.heap.size]? = some (.cells #[.int .i64 (k : Int), .int .i64 id, .int .i64 0, .int .i64 0, .int .i64 0, .int .i64 0, .int .i64 0, .int .i64 0, .string { data := #[] }, .slice none 0 0] 36 (0, 0)) := blk_new _ _
  have hb : Below w2.heap.size w2 (w2.alloc (.cells #[.int .i64 (k : Int), .int .i64 id, .int .i64 0, .int .i64 0, .int .i64 0, .int .i64 0, .int .i64 0, .int .i64 0, .string { data := #[] }, .slice none 0 0] 36)) := (Below.refl _ _).alloc (Nat.le_refl _) _
  rcases h with rfl | ⟨n, rfl⟩ | ⟨n, m, rfl⟩ | ⟨s, rfl⟩ | ⟨x0, y0, x1, y1, rfl⟩ | ⟨x0, y0, x1, y1, d, rfl⟩
  · exact (fill_0 k id w2.heap.size _ A2 c2 hB).mono fun e w' h => ⟨none, 0, h, Nat.le_refl _, reads_nil _ _⟩
  · obtain ⟨ad, u, hA, hc, hx, hlt⟩ := row_0 hr (by simp)
    rw [any_int hx] at hc
    exact (fill_n k id w2.heap.size _ A2 c2 hB n ad hA (pw_cell_below hb hc)).mono fun e w' h => ⟨none, 0, h, Nat.le_refl _, reads_nil _ _⟩
  · obtain ⟨ad, u, hA, hc, hx, hlt⟩ := row_0 hr (by simp)
    obtain ⟨u1, hc1, hx1⟩ := row_1 hr hA (by simp)
    rw [any_int hx] at hc
    rw [any_int hx1] at hc1
    exact (fill_nn k id w2.heap.size _ A2 c2 hB n m ad hA (pw_cell_below hb hc) (pw_cell_below hb hc1) (by omega)).mono fun e w' h => ⟨none, 0, h, Nat.le_refl _, reads_nil _ _⟩
  · obtain ⟨ad, u, hA, hc, hx, hlt⟩ := row_0 hr (by simp)
    rw [any_str hx] at hc
    exact (fill_s k id w2.heap.size _ A2 c2 hB s ad hA (pw_cell_below hb hc)).mono fun e w' h => ⟨none, 0, h, Nat.le_refl _, reads_nil _ _⟩
  · obtain ⟨ad, u, hA, hc, hx, hlt⟩ := row_0 hr (by simp)
    rw [any_rect hx] at hc
    exact (fill_r k id w2.heap.size _ A2 c2 hB x0 y0 x1 y1 ad hA (pw_cell_below hb hc)).mono fun e w' h => ⟨none, 0, h, Nat.le_refl _, reads_nil _ _⟩
  · obtain ⟨ad, u, hA, hc, hx, hlt⟩ := row_0 hr (by simp)
    obtain ⟨u1, hc1, hx1⟩ := row_1 hr hA (by simp)
    rw [any_rect hx] at hc
    obtain ⟨D, m, rfl, hm, hrd⟩ := any_byt hx1
    have hapx := reads_lt hrd
    refine (fill_rb k id w2.heap.size _ A2 c2 hB x0 y0 x1 y1 D d.length m ad hA (pw_cell_below hb hc) (pw_cell_below hb hc1) (by omega) (by simp; omega)).mono fun e w' h => ⟨D, m, h, hm, reads_grown (hrd.below hb) h.2.2 (fun hn ad hA => by have := hapx hn ad hA; omega)⟩
end Go.Proofs.YtinnaiofgbjicaaDoor
namespace Go.Proofs.YtinnaiofgbjicaaDoor
open Go.RowKit Go.Proofs.YtinnaiofgbjicaaDoorW.PrintWords
set_option linter.unusedSimpArgs false
set_option linter.unusedVariables false
set_option maxRecDepth 1000000
def zQ : Q9 := ⟨0, 0, 0, 0, 0, 0, 0, 0, { data := #[] }, []⟩
def qOf (k : Nat) (id : Int) (b : List Int) : Q9 := foldQ (startQ k id) (unpackP (formQ k) b).2 (unpackP (formQ k) b).2.length
def mayId (k : Nat) (id : Int) : Bool := ((id == 0) == ((k : Int) == 18)) && inB 0 4294967295 id
def mayQA (T : ByteArray → Bool) (k : Nat) (q : Q9) : Bool := mayArg k q.a q.b q.x0 q.y0 q.x1 q.y1 (T q.s)
/-- The error's number and the request of a message. -/
def decK (T : ByteArray → Bool) (k : Nat) (id : Int) (b : List Int) : Int × Q9 :=
  if (unpackP (formQ k) b).1 = 0 then (if mayId k id = true ∧ mayQA T k (qOf k id b) = true then (0, qOf k id b) else (4, zQ)) else ((unpackP (formQ k) b).1, zQ)
def DecPost (w : World) (r : Int × Q9) (e : Ending) (w' : World) : Prop := ∃ DA dc, e = .returned (.tuple #[(.agg #[.int .i64 r.2.op, .int .i64 r.2.id, .int .i64 r.2.a, .int .i64 r.2.b, .int .i64 r.2.x0, .int .i64 r.2.y0, .int .i64 r.2.x1, .int .i64 r.2.y1, .string r.2.s, .slice DA r.2.d.length dc]), .int .i64 r.1]) ∧ r.2.d.length ≤ dc ∧ ReadsInt w' .u8 DA r.2.d.length r.2.d ∧ Below w.heap.size w w'
theorem DecPost.err {w w' : World} {e : Ending} {i : Int} {r : Int × Q9} (hr : r = (i, zQ)) (h : DecE w i e w') : DecPost w r e w' := by
  subst hr; exact ⟨none, 0, h.1, Nat.le_refl _, reads_nil _ _, h.2⟩
theorem fold_op (k : Nat) (id : Int) (l : List V8) : ∀ j, (foldQ (startQ k id) l j).op = k ∧ (foldQ (startQ k id) l j).id = id
  | 0 => ⟨rfl, rfl⟩
  | j + 1 => by
    have ih := fold_op k id l j
    simp only [foldQ]
    unfold stepQ
    split
    · split <;> exact ih
    · split
      · exact ih
      · split <;> exact ih
theorem qOf_op (k : Nat) (id : Int) (b : List Int) : (qOf k id b).op = k ∧ (qOf k id b).id = id := fold_op _ _ _ _
theorem mayM_id (id : Int) : mayM 0 id 0 = inB 0 4294967295 id := by
  unfold mayM inB
  rw [Bool.eq_iff_iff]; simp only [decide_eq_true_iff]; omega
theorem may_kinds {k : Nat} (hk : k < 19) : mayQ.getD k 0 = 67 ∨ mayQ.getD k 0 = 69 ∨ mayQ.getD k 0 = 71 ∨ mayQ.getD k 0 = 72 ∨ mayQ.getD k 0 = 73 ∨ mayQ.getD k 0 = 75 ∨ mayQ.getD k 0 = 76 ∨ mayQ.getD k 0 = 77 := by
  rcases lt19 hk with rfl | rfl | rfl | rfl | rfl | rfl | rfl | rfl | rfl | rfl | rfl | rfl | rfl | rfl | rfl | rfl | rfl | rfl | rfl <;> decide
theorem may_14 {k : Nat} (hk : k < 19) (h : mayQ.getD k 0 = 77) : k = 14 := by
  revert h
  rcases lt19 hk with rfl | rfl | rfl | rfl | rfl | rfl | rfl | rfl | rfl | rfl | rfl | rfl | rfl | rfl | rfl | rfl | rfl | rfl | rfl <;> decide
theorem req_DecodeK (T : ByteArray → Bool) (k : Nat) (hk : k < 19) (id : Int) (A : Option Addr) (b : List Int) (c : Nat) (w : World) (hs : BS w A b c) (hn : b.length ≤ 1000000) (hT : k = 14 → (unpackP (formQ k) b).1 = 0 → TitW w (qOf k id b).s (T (qOf k id b).s)) : Calls Tryd.prog 15 #[(.agg #[.int .i64 ((k : Int)), .int .i64 (id), .slice (A) (b.length) (c)])] w (DecPost w (decK T k id b)) := by
  have hf := form_small hk
  have cU0 : ∀ w1, Below w.heap.size w w1 → Calls Tryd.prog 42 #[.string (formQ k), .slice A b.length c] w1 (UnpP w1 (unpackP (formQ k) b)) := fun w1 hb => by
    have h1 := hs.below hb
    exact args_Unpack (formQ k) A b c w1 (by omega) h1.byt hn h1.le h1.nil h1.rd
  have hqop := qOf_op k id b
  by_cases h0 : (unpackP (formQ k) b).1 = 0
  · have hl : unpackP (formQ k) b = (0, (unpackP (formQ k) b).2) := Prod.ext h0 rfl
    replace hT := fun h => hT h h0
    have hd : decK T k id b = if mayId k id = true ∧ mayQA T k (qOf k id b) = true then (0, qOf k id b) else (4, zQ) := by unfold decK; rw [if_pos h0]
    rw [hd]; clear hd
    have hqd : qOf k id b = foldQ (startQ k id) (unpackP (formQ k) b).2 (unpackP (formQ k) b).2.length := rfl
    generalize (unpackP (formQ k) b).2 = l at *
    generalize qOf k id b = q at *
    obtain ⟨hop, hid⟩ := hqop
    have cU : ∀ w1, Below w.heap.size w w1 → Calls Tryd.prog 42 #[.string (formQ k), .slice A b.length c] w1 (UnX w1 l) := fun w1 hb => by
      refine (cU0 w1 hb).mono ?_
      rw [hl]
      rintro e w' ⟨A', c', he, _, hr, hb'⟩
      exact ⟨A', c', he, hr, hb'⟩
    have cFi : ∀ w2 A2 c2, AnyRow w2 A2 l → Calls Tryd.prog 43 #[.pointer (some ⟨w2.heap.size, 0, none⟩), .slice A2 l.length c2] (w2.alloc (.cells #[.int .i64 (k : Int), .int .i64 id, .int .i64 0, .int .i64 0, .int .i64 0, .int .i64 0, .int .i64 0, .int .i64 0, .string { data := #[] }, .slice none 0 0] 36)) (FilX (w2.alloc (.cells #[.int .i64 (k : Int), .int .i64 id, .int .i64 0, .int .i64 0, .int .i64 0, .int .i64 0, .int .i64 0, .int .i64 0, .string { data := #[] }, .slice none 0 0] 36)) w2.heap.size k id q.a q.b q.x0 q.y0 q.x1 q.y1 q.s q.d) := fun w2 A2 c2 hr => by
      have := fil_all k id l (unp_shape hk hl) w2 A2 c2 hr
      rw [← hqd] at this
      unfold FilQ at this
      rw [hop, hid] at this
      exact this
    unfold mayId
    by_cases hz : (id == 0) = ((k : Int) == 18)
    · by_cases hm : inB 0 4294967295 id = true
      · have hm' : mayM 0 id 0 = true := by rw [mayM_id]; exact hm
        have cMay : ∀ {f : Nat}, f ≠ 77 → mayQ.getD k 0 = f → ∀ DA dc w, Calls Tryd.prog f #[(.agg #[.int .i64 k, .int .i64 id, .int .i64 q.a, .int .i64 q.b, .int .i64 q.x0, .int .i64 q.y0, .int .i64 q.x1, .int .i64 q.y1, .string q.s, .slice DA q.d.length dc])] w fun e w' => e = .returned (.bool (mayQA T k q)) ∧ Below w.heap.size w w' := fun hne h DA dc w => by
          rw [← h]; exact may_all k hk k id q.a q.b q.x0 q.y0 q.x1 q.y1 q.s DA q.d.length dc w (T q.s) (fun h14 => absurd h (by subst h14; exact fun e => hne e.symm))
        have key : ∀ (n : Nat) {e : Ending} {w' : World}, DecF w (mayQA T k q) k id q.a q.b q.x0 q.y0 q.x1 q.y1 q.s q.d e w' → DecPost w (if ((id == 0) == ((k : Int) == 18) && inB 0 4294967295 id) = true ∧ mayQA T k q = true then (0, q) else (4, zQ)) e w' := fun n e w' h => by
          unfold DecF at h
          by_cases hv : mayQA T k q = true
          · rw [if_pos hv] at h
            rw [if_pos ⟨by rw [hz, hm]; simp, hv⟩]
            obtain ⟨DA, dc, he, hdc, hb⟩ := h
            exact ⟨DA, dc, by rw [he, hop, hid], hdc.1, hdc.2, hb⟩
          · rw [if_neg hv] at h
            rw [if_neg (fun h => hv h.2)]
            exact DecPost.err rfl h
        rcases may_kinds hk with hN | hN | hN | hN | hN | hN | hN | hN
        · exact (dec_f1 k hk id q.a q.b q.x0 q.y0 q.x1 q.y1 q.s q.d l A b.length c w cU cFi (id == 0) _ rfl hz.symm hm' hN (cMay (by decide) hN)).mono fun e w' h => key 1 h
        · exact (dec_f2 k hk id q.a q.b q.x0 q.y0 q.x1 q.y1 q.s q.d l A b.length c w cU cFi (id == 0) _ rfl hz.symm hm' hN (cMay (by decide) hN)).mono fun e w' h => key 1 h
        · exact (dec_f3 k hk id q.a q.b q.x0 q.y0 q.x1 q.y1 q.s q.d l A b.length c w cU cFi (id == 0) _ rfl hz.symm hm' hN (cMay (by decide) hN)).mono fun e w' h => key 1 h
        · exact (dec_f4 k hk id q.a q.b q.x0 q.y0 q.x1 q.y1 q.s q.d l A b.length c w cU cFi (id == 0) _ rfl hz.symm hm' hN (cMay (by decide) hN)).mono fun e w' h => key 1 h
        · exact (dec_f5 k hk id q.a q.b q.x0 q.y0 q.x1 q.y1 q.s q.d l A b.length c w cU cFi (id == 0) _ rfl hz.symm hm' hN (cMay (by decide) hN)).mono fun e w' h => key 1 h
        · exact (dec_f6 k hk id q.a q.b q.x0 q.y0 q.x1 q.y1 q.s q.d l A b.length c w cU cFi (id == 0) _ rfl hz.symm hm' hN (cMay (by decide) hN)).mono fun e w' h => key 1 h
        · exact (dec_f7 k hk id q.a q.b q.x0 q.y0 q.x1 q.y1 q.s q.d l A b.length c w cU cFi (id == 0) _ rfl hz.symm hm' hN (cMay (by decide) hN)).mono fun e w' h => key 1 h
        · have h14 : k = 14 := may_14 hk hN
          have hv : mayQA T k q = T q.s := by rw [h14]; unfold mayQA mayArg; simp
          refine (dec_f8 k hk id q.a q.b q.x0 q.y0 q.x1 q.y1 q.s q.d l A b.length c w cU cFi (id == 0) (mayQA T k q) rfl hz.symm hm' hN (fun DA dc w1 hb => ?_)).mono fun e w' h => key 1 h
          rw [hv]
          exact may_8W k id q.a q.b q.x0 q.y0 q.x1 q.y1 q.s DA q.d.length dc w1 (T q.s) ((hT h14).at hb)
      · have hm0 : inB 0 4294967295 id = false := by simpa using hm
        rw [if_neg (by rw [hm0]; simp)]
        exact (dec_id k hk id q.a q.b q.x0 q.y0 q.x1 q.y1 q.s q.d l A b.length c w cU cFi (id == 0) rfl hz.symm (by rw [mayM_id]; exact hm0)).mono fun e w' h => DecPost.err rfl h
    · rw [if_neg (by simp [hz])]
      refine (dec_bad k hk id q.a q.b q.x0 q.y0 q.x1 q.y1 q.s q.d l A b.length c w cU cFi (id == 0) rfl (by revert hz; cases (id == 0) <;> cases ((k : Int) == 18) <;> simp)).mono fun e w' h => DecPost.err rfl h
  · have hd : decK T k id b = ((unpackP (formQ k) b).1, zQ) := by unfold decK; rw [if_neg h0]
    rw [hd]
    refine (dec_err k hk id _ h0 A b.length c w (fun w1 hb => (cU0 w1 hb).mono ?_)).mono fun e w' h => DecPost.err rfl h
    rintro e w' ⟨A', c', he, _, hr, hb'⟩
    exact ⟨A', c', _, he, hb'⟩
theorem ref_DecodeK (T : ByteArray → Bool) (k : Nat) (hk : k < 19) (id : Int) (A : Option Addr) (b : List Int) (c : Nat) (w : World) (hs : BS w A b c) (hn : b.length ≤ 1000000) (hT : k = 14 → (unpackP (formQ k) b).1 = 0 → TitR (qOf k id b).s (T (qOf k id b).s)) : Calls Tryd.prog 16 #[(.agg #[.int .i64 ((k : Int)), .int .i64 (id), .slice (A) (b.length) (c)])] w (DecPost w (decK T k id b)) := by
  have hf := form_small hk
  have cU0 : ∀ w1, Below w.heap.size w w1 → Calls Tryd.prog 46 #[.string (formQ k), .slice A b.length c] w1 (UnV w1 (unpackP (formQ k) b).1 (unpackP (formQ k) b).2) := fun w1 hb => by
    have h1 := hs.below hb
    refine (ref_Unpack (formQ k) A b c w1 (by omega) h1.byt hn h1.le h1.nil h1.rd).mono ?_
    rintro e w' ⟨v, he, ho, hb'⟩
    obtain ⟨A', c', rfl, _, hr⟩ := ho.row hb'
    exact ⟨A', c', he, hr, hb'⟩
  have hqop := qOf_op k id b
  by_cases h0 : (unpackP (formQ k) b).1 = 0
  · have hl : unpackP (formQ k) b = (0, (unpackP (formQ k) b).2) := Prod.ext h0 rfl
    replace hT := fun h => hT h h0
    have hd : decK T k id b = if mayId k id = true ∧ mayQA T k (qOf k id b) = true then (0, qOf k id b) else (4, zQ) := by unfold decK; rw [if_pos h0]
    rw [hd]; clear hd
    have hsh := unp_shape hk hl
    have hll : (unpackP (formQ k) b).2.length ≤ 1000 := by
      rcases hsh with h | ⟨n, h⟩ | ⟨n, m, h⟩ | ⟨s, h⟩ | ⟨x0, y0, x1, y1, h⟩ | ⟨x0, y0, x1, y1, d, h⟩ <;> rw [h] <;> simp
    have cM : ∀ q, foldQ (startQ k id) (unpackP (formQ k) b).2 (unpackP (formQ k) b).2.length = q → ∀ DA dc w, Calls Tryd.prog 47 #[(.agg #[.int .i64 q.op, .int .i64 q.id, .int .i64 q.a, .int .i64 q.b, .int .i64 q.x0, .int .i64 q.y0, .int .i64 q.x1, .int .i64 q.y1, .string q.s, .slice DA q.d.length dc])] w fun e w' => e = .returned (.bool (mayId k id && mayQA T k (qOf k id b))) ∧ Below w.heap.size w w' := fun q hq DA dc w => by
      have hq' : qOf k id b = q := hq
      rw [hq'] at hqop hT ⊢
      rw [hqop.1, hqop.2]
      unfold mayId
      by_cases hz : (id == 0) = ((k : Int) == 18)
      · by_cases hm : inB 0 4294967295 id = true
        · have := rm_all k hk id q.a q.b q.x0 q.y0 q.x1 q.y1 q.s DA q.d.length dc w (T q.s) hT hz hm
          refine this.mono fun e w' h => ⟨?_, h.2⟩
          rw [h.1, hm, hz]; simp [mayQA]
        · have hm0 : inB 0 4294967295 id = false := by simpa using hm
          have := rm_id k id q.a q.b q.x0 q.y0 q.x1 q.y1 q.s DA q.d.length dc w (id == 0) rfl hz.symm hm0
          refine this.mono fun e w' h => ⟨?_, h.2⟩
          rw [h.1, hm0]; simp
      · have := rm_bad k id q.a q.b q.x0 q.y0 q.x1 q.y1 q.s DA q.d.length dc w (id == 0) rfl (by revert hz; cases (id == 0) <;> cases ((k : Int) == 18) <;> simp)
        refine this.mono fun e w' h => ⟨?_, h.2⟩
        rw [h.1]
        have : ((id == 0) == ((k : Int) == 18)) = false := by simpa using hz
        rw [this]; simp
    refine (rd_ok k hk id (unpackP (formQ k) b).1 (unpackP (formQ k) b).2 A b.length c w cU0 h0 hll _ cM).mono fun e w' h => ?_
    have hqd : foldQ (startQ k id) (unpackP (formQ k) b).2 (unpackP (formQ k) b).2.length = qOf k id b := rfl
    rw [hqd] at h
    unfold DecR DecF at h
    by_cases hv : mayId k id = true ∧ mayQA T k (qOf k id b) = true
    · rw [if_pos (by rw [hv.1, hv.2]; rfl)] at h
      rw [if_pos hv]
      obtain ⟨DA, dc, he, hdc, hb⟩ := h
      exact ⟨DA, dc, he, hdc.1, hdc.2, hb⟩
    · rw [if_neg (by simpa using hv)] at h
      rw [if_neg hv]
      exact DecPost.err rfl h
  · have hd : decK T k id b = ((unpackP (formQ k) b).1, zQ) := by unfold decK; rw [if_neg h0]
    rw [hd]
    exact (rd_err k hk id _ _ A b.length c w cU0 h0).mono fun e w' h => DecPost.err rfl h
/-- The same of any operation. -/
def decO (T : ByteArray → Bool) (op id : Int) (b : List Int) : Int × Q9 := if 0 ≤ op ∧ op ≤ 18 then decK T op.toNat id b else (12, zQ)
theorem decO_k (T : ByteArray → Bool) {k : Nat} (hk : k < 19) (id : Int) (b : List Int) : decO T k id b = decK T k id b := by
  unfold decO; rw [if_pos (by omega)]; rfl
def TitOK (P : ByteArray → Bool → Prop) (T : ByteArray → Bool) (op id : Int) (b : List Int) : Prop := op = 14 → (unpackP (formQ 14) b).1 = 0 → P (qOf 14 id b).s (T (qOf 14 id b).s)
theorem req_DecodeO (T : ByteArray → Bool) (op id : Int) (A : Option Addr) (b : List Int) (c : Nat) (w : World) (hs : BS w A b c) (hn : b.length ≤ 1000000) (hT : TitOK (TitW w) T op id b) : Calls Tryd.prog 15 #[(.agg #[.int .i64 (op), .int .i64 (id), .slice (A) (b.length) (c)])] w (DecPost w (decO T op id b)) := by
  by_cases h : 0 ≤ op ∧ op ≤ 18
  · obtain ⟨k, rfl⟩ := Int.eq_ofNat_of_zero_le h.1
    rw [decO_k T (by omega)]
    exact req_DecodeK T k (by omega) id A b c w hs hn (fun h => by subst h; exact hT rfl)
  · have : decO T op id b = (12, zQ) := by unfold decO; rw [if_neg h]
    rw [this]
    exact (dec_not op id A b.length c w (by omega)).mono fun e w' h => DecPost.err rfl h
theorem ref_DecodeO (T : ByteArray → Bool) (op id : Int) (A : Option Addr) (b : List Int) (c : Nat) (w : World) (hs : BS w A b c) (hn : b.length ≤ 1000000) (hT : TitOK TitR T op id b) : Calls Tryd.prog 16 #[(.agg #[.int .i64 (op), .int .i64 (id), .slice (A) (b.length) (c)])] w (DecPost w (decO T op id b)) := by
  by_cases h : 0 ≤ op ∧ op ≤ 18
  · obtain ⟨k, rfl⟩ := Int.eq_ofNat_of_zero_le h.1
    rw [decO_k T (by omega)]
    exact ref_DecodeK T k (by omega) id A b c w hs hn (fun h => by subst h; exact hT rfl)
  · have : decO T op id b = (12, zQ) := by unfold decO; rw [if_neg h]
    rw [this]
    exact (rd_not op id A b.length c w (by omega)).mono fun e w' h => DecPost.err rfl h
end Go.Proofs.YtinnaiofgbjicaaDoor
