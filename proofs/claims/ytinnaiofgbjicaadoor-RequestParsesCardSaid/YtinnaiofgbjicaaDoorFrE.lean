/- Rows of messages of the call's own. -/
import Derived.Test.YtinnaiofgbjicaaDoorReqC
namespace Go.Proofs.YtinnaiofgbjicaaDoor
open Go.RowKit Go.Proofs.YtinnaiofgbjicaaDoorW.PrintWords
set_option linter.unusedSimpArgs false
set_option linter.unusedVariables false
set_option maxRecDepth 1000000
/-- A message, and where its body lies. -/
structure MH where
  m : M3
  A : Option Addr
  c : Nat
def MH.cells (h : MH) : List Value := [.int .i64 h.m.op, .int .i64 h.m.id, .slice h.A h.m.b.length h.c]
def flatM (L : List MH) : List Value := L.flatMap MH.cells
theorem flatM_append (l m : List MH) : flatM (l ++ m) = flatM l ++ flatM m := by simp [flatM]
theorem flatM_len (l : List MH) : (flatM l).length = l.length * 3 := by
  induction l with
  | nil => rfl
  | cons h l ih => simp only [flatM, List.flatMap_cons, List.length_append, List.length_cons] at *; simp only [MH.cells, List.length_cons, List.length_nil]; omega
theorem flatM_get (L : List MH) (i j : Nat) (hi : i < L.length) (hj : j < 3) : (flatM L)[i * 3 + j]? = (L[i].cells)[j]? := by
  induction L generalizing i with
  | nil => simp at hi
  | cons h L ih =>
    have hl : h.cells.length = 3 := rfl
    show (h.cells ++ flatM L)[i * 3 + j]? = _
    cases i with
    | zero => simp only [Nat.zero_mul, Nat.zero_add, List.getElem_cons_zero]; rw [List.getElem?_append_left (by omega)]
    | succ i =>
      rw [List.getElem?_append_right (by omega), show (i + 1) * 3 + j - h.cells.length = i * 3 + j by omega]
      exact ih i (by simpa using hi)
/-- A row of messages, read. -/
def MRow (w : World) (A : Option Addr) (l : List M3) : Prop := ∀ i (hi : i < l.length), ∃ ad Ab c, A = some ad ∧ w.cell? (ad.add (i * 3)) = some (.int .i64 (l[i].op)) ∧
  w.cell? ⟨(ad.add (i * 3)).block, (ad.add (i * 3)).off + 1, none⟩ = some (.int .i64 (l[i].id)) ∧ w.cell? ⟨(ad.add (i * 3)).block, (ad.add (i * 3)).off + 2, none⟩ = some (.slice Ab (l[i].b.length) c) ∧ BS w Ab l[i].b c
theorem MRow.below {w w1 : World} {A : Option Addr} {l : List M3} (h : MRow w A l) (hb : Below w.heap.size w w1) : MRow w1 A l := by
  intro i hi
  obtain ⟨ad, Ab, c, rfl, h0, h1, h2, h3⟩ := h i hi
  exact ⟨ad, Ab, c, rfl, pw_cell_below hb h0, pw_cell_below hb h1, pw_cell_below hb h2, h3.below hb⟩
/-- A row of messages of the call's own; no body lies in its block. -/
def OwnM (w : World) (base : Nat) (v : Value) (l : List M3) : Prop := ∃ L : List MH, L.map (·.m) = l ∧ w.ownsRow base 24 3 v L.length (flatM L) ∧ ∀ h ∈ L, BS w h.A h.m.b h.c ∧ (0 < h.m.b.length → ∀ ad, h.A = some ad → some ad.block ≠ v.ownBlock)
theorem OwnM.nil (w : World) (base : Nat) : OwnM w base (.slice none 0 0) [] := ⟨[], rfl, own_nil _ _ _ _, fun h hh => by cases hh⟩
theorem OwnM.below {w w1 : World} {base : Nat} {v : Value} {l : List M3} (h : OwnM w base v l) (hb : Below w.heap.size w w1) : OwnM w1 base v l := by
  obtain ⟨L, h0, h1, h2⟩ := h
  exact ⟨L, h0, pw_own_below h1 hb, fun x hx => ⟨(h2 x hx).1.below hb, (h2 x hx).2⟩⟩
theorem OwnM.row {w : World} {base : Nat} {v : Value} {l : List M3} (h : OwnM w base v l) : ∃ A c, v = .slice A l.length c ∧ l.length ≤ c ∧ MRow w A l := by
  obtain ⟨L, rfl, h1, h2⟩ := h
  obtain ⟨A, c, rfl⟩ := own_slice h1
  refine ⟨A, c, by simp, by have := own_le h1; simpa using this, fun i hi => ?_⟩
  have hi' : i < L.length := by simpa using hi
  obtain ⟨g, cap, e, _⟩ := h1.form (by omega)
  injection e with e1 e2 e3
  subst e1
  have hx : (L.map (·.m))[i] = L[i].m := by simp
  have key : ∀ j u, j < 3 → (L[i].cells)[j]? = some u → w.cell? ⟨g, i * 3 + j, none⟩ = some u := fun j u hj hu => by
    have := h1.cells (g := g) rfl (i * 3 + j) u (by rw [flatM_get L i j hi' hj]; exact hu)
    rwa [add_p] at this
  have hr := h2 L[i] (List.getElem_mem _)
  rw [hx]
  refine ⟨_, L[i].A, L[i].c, rfl, ?_, ?_, ?_, hr.1⟩
  · rw [add_p]; exact key 0 _ (by omega) rfl
  · rw [add_p]; exact key 1 _ (by omega) rfl
  · rw [add_p]; exact key 2 _ (by omega) rfl
theorem BS.grown {w w1 : World} {A : Option Addr} {b : List Int} {c : Nat} {row : Option Nat} (h : BS w A b c) (hg : w.grownBy w1 row) (hne : 0 < b.length → ∀ ad, A = some ad → some ad.block ≠ row) : BS w1 A b c :=
  ⟨h.le, h.nil, h.max, ⟨h.rd.1, h.rd.2.1, fun hn => by
    obtain ⟨ad, e, hc⟩ := h.rd.2.2 hn
    exact ⟨ad, e, fun j hj => hg.cell (hc j hj) (fun e1 => hne hn ad e (by rw [← e1, add_blk]))⟩⟩, h.byt⟩
theorem OwnM.snoc {W w1 : World} {base : Nat} {v v1 : Value} {L : List MH} {l : List M3} (x : MH) (hl : L.map (·.m) = l) (hL : ∀ h ∈ L, BS W h.A h.m.b h.c ∧ (0 < h.m.b.length → ∀ ad, h.A = some ad → some ad.block ≠ v.ownBlock))
    (hx : BS W x.A x.m.b x.c ∧ (0 < x.m.b.length → ∀ ad, x.A = some ad → some ad.block ≠ v.ownBlock)) (ho : w1.ownsRow base 24 3 v1 (L.length + 1) (flatM L ++ x.cells)) (hg : W.grownBy w1 v.ownBlock) (hat : v1.ownBlock = v.ownBlock ∨ ∃ b, v1.ownBlock = some b ∧ W.heap.size ≤ b) : OwnM w1 base v1 (l ++ [x.m]) := by
  have key : ∀ h : MH, (BS W h.A h.m.b h.c ∧ (0 < h.m.b.length → ∀ ad, h.A = some ad → some ad.block ≠ v.ownBlock)) → BS w1 h.A h.m.b h.c ∧ (0 < h.m.b.length → ∀ ad, h.A = some ad → some ad.block ≠ v1.ownBlock) := fun h ⟨h1, h2⟩ => by
    refine ⟨h1.grown hg h2, fun hn ad hA => ?_⟩
    rcases hat with e | ⟨b, e, hb⟩
    · rw [e]; exact h2 hn ad hA
    · rw [e]
      obtain ⟨ad', e', hc⟩ := h1.rd.2.2 hn
      rw [hA] at e'; injection e' with e'; subst e'
      have := lt_of_cell (hc 0 hn)
      rw [add_blk] at this
      intro e2; injection e2 with e2; omega
  refine ⟨L ++ [x], by simp [hl], ?_, fun h hh => ?_⟩
  · have e : flatM (L ++ [x]) = flatM L ++ x.cells := by simp [flatM]
    rw [e]; simpa using ho
  · rcases List.mem_append.1 hh with hh | hh
    · exact key h (hL h hh)
    · rw [List.mem_singleton.1 hh]; exact key x hx
theorem info_ms : (Tryd.prog.info? 24).map (fun i => (i.zero, i.size, i.bytes)) = some (some (.agg #[.int .i64 0, .int .i64 0, .slice none 0 0]), 3, 40) := by kernel_rfl
end Go.Proofs.YtinnaiofgbjicaaDoor
