/- Of what was there only some blocks turn. -/
import Derived.Test.YtbkhcdmmnlkhdaaGreatImgA
namespace Go.Proofs.YtbkhcdmmnlkhdaaGreat
open Go.RowKit Go.Maps Go.Proofs.YtbkhcdmmnlkhdaaGreatW.PrintWords
set_option linter.unusedSimpArgs false
set_option linter.unusedVariables false
/-- Of what was there only blocks of F turn. -/
structure KeepF (F : Nat → Prop) (w w' : World) : Prop where
  os : w'.os = w.os
  tape : w'.tape = w.tape
  output : w'.output = w.output
  size : w.heap.size ≤ w'.heap.size
  block : ∀ k, k < w.heap.size → ¬ F k → w'.heap[k]? = w.heap[k]?
variable {F G : Nat → Prop} {w w1 w2 : World}
theorem KeepF.refl (F : Nat → Prop) (w : World) : KeepF F w w := ⟨rfl, rfl, rfl, Nat.le_refl _, fun _ _ _ => rfl⟩
theorem KeepF.trans (h : KeepF F w w1) (g : KeepF G w1 w2) (hG : ∀ k, k < w.heap.size → G k → F k) : KeepF F w w2 :=
  ⟨g.os.trans h.os, g.tape.trans h.tape, g.output.trans h.output, Nat.le_trans h.size g.size, fun k hk hF => (g.block k (Nat.lt_of_lt_of_le hk h.size) (fun hg => hF (hG k hk hg))).trans (h.block k hk hF)⟩
theorem KeepF.mono (h : KeepF F w w1) (hF : ∀ k, k < w.heap.size → F k → G k) : KeepF G w w1 := ⟨h.os, h.tape, h.output, h.size, fun k hk hg => h.block k hk (fun hf => hg (hF k hk hf))⟩
theorem KeepF.of_below {n : Nat} (h : Below n w w1) (hF : ∀ k, n ≤ k → k < w.heap.size → F k) : KeepF F w w1 := ⟨h.os, h.tape, h.output, h.size, fun k hk hf => h.block k (by rcases Nat.lt_or_ge k n with h1 | h1; exact h1; exact absurd (hF k h1 hk) hf)⟩
theorem KeepF.of_below' (h : Below w.heap.size w w1) : KeepF F w w1 := KeepF.of_below h (fun k h1 h2 => absurd h2 (Nat.not_lt.2 h1))
theorem KeepF.of_grown {r : Option Nat} (h : w.grownBy w1 r) (hF : ∀ k, r = some k → F k) : KeepF F w w1 := ⟨h.os, h.tape, h.output, h.size, fun k hk hf => h.block k hk (fun e => hf (hF k e.symm))⟩
theorem KeepF.below_step (h : KeepF F w w1) (g : Below w1.heap.size w1 w2) : KeepF F w w2 := h.trans (KeepF.of_below' (F := fun _ => False) g) (fun _ _ h => h.elim)
theorem KeepF.alloc (h : KeepF F w w1) (o : Obj) : KeepF F w (w1.alloc o) := h.below_step (Below.alloc (Below.refl _ _) (Nat.le_refl _) o)
theorem KeepF.grown_step {r : Option Nat} (h : KeepF F w w1) (g : w1.grownBy w2 r) (hF : ∀ k, r = some k → k < w.heap.size → F k) : KeepF F w w2 := h.trans (KeepF.of_grown (F := fun k => r = some k) g (fun k e => e)) (fun k hk e => hF k e hk)
theorem grown_cell {w : World} (b i : Nat) (v : Value) : w.grownBy (w.setCell ⟨b, i, none⟩ v) (some b) := ⟨rfl, rfl, rfl, by simp, fun k hk hne => Below.heap_setCell w ⟨b, i, none⟩ v k (fun e => hne (by rw [e]))⟩
theorem KeepF.setCell (h : KeepF F w w1) (b i : Nat) (v : Value) (hF : b < w.heap.size → F b) : KeepF F w (w1.setCell ⟨b, i, none⟩ v) := h.grown_step (grown_cell b i v) (fun k e hk => by injection e with e; subst e; exact hF hk)
theorem KeepF.drew (h : KeepF F w w1) : KeepF F w w1.drew := ⟨h.os, h.tape, h.output, h.size, h.block⟩
theorem KeepF.blk (h : KeepF F w w1) {p : Nat} {o : Obj} (hp : w.heap[p]? = some o) (hF : ¬ F p) : w1.heap[p]? = some o := (h.block p (Array.getElem?_eq_some_iff.1 hp).1 hF).trans hp
theorem KeepF.cell (h : KeepF F w w1) {p : Nat} (hp : p < w.heap.size) (hF : ¬ F p) (i : Nat) : w1.cell? ⟨p, i, none⟩ = w.cell? ⟨p, i, none⟩ := World.cell?_of_block (h.block p hp hF)
theorem KeepF.ownsMap {k : TypeId} {R : Value → Option (DataW Unit × List MemPlace)} {b n : Nat} {D : DataW Unit} (h : KeepF F w w1) (ho : w.ownsMap Tryz.prog k R b n D) (hF : ¬ F b) : w1.ownsMap Tryz.prog k R b n D := by
  have hlt := ho.lt
  obtain ⟨es, clock, hb, F, hs, hD⟩ := ho
  exact ⟨es, clock, (h.block b hlt hF).trans hb, F, hs, hD⟩
theorem KeepF.ownsRow {base : Nat} {e : TypeId} {size : Nat} {v : Value} {n : Nat} {xs : List Value} (h : KeepF F w w1) (ho : w.ownsRow base e size v n xs) (hF : ∀ b, v.ownBlock = some b → ¬ F b) : w1.ownsRow base e size v n xs := by
  refine ⟨ho.1, ?_⟩
  rcases ho.2 with hn | ⟨g, cap, cur, rfl, hb, hgg, rest⟩
  · exact .inl hn
  · exact .inr ⟨g, cap, cur, rfl, hb, h.blk hgg (hF g rfl), rest⟩
theorem kcell2 {p q : Nat} (hk : KeepF (fun k => k = p ∨ k = q) w w1) : (∀ b o, w1.cell? ⟨b, o, none⟩ = if b = p ∨ b = q then cellOf w1 b o else if b < w.heap.size then w.cell? ⟨b, o, none⟩ else cellOf w1 b o) ∧ (∀ b o, w1.frozen? ⟨b, o, none⟩ = takeB (if b = p ∨ b = q then none else if b < w.heap.size then some (w.frozen? ⟨b, o, none⟩) else none) (frozenOf w1 b o)) := by
  refine ⟨fun b o => ?_, fun b o => ?_⟩
  · split
    · rfl
    · split
      · exact World.cell?_of_block (a := ⟨b, o, none⟩) (hk.block b ‹_› ‹_›)
      · rfl
  · split
    · rfl
    · split
      · exact World.frozen?_of_block (a := ⟨b, o, none⟩) (hk.block b ‹_› ‹_›)
      · rfl
theorem fcell {n : Nat} (hk : KeepF F w w1) (hF : ∀ k, F k → k < n) : (∀ b o, w1.cell? ⟨b, o, none⟩ = if n ≤ b ∧ b < w.heap.size then w.cell? ⟨b, o, none⟩ else cellOf w1 b o) ∧ (∀ b o, w1.frozen? ⟨b, o, none⟩ = takeB (if n ≤ b ∧ b < w.heap.size then some (w.frozen? ⟨b, o, none⟩) else none) (frozenOf w1 b o)) := by
  refine ⟨fun b o => ?_, fun b o => ?_⟩
  · split
    · rename_i h
      exact World.cell?_of_block (a := ⟨b, o, none⟩) (hk.block b h.2 (fun hf => absurd (hF b hf) (Nat.not_lt.2 h.1)))
    · rfl
  · split
    · rename_i h
      exact World.frozen?_of_block (a := ⟨b, o, none⟩) (hk.block b h.2 (fun hf => absurd (hF b hf) (Nat.not_lt.2 h.1)))
    · rfl
theorem keep_grown2 {p : Nat} (hg : w.grownBy w1 (some p)) : KeepF (fun k => k = p ∨ k = p) w w1 := KeepF.of_grown hg (fun k e => by injection e with e; exact .inl e.symm)
theorem keep_told (w : World) (q : Nat) (v0 v1 v2 : Value) : KeepF (fun k => k = q) w (((w.setCell ⟨q, 0, none⟩ v0).setCell ⟨q, 1, none⟩ v1).setCell ⟨q, 2, none⟩ v2) :=
  KeepF.setCell (KeepF.setCell (KeepF.setCell (KeepF.refl (fun k => k = q) w) q 0 v0 (fun _ => rfl)) q 1 v1 (fun _ => rfl)) q 2 v2 (fun _ => rfl)
theorem Img.keep {base m : Nat} {v : Value} {W H : Nat} {px : List Int} (h : Img w base m v W H px) (hk : KeepF F w w1) (hm : ¬ F m) (hv : ∀ b, v.ownBlock = some b → ¬ F b) : Img w1 base m v W H px := ⟨hk.blk h.blk hm, hk.ownsRow h.row hv⟩
theorem own_lower {base base' : Nat} {e : TypeId} {size : Nat} {v : Value} {n : Nat} {xs : List Value} (h : w.ownsRow base e size v n xs) (hb : base' ≤ base) : w.ownsRow base' e size v n xs := by
  refine ⟨h.1, ?_⟩
  rcases h.2 with hn | ⟨g, cap, cur, rfl, h1, rest⟩
  · exact .inl hn
  · exact .inr ⟨g, cap, cur, rfl, Nat.le_trans hb h1, rest⟩
theorem Img.lower {base base' m : Nat} {v : Value} {W H : Nat} {px : List Int} (h : Img w base m v W H px) (hb : base' ≤ base) : Img w base' m v W H px := ⟨h.blk, own_lower h.row hb⟩
end Go.Proofs.YtbkhcdmmnlkhdaaGreat
