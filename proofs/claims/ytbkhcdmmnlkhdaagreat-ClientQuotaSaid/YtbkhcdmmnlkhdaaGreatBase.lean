/- Small words for walks: what a world keeps behind a call, the greater and the lesser of whole numbers. -/
import Derived.WalkKit
import Derived.WalkLawsBesides
import Derived.WalkSpells
import Derived.KernelRfl
import Derived.Lib.Hide
import Derived.Laws.StructEq
import Derived.Deep.QuietTactic
import Derived.BigQuiet
namespace Go.Proofs.YtbkhcdmmnlkhdaaGreat
open Go.RowKit
set_option linter.unusedSimpArgs false
set_option linter.unusedVariables false

/-- A cell, a mark, behind a name that simp leaves. -/
def cellOf (w : World) (b o : Nat) : Option Value := w.cell? ⟨b, o, none⟩
def frozenOf (w : World) (b o : Nat) : Bool := w.frozen? ⟨b, o, none⟩
/-- A Bool out of a test that arithmetic decides. -/
def takeB (x : Option Bool) (y : Bool) : Bool := x.getD y
@[go_sem] theorem takeB_some (x y : Bool) : takeB (some x) y = x := rfl
@[go_sem] theorem takeB_none (y : Bool) : takeB none y = y := rfl
/-- What lies below reads as it did: in the form of a test that arithmetic decides. -/
theorem bcell {W w1 : World} (hb : Below W.heap.size W w1) : (∀ b o, w1.cell? ⟨b, o, none⟩ = if b < W.heap.size then W.cell? ⟨b, o, none⟩ else cellOf w1 b o) ∧ (∀ b o, w1.frozen? ⟨b, o, none⟩ = takeB (if b < W.heap.size then some (W.frozen? ⟨b, o, none⟩) else none) (frozenOf w1 b o)) := by
  refine ⟨fun b o => ?_, fun b o => ?_⟩
  · split
    · exact hb.cell (p := ⟨b, o, none⟩) ‹_›
    · rfl
  · split
    · exact hb.frozen (p := ⟨b, o, none⟩) ‹_›
    · rfl
section
variable (w : World)
@[go_sem low] theorem cell_alloc_ite (c : Array Value) (t : TypeId) (f : Nat × Nat) (b o : Nat) : (w.alloc (.cells c t f)).cell? ⟨b, o, none⟩ = if b < w.heap.size then w.cell? ⟨b, o, none⟩ else if b = w.heap.size then c[o]? else none := by
  split
  · exact World.cell?_alloc_lt w _ _ ‹_›
  · split
    · subst b; simp only [World.alloc, World.cell?, Array.getElem?_push, if_true]; simp
    · simp only [World.alloc, World.cell?]
      rw [Array.getElem?_eq_none (by simp; omega)]
@[go_sem low] theorem frozen_alloc_ite (c : Array Value) (t : TypeId) (b o : Nat) : (w.alloc (.cells c t)).frozen? ⟨b, o, none⟩ = takeB (if b < w.heap.size then some (w.frozen? ⟨b, o, none⟩) else none) false := by
  split
  · exact World.frozen?_alloc_old w _ _ (Nat.ne_of_lt ‹_›)
  · show _ = false
    by_cases h : b = w.heap.size
    · subst h; simp only [World.alloc, World.frozen?, Array.getElem?_push, if_true]; simp
    · simp only [World.alloc, World.frozen?]
      rw [Array.getElem?_eq_none (by simp; omega)]
@[go_sem low] theorem cell_set_ite (b1 o1 b o : Nat) (v : Value) : (w.setCell ⟨b1, o1, none⟩ v).cell? ⟨b, o, none⟩ = if b1 = b ∧ o1 = o then (w.cell? ⟨b, o, none⟩).map (fun _ => v) else w.cell? ⟨b, o, none⟩ := by
  split
  · rename_i h
    obtain ⟨rfl, rfl⟩ := h
    cases hc : w.cell? ⟨b1, o1, none⟩ with
    | some u => exact World.cell?_setCell_same _ _ _ hc
    | none =>
      simp only [World.cell?, World.setCell, Array.getElem?_modify, Option.map_none] at hc ⊢
      cases hh : w.heap[b1]? with
      | none => simp
      | some x => cases x <;> simp_all
  · rename_i h
    refine World.cell?_setCell_other _ _ _ _ (fun e => h ?_)
    injection e with e1 e2
    exact ⟨e1, e2⟩
end

@[go_sem] theorem max2_int (k k' : IntKind) (x y : Int) : Builtin.max2 (.int k x) (.int k' y) = pure (.int k (max x y)) := by
  have e : max x y = if x < y then y else x := by omega
  rw [e]; simp only [Builtin.max2, gt_iff_lt]
@[go_sem] theorem min2_int (k k' : IntKind) (x y : Int) : Builtin.min2 (.int k x) (.int k' y) = pure (.int k (min x y)) := by
  have e : min x y = if y < x then y else x := by omega
  rw [e]; simp only [Builtin.min2]
@[go_sem] theorem max_two (ats : Array TypeId) (ty : TypeId) (a b : Value) : Builtin.max_ ats ty #[a, b] = (Builtin.max2 a b >>= fun s => pure s) := by simp only [Builtin.max_, List.foldlM_cons, List.foldlM_nil]
@[go_sem] theorem min_two (ats : Array TypeId) (ty : TypeId) (a b : Value) : Builtin.min_ ats ty #[a, b] = (Builtin.min2 a b >>= fun s => pure s) := by simp only [Builtin.min_, List.foldlM_cons, List.foldlM_nil]
@[go_sem] theorem max_three (ats : Array TypeId) (ty : TypeId) (a b c : Value) : Builtin.max_ ats ty #[a, b, c] = (Builtin.max2 a b >>= fun s => Builtin.max2 s c >>= fun s => pure s) := by simp only [Builtin.max_, List.foldlM_cons, List.foldlM_nil]
@[go_sem] theorem min_three (ats : Array TypeId) (ty : TypeId) (a b c : Value) : Builtin.min_ ats ty #[a, b, c] = (Builtin.min2 a b >>= fun s => Builtin.min2 s c >>= fun s => pure s) := by simp only [Builtin.min_, List.foldlM_cons, List.foldlM_nil]
@[go_sem] theorem max_four (ats : Array TypeId) (ty : TypeId) (a b c d : Value) : Builtin.max_ ats ty #[a, b, c, d] = (Builtin.max2 a b >>= fun s => Builtin.max2 s c >>= fun s => Builtin.max2 s d >>= fun s => pure s) := by simp only [Builtin.max_, List.foldlM_cons, List.foldlM_nil]
@[go_sem] theorem min_four (ats : Array TypeId) (ty : TypeId) (a b c d : Value) : Builtin.min_ ats ty #[a, b, c, d] = (Builtin.min2 a b >>= fun s => Builtin.min2 s c >>= fun s => Builtin.min2 s d >>= fun s => pure s) := by simp only [Builtin.min_, List.foldlM_cons, List.foldlM_nil]

section
variable {P : Program} {d : Nat} {xs ys : Array Value} {f : Field} {fs : List Field} {a b : Value} {r s : Bool} {w : World}
theorem eqf_cons (hn : (f.name == "_") = false) (ha : (part f.type xs f.offset).run P w = .ok a w) (hb : (part f.type ys f.offset).run P w = .ok b w) (he : (Op.equalIn d f.type a b).run P w = .ok r w) (hr : (Op.eqFields d xs ys fs).run P w = .ok s w) : (Op.eqFields d xs ys (f :: fs)).run P w = .ok (r && s) w := by
  have hn' : f.name ≠ "_" := by simpa using hn
  rw [Op.eqFields]
  simp only [if_pos hn', Sem.run_bind, ha, hb, he, Result.andThen_ok]
  cases r
  · simp
  · simpa using hr
theorem eqf_nil : (Op.eqFields d xs ys []).run P w = .ok true w := by simp [Op.eqFields]
theorem eqA_of {t : TypeId} {fs : Array Field} (hu : P.underlying t = some (.struct fs)) (hp : P.stoodInHeld t = false) (h : (Op.eqFields d xs ys fs.toList).run P w = .ok r w) : (Op.equalIn (d + 1) t (.agg xs) (.agg ys)).run P w = .ok r w := by
  have hf : P.fieldsOf t = fs := by simp [Program.fieldsOf, hu]
  rw [run_equalIn_struct (P := P) w d t xs ys (by rw [hf]; exact hu) hp, hf]
  exact h
end

/-- What a world may have more: further blocks, and a count of draws. -/
structure Ext where
  s : Array Obj
  d : Nat
instance : Nonempty Ext := ⟨⟨#[], 0⟩⟩
/-- A world with further blocks behind its own. -/
def ext (w : World) (x : Ext) : World := { w with heap := w.heap ++ x.s, drawn := x.d }
section
variable (w : World) (x : Ext)
@[simp, go_sem] theorem ext_size : (ext w x).heap.size = w.heap.size + x.s.size := by simp [ext]
@[go_sem] theorem ext_heap (k : Nat) (h : k < w.heap.size) : (ext w x).heap[k]? = w.heap[k]? := by
  simp only [ext]
  rw [Array.getElem?_append_left h]
@[go_sem] theorem ext_cell (b o : Nat) (h : b < w.heap.size) : (ext w x).cell? ⟨b, o, none⟩ = w.cell? ⟨b, o, none⟩ := by
  simp only [World.cell?, ext_heap w x b h]
@[go_sem] theorem ext_frozen (b o : Nat) (h : b < w.heap.size) : (ext w x).frozen? ⟨b, o, none⟩ = w.frozen? ⟨b, o, none⟩ := by
  simp only [World.frozen?, ext_heap w x b h]
@[go_sem low] theorem ext_cell_ite (b o : Nat) : (ext w x).cell? ⟨b, o, none⟩ = if b < w.heap.size then w.cell? ⟨b, o, none⟩ else cellOf (ext w x) b o := by
  split
  · exact ext_cell w x b o ‹_›
  · rfl
@[go_sem low] theorem ext_frozen_ite (b o : Nat) : (ext w x).frozen? ⟨b, o, none⟩ = takeB (if b < w.heap.size then some (w.frozen? ⟨b, o, none⟩) else none) (frozenOf (ext w x) b o) := by
  split
  · exact ext_frozen w x b o ‹_›
  · rfl
theorem below_ext : Below w.heap.size w (ext w x) := ⟨rfl, rfl, rfl, by simp, fun k hk => ext_heap w x k hk⟩
theorem ext_ext (y : Ext) : ext (ext w x) y = ext w ⟨x.s ++ y.s, y.d⟩ := by
  simp only [ext, Array.append_assoc]
end
theorem ext_of_below {w w' : World} (h : Below w.heap.size w w') : ∃ x, w' = ext w x := by
  refine ⟨⟨w'.heap.extract w.heap.size w'.heap.size, w'.drawn⟩, ?_⟩
  have hh : w'.heap = w.heap ++ w'.heap.extract w.heap.size w'.heap.size := by
    apply Array.ext_getElem?
    intro k
    by_cases hk : k < w.heap.size
    · rw [Array.getElem?_append_left hk]; exact h.block k hk
    · rw [Array.getElem?_append_right (by omega), Array.getElem?_extract]
      have := h.size
      by_cases hk' : k < w'.heap.size
      · rw [if_pos (by omega)]; congr 1; omega
      · rw [if_neg (by omega), Array.getElem?_eq_none (by omega)]
  show w' = (⟨w.heap ++ w'.heap.extract w.heap.size w'.heap.size, w.tape, w'.drawn, w.os, w.output⟩ : World)
  rw [← hh, ← h.os, ← h.tape, ← h.output]
theorem wp_region_ext {P : Program} {ops : Array Oper} {id : Nat} {Q : Exit → Act → World → Prop} {a : Act} {w : World} (hm : P.follows .mixedOrders = true) (hB : Region.lexB .any ops = true)
    (h : wpQuiet P ops (fun w' => ∃ x, w' = ext w x) (fun a' => ∀ w', Below w.heap.size w w' → Q .normal a' w') ops.toList a) : (Code.region id ops true).wp P Q a w := by
  refine wp_region_quiet (C := fun w' => ∃ x, w' = ext w x) hm hB (ext_of_below ((Below.refl _ w).drew)) ?_
  have hQ : (fun a' => ∀ w', Below w.heap.size w w' → Q .normal a' w') = (fun a' => ∀ w', (∃ x, w' = ext w x) → Q .normal a' w') := by
    funext a'
    refine propext ⟨fun h w' ⟨x, hx⟩ => h w' (hx ▸ below_ext w x), fun h w' hb => h w' (ext_of_below hb)⟩
  rw [← hQ]; exact h
theorem wp_region_ext_lit {P : Program} {l : List Oper} {id : Nat} {Q : Exit → Act → World → Prop} {a : Act} {w : World} (hm : P.follows .mixedOrders = true) (hB : Region.lexB .any l.toArray = true)
    (h : wpQuiet P l.toArray (fun w' => ∃ x, w' = ext w x) (fun a' => ∀ w', Below w.heap.size w w' → Q .normal a' w') l a) : (Code.region id l.toArray true).wp P Q a w :=
  wp_region_ext hm hB (by simpa using h)
theorem ext_call {P : Program} {f : FuncId} {args : Array Value} {w : World} {x : Ext} {v : Value} (h : Calls P f args (ext w x) fun e w' => e = .returned v ∧ Below (ext w x).heap.size (ext w x) w') :
    Calls P f args (ext w x) fun e w'' => e = .returned v ∧ ∃ y, w'' = ext w y :=
  h.mono fun e w' ⟨he, hb⟩ => ⟨he, let ⟨y, hy⟩ := ext_of_below hb; ⟨⟨x.s ++ y.s, y.d⟩, by rw [hy, ext_ext]⟩⟩
theorem ext_same {P : Program} {f : FuncId} {args : Array Value} {w : World} {x : Ext} {v : Value} (h : Calls P f args (ext w x) fun e w' => e = .returned v ∧ ext w x = w') :
    Calls P f args (ext w x) fun e w'' => e = .returned v ∧ ∃ y, w'' = ext w y :=
  h.mono fun e w' ⟨he, hb⟩ => ⟨he, x, hb.symm⟩
end Go.Proofs.YtbkhcdmmnlkhdaaGreat
