/- Small words for walks: what a world keeps behind a call, the greater and the lesser of whole numbers. -/
import Derived.WalkKit
import Derived.WalkLawsBesides
import Derived.WalkSpells
import Derived.KernelRfl
import Derived.Lib.Hide
import Derived.Laws.StructEq
import Derived.Deep.QuietTactic
import Derived.BigQuiet
import Derived.StillTail
namespace Go.Proofs.YtinnaiofgbjicaaDoor
open Go.RowKit
set_option linter.unusedSimpArgs false
set_option linter.unusedVariables false

/-- A cell, a mark, behind a name that simp leaves. -/
def cellOf (w : World) (b o : Nat) : Option Value := w.cell? ⟨b, o, none⟩
def frozenOf (w : World) (b o : Nat) : Bool := w.frozen? ⟨b, o, none⟩
/-- A Bool out of a test that arithmetic decides. -/
def takeB (x : Option Bool) (y : Bool) : Bool := x.getD y
@[go_sem] theorem takeB_some (x y : Bool) : takeB (some x) y = x := rfl
@[go_sem] theorem takeB_none (y : Bool) : takeB none y = y := rfl
/-- What lies below reads as it did: in the form of a test that arithmetic decides. -/
theorem bcell {W w1 : World} (hb : Below W.heap.size W w1) : (∀ b o, w1.cell? ⟨b, o, none⟩ = if b < W.heap.size then W.cell? ⟨b, o, none⟩ else cellOf w1 b o) ∧ (∀ b o, w1.frozen? ⟨b, o, none⟩ = takeB (if b < W.heap.size then some (W.frozen? ⟨b, o, none⟩) else none) (frozenOf w1 b o)) := by
  refine ⟨fun b o => ?_, fun b o => ?_⟩
  · split
    · exact hb.cell (p := ⟨b, o, none⟩) ‹_›
    · rfl
  · split
    · exact hb.frozen (p := ⟨b, o, none⟩) ‹_›
    · rfl
section
variable (w : World)
@[go_sem low] theorem cell_alloc_ite (c : Array Value) (t : TypeId) (f : Nat × Nat) (b o : Nat) : (w.alloc (.cells c t f)).cell? ⟨b, o, none⟩ = if b < w.heap.size then w.cell? ⟨b, o, none⟩ else if b = w.heap.size then c[o]? else none := by
  split
  · exact World.cell?_alloc_lt w _ _ ‹_›
  · split
    · subst b; simp only [World.alloc, World.cell?, Array.getElem?_push, if_true]; simp
    · simp only [World.alloc, World.cell?]
      rw [Array.getElem?_eq_none (by simp; omega)]
@[go_sem low] theorem frozen_alloc_ite (c : Array Value) (t : TypeId) (b o : Nat) : (w.alloc (.cells c t)).frozen? ⟨b, o, none⟩ = takeB (if b < w.heap.size then some (w.frozen? ⟨b, o, none⟩) else none) false := by
  split
  · exact World.frozen?_alloc_old w _ _ (Nat.ne_of_lt ‹_›)
  · show _ = false
    by_cases h : b = w.heap.size
    · subst h; simp only [World.alloc, World.frozen?, Array.getElem?_push, if_true]; simp
    · simp only [World.alloc, World.frozen?]
      rw [Array.getElem?_eq_none (by simp; omega)]
@[go_sem low] theorem cell_set_ite (b1 o1 b o : Nat) (v : Value) : (w.setCell ⟨b1, o1, none⟩ v).cell? ⟨b, o, none⟩ = if b1 = b ∧ o1 = o then (w.cell? ⟨b, o, none⟩).map (fun _ => v) else w.cell? ⟨b, o, none⟩ := by
  split
  · rename_i h
    obtain ⟨rfl, rfl⟩ := h
    cases hc : w.cell? ⟨b1, o1, none⟩ with
    | some u => exact World.cell?_setCell_same _ _ _ hc
    | none =>
      simp only [World.cell?, World.setCell, Array.getElem?_modify, Option.map_none] at hc ⊢
      cases hh : w.heap[b1]? with
      | none => simp
      | some x => cases x <;> simp_all
  · rename_i h
    refine World.cell?_setCell_other _ _ _ _ (fun e => h ?_)
    injection e with e1 e2
    exact ⟨e1, e2⟩
end

@[go_sem] theorem max2_int (k k' : IntKind) (x y : Int) : Builtin.max2 (.int k x) (.int k' y) = pure (.int k (max x y)) := by
  have e : max x y = if x < y then y else x := by omega
  rw [e]; simp only [Builtin.max2, gt_iff_lt]
@[go_sem] theorem min2_int (k k' : IntKind) (x y : Int) : Builtin.min2 (.int k x) (.int k' y) = pure (.int k (min x y)) := by
  have e : min x y = if y < x then y else x := by omega
  rw [e]; simp only [Builtin.min2]
@[go_sem] theorem max_two (ats : Array TypeId) (ty : TypeId) (a b : Value) : Builtin.max_ ats ty #[a, b] = (Builtin.max2 a b >>= fun s => pure s) := by simp only [Builtin.max_, List.foldlM_cons, List.foldlM_nil]
@[go_sem] theorem min_two (ats : Array TypeId) (ty : TypeId) (a b : Value) : Builtin.min_ ats ty #[a, b] = (Builtin.min2 a b >>= fun s => pure s) := by simp only [Builtin.min_, List.foldlM_cons, List.foldlM_nil]
@[go_sem] theorem max_three (ats : Array TypeId) (ty : TypeId) (a b c : Value) : Builtin.max_ ats ty #[a, b, c] = (Builtin.max2 a b >>= fun s => Builtin.max2 s c >>= fun s => pure s) := by simp only [Builtin.max_, List.foldlM_cons, List.foldlM_nil]
@[go_sem] theorem min_three (ats : Array TypeId) (ty : TypeId) (a b c : Value) : Builtin.min_ ats ty #[a, b, c] = (Builtin.min2 a b >>= fun s => Builtin.min2 s c >>= fun s => pure s) := by simp only [Builtin.min_, List.foldlM_cons, List.foldlM_nil]
@[go_sem] theorem max_four (ats : Array TypeId) (ty : TypeId) (a b c d : Value) : Builtin.max_ ats ty #[a, b, c, d] = (Builtin.max2 a b >>= fun s => Builtin.max2 s c >>= fun s => Builtin.max2 s d >>= fun s => pure s) := by simp only [Builtin.max_, List.foldlM_cons, List.foldlM_nil]
@[go_sem] theorem min_four (ats : Array TypeId) (ty : TypeId) (a b c d : Value) : Builtin.min_ ats ty #[a, b, c, d] = (Builtin.min2 a b >>= fun s => Builtin.min2 s c >>= fun s => Builtin.min2 s d >>= fun s => pure s) := by simp only [Builtin.min_, List.foldlM_cons, List.foldlM_nil]

section
variable {P : Program} {d : Nat} {xs ys : Array Value} {f : Field} {fs : List Field} {a b : Value} {r s : Bool} {w : World}
theorem eqf_cons (hn : (f.name == "_") = false) (ha : (part f.type xs f.offset).run P w = .ok a w) (hb : (part f.type ys f.offset).run P w = .ok b w) (he : (Op.equalIn d f.type a b).run P w = .ok r w) (hr : (Op.eqFields d xs ys fs).run P w = .ok s w) : (Op.eqFields d xs ys (f :: fs)).run P w = .ok (r && s) w := by
  have hn' : f.name ≠ "_" := by simpa using hn
  rw [Op.eqFields]
  simp only [if_pos hn', Sem.run_bind, ha, hb, he, Result.andThen_ok]
  cases r
  · simp
  · simpa using hr
theorem eqf_nil : (Op.eqFields d xs ys []).run P w = .ok true w := by simp [Op.eqFields]
theorem eqA_of {t : TypeId} {fs : Array Field} (hu : P.underlying t = some (.struct fs)) (hp : P.stoodInHeld t = false) (h : (Op.eqFields d xs ys fs.toList).run P w = .ok r w) : (Op.equalIn (d + 1) t (.agg xs) (.agg ys)).run P w = .ok r w := by
  have hf : P.fieldsOf t = fs := by simp [Program.fieldsOf, hu]
  rw [run_equalIn_struct (P := P) w d t xs ys (by rw [hf]; exact hu) hp, hf]
  exact h
end

/-- What a world may have more: further blocks, and a count of draws. -/
structure Ext where
  s : Array Obj
  d : Nat
instance : Nonempty Ext := ⟨⟨#[], 0⟩⟩
/-- A world with further blocks behind its own. -/
def ext (w : World) (x : Ext) : World := { w with heap := w.heap ++ x.s, drawn := x.d }
section
variable (w : World) (x : Ext)
@[simp, go_sem] theorem ext_size : (ext w x).heap.size = w.heap.size + x.s.size := by simp [ext]
@[go_sem] theorem ext_heap (k : Nat) (h : k < w.heap.size) : (ext w x).heap[k]? = w.heap[k]? := by
  simp only [ext]
  rw [Array.getElem?_append_left h]
@[go_sem] theorem ext_cell (b o : Nat) (h : b < w.heap.size) : (ext w x).cell? ⟨b, o, none⟩ = w.cell? ⟨b, o, none⟩ := by
  simp only [World.cell?, ext_heap w x b h]
@[go_sem] theorem ext_frozen (b o : Nat) (h : b < w.heap.size) : (ext w x).frozen? ⟨b, o, none⟩ = w.frozen? ⟨b, o, none⟩ := by
  simp only [World.frozen?, ext_heap w x b h]
@[go_sem low] theorem ext_cell_ite (b o : Nat) : (ext w x).cell? ⟨b, o, none⟩ = if b < w.heap.size then w.cell? ⟨b, o, none⟩ else cellOf (ext w x) b o := by
  split
  · exact ext_cell w x b o ‹_›
  · rfl
@[go_sem low] theorem ext_frozen_ite (b o : Nat) : (ext w x).frozen? ⟨b, o, none⟩ = takeB (if b < w.heap.size then some (w.frozen? ⟨b, o, none⟩) else none) (frozenOf (ext w x) b o) := by
  split
  · exact ext_frozen w x b o ‹_›
  · rfl
theorem below_ext : Below w.heap.size w (ext w x) := ⟨rfl, rfl, rfl, by simp, fun k hk => ext_heap w x k hk⟩
theorem ext_ext (y : Ext) : ext (ext w x) y = ext w ⟨x.s ++ y.s, y.d⟩ := by
  simp only [ext, Array.append_assoc]
end
theorem ext_of_below {w w' : World} (h : Below w.heap.size w w') : ∃ x, w' = ext w x := by
  refine ⟨⟨w'.heap.extract w.heap.size w'.heap.size, w'.drawn⟩, ?_⟩
  have hh : w'.heap = w.heap ++ w'.heap.extract w.heap.size w'.heap.size := by
    apply Array.ext_getElem?
    intro k
    by_cases hk : k < w.heap.size
    · rw [Array.getElem?_append_left hk]; exact h.block k hk
    · rw [Array.getElem?_append_right (by omega), Array.getElem?_extract]
      have := h.size
      by_cases hk' : k < w'.heap.size
      · rw [if_pos (by omega)]; congr 1; omega
      · rw [if_neg (by omega), Array.getElem?_eq_none (by omega)]
  show w' = (⟨w.heap ++ w'.heap.extract w.heap.size w'.heap.size, w.tape, w'.drawn, w.os, w.output⟩ : World)
  rw [← hh, ← h.os, ← h.tape, ← h.output]
theorem wp_region_ext {P : Program} {ops : Array Oper} {id : Nat} {Q : Exit → Act → World → Prop} {a : Act} {w : World} (hm : P.follows .mixedOrders = true) (hB : Region.lexB .any ops = true)
    (h : wpQuiet P ops (fun w' => ∃ x, w' = ext w x) (fun a' => ∀ w', Below w.heap.size w w' → Q .normal a' w') ops.toList a) : (Code.region id ops true).wp P Q a w := by
  refine wp_region_quiet (C := fun w' => ∃ x, w' = ext w x) hm hB (ext_of_below ((Below.refl _ w).drew)) ?_
  have hQ : (fun a' => ∀ w', Below w.heap.size w w' → Q .normal a' w') = (fun a' => ∀ w', (∃ x, w' = ext w x) → Q .normal a' w') := by
    funext a'
    refine propext ⟨fun h w' ⟨x, hx⟩ => h w' (hx ▸ below_ext w x), fun h w' hb => h w' (ext_of_below hb)⟩
  rw [← hQ]; exact h
theorem wp_region_ext_lit {P : Program} {l : List Oper} {id : Nat} {Q : Exit → Act → World → Prop} {a : Act} {w : World} (hm : P.follows .mixedOrders = true) (hB : Region.lexB .any l.toArray = true)
    (h : wpQuiet P l.toArray (fun w' => ∃ x, w' = ext w x) (fun a' => ∀ w', Below w.heap.size w w' → Q .normal a' w') l a) : (Code.region id l.toArray true).wp P Q a w :=
  wp_region_ext hm hB (by simpa using h)
theorem ext_call {P : Program} {f : FuncId} {args : Array Value} {w : World} {x : Ext} {v : Value} (h : Calls P f args (ext w x) fun e w' => e = .returned v ∧ Below (ext w x).heap.size (ext w x) w') :
    Calls P f args (ext w x) fun e w'' => e = .returned v ∧ ∃ y, w'' = ext w y :=
  h.mono fun e w' ⟨he, hb⟩ => ⟨he, let ⟨y, hy⟩ := ext_of_below hb; ⟨⟨x.s ++ y.s, y.d⟩, by rw [hy, ext_ext]⟩⟩
theorem ext_same {P : Program} {f : FuncId} {args : Array Value} {w : World} {x : Ext} {v : Value} (h : Calls P f args (ext w x) fun e w' => e = .returned v ∧ ext w x = w') :
    Calls P f args (ext w x) fun e w'' => e = .returned v ∧ ∃ y, w'' = ext w y :=
  h.mono fun e w' ⟨he, hb⟩ => ⟨he, x, hb.symm⟩
end Go.Proofs.YtinnaiofgbjicaaDoor
namespace Go.Proofs.YtinnaiofgbjicaaDoor
open Go.RowKit
set_option linter.unusedSimpArgs false
set_option linter.unusedVariables false
section
variable {P : Program} {ops : Array Oper} {md : Region.Mode} {C : World → Prop}

/-- Whatever order is picked, n operations of the head first, and L behind the fuel's end. -/
def headQ (P : Program) (md : Region.Mode) (ops : Array Oper) (C : World → Prop) (n : Nat) (L : Array Bool → Act → Prop) : Nat → Array Bool → Act → Prop
  | 0, listed, a => L listed a
  | f + 1, listed, a => Region.ready md ops listed ≠ [] ∧ ∀ i ∈ Region.ready md ops listed, i < n ∧ qOp P ops C i (headQ P md ops C n L f (listed.setIfInBounds i true)) a

theorem any_of_headQ {n g : Nat} {L : Array Bool → Act → Prop} {Q : Exit → Act → World → Prop} (hL : ∀ listed a w, C w → L listed a → wpAny P md ops Q g listed a w) (f : Nat) :
    ∀ (listed : Array Bool) (a : Act) (w : World), C w → headQ P md ops C n L f listed a → wpAny P md ops Q (f + g) listed a w := by
  induction f with
  | zero => intro listed a w hw h; rw [Nat.zero_add]; exact hL _ _ _ hw h
  | succ f ih =>
    intro listed a w hw h
    rw [Nat.add_right_comm f 1 g]
    refine ⟨fun h0 => (h.1 h0).elim, fun i hi => wpOp_of_qOp hw (fun a' w' hw' h' => ih _ a' w' hw' h') (h.2 i hi).2⟩

theorem headQ_first {n i : Nat} {oi : Oper} {v : Value} {L : Array Bool → Act → Prop} (hi : ops[i]? = some oi) (hsel : ∀ (j : Nat) (o : Oper) cs b, ops[j]? = some o → o.op ≠ .select cs b)
    (hs : Region.sinkB md ops n = true) (hc : Region.chainB md ops n = true) (hn : n < ops.size) (hin : i < n)
    (hdone : ∀ listed a, L listed a → ∀ j ∈ Region.ready md ops listed, n ≤ j) (f : Nat) :
    ∀ (listed : Array Bool) (a : Act), HeadInv md ops n listed →
      (∀ j oj, ops[j]? = some oj → j ≠ i → listed.getD j true = false → (∀ e ∈ oj.after, Region.binds md e = true → e.on ≠ i) → oi.apart ops oj = true) →
      i ∈ Region.ready md ops listed → YieldsIn P ops C oi v a →
      headQ P md ops C n L f (listed.setIfInBounds i true) (a.put oi.dst v) → headQ P md ops C n L (f + 1) listed a := by
  induction f with
  | zero =>
    intro listed a inv _ hr hy H
    have hun := (mem_ready.1 hr).1
    refine ⟨List.ne_nil_of_mem hr, fun j hj => ?_⟩
    have hjn : j < n := Nat.lt_of_not_le fun h => tail_waits hs hc hn inv _ i rfl hin hun j h hj
    refine ⟨hjn, ?_⟩
    rcases Nat.decEq j i with hji | hji
    · exact absurd (hdone _ _ H j (ready_mono hj hji)) (by omega)
    · cases hji; exact hy.qOp hi H
  | succ f ih =>
    intro listed a inv hfree hr hy H
    have hun := (mem_ready.1 hr).1
    refine ⟨List.ne_nil_of_mem hr, fun j hj => ?_⟩
    have hjn : j < n := Nat.lt_of_not_le fun h => tail_waits hs hc hn inv _ i rfl hin hun j h hj
    refine ⟨hjn, ?_⟩
    rcases Nat.decEq j i with hji | hji
    · have h1 := (H.2 j (ready_mono hj hji)).2
      obtain ⟨hjun, oj, hoj, hall⟩ := mem_ready.1 hj
      have hnot : ∀ e ∈ oj.after, Region.binds md e = true → e.on ≠ i := by
        intro e he hb heq
        have h3 := hall e he hb
        rw [heq, getD_both hun] at h3
        exact Bool.noConfusion h3
      have h2 := qOp_put hoj (hfree j oj hoj hji hjun hnot) (fun cs b => hsel i oi cs b hi) (fun cs b => hsel j oj cs b hoj) hy h1
      refine qOp_mono (fun a' h3 => ih _ a' (inv.set hj hjn) (fun k ok hk hki hkun hno => ?_) (ready_mono hr (Ne.symm hji)) h3.1 ?_) h2
      · refine hfree k ok hk hki ?_ hno
        rcases Nat.decEq j k with hjk | hjk
        · rwa [getD_set_ne true hjk] at hkun
        · cases hjk; exact hjun
      · rw [Array.setIfInBounds_comm _ _ hji]; exact h3.2
    · cases hji; exact hy.qOp hi H

theorem headQ_lex {n g : Nat} {Lq : Act → Prop} (hsel : Region.noSelect ops = true) (hs : Region.sinkB md ops n = true) (hc : Region.chainB md ops n = true) (hn : n < ops.size) (l : List Oper) :
    ∀ (k : Nat) (listed : Array Bool) (a : Act), (∀ j, j < l.length → l[j]? = ops[k + j]?) → k + l.length = n → HeadInv md ops n listed →
    Region.lexHead md ops g l.length k listed = true → wpQuiet P ops C Lq l a →
    headQ P md ops C n (fun listed' a' => Region.seqB md ops g n listed' = true ∧ Lq a') l.length listed a := by
  induction l with
  | nil =>
    intro k listed a _ hk _ hB h
    obtain rfl : k = n := by simpa using hk
    exact ⟨hB, h⟩
  | cons o l ih =>
    intro k listed a hl hk inv hB h
    have h0 : ops[k]? = some o := by simpa using (hl 0 (by simp)).symm
    simp only [List.length_cons] at hk
    simp only [List.length_cons, Region.lexHead, Bool.and_eq_true] at hB
    have hr : k ∈ Region.ready md ops listed := by simpa using hB.1.1
    have hst : qOp P ops C k (wpQuiet P ops C Lq l) a := by unfold qOp; simp only [h0]; exact h
    obtain ⟨v, hy, hK⟩ := yieldsIn_of_qOp h0 hst
    refine headQ_first h0 (Region.noSelect_spec hsel) hs hc hn (by omega) (fun listed' a' hL => seqB_ready hL.1) l.length listed a inv (Region.free_spec h0 hB.1.2) hr hy ?_
    refine ih (k + 1) _ _ (fun j hj => ?_) (by omega) (inv.set hr (by omega)) hB.2 hK
    have := hl (j + 1) (by simp only [List.length_cons]; omega)
    rw [List.getElem?_cons_succ] at this
    rw [this]; congr 1; omega
end

theorem wp_region_ext_tail {P : Program} {id : Nat} {Q : Exit → Act → World → Prop} {a : Act} {w : World} {l : List Oper} (n : Nat) (hm : P.follows .mixedOrders = true) (hB : Region.lexTailB .any l.toArray n = true)
    (h : wpQuiet P l.toArray (fun w' => ∃ x, w' = ext w x) (fun a' => ∀ w', Below w.heap.size w w' → wpList P l.toArray Q (l.drop n) a' w') (l.take n) a) : (Code.region id l.toArray true).wp P Q a w := by
  simp only [Region.lexTailB, Bool.and_eq_true, decide_eq_true_eq] at hB
  obtain ⟨⟨⟨⟨hsel, hn⟩, hs⟩, hc⟩, hlex⟩ := hB
  have hn' : n < l.length := by simpa using hn
  have htl : (l.take n).length = n := by simp only [List.length_take]; omega
  have hdl : (l.drop n).length = l.toArray.size - n := by simp
  have inv0 : HeadInv .any l.toArray n (Array.replicate l.toArray.size false) :=
    ⟨by simp, fun j oj _ hl => by rw [getD_replicate_false] at hl; exact Bool.noConfusion hl, fun t _ ht => getD_in (by simpa using ht) (getD_replicate_false _ _)⟩
  have H := headQ_lex (md := .any) (g := l.toArray.size - n) hsel hs hc hn (l.take n) 0 _ a (fun j hj => by
    have hj' : j < n := by rw [htl] at hj; exact hj
    simp [hj']) (by rw [htl]; omega) inv0 (by rw [htl]; exact hlex) h
  refine wp_region_any hm ?_
  have hx : ∃ x, { w with drawn := w.drawn + 1 } = ext w x := ext_of_below ((Below.refl _ w).drew)
  have hh := any_of_headQ (Q := Q) (g := l.toArray.size - n) (fun listed a' w' hw' hL => by
    have hb : Below w.heap.size w w' := by obtain ⟨x, rfl⟩ := hw'; exact below_ext w x
    have := wpAny_of_seq (md := .any) (Q' := Q) (l.drop n) n listed a' w' (fun j => by simp [List.getElem?_drop]) (by rw [hdl]; exact hL.1) (hL.2 w' hb)
    rwa [hdl] at this) _ _ _ _ hx H
  rw [htl, show n + (l.toArray.size - n) = l.toArray.size by omega] at hh
  exact hh
end Go.Proofs.YtinnaiofgbjicaaDoor
