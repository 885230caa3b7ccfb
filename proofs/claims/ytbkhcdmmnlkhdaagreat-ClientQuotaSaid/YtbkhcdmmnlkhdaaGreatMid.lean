/- A region whose order is drawn: operations that read, in whatever order; then one operation; then operations on slots alone, in whatever order. -/
import Derived.Test.YtbkhcdmmnlkhdaaGreatTail
namespace Go.Proofs.YtbkhcdmmnlkhdaaGreat
open Go.RowKit
set_option linter.unusedSimpArgs false
set_option linter.unusedVariables false
section
variable {P : Program} {ops : Array Oper} {md : Region.Mode} {C : World → Prop}
/-- An operation on slots alone. -/
def slotOp (o : Oper) : Bool := match o.op with
  | .move _ | .assign _ | .extract _ _ => true
  | _ => false
theorem slot_run {o : Oper} (h : slotOp o = true) (a : Act) : (∃ v, ∀ w, (execOp a.eval o).run P w = .ok (.value v) w ∧ ¬ o.asks P a w) ∨ (∀ w K Q, ¬ (o.wp P a w K Q ∨ (o.asks P a w ∧ LetsOut Q))) := by
  obtain ⟨dst, op, ty, pos, after, guard⟩ := o
  cases op <;> simp [slotOp] at h
  case move x => exact .inl ⟨a.eval x, fun w => ⟨rfl, fun h => Array.not_mem_empty _ h.1⟩⟩
  case assign x => exact .inl ⟨a.eval x, fun w => ⟨rfl, fun h => Array.not_mem_empty _ h.1⟩⟩
  case extract t ix =>
    have key : (∃ v, Instr.extract (a.eval t) ix = pure v) ∨ (∃ s, Instr.extract (a.eval t) ix = stuck s) := by
      unfold Instr.extract
      split
      · split
        · exact .inl ⟨_, rfl⟩
        · exact .inr ⟨_, rfl⟩
      · exact .inr ⟨_, rfl⟩
    rcases key with ⟨v, hv⟩ | ⟨s, hs⟩
    · refine .inl ⟨v, fun w => ⟨by simp [execOp, hv, Result.andThen], fun h => ?_⟩⟩
      have h1 := h.1
      simp only [execOp, hv] at h1
      exact Array.not_mem_empty _ h1
    · refine .inr fun w K Q h => ?_
      rcases h with h | h
      · simp [Oper.wp, execOp, hs, Result.andThen, Oper.upon, stuck] at h
      · have h1 := h.1.1
        simp only [execOp, hs] at h1
        exact Array.not_mem_empty _ h1
theorem quiet_of_list {Q : Exit → Act → World → Prop} {w : World} : ∀ (l : List Oper) (a : Act), (∀ o ∈ l, slotOp o = true) → wpList P ops Q l a w → wpQuiet P ops (fun w' => w' = w) (fun a' => Q .normal a' w) l a
  | [], a, _, h => h
  | o :: l, a, hs, h => by
    have ho := hs o (List.mem_cons_self ..)
    have hs' := fun o h => hs o (List.mem_cons_of_mem _ h)
    unfold wpQuiet
    unfold wpList at h
    split
    · rename_i hw
      rw [if_pos hw] at h
      rcases slot_run (P := P) ho a with ⟨v, hv⟩ | hn
      · refine ⟨v, fun w' _ => ?_, ?_⟩
        · unfold Oper.quietAt
          rw [(hv w').1]
          exact ⟨rfl, rfl⟩
        · rcases h with h | h
          · unfold Oper.wp at h
            rw [(hv w).1] at h
            exact quiet_of_list l _ hs' h
          · exact absurd h.1 (hv w).2
      · exact absurd h (hn _ _ _)
    · rename_i hw
      rw [if_neg hw] at h
      exact quiet_of_list l _ hs' h
/-- Operation n alone is ready; behind it the lexical order serves. -/
def restB (md : Region.Mode) (ops : Array Oper) (g n : Nat) (listed : Array Bool) : Bool := decide (Region.ready md ops listed = [n]) && Region.lexFrom md ops g (n + 1) (listed.setIfInBounds n true)
theorem restB_ready {g n : Nat} {listed : Array Bool} (h : restB md ops g n listed = true) : ∀ j ∈ Region.ready md ops listed, n ≤ j := by
  simp only [restB, Bool.and_eq_true, decide_eq_true_eq] at h
  intro j hj
  rw [h.1] at hj
  simp at hj
  omega
def lexHeadM (md : Region.Mode) (ops : Array Oper) (g : Nat) : Nat → Nat → Array Bool → Bool
  | 0, k, listed => restB md ops g k listed
  | f + 1, k, listed => (Region.ready md ops listed).contains k && Region.free md ops listed k && lexHeadM md ops g f (k + 1) (listed.setIfInBounds k true)
/-- Each operation behind n waits for n, or for another one behind n. -/
def afterB (md : Region.Mode) (ops : Array Oper) (n : Nat) : Bool :=
  (List.range ops.size).all fun t => decide (t ≤ n) || (List.range t).any fun j => decide (n ≤ j) && Region.waitsFor md ops t j
theorem tail_waits' {n : Nat} {listed : Array Bool} (hs : Region.sinkB md ops n = true) (hc : afterB md ops n = true) (hn : n < ops.size) (inv : HeadInv md ops n listed) :
    ∀ (d i : Nat), n - i = d → i < n → listed.getD i true = false → ∀ t, n ≤ t → t ∉ Region.ready md ops listed := by
  intro d
  induction d using Nat.strongRecOn with
  | _ d ih =>
    intro i hd hi hun t ht hr
    obtain ⟨_, ot, hot, hall⟩ := mem_ready.1 hr
    have htlt : t < ops.size := (Array.getElem?_eq_some_iff.1 hot).1
    by_cases htn : t = n
    · subst htn
      have h1 := List.all_eq_true.1 hs i (List.mem_range.2 hi)
      obtain ⟨j, hj, hj2⟩ := List.any_eq_true.1 h1
      simp only [Bool.and_eq_true, decide_eq_true_eq] at hj2
      obtain ⟨oj, hoj, e, he, hb, hon⟩ := Region.waitsFor_spec hj2.2
      have hjle : j ≤ t := by have := List.mem_range.1 hj; omega
      by_cases hjt : j = t
      · subst hjt
        have : oj = ot := Option.some.inj (hoj.symm.trans hot)
        subst this
        have h2 := hall e he hb
        rw [hon, getD_both hun] at h2
        cases h2
      · cases hl : listed.getD j false with
        | true =>
          have h2 := inv.closed j oj hoj hl e he hb
          rw [hon, getD_both hun] at h2
          cases h2
        | false =>
          have hjs : j < listed.size := by rw [inv.size]; omega
          exact ih (t - j) (by omega) j rfl (by omega) (getD_in hjs hl) t (Nat.le_refl _) hr
    · have h1 := List.all_eq_true.1 hc t (List.mem_range.2 htlt)
      simp only [Bool.or_eq_true, decide_eq_true_eq] at h1
      rcases h1 with h1 | h1
      · omega
      · obtain ⟨j, hj, hj2⟩ := List.any_eq_true.1 h1
        simp only [Bool.and_eq_true, decide_eq_true_eq] at hj2
        have hjt := List.mem_range.1 hj
        obtain ⟨o', ho', e, he, hb, hon⟩ := Region.waitsFor_spec hj2.2
        have : o' = ot := Option.some.inj (ho'.symm.trans hot)
        subst this
        have h2 := hall e he hb
        rw [hon, getD_both (inv.tail j hj2.1 (by omega))] at h2
        cases h2
theorem headQ_first' {n i : Nat} {oi : Oper} {v : Value} {L : Array Bool → Act → Prop} (hi : ops[i]? = some oi) (hsel : ∀ (j : Nat) (o : Oper) cs b, ops[j]? = some o → o.op ≠ .select cs b)
    (hW : ∀ listed, HeadInv md ops n listed → ∀ i, i < n → listed.getD i true = false → ∀ t, n ≤ t → t ∉ Region.ready md ops listed) (hin : i < n)
    (hdone : ∀ listed a, L listed a → ∀ j ∈ Region.ready md ops listed, n ≤ j) (f : Nat) :
    ∀ (listed : Array Bool) (a : Act), HeadInv md ops n listed →
      (∀ j oj, ops[j]? = some oj → j ≠ i → listed.getD j true = false → (∀ e ∈ oj.after, Region.binds md e = true → e.on ≠ i) → oi.apart ops oj = true) →
      i ∈ Region.ready md ops listed → YieldsIn P ops C oi v a →
      headQ P md ops C n L f (listed.setIfInBounds i true) (a.put oi.dst v) → headQ P md ops C n L (f + 1) listed a := by
  induction f with
  | zero =>
    intro listed a inv _ hr hy H
    have hun := (mem_ready.1 hr).1
    refine ⟨List.ne_nil_of_mem hr, fun j hj => ?_⟩
    have hjn : j < n := Nat.lt_of_not_le fun h => hW _ inv i hin hun j h hj
    refine ⟨hjn, ?_⟩
    rcases Nat.decEq j i with hji | hji
    · exact absurd (hdone _ _ H j (ready_mono hj hji)) (by omega)
    · cases hji; exact hy.qOp hi H
  | succ f ih =>
    intro listed a inv hfree hr hy H
    have hun := (mem_ready.1 hr).1
    refine ⟨List.ne_nil_of_mem hr, fun j hj => ?_⟩
    have hjn : j < n := Nat.lt_of_not_le fun h => hW _ inv i hin hun j h hj
    refine ⟨hjn, ?_⟩
    rcases Nat.decEq j i with hji | hji
    · have h1 := (H.2 j (ready_mono hj hji)).2
      obtain ⟨hjun, oj, hoj, hall⟩ := mem_ready.1 hj
      have hnot : ∀ e ∈ oj.after, Region.binds md e = true → e.on ≠ i := by
        intro e he hb heq
        have h3 := hall e he hb
        rw [heq, getD_both hun] at h3
        exact Bool.noConfusion h3
      have h2 := qOp_put hoj (hfree j oj hoj hji hjun hnot) (fun cs b => hsel i oi cs b hi) (fun cs b => hsel j oj cs b hoj) hy h1
      refine qOp_mono (fun a' h3 => ih _ a' (inv.set hj hjn) (fun k ok hk hki hkun hno => ?_) (ready_mono hr (Ne.symm hji)) h3.1 ?_) h2
      · refine hfree k ok hk hki ?_ hno
        rcases Nat.decEq j k with hjk | hjk
        · rwa [getD_set_ne true hjk] at hkun
        · cases hjk; exact hjun
      · rw [Array.setIfInBounds_comm _ _ hji]; exact h3.2
    · cases hji; exact hy.qOp hi H

theorem headQ_lex' {n g : Nat} {Lq : Act → Prop} (hsel : Region.noSelect ops = true) (hW : ∀ listed, HeadInv md ops n listed → ∀ i, i < n → listed.getD i true = false → ∀ t, n ≤ t → t ∉ Region.ready md ops listed) (l : List Oper) :
    ∀ (k : Nat) (listed : Array Bool) (a : Act), (∀ j, j < l.length → l[j]? = ops[k + j]?) → k + l.length = n → HeadInv md ops n listed →
    lexHeadM md ops g l.length k listed = true → wpQuiet P ops C Lq l a →
    headQ P md ops C n (fun listed' a' => restB md ops g n listed' = true ∧ Lq a') l.length listed a := by
  induction l with
  | nil =>
    intro k listed a _ hk _ hB h
    obtain rfl : k = n := by simpa using hk
    exact ⟨hB, h⟩
  | cons o l ih =>
    intro k listed a hl hk inv hB h
    have h0 : ops[k]? = some o := by simpa using (hl 0 (by simp)).symm
    simp only [List.length_cons] at hk
    simp only [List.length_cons, lexHeadM, Bool.and_eq_true] at hB
    have hr : k ∈ Region.ready md ops listed := by simpa using hB.1.1
    have hst : qOp P ops C k (wpQuiet P ops C Lq l) a := by unfold qOp; simp only [h0]; exact h
    obtain ⟨v, hy, hK⟩ := yieldsIn_of_qOp h0 hst
    refine headQ_first' h0 (Region.noSelect_spec hsel) hW (by omega) (fun listed' a' hL => restB_ready hL.1) l.length listed a inv (Region.free_spec h0 hB.1.2) hr hy ?_
    refine ih (k + 1) _ _ (fun j hj => ?_) (by omega) (inv.set hr (by omega)) hB.2 hK
    have := hl (j + 1) (by simp only [List.length_cons]; omega)
    rw [List.getElem?_cons_succ] at this
    rw [this]; congr 1; omega
end
def midB (ops : Array Oper) (n : Nat) : Bool :=
  Region.noSelect ops && decide (n < ops.size) && Region.sinkB .any ops n && afterB .any ops n && (ops.toList.drop (n + 1)).all slotOp && lexHeadM .any ops (ops.size - (n + 1)) n 0 (Array.replicate ops.size false)
theorem wp_region_ext_mid {P : Program} {id : Nat} {Q : Exit → Act → World → Prop} {a : Act} {w : World} {l : List Oper} (n : Nat) (hm : P.follows .mixedOrders = true) (hB : midB l.toArray n = true)
    (h : wpQuiet P l.toArray (fun w' => ∃ x, w' = ext w x) (fun a' => ∀ w', Below w.heap.size w w' → wpList P l.toArray Q (l.drop n) a' w') (l.take n) a) : (Code.region id l.toArray true).wp P Q a w := by
  simp only [midB, Bool.and_eq_true, decide_eq_true_eq] at hB
  obtain ⟨⟨⟨⟨⟨hsel, hn⟩, hs⟩, hc⟩, hsl⟩, hlex⟩ := hB
  have hn' : n < l.length := by simpa using hn
  have htl : (l.take n).length = n := by simp only [List.length_take]; omega
  have hdl : (l.drop (n + 1)).length = l.toArray.size - (n + 1) := by simp
  have inv0 : HeadInv .any l.toArray n (Array.replicate l.toArray.size false) :=
    ⟨by simp, fun j oj _ hl => by rw [getD_replicate_false] at hl; exact Bool.noConfusion hl, fun t _ ht => getD_in (by simpa using ht) (getD_replicate_false _ _)⟩
  have H := headQ_lex' (md := .any) (g := l.toArray.size - (n + 1)) hsel (fun listed inv i hi hun => tail_waits' hs hc hn inv _ i rfl hi hun) (l.take n) 0 _ a (fun j hj => by
    have hj' : j < n := by rw [htl] at hj; exact hj
    simp [hj']) (by rw [htl]; omega) inv0 (by rw [htl]; exact hlex) h
  refine wp_region_any hm ?_
  have hx : ∃ x, { w with drawn := w.drawn + 1 } = ext w x := ext_of_below ((Below.refl _ w).drew)
  have hh := any_of_headQ (Q := Q) (g := l.toArray.size - (n + 1) + 1) (fun listed a' w' hw' hL => by
    have hb : Below w.heap.size w w' := by obtain ⟨x, rfl⟩ := hw'; exact below_ext w x
    have h1 := hL.2 w' hb
    have hr := hL.1
    simp only [restB, Bool.and_eq_true, decide_eq_true_eq] at hr
    rw [List.drop_eq_getElem_cons hn'] at h1
    refine ⟨fun h0 => (by rw [hr.1] at h0; cases h0), fun i hi => ?_⟩
    rw [hr.1] at hi
    have hin : i = n := by simpa using hi
    subst hin
    have hw : wpOp P l.toArray Q i (wpList P l.toArray Q (l.drop (i + 1))) a' w' := by
      unfold wpOp
      have h0 : l.toArray[i]? = some l[i] := by simp [hn']
      simp only [h0]
      exact h1
    refine wpOp_mono (fun a'' w'' h'' => ?_) hw
    have hq := quiet_of_list (l.drop (i + 1)) a'' (fun o ho => List.all_eq_true.1 hsl o (by simpa using ho)) h''
    have hl := wpAnyQ_lex (md := .any) hsel (l.drop (i + 1)) (i + 1) (listed.setIfInBounds i true) a'' (fun j => by simp [List.getElem?_drop]) (by rw [hdl]; exact hr.2) hq
    rw [hdl] at hl
    exact wpAny_of_quiet (C := fun w3 => w3 = w'') (fun a3 w3 e h3 => by rw [e]; exact h3) _ _ _ _ rfl hl) _ _ _ _ hx H
  rw [htl, show n + (l.toArray.size - (n + 1) + 1) = l.toArray.size by omega] at hh
  exact hh
end Go.Proofs.YtbkhcdmmnlkhdaaGreat
