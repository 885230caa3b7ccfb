/- A region whose order is drawn, in which one variable is made beside calls and reads: one walk serves all orders; of the variable's block only that it is new is known. -/
import Derived.Test.YtbkhcdmmnlkhdaaGreatTail
namespace Go.Proofs.YtbkhcdmmnlkhdaaGreat
open Go.RowKit

/-- An operation's outcome: the value v, and no old block turned. -/
def firmUpon (P : Program) (dst : Option Tmp) (w : World) (v : Value) : Result Next → Prop
  | .ok (.value u) w' => w' = w ∧ (dst = none ∨ u = v)
  | .ok .skip w' => w' = w ∧ (dst = none ∨ undef = v)
  | .ok (.enter f args) w' => w' = w ∧ Calls P f args w (fun e w'' => (∃ u, e = .returned u ∧ (dst = none ∨ u = v)) ∧ Below w.heap.size w w'')
  | _ => False

section
variable (P : Program) (ops : Array Oper) (W : World)
def FYields (o : Oper) (a : Act) (v : Value) : Prop :=
  (Region.wanted o (yielded ops a.tmps) = true ∧ ∀ w, Below W.heap.size W w → firmUpon P o.dst w v ((execOp a.eval o).run P w)) ∨
  (Region.wanted o (yielded ops a.tmps) = false ∧ (o.dst = none ∨ undef = v))
def fOp (i : Nat) (K : Act → Prop) (a : Act) : Prop := ∃ o v, ops[i]? = some o ∧ FYields P ops W o a v ∧ K (a.put o.dst v)
/-- The walk of the text's order, the operation number m left out. -/
def wpFirm (m : Nat) (Q : Act → Prop) : List Oper → Nat → Act → Prop
  | [], _, a => Q a
  | o :: rest, k, a => if k = m then wpFirm m Q rest (k + 1) a else ∃ v, FYields P ops W o a v ∧ wpFirm m Q rest (k + 1) (a.put o.dst v)
def headF (md : Region.Mode) (n : Nat) (L : Array Bool → Act → Prop) : Nat → Array Bool → Act → Prop
  | 0, listed, a => L listed a
  | f + 1, listed, a => Region.ready md ops listed ≠ [] ∧ ∀ i ∈ Region.ready md ops listed, i < n ∧ fOp P ops W i (headF md n L f (listed.setIfInBounds i true)) a
end

section
variable {P : Program} {ops : Array Oper} {md : Region.Mode} {W : World}

theorem fOp_mono {i : Nat} {a : Act} {K K' : Act → Prop} (h : ∀ a, K a → K' a) (hh : fOp P ops W i K a) : fOp P ops W i K' a := by
  obtain ⟨o, v, h1, h2, h3⟩ := hh
  exact ⟨o, v, h1, h2, h _ h3⟩
theorem FYields.of_same {o : Oper} {v : Value} {a a' : Act} (hy : FYields P ops W o a v) (he : execOp a'.eval o = execOp a.eval o)
    (hw : Region.wanted o (yielded ops a'.tmps) = Region.wanted o (yielded ops a.tmps)) : FYields P ops W o a' v := by
  unfold FYields at *
  rw [he, hw]
  exact hy
theorem fOp_put {j : Nat} {oi oj : Oper} {v : Value} (hj : ops[j]? = some oj) (hap : oi.apart ops oj = true)
    (hsi : ∀ cs b, oi.op ≠ .select cs b) (hsj : ∀ cs b, oj.op ≠ .select cs b) {K : Act → Prop} {a : Act}
    (hy : FYields P ops W oi a v) (h : fOp P ops W j K (a.put oi.dst v)) : fOp P ops W j (fun a' => FYields P ops W oi a' v ∧ K (a'.put oi.dst v)) a := by
  obtain ⟨h1, h2, h3⟩ := Oper.apart_spec hap
  obtain ⟨o, u, ho, hu, hK⟩ := h
  obtain rfl : o = oj := Option.some.inj (ho.symm.trans hj)
  refine ⟨o, u, hj, hu.of_same (execOp_put o hsj a oi.dst v h1).symm (wanted_put o a oi.dst v h1).symm, hy.of_same (execOp_put oi hsi a o.dst u h3) (wanted_put oi a o.dst u h3), ?_⟩
  rw [← Act.put_comm a v u h2]; exact hK

theorem headF_first {n i : Nat} {oi : Oper} {v : Value} {L : Array Bool → Act → Prop} (hi : ops[i]? = some oi) (hsel : ∀ (j : Nat) (o : Oper) cs b, ops[j]? = some o → o.op ≠ .select cs b)
    (hs : Region.sinkB md ops n = true) (hc : Region.chainB md ops n = true) (hn : n < ops.size) (hin : i < n)
    (hdone : ∀ listed a, L listed a → ∀ j ∈ Region.ready md ops listed, n ≤ j) (f : Nat) :
    ∀ (listed : Array Bool) (a : Act), HeadInv md ops n listed →
      (∀ j oj, ops[j]? = some oj → j ≠ i → listed.getD j true = false → (∀ e ∈ oj.after, Region.binds md e = true → e.on ≠ i) → oi.apart ops oj = true) →
      i ∈ Region.ready md ops listed → FYields P ops W oi a v →
      headF P ops W md n L f (listed.setIfInBounds i true) (a.put oi.dst v) → headF P ops W md n L (f + 1) listed a := by
  induction f with
  | zero =>
    intro listed a inv _ hr hy H
    have hun := (mem_ready.1 hr).1
    refine ⟨List.ne_nil_of_mem hr, fun j hj => ?_⟩
    have hjn : j < n := Nat.lt_of_not_le fun h => tail_waits hs hc hn inv _ i rfl hin hun j h hj
    refine ⟨hjn, ?_⟩
    rcases Nat.decEq j i with hji | hji
    · exact absurd (hdone _ _ H j (ready_mono hj hji)) (by omega)
    · cases hji; exact ⟨oi, v, hi, hy, H⟩
  | succ f ih =>
    intro listed a inv hfree hr hy H
    have hun := (mem_ready.1 hr).1
    refine ⟨List.ne_nil_of_mem hr, fun j hj => ?_⟩
    have hjn : j < n := Nat.lt_of_not_le fun h => tail_waits hs hc hn inv _ i rfl hin hun j h hj
    refine ⟨hjn, ?_⟩
    rcases Nat.decEq j i with hji | hji
    · have h1 := (H.2 j (ready_mono hj hji)).2
      obtain ⟨hjun, oj, hoj, hall⟩ := mem_ready.1 hj
      have hnot : ∀ e ∈ oj.after, Region.binds md e = true → e.on ≠ i := by
        intro e he hb heq
        have h3 := hall e he hb
        rw [heq, getD_both hun] at h3
        exact Bool.noConfusion h3
      have h2 := fOp_put hoj (hfree j oj hoj hji hjun hnot) (fun cs b => hsel i oi cs b hi) (fun cs b => hsel j oj cs b hoj) hy h1
      refine fOp_mono (fun a' h3 => ih _ a' (inv.set hj hjn) (fun k ok hk hki hkun hno => ?_) (ready_mono hr (Ne.symm hji)) h3.1 ?_) h2
      · refine hfree k ok hk hki ?_ hno
        rcases Nat.decEq j k with hjk | hjk
        · rwa [getD_set_ne true hjk] at hkun
        · cases hjk; exact hjun
      · rw [Array.setIfInBounds_comm _ _ hji]; exact h3.2
    · cases hji; exact ⟨oi, v, hi, hy, H⟩

/-- The Bool on the head: the text's order is one, m left out (it is taken for done). -/
def lexHeadBut (md : Region.Mode) (ops : Array Oper) (m g : Nat) : Nat → Nat → Array Bool → Bool
  | 0, k, listed => Region.seqB md ops g k listed
  | f + 1, k, listed => if k = m then lexHeadBut md ops m g f (k + 1) listed else
      (Region.ready md ops listed).contains k && Region.free md ops listed k && lexHeadBut md ops m g f (k + 1) (listed.setIfInBounds k true)

theorem headF_lex {n g m : Nat} {Lq : Act → Prop} (hsel : Region.noSelect ops = true) (hs : Region.sinkB md ops n = true) (hc : Region.chainB md ops n = true) (hn : n < ops.size) (l : List Oper) :
    ∀ (k : Nat) (listed : Array Bool) (a : Act), (∀ j, j < l.length → l[j]? = ops[k + j]?) → k + l.length = n → HeadInv md ops n listed →
    lexHeadBut md ops m g l.length k listed = true → wpFirm P ops W m Lq l k a →
    headF P ops W md n (fun listed' a' => Region.seqB md ops g n listed' = true ∧ Lq a') (l.length - if k ≤ m ∧ m < n then 1 else 0) listed a := by
  induction l with
  | nil =>
    intro k listed a _ hk _ hB h
    obtain rfl : k = n := by simpa using hk
    rw [if_neg (by omega)]
    exact ⟨hB, h⟩
  | cons o l ih =>
    intro k listed a hl hk inv hB h
    have h0 : ops[k]? = some o := by simpa using (hl 0 (by simp)).symm
    simp only [List.length_cons] at hk
    have hl' : ∀ j, j < l.length → l[j]? = ops[k + 1 + j]? := fun j hj => by
      have := hl (j + 1) (by simp only [List.length_cons]; omega)
      rw [List.getElem?_cons_succ] at this
      rw [this]; congr 1; omega
    simp only [List.length_cons, lexHeadBut, wpFirm] at hB h
    rcases Nat.decEq k m with hkm | hkm
    · rw [if_neg hkm] at hB h
      simp only [Bool.and_eq_true] at hB
      obtain ⟨v, hy, hK⟩ := h
      have hr : k ∈ Region.ready md ops listed := by simpa using hB.1.1
      have H := ih (k + 1) _ _ hl' (by omega) (inv.set hr (by omega)) hB.2 hK
      have e : (o :: l).length - (if k ≤ m ∧ m < n then 1 else 0) = (l.length - if k + 1 ≤ m ∧ m < n then 1 else 0) + 1 := by
        simp only [List.length_cons]
        by_cases hc1 : k ≤ m ∧ m < n
        · rw [if_pos hc1, if_pos (by omega)]; omega
        · rw [if_neg hc1, if_neg (by omega)]; omega
      rw [e]
      exact headF_first h0 (Region.noSelect_spec hsel) hs hc hn (by omega) (fun listed' a' hL => seqB_ready hL.1) _ listed a inv (Region.free_spec h0 hB.1.2) hr hy H
    · subst hkm
      rw [if_pos rfl] at hB h
      have H := ih (k + 1) listed a hl' (by omega) inv hB h
      rw [if_neg (by omega)] at H
      rw [if_pos (by omega)]
      simpa using H

theorem wpOp_of_firm {i : Nat} {o : Oper} {v : Value} {a : Act} {w : World} {K : Act → World → Prop} {Q : Exit → Act → World → Prop} (hi : ops[i]? = some o) (hw : Below W.heap.size W w)
    (hy : FYields P ops W o a v) (h : ∀ w', Below w.heap.size w w' → K (a.put o.dst v) w') : wpOp P ops Q i K a w := by
  have hput : ∀ u, (o.dst = none ∨ u = v) → a.put o.dst u = a.put o.dst v := by
    rintro u (hd | rfl)
    · rw [hd]; rfl
    · rfl
  unfold wpOp
  rw [hi]
  dsimp only
  rcases hy with ⟨hwt, hv⟩ | ⟨hwt, hd⟩
  · rw [if_pos hwt]
    refine .inl ?_
    have h3 := hv w hw
    unfold Oper.wp
    generalize (execOp a.eval o).run P w = r at *
    cases r with
    | ok nx w' =>
      cases nx <;> simp only [firmUpon] at h3 <;> simp only [Oper.upon]
      case value u => obtain ⟨rfl, e2⟩ := h3; rw [hput u e2]; exact h _ (Below.refl _ _)
      case skip => obtain ⟨rfl, e2⟩ := h3; rw [hput undef e2]; exact h _ (Below.refl _ _)
      case enter f args =>
        obtain ⟨rfl, hc⟩ := h3
        exact hc.mono fun e w'' ⟨⟨u, he, hu⟩, hb⟩ => by subst he; dsimp only; rw [hput u hu]; exact h _ hb
    | halt x w' => simp only [firmUpon] at h3
  · rw [hwt, if_neg Bool.false_ne_true, hput undef hd]
    exact h _ (Below.refl _ _)

theorem heap_lt {w : World} {b : Nat} {o : Obj} (h : w.heap[b]? = some o) : b < w.heap.size := (Array.getElem?_eq_some_iff.1 h).1

theorem newcell {w : World} {b : Nat} {c : Array Value} {t : TypeId} (h : w.heap[b]? = some (.cells c t)) : (∀ o, cellOf w b o = c[o]?) ∧ (∀ o, frozenOf w b o = false) := by
  refine ⟨fun o => ?_, fun o => ?_⟩
  · unfold cellOf World.cell?; rw [h]; rfl
  · unfold frozenOf World.frozen?; rw [h]; simp

/-- The variable made already. -/
theorem any_made {n m g d : Nat} {om : Oper} {obj : Obj} {L : Array Bool → Act → Prop} {Q : Exit → Act → World → Prop} (hmd : om.dst = some d)
    (hL : ∀ listed a w b, Below W.heap.size W w → W.heap.size ≤ b → w.heap[b]? = some obj → L listed a → wpAny P md ops Q g listed (a.put (some d) (.pointer (some ⟨b, 0, none⟩))) w)
    (hap : ∀ j oj, ops[j]? = some oj → j ≠ m → j < n → om.apart ops oj = true) (hsel : ∀ (j : Nat) (o : Oper) cs b, ops[j]? = some o → o.op ≠ .select cs b) (f : Nat) :
    ∀ (listed : Array Bool) (a : Act) (w : World) (b : Nat), Below W.heap.size W w → W.heap.size ≤ b → w.heap[b]? = some obj → listed.getD m true = true → headF P ops W md n L f listed a →
        wpAny P md ops Q (f + g) listed (a.put (some d) (.pointer (some ⟨b, 0, none⟩))) w := by
  induction f with
  | zero => intro listed a w b hw hb ho _ h; rw [Nat.zero_add]; exact hL _ _ _ _ hw hb ho h
  | succ f ih =>
    intro listed a w b hw hb ho hml h
    rw [Nat.add_right_comm f 1 g]
    refine ⟨fun h0 => (h.1 h0).elim, fun i hi => ?_⟩
    obtain ⟨hin, o, v, hio, hy, hK⟩ := h.2 i hi
    have him : i ≠ m := fun e => by
      have := (mem_ready.1 hi).1
      rw [e, hml] at this; exact Bool.noConfusion this
    obtain ⟨h1, h2, h3⟩ := Oper.apart_spec (hap i o hio him hin)
    rw [hmd] at h1 h2
    refine wpOp_of_firm hio hw (hy.of_same (execOp_put o (fun cs b => hsel i o cs b hio) a _ _ h1) (wanted_put o a _ _ h1)) (fun w' hb' => ?_)
    rw [Act.put_comm a _ v h2]
    refine ih _ _ w' b (hw.trans (hb'.mono hw.size)) hb ?_ ?_ hK
    · rw [hb'.block b (heap_lt ho)]; exact ho
    · rwa [getD_set_ne true him]

/-- .. and at whatever time. -/
theorem any_alloc {n m g d : Nat} {om : Oper} {obj : Obj} {L : Array Bool → Act → Prop} {Q : Exit → Act → World → Prop} (hmo : ops[m]? = some om) (hmd : om.dst = some d) (hmn : m < n)
    (hs : Region.sinkB md ops n = true) (hc : Region.chainB md ops n = true) (hn : n < ops.size)
    (hguard : om.guard = none)
    (hrun : ∀ a w, (execOp (Act.eval a) om).run P w = .ok (.value (.pointer (some ⟨w.heap.size, 0, none⟩))) (w.alloc obj))
    (hL : ∀ listed a w b, Below W.heap.size W w → W.heap.size ≤ b → w.heap[b]? = some obj → L listed a → wpAny P md ops Q g listed (a.put (some d) (.pointer (some ⟨b, 0, none⟩))) w)
    (hdone : ∀ listed a, L listed a → ∀ j ∈ Region.ready md ops listed, n ≤ j)
    (hap : ∀ j oj, ops[j]? = some oj → j ≠ m → j < n → om.apart ops oj = true) (hsel : ∀ (j : Nat) (o : Oper) cs b, ops[j]? = some o → o.op ≠ .select cs b) (f : Nat) :
    ∀ (listed : Array Bool) (a : Act) (w : World), Below W.heap.size W w → HeadInv md ops n listed → m ∈ Region.ready md ops listed → headF P ops W md n L f (listed.setIfInBounds m true) a →
        wpAny P md ops Q (f + 1 + g) listed a w := by
  induction f with
  | zero =>
    intro listed a w hw inv hmr h
    have hun := (mem_ready.1 hmr).1
    rw [Nat.add_right_comm]
    refine ⟨fun h0 => (List.ne_nil_of_mem hmr h0).elim, fun i hi => ?_⟩
    have hin : i < n := Nat.lt_of_not_le fun h => tail_waits hs hc hn inv _ m rfl hmn hun i h hi
    rcases Nat.decEq i m with him | him
    · exact absurd (hdone _ _ h i (ready_mono hi him)) (by omega)
    · subst him
      unfold wpOp
      rw [hmo]
      dsimp only
      rw [if_pos (by simp [Region.wanted, hguard])]
      refine .inl ?_
      unfold Oper.wp
      rw [hrun, Oper.upon_value, hmd]
      refine any_made hmd hL hap hsel 0 _ _ _ _ (hw.alloc hw.size _) hw.size (by simp only [World.alloc, Array.getElem?_push, if_true]) ?_ h
      have : i < listed.size := by rw [inv.size]; omega
      simp [this]
  | succ f ih =>
    intro listed a w hw inv hmr h
    have hun := (mem_ready.1 hmr).1
    rw [Nat.add_right_comm]
    refine ⟨fun h0 => (List.ne_nil_of_mem hmr h0).elim, fun i hi => ?_⟩
    have hin : i < n := Nat.lt_of_not_le fun h => tail_waits hs hc hn inv _ m rfl hmn hun i h hi
    rcases Nat.decEq i m with him | him
    · obtain ⟨-, o, v, hio, hy, hK⟩ := h.2 i (ready_mono hi him)
      refine wpOp_of_firm hio hw hy (fun w' hb' => ih _ _ w' (hw.trans (hb'.mono hw.size)) (inv.set hi hin) (ready_mono hmr (Ne.symm him)) ?_)
      rw [Array.setIfInBounds_comm _ _ him]; exact hK
    · subst him
      unfold wpOp
      rw [hmo]
      dsimp only
      rw [if_pos (by simp [Region.wanted, hguard])]
      refine .inl ?_
      unfold Oper.wp
      rw [hrun, Oper.upon_value, hmd]
      refine any_made hmd hL hap hsel (f + 1) _ _ _ _ (hw.alloc hw.size _) hw.size (by simp only [World.alloc, Array.getElem?_push, if_true]) ?_ h
      have : i < listed.size := by rw [inv.size]; omega
      simp [this]
end

/-- The Bool on a region: n operations ahead of its tail, number m among them a variable that is made, which no other of them looks at. -/
def allocB (ops : Array Oper) (n m : Nat) : Bool :=
  Region.noSelect ops && decide (n < ops.size) && decide (m < n) && Region.sinkB .any ops n && Region.chainB .any ops n &&
  (match ops[m]? with
   | some om => om.guard.isNone && om.after.isEmpty && (List.range n).all (fun j => decide (j = m) || (match ops[j]? with | some oj => om.apart ops oj | none => true))
   | none => false) &&
  lexHeadBut .any ops m (ops.size - n) n 0 ((Array.replicate ops.size false).setIfInBounds m true)

theorem wp_region_alloc {P : Program} {id : Nat} {Q : Exit → Act → World → Prop} {a : Act} {w : World} {l : List Oper} (n m : Nat) {d : Nat} {om : Oper} {obj : Obj} (hm : P.follows .mixedOrders = true)
    (hB : allocB l.toArray n m = true) (hmo : l[m]? = some om) (hmd : om.dst = some d)
    (hrun : ∀ a w, (execOp (Act.eval a) om).run P w = .ok (.value (.pointer (some ⟨w.heap.size, 0, none⟩))) (w.alloc obj))
    (h : wpFirm P l.toArray w m (fun a' => ∀ w' b, Below w.heap.size w w' → w.heap.size ≤ b → w'.heap[b]? = some obj → wpList P l.toArray Q (l.drop n) (a'.put (some d) (.pointer (some ⟨b, 0, none⟩))) w') (l.take n) 0 a) :
    (Code.region id l.toArray true).wp P Q a w := by
  simp only [allocB, Bool.and_eq_true, decide_eq_true_eq] at hB
  obtain ⟨⟨⟨⟨⟨⟨hsel, hn⟩, hmn⟩, hs⟩, hc⟩, hom⟩, hlex⟩ := hB
  have hmo' : l.toArray[m]? = some om := by simpa using hmo
  rw [hmo'] at hom
  simp only [Bool.and_eq_true, List.all_eq_true, List.mem_range, Bool.or_eq_true, decide_eq_true_eq, Option.isNone_iff_eq_none] at hom
  obtain ⟨⟨hguard, haft⟩, hap⟩ := hom
  have haft' : om.after = #[] := by simpa using haft
  have hn' : n < l.length := by simpa using hn
  have htl : (l.take n).length = n := by simp only [List.length_take]; omega
  have hdl : (l.drop n).length = l.toArray.size - n := by simp
  have inv0 : HeadInv .any l.toArray n (Array.replicate l.toArray.size false) :=
    ⟨by simp, fun j oj _ hl => by rw [getD_replicate_false] at hl; exact Bool.noConfusion hl, fun t _ ht => getD_in (by simpa using ht) (getD_replicate_false _ _)⟩
  have hmr : m ∈ Region.ready .any l.toArray (Array.replicate l.toArray.size false) :=
    mem_ready.2 ⟨getD_in (by simp; omega) (getD_replicate_false _ _), om, hmo', fun e he => by rw [haft'] at he; exact absurd he (Array.not_mem_empty e)⟩
  have inv1 := inv0.set hmr hmn
  have H := headF_lex (P := P) (W := w) (md := .any) (g := l.toArray.size - n) hsel hs hc hn (l.take n) 0 _ a (fun j hj => by
    have hj' : j < n := by rw [htl] at hj; exact hj
    simp [hj']) (by rw [htl]; omega) inv1 (by rw [htl]; exact hlex) h
  rw [htl, if_pos (by omega)] at H
  refine wp_region_any hm ?_
  have hfin := any_alloc (Q := Q) (g := l.toArray.size - n) hmo' hmd hmn hs hc hn hguard hrun (fun listed a' w' b hw' hb ho hL => by
    have := wpAny_of_seq (md := .any) (Q' := Q) (l.drop n) n listed _ w' (fun j => by simp [List.getElem?_drop]) (by rw [hdl]; exact hL.1) (hL.2 w' b hw' hb ho)
    rwa [hdl] at this) (fun listed' a' hL => seqB_ready hL.1) (fun j oj hj hne hlt => by
      rcases hap j hlt with h | h
      · exact absurd h hne
      · rw [hj] at h; exact h) (Region.noSelect_spec hsel) (n - 1) _ a _ ((Below.refl w.heap.size w).drew) inv0 hmr H
  rw [show n - 1 + 1 + (l.toArray.size - n) = l.toArray.size by omega] at hfin
  exact hfin

/-! ### The steps of the walk -/
section
variable {P : Program} {ops : Array Oper} {W : World} {m k : Nat} {Q : Act → Prop} {o : Oper} {rest : List Oper} {a : Act}
theorem firm_nil (h : Q a) : wpFirm P ops W m Q [] k a := h
theorem firm_made (hk : k = m) (h : wpFirm P ops W m Q rest (k + 1) a) : wpFirm P ops W m Q (o :: rest) k a := by
  unfold wpFirm; rw [if_pos hk]; exact h
theorem firm_skip (hk : (k == m) = false) (hw : Region.wanted o (yielded ops a.tmps) = false) (h : wpFirm P ops W m Q rest (k + 1) (a.put o.dst undef)) : wpFirm P ops W m Q (o :: rest) k a := by
  unfold wpFirm; rw [if_neg (by simpa using hk)]; exact ⟨undef, .inr ⟨hw, .inr rfl⟩, h⟩
/-- One operation: it is shown quiet from every world on; A' is the frame behind it. -/
theorem firm_step {A' : Act} (hk : (k == m) = false) (hw : Region.wanted o (yielded ops a.tmps) = true) (hd : o.dst.all (fun d => decide (d < a.tmps.size)) = true)
    (h : ∀ (x0 : Ext) (K : Act → Prop), (∀ a', a' = A' → K a') → o.quiet P a (fun w' => ∃ x, w' = ext (ext W x0) x) K) (hr : wpFirm P ops W m Q rest (k + 1) A') : wpFirm P ops W m Q (o :: rest) k a := by
  have hv : ∀ x0 : Ext, ∃ v, (∀ w, (∃ x, w = ext (ext W x0) x) → o.quietAt P a (fun w' => ∃ x, w' = ext (ext W x0) x) w v) ∧ a.put o.dst v = A' := fun x0 => h x0 (fun a' => a' = A') (fun a' e => e)
  obtain ⟨v0, -, hv0⟩ := hv ⟨#[], 0⟩
  have hval : ∀ v, a.put o.dst v = A' → o.dst = none ∨ v = v0 := by
    intro v hv
    rw [← hv0] at hv
    cases hd' : o.dst with
    | none => exact .inl rfl
    | some d =>
      refine .inr ?_
      rw [hd'] at hv hd
      simp only [Option.all_some, decide_eq_true_eq] at hd
      have := congrArg (fun A => A.tmps[d]?) hv
      simpa [Act.put, hd] using this
  unfold wpFirm
  rw [if_neg (by simpa using hk)]
  refine ⟨v0, .inl ⟨hw, fun w hb => ?_⟩, hv0 ▸ hr⟩
  obtain ⟨x0, rfl⟩ := ext_of_below hb
  obtain ⟨v, hq, hv⟩ := hv x0
  have h3 := hq (ext W x0) ⟨⟨#[], x0.d⟩, by simp [ext]⟩
  have hu := hval v hv
  unfold Oper.quietAt at h3
  generalize (execOp a.eval o).run P (ext W x0) = r at *
  cases r with
  | ok nx w' =>
    cases nx <;> simp only [Oper.quietUpon] at h3 <;> simp only [firmUpon]
    case value u => exact ⟨h3.1, h3.2 ▸ hu⟩
    case skip => exact ⟨h3.1, h3.2 ▸ hu⟩
    case enter f args => exact ⟨h3.1, h3.2.mono fun e w'' ⟨he, x, hx⟩ => ⟨⟨v, he, hu⟩, hx ▸ below_ext _ _⟩⟩
  | halt x w' => simp only [Oper.quietUpon] at h3
end
end Go.Proofs.YtbkhcdmmnlkhdaaGreat
