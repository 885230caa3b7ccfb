/- Deeds, of the document and of a stack: what each leaves, and answers. -/
import Derived.Test.YteldbnelfeiifaaStkZf
namespace Go.Proofs.Yteldbnelfeiifaa
open Go.RowKit Go.Proofs.YteldbnelfeiifaaW.PrintWords
set_option linter.unusedSimpArgs false
set_option linter.unusedVariables false
set_option maxRecDepth 1000000
theorem raise_drop (l : List K2) {k o : K2} (h : k ≠ o) : raiseS l k o = (dropL l k).flatMap (fun x => [x] ++ (if x = o then [k] else [])) := by
  unfold raiseS dropL
  induction l with
  | nil => rfl
  | cons x l ih =>
    rw [List.flatMap_cons, ih]
    by_cases hx : x = k
    · subst hx
      rw [List.filter_cons_of_neg (by simp), if_pos rfl, if_neg h]
      rfl
    · rw [List.filter_cons_of_pos (by simpa using hx), if_neg hx, List.flatMap_cons]
theorem flat_none {a : List K2} {o k : K2} (h : o ∉ a) : a.flatMap (fun x => [x] ++ (if x = o then [k] else [])) = a := by
  induction a with
  | nil => rfl
  | cons x l ih =>
    rw [List.flatMap_cons, ih (fun hm => h (List.mem_cons_of_mem _ hm)), if_neg (fun e => h (by rw [e]; exact List.mem_cons_self ..))]
    rfl
theorem raise_ins {l : List K2} {k o : K2} (hnd : l.Nodup) (ho : o ∈ l) (h : k ≠ o) : raiseS l k o = insL (dropL l k) ((dropL l k).idxOf o + 1) k := by
  rw [raise_drop l h]
  have hnd' : (dropL l k).Nodup := hnd.filter _
  have ho' : o ∈ dropL l k := dropL_mem.2 ⟨ho, fun e => h e.symm⟩
  generalize dropL l k = D at *
  obtain ⟨a, b, hD, hi⟩ := split_at ho'
  rw [← hi]
  subst hD
  have h1 : o ∉ a := fun hm => by
    rw [List.nodup_append] at hnd'
    exact hnd'.2.2 o hm o (by simp) rfl
  have h2 : o ∉ b := fun hm => by
    rw [List.nodup_append] at hnd'
    have := hnd'.2.1
    simp at this
    exact this.1 hm
  rw [List.flatMap_append, List.flatMap_append, flat_none h1, flat_none h2]
  unfold insL
  have t1 : (a ++ ([o] ++ b)).take (a.length + 1) = a ++ [o] := by rw [← List.append_assoc, List.take_left' (by simp)]
  have t2 : (a ++ ([o] ++ b)).drop (a.length + 1) = b := by rw [← List.append_assoc, List.drop_left' (by simp)]
  rw [t1, t2]
  simp
/-- A row that is read, whose block is none of a stack's. -/
structure Rw (w : World) (p : Nat) (A : Option Addr) (l : List K2) (c : Nat) : Prop where
  kr : KR w A l c
  free : ∀ ad, A = some ad → ad.block < w.heap.size ∧ Free w p ad.block
theorem Rw.keeps {w w1 : World} {p : Nat} {A : Option Addr} {l : List K2} {c : Nat} (h : Rw w p A l c) (hk : Keeps p w w1) : Rw w1 p A l c :=
  ⟨⟨h.kr.le, h.kr.nil, h.kr.max, hk.row h.kr.row (fun ad e => (h.free ad e).2)⟩, fun ad e => ⟨Nat.lt_of_lt_of_le (h.free ad e).1 hk.1, (hk.2 _ (h.free ad e).1 (h.free ad e).2).2⟩⟩
theorem Rw.below {w w1 : World} {p : Nat} {A : Option Addr} {l : List K2} {c : Nat} (h : Rw w p A l c) (hp : p < w.heap.size) (hb : Below w.heap.size w w1) : Rw w1 p A l c := h.keeps (Keeps.below hb hp)
theorem Rw.of_own {w w' : World} {p : Nat} {v : Value} {m l : List K2} {t : TypeId} (hs : Stk w p m) (hb : Below w.heap.size w w') (ho : OwnK w' w.heap.size t v l) : ∃ A c, v = .slice A l.length c ∧ Rw w' p A l c := by
  obtain ⟨A, c, rfl, hk⟩ := ho.kr
  exact ⟨A, c, rfl, hk, fun ad e => by subst e; have := World.ownsRow.lt ho ad.block rfl; exact ⟨this.2, hs.free hb this.1⟩⟩
def DocP (w : World) (p : Nat) (m : List K2) (an : Value) (e : Ending) (w' : World) : Prop := ∃ A c, e = .returned (.tuple #[.slice A m.length c, an]) ∧ Rw w' p A m c ∧ Below w.heap.size w w'
section
variable {p : Nat} {A : Option Addr} {m : List K2} {c : Nat} {a b : K2} {w : World}
theorem doc_of_own {w' : World} {v an : Value} {l : List K2} (hs : Stk w p m) (hb : Below w.heap.size w w') (ho : OwnK w' w.heap.size 56 v l) : DocP w p l an (.returned (.tuple #[v, an])) w' := by
  obtain ⟨A, c, rfl, hr⟩ := Rw.of_own hs hb ho
  exact ⟨A, c, rfl, hr, hb⟩
theorem doc_Add (hs : Stk w p m) (hr : Rw w p A m c) (hl : m.length ≤ 1000) : Calls Try.prog 58 #[.slice A m.length c, (.agg #[.int .i64 (a).c, .int .i64 (a).i])] w (DocP w p (addL m a) (.bool (decide (a ∉ m)))) :=
  (ref_Add A m c a w (by omega) hr.kr).mono fun e w' h => by
    obtain ⟨v, rfl, hv, hb⟩ := h
    by_cases ha : a ∈ m
    · rw [if_pos ha] at hv
      subst hv
      rw [addL_in ha]
      exact ⟨A, c, rfl, hr.below hs.lt hb, hb⟩
    · rw [if_neg ha] at hv
      exact doc_of_own hs hb hv
theorem doc_Drop (hs : Stk w p m) (hr : Rw w p A m c) (hl : m.length ≤ 1000) : Calls Try.prog 42 #[.slice A m.length c, (.agg #[.int .i64 (a).c, .int .i64 (a).i])] w (DocP w p (dropL m a) (.bool (decide (a ∈ m)))) :=
  (ref_Drop A m c a w (by omega) hr.kr).mono fun e w' h => by
    obtain ⟨v, rfl, hv, hb⟩ := h
    exact doc_of_own hs hb hv
def raiseM (m : List K2) (a b : K2) : List K2 := if a ∉ m ∨ b ∉ m then m else if a = b then m else insL (dropL m a) ((dropL m a).idxOf b + 1) a
def raiseE (m : List K2) (a b : K2) : Int := if a ∉ m ∨ b ∉ m then 5 else if a = b then 1 else 0
theorem doc_Raise (hs : Stk w p m) (hr : Rw w p A m c) (hl : m.length ≤ 1000) : Calls Try.prog 70 #[.slice A m.length c, (.agg #[.int .i64 (a).c, .int .i64 (a).i]), (.agg #[.int .i64 (b).c, .int .i64 (b).i])] w (DocP w p (raiseM m a b) (.int .i64 (raiseE m a b))) :=
  (ref_Raise A m c a b w (by omega) hr.kr).mono fun e w' h => by
    obtain ⟨v, r, rfl, hv, hb⟩ := h
    unfold raiseM raiseE
    by_cases h1 : a ∉ m ∨ b ∉ m
    · rw [if_pos h1] at hv
      rw [if_pos h1, if_pos h1, hv.1, hv.2]
      exact ⟨A, c, rfl, hr.below hs.lt hb, hb⟩
    · rw [if_neg h1] at hv
      rw [if_neg h1, if_neg h1]
      by_cases h2 : a = b
      · rw [if_pos h2] at hv
        rw [if_pos h2, if_pos h2, hv.1, hv.2]
        exact ⟨A, c, rfl, hr.below hs.lt hb, hb⟩
      · rw [if_neg h2] at hv
        rw [if_neg h2, if_neg h2, hv.1]
        have hbm : b ∈ m := Classical.byContradiction fun h => h1 (.inr h)
        have := hv.2
        rw [raise_ins hs.nodup hbm h2] at this
        exact doc_of_own hs hb this
theorem st_Raise (hs : Stk w p m) (hl : m.length ≤ 1000) : Calls Try.prog 35 #[(.pointer (some ⟨p, 0, none⟩)), (.agg #[.int .i64 (a).c, .int .i64 (a).i]), (.agg #[.int .i64 (b).c, .int .i64 (b).i])] w fun e w' => e = .returned (.int .i64 (raiseE m a b)) ∧ StkP w p (raiseM m a b) w' :=
  (stk_Raise p m a b w (by omega) hs).mono fun e w' h => by
    unfold RaiseP at h
    unfold raiseM raiseE
    split at h
    · next h1 => rw [if_pos h1, if_pos h1]; exact h
    · next h1 =>
      rw [if_neg h1, if_neg h1]
      split at h
      · next h2 => rw [if_pos h2, if_pos h2]; exact h
      · next h2 => rw [if_neg h2, if_neg h2]; exact h
def topM (m : List K2) (a : K2) : List K2 := if a ∈ m then dropL m a ++ [a] else m
def lowM (m : List K2) (a : K2) : List K2 := if a ∈ m then [a] ++ dropL m a else m
def moveE (m : List K2) (a : K2) : Int := if a ∈ m then 0 else 5
theorem doc_move {l' : List K2} {e : Ending} {w' : World} (hs : Stk w p m) (hr : Rw w p A m c) (h : MoveR w (.slice A m.length c) m a l' e w') : DocP w p (if a ∈ m then l' else m) (.int .i64 (moveE m a)) e w' := by
  obtain ⟨v, r, rfl, hv, hb⟩ := h
  unfold moveE
  by_cases ha : a ∈ m
  · rw [if_pos ha] at hv
    rw [if_pos ha, if_pos ha, hv.1]
    exact doc_of_own hs hb hv.2
  · rw [if_neg ha] at hv
    rw [if_neg ha, if_neg ha, hv.1, hv.2]
    exact ⟨A, c, rfl, hr.below hs.lt hb, hb⟩
theorem doc_Top (hs : Stk w p m) (hr : Rw w p A m c) (hl : m.length ≤ 1000) : Calls Try.prog 71 #[.slice A m.length c, (.agg #[.int .i64 (a).c, .int .i64 (a).i])] w (DocP w p (topM m a) (.int .i64 (moveE m a))) :=
  (ref_Top A m c a w (by omega) hr.kr).mono fun e w' h => doc_move hs hr h
theorem doc_Lower (hs : Stk w p m) (hr : Rw w p A m c) (hl : m.length ≤ 1000) : Calls Try.prog 72 #[.slice A m.length c, (.agg #[.int .i64 (a).c, .int .i64 (a).i])] w (DocP w p (lowM m a) (.int .i64 (moveE m a))) :=
  (ref_Lower A m c a w (by omega) hr.kr).mono fun e w' h => doc_move hs hr h
theorem st_Top (hs : Stk w p m) (hl : m.length ≤ 1000) : Calls Try.prog 40 #[(.pointer (some ⟨p, 0, none⟩)), (.agg #[.int .i64 (a).c, .int .i64 (a).i])] w fun e w' => e = .returned (.int .i64 (moveE m a)) ∧ StkP w p (topM m a) w' :=
  (stk_Top p m a w (by omega) hs).mono fun e w' h => by
    unfold ToP at h
    unfold topM moveE
    split at h
    · next h1 => rw [if_pos h1, if_pos h1]; refine ⟨h.1, ?_⟩; have := h.2; simpa [insL] using this
    · next h1 => rw [if_neg h1, if_neg h1]; exact h
theorem st_Lower (hs : Stk w p m) (hl : m.length ≤ 1000) : Calls Try.prog 41 #[(.pointer (some ⟨p, 0, none⟩)), (.agg #[.int .i64 (a).c, .int .i64 (a).i])] w fun e w' => e = .returned (.int .i64 (moveE m a)) ∧ StkP w p (lowM m a) w' :=
  (stk_Lower p m a w (by omega) hs).mono fun e w' h => by
    unfold ToP at h
    unfold lowM moveE
    split at h
    · next h1 => rw [if_pos h1, if_pos h1]; refine ⟨h.1, ?_⟩; have := h.2; simpa [insL] using this
    · next h1 => rw [if_neg h1, if_neg h1]; exact h
end
theorem insL_len {D : List K2} {r : Nat} {k : K2} : (insL D r k).length = D.length + 1 := by
  unfold insL; simp; omega
theorem raiseM_len (m : List K2) (a b : K2) : (raiseM m a b).length ≤ m.length + 1 := by
  unfold raiseM
  split
  · omega
  · split
    · omega
    · rw [insL_len]; have := dropL_len m a; omega
theorem topM_len (m : List K2) (a : K2) : (topM m a).length ≤ m.length + 1 := by
  unfold topM; split
  · rw [List.length_append]; have := dropL_len m a; simp; omega
  · omega
theorem lowM_len (m : List K2) (a : K2) : (lowM m a).length ≤ m.length + 1 := by
  unfold lowM; split
  · rw [List.length_append]; have := dropL_len m a; simp; omega
  · omega
/-- What a deed leaves. -/
def deedL (n : Int) (m : List K2) (a b : K2) : List K2 :=
  if n = 0 then addL m a else if n = 1 then dropL m a else if n = 2 then dropA m a.c else if n = 3 then raiseM m a b else if n = 4 then topM m a else if n = 5 then lowM m a else m
theorem deedL_len (n : Int) (m : List K2) (a b : K2) : (deedL n m a b).length ≤ m.length + 1 := by
  unfold deedL
  repeat' split
  · exact addL_len m a
  · have := dropL_len m a; omega
  · have := dropA_len m a.c; omega
  · exact raiseM_len m a b
  · exact topM_len m a
  · exact lowM_len m a
  · omega
end Go.Proofs.Yteldbnelfeiifaa
