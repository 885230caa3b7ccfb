/- Rows of keys of the call's own; the document's lists of keys, walked. -/
import Derived.Test.YteldbnelfeiifaaStkA
import Derived.OwnWalk
import Derived.Laws.AppendOwnNone
import Derived.Deep.Slices
namespace Go.Proofs.Yteldbnelfeiifaa
open Go.RowKit Go.Proofs.YteldbnelfeiifaaW.PrintWords
set_option linter.unusedSimpArgs false
set_option linter.unusedVariables false
set_option maxRecDepth 1000000
attribute [local go_sem high] eqK eqKS
def K2.cells (k : K2) : List Value := [.int .i64 k.c, .int .i64 k.i]
def flatK (l : List K2) : List Value := l.flatMap K2.cells
theorem flatK_append (l m : List K2) : flatK (l ++ m) = flatK l ++ flatK m := by simp [flatK]
theorem flatK_one (k : K2) : flatK [k] = [.int .i64 k.c, .int .i64 k.i] := rfl
theorem flatK_len (l : List K2) : (flatK l).length = l.length * 2 := by
  induction l with
  | nil => rfl
  | cons h l ih => simp only [flatK, List.flatMap_cons, List.length_append, List.length_cons] at *; simp only [K2.cells, List.length_cons, List.length_nil]; omega
theorem flatK_get (l : List K2) (i j : Nat) (hi : i < l.length) (hj : j < 2) : (flatK l)[i * 2 + j]? = ((atK l i).cells)[j]? := by
  rw [atK_get hi]
  induction l generalizing i with
  | nil => simp at hi
  | cons h l ih =>
    have hl : h.cells.length = 2 := rfl
    show (h.cells ++ flatK l)[i * 2 + j]? = _
    cases i with
    | zero => simp only [Nat.zero_mul, Nat.zero_add, List.getElem_cons_zero]; rw [List.getElem?_append_left (by omega)]
    | succ i =>
      rw [List.getElem?_append_right (by omega), show (i + 1) * 2 + j - h.cells.length = i * 2 + j by omega]
      exact ih i (by simpa using hi)
theorem flatK_one' (l : List K2) : ∀ u ∈ flatK l, u.oneCell' = true := by
  intro u hu
  obtain ⟨k, _, hk⟩ := List.mem_flatMap.1 hu
  simp only [K2.cells, List.mem_cons, List.not_mem_nil, or_false] at hk
  rcases hk with rfl | rfl <;> rfl
/-- A slice of keys: its row, its room. -/
structure KR (w : World) (A : Option Addr) (l : List K2) (c : Nat) : Prop where
  le : l.length ≤ c
  nil : A = none → c = 0
  max : c ≤ 9223372036854775807
  row : KRow w A l
theorem KR.below {w w1 : World} {A : Option Addr} {l : List K2} {c : Nat} (h : KR w A l c) (hb : Below w.heap.size w w1) : KR w1 A l c := ⟨h.le, h.nil, h.max, h.row.below hb⟩
theorem KR.len {w : World} {A : Option Addr} {l : List K2} {c : Nat} (h : KR w A l c) : l.length ≤ 9223372036854775807 := Nat.le_trans h.le h.max
theorem KRow.news {w : World} {ad : Addr} {l : List K2} (h : KRow w (some ad) l) : ∀ j u, (flatK l)[j]? = some u → w.cell? (ad.add j) = some u := by
  intro j u hj
  have hjl := (List.getElem?_eq_some_iff.1 hj).1
  rw [flatK_len] at hjl
  obtain ⟨ad', e, h0, h1⟩ := h (j / 2) (by omega)
  injection e with e
  subst e
  rcases Nat.mod_two_eq_zero_or_one j with hm | hm
  · rw [show j = j / 2 * 2 + 0 by omega] at hj ⊢
    rw [flatK_get l _ _ (by omega) (by omega)] at hj
    rw [Nat.add_zero, h0]; exact hj
  · rw [show j = j / 2 * 2 + 1 by omega] at hj ⊢
    rw [flatK_get l _ _ (by omega) (by omega)] at hj
    rw [add_field _ _ _ (by omega), h1]; exact hj
theorem KRow.of_news {w : World} {ad : Addr} {l : List K2} (h : ∀ j u, (flatK l)[j]? = some u → w.cell? (ad.add j) = some u) : KRow w (some ad) l := by
  intro i hi
  refine ⟨ad, rfl, h _ _ ?_, ?_⟩
  · have := flatK_get l i 0 hi (by omega); rw [Nat.add_zero] at this; rw [this]; rfl
  · rw [← add_field _ _ _ (by omega)]; exact h _ _ (by rw [flatK_get l i 1 hi (by omega)]; rfl)
/-- A row of keys of the call's own. -/
def OwnK (w : World) (base : Nat) (t : TypeId) (v : Value) (l : List K2) : Prop := w.ownsRow base t 2 v l.length (flatK l)
theorem OwnK.nil (w : World) (base : Nat) (t : TypeId) : OwnK w base t (.slice none 0 0) [] := own_nil _ _ _ _
theorem OwnK.below {w w1 : World} {base : Nat} {t : TypeId} {v : Value} {l : List K2} (h : OwnK w base t v l) (hb : Below w.heap.size w w1) : OwnK w1 base t v l := pw_own_below h hb
theorem OwnK.mono {w : World} {b1 b2 : Nat} {t : TypeId} {v : Value} {l : List K2} (h : OwnK w b1 t v l) (hb : b2 ≤ b1) : OwnK w b2 t v l := by
  refine ⟨h.1, h.2.imp id fun ⟨g, cap, cur, h0, h1, h2⟩ => ⟨g, cap, cur, h0, by omega, h2⟩⟩
theorem OwnK.kr {w : World} {base : Nat} {t : TypeId} {v : Value} {l : List K2} (h : OwnK w base t v l) : ∃ A c, v = .slice A l.length c ∧ KR w A l c := by
  rcases h.2 with ⟨rfl, h0⟩ | ⟨g, cap, cur, rfl, hg, hh, h1, h2, _⟩
  · obtain rfl := List.eq_nil_of_length_eq_zero h0
    exact ⟨none, 0, rfl, Nat.le_refl _, fun _ => rfl, by omega, KRow.nil _ _⟩
  · exact ⟨_, cap, rfl, h1, fun e => (by cases e), (by unfold maxLen at h2; omega), KRow.of_news (World.ownsRow.cells h (g := g) rfl)⟩
theorem info_k : (Try.prog.info? 56).map (fun i => (i.zero, i.size, i.bytes)) = some (some (.agg #[.int .i64 (0), .int .i64 (0)]), 2, 16) := by kernel_rfl
theorem info_s : (Try.prog.info? 62).map (fun i => (i.zero, i.size, i.bytes)) = some (some (.agg #[.int .i64 (0), .int .i64 (0)]), 2, 16) := by kernel_rfl
theorem OwnK.snoc {w : World} {base : Nat} {t : TypeId} {v : Value} {l : List K2} {k : K2} (h : w.ownsRow base t 2 v (l.length + 1) (flatK l ++ [.int .i64 k.c, .int .i64 k.i])) : OwnK w base t v (l ++ [k]) := by
  unfold OwnK; rw [flatK_append, flatK_one, List.length_append]; exact h
theorem takeK (l : List K2) (k : Nat) (h : k < l.length) : l.take (k + 1) = l.take k ++ [atK l k] := by
  rw [List.take_succ_eq_append_getElem h, atK_get h]
def RowP (w : World) (t : TypeId) (l : List K2) (e : Ending) (w' : World) : Prop := ∃ v, e = .returned v ∧ OwnK w' w.heap.size t v l ∧ Below w.heap.size w w'
theorem law_as (A : Option Addr) (l : List K2) (c : Nat) (w : World) (hl : l.length ≤ 1000000) (hr : KR w A l c) : Calls Try.prog 38 #[.slice A l.length c] w (RowP w 56 l) := by
  go_enter Try.func38, Try.ntmps38
  have hrow := hr.row
  clear hr
  go_wp2
  go_loopw [3, 4] (fun v i wr => ∃ j : Nat, j ≤ l.length ∧ i = .int .i64 j ∧ Below w.heap.size w wr ∧ OwnK wr w.heap.size 56 v (l.take j)) (fun _ i _ => l.length - (intOf i).toNat)
  case atStart => exact ⟨0, by omega, rfl, Below.refl _ _, OwnK.nil _ _ _⟩
  case round =>
    obtain ⟨j, hj, rfl, hbr, hown⟩ := hrel
    have hzr := hbr.size
    by_cases hlt : j < l.length
    · obtain ⟨ad, rfl, f0, f1⟩ := hrow j hlt
      have g0 := pw_cell_below hbr f0; have g1 := pw_cell_below hbr f1
      have HT := Lib.hid (takeK l j hlt)
      have HJ : (l.take j).length = j := by simp; omega
      have HL := Lib.hid HJ
      clear f0 f1 hrow HJ
      obtain ⟨m, hm⟩ : ∃ m, l.take j = m := ⟨_, rfl⟩
      have hml : m.length ≤ 1000000 := by rw [← hm]; simp; omega
      rw [hm] at HT HL hown
      have HM := Lib.hid hm
      clear hm
      generalize atK l j = x at *
      go_wp2_with (first | (at_builtin; refine print_append_cells (w0 := w) (w.heap.size) rfl _ _ 54 56 _ 2 16 rfl Try.underlying54 info_k rfl (by decide) (by decide) _ _ _ [.int .i64 (x).c, .int .i64 (x).i] rfl ?_ rfl ?_ (OwnK.below hown ?_) ?_ ?_ ?_ ?_; (focus (go_simp; done)); (focus (simp [Value.oneCell']; done)); (focus ((repeat (first | (with_reducible exact Below.refl _ _) | ((with_reducible refine Below.alloc ?_ ?hB _); (case hB => (first | omega | (simp; done) | (simp; omega)))) | ((with_reducible refine Below.setCell ?_ ?hB _); (case hB => (first | omega | (simp; done) | (simp; omega)))) | (with_reducible refine Below.drew ?_) | ((with_reducible refine below_ext_of ?_ ?hB); (case hB => (first | omega | (simp; done) | (simp; omega)))) | ((with_reducible refine Below.trans ?_ (Below.mono (by assumption) ?hB)); (case hB => (first | omega | (simp; done) | (simp; omega)))))); done)); (focus ((repeat (first | (with_reducible exact Below.refl _ _) | ((with_reducible refine Below.alloc ?_ ?hB _); (case hB => (first | omega | (simp; done) | (simp; omega)))) | ((with_reducible refine Below.setCell ?_ ?hB _); (case hB => (first | omega | (simp; done) | (simp; omega)))) | (with_reducible refine Below.drew ?_) | ((with_reducible refine below_ext_of ?_ ?hB); (case hB => (first | omega | (simp; done) | (simp; omega)))) | ((with_reducible refine Below.trans ?_ (Below.mono (by assumption) ?hB)); (case hB => (first | omega | (simp; done) | (simp; omega)))))); done)); (focus ((first | omega | (simp; done) | (simp; omega)); done)); (focus omega); intro v2 w2 hown2 hb2 _ _; have hz2 := hb2.size; (try simp only [World.size_alloc, World.size_setCell, World.size_drew] at hz2)))
      go_roundw
      case rel => exact ⟨j + 1, by omega, by go_num, hb2, by rw [HT.out]; exact OwnK.snoc hown2⟩
      case measure => simp [intOf]; omega
    · obtain rfl : j = l.length := by omega
      rw [List.take_length] at hown
      clear hrow
      go_wp2
      go_ret
      exact ⟨_, rfl, hown, hbr⟩

/-- The whole of a row behind another one. -/
theorem append_rowK {P : Program} {ops : Array Oper} {rest : List Oper} {o : Oper} {a : Act} {Q : Exit → Act → World → Prop} {w0 W : World} (base : Nat) (hgd : o.guard = none) {s x : Operand} {t e : TypeId}
    (ho : o.op = .call { callee := .builtin .append, args := #[s, x], argTypes := #[t, t] })
    (ht : P.underlying t = some (.slice e)) (hinfo : (P.info? e).map (fun i => (i.zero, i.size, i.bytes)) = some (some (.agg #[.int .i64 (0), .int .i64 (0)]), 2, 16))
    (v : Value) (l m : List K2) (A : Option Addr) (c : Nat) (hs : a.eval s = v) (hx : a.eval x = .slice A m.length c) (HO : OwnK W base e v l) (HR : KR W A m c) (HB : Below base w0 W) (hbase : base ≤ W.heap.size) (hl : l.length + m.length ≤ 1000000)
    (h : ∀ v1 w1, OwnK w1 base e v1 (l ++ m) → Below base w0 w1 → W.grownBy w1 v.ownBlock → (v1.ownBlock = v.ownBlock ∨ ∃ b, v1.ownBlock = some b ∧ W.heap.size ≤ b) → wpList P ops Q rest (a.put o.dst v1) w1) :
    wpList P ops Q (o :: rest) a W := by
  obtain ⟨i0, hi, hzz⟩ := Option.map_eq_some_iff.1 hinfo
  simp only [Prod.mk.injEq] at hzz
  obtain ⟨hz0, hz1, hz2⟩ := hzz
  cases A with
  | none =>
    obtain rfl : m = [] := List.eq_nil_of_length_eq_zero (by have := HR.le; have := HR.nil rfl; omega)
    obtain rfl := HR.nil rfl
    refine wpList_append_own_none hgd s x t ho base e i0 2 ht hi v _ _ hs HO hx ?_
    exact h v W (by rw [List.append_nil]; exact HO) HB ⟨rfl, rfl, rfl, Nat.le_refl _, fun _ _ _ => rfl⟩ (.inl rfl)
  | some ad =>
    refine wpList_append_own_at W hgd s x t ho base e i0 _ 2 16 ht hi hz0 hz1 hz2 rfl (by omega) v _ _ hs HO ad m.length c (flatK m) hx (flatK_len m) HR.row.news (flatK_one' m) (by simp only [maxLen]; omega) (by omega) hbase ?_
    intro v1 w1 hown hg _ hat
    refine h v1 w1 (by unfold OwnK; rw [flatK_append, List.length_append]; exact hown) (HB.grown hg hbase (own_base HO)) hg ?_
    rcases hat with hat | hat
    · exact .inl hat
    · exact .inr ⟨_, hat, by simp⟩
def addL (l : List K2) (k : K2) : List K2 := if k ∈ l then l else l ++ [k]
def newL (l : List K2) : List K2 := l.foldl addL []
theorem newL_take (l : List K2) (j : Nat) (h : j < l.length) : newL (l.take (j + 1)) = addL (newL (l.take j)) (atK l j) := by
  unfold newL; rw [takeK l j h, List.foldl_append]; rfl
theorem addL_len (l : List K2) (k : K2) : (addL l k).length ≤ l.length + 1 := by unfold addL; split <;> simp
theorem newL_len (l : List K2) : (newL l).length ≤ l.length := by
  have : ∀ (l m : List K2), (l.foldl addL m).length ≤ m.length + l.length := by
    intro l
    induction l with
    | nil => intro m; simp
    | cons x l ih => intro m; have := ih (addL m x); have := addL_len m x; simp only [List.foldl_cons, List.length_cons]; omega
  have := this l []; simpa [newL] using this
/-- What a call gives that gives a row, its own or one that it was handed, and whether. -/
def AddP (w : World) (v : Value) (l : List K2) (k : K2) (e : Ending) (w' : World) : Prop := ∃ v', e = .returned (.tuple #[v', .bool (decide (k ∉ l))]) ∧ (if k ∈ l then v' = v else OwnK w' w.heap.size 56 v' (addL l k)) ∧ Below w.heap.size w w'
theorem ref_Add (A : Option Addr) (l : List K2) (c : Nat) (k : K2) (w : World) (hl : l.length ≤ 100000) (hr : KR w A l c) : Calls Try.prog 58 #[.slice A l.length c, (.agg #[.int .i64 (k).c, .int .i64 (k).i])] w (AddP w (.slice A l.length c) l k) := by
  obtain ⟨p, hp⟩ : ∃ p, atP l k = p := ⟨_, rfl⟩
  have cA := fun w (h : KRow w A l) => ref_At A l c k w hr.len h
  rw [hp] at cA
  by_cases hk : k ∈ l
  · have hp0 : 0 ≤ p := by rcases Int.lt_or_le p 0 with h0 | h0; exact absurd hk (atP_neg.1 (by rw [hp]; exact h0)); exact h0
    have HK := Lib.hid hk
    have hrow := fun w' (hb : Below w.heap.size w w') => hr.row.below hb
    clear hp hk hr
    go_enter Try.func58, Try.ntmps58
    go_wp2_with (first | (go_at_call 47; (with_reducible refine (cA _ (hrow _ (by (repeat (first | (with_reducible exact Below.refl _ _) | ((with_reducible refine Below.alloc ?_ ?hB _); (case hB => (first | omega | (simp; done) | (simp; omega)))) | ((with_reducible refine Below.setCell ?_ ?hB _); (case hB => (first | omega | (simp; done) | (simp; omega)))) | (with_reducible refine Below.drew ?_) | ((with_reducible refine below_ext_of ?_ ?hB); (case hB => (first | omega | (simp; done) | (simp; omega)))) | ((with_reducible refine Below.trans ?_ (Below.mono (by assumption) ?hB)); (case hB => (first | omega | (simp; done) | (simp; omega))))))))).mono ?_); rintro e w1 ⟨rfl, hb1⟩; obtain ⟨hc1, hf1⟩ := bcell hb1; have hz1 := hb1.size; (try simp only [World.size_alloc, World.size_setCell, World.size_drew] at hz1)))
    go_ret2
    exact ⟨_, by rw [decide_eq_false (show ¬ k ∉ l from not_not_intro HK.out)]; rfl, by rw [if_pos HK.out]; rfl, by (repeat (first | (with_reducible exact Below.refl _ _) | ((with_reducible refine Below.alloc ?_ ?hB _); (case hB => (first | omega | (simp; done) | (simp; omega)))) | ((with_reducible refine Below.setCell ?_ ?hB _); (case hB => (first | omega | (simp; done) | (simp; omega)))) | (with_reducible refine Below.drew ?_) | ((with_reducible refine below_ext_of ?_ ?hB); (case hB => (first | omega | (simp; done) | (simp; omega)))) | ((with_reducible refine Below.trans ?_ (Below.mono (by assumption) ?hB)); (case hB => (first | omega | (simp; done) | (simp; omega))))))⟩
  · have hp0 : p < 0 := by rw [← hp]; exact atP_neg.2 hk
    have HK := Lib.hid hk
    have hrow := fun w' (hb : Below w.heap.size w w') => hr.row.below hb
    have hR := fun w' (hb : Below w.heap.size w w') => KR.below hr hb
    clear hp hk hr
    go_enter Try.func58, Try.ntmps58
    go_wp2_with (first | (go_at_call 47; (with_reducible refine (cA _ (hrow _ (by (repeat (first | (with_reducible exact Below.refl _ _) | ((with_reducible refine Below.alloc ?_ ?hB _); (case hB => (first | omega | (simp; done) | (simp; omega)))) | ((with_reducible refine Below.setCell ?_ ?hB _); (case hB => (first | omega | (simp; done) | (simp; omega)))) | (with_reducible refine Below.drew ?_) | ((with_reducible refine below_ext_of ?_ ?hB); (case hB => (first | omega | (simp; done) | (simp; omega)))) | ((with_reducible refine Below.trans ?_ (Below.mono (by assumption) ?hB)); (case hB => (first | omega | (simp; done) | (simp; omega))))))))).mono ?_); rintro e w1 ⟨rfl, hb1⟩; obtain ⟨hc1, hf1⟩ := bcell hb1; have hz1 := hb1.size; (try simp only [World.size_alloc, World.size_setCell, World.size_drew] at hz1)) | (at_builtin; refine append_rowK (w0 := w1) w1.heap.size rfl rfl Try.underlying54 info_k _ [] l A c rfl rfl (OwnK.nil _ _ _) (hR _ ?_) ?_ ?_ ?_ ?_; (focus ((repeat (first | (with_reducible exact Below.refl _ _) | ((with_reducible refine Below.alloc ?_ ?hB _); (case hB => (first | omega | (simp; done) | (simp; omega)))) | ((with_reducible refine Below.setCell ?_ ?hB _); (case hB => (first | omega | (simp; done) | (simp; omega)))) | (with_reducible refine Below.drew ?_) | ((with_reducible refine below_ext_of ?_ ?hB); (case hB => (first | omega | (simp; done) | (simp; omega)))) | ((with_reducible refine Below.trans ?_ (Below.mono (by assumption) ?hB)); (case hB => (first | omega | (simp; done) | (simp; omega)))))); done)); (focus ((repeat (first | (with_reducible exact Below.refl _ _) | ((with_reducible refine Below.alloc ?_ ?hB _); (case hB => (first | omega | (simp; done) | (simp; omega)))) | ((with_reducible refine Below.setCell ?_ ?hB _); (case hB => (first | omega | (simp; done) | (simp; omega)))) | (with_reducible refine Below.drew ?_) | ((with_reducible refine below_ext_of ?_ ?hB); (case hB => (first | omega | (simp; done) | (simp; omega)))) | ((with_reducible refine Below.trans ?_ (Below.mono (by assumption) ?hB)); (case hB => (first | omega | (simp; done) | (simp; omega)))))); done)); (focus ((first | omega | (simp; done) | (simp; omega)); done)); (focus (simp; omega)); intro v3 w3 hown3 hb3 _ _; have hz3 := hb3.size; rw [List.nil_append] at hown3; obtain ⟨hc3, hf3⟩ := bcell hb3) | (at_builtin; refine print_append_cells (w0 := w1) (w1.heap.size) rfl _ _ 54 56 _ 2 16 rfl Try.underlying54 info_k rfl (by decide) (by decide) _ _ _ [.int .i64 (k).c, .int .i64 (k).i] rfl ?_ rfl ?_ (OwnK.below hown3 ?_) ?_ ?_ ?_ ?_; (focus (go_simp; done)); (focus (simp [Value.oneCell']; done)); (focus ((repeat (first | (with_reducible exact Below.refl _ _) | ((with_reducible refine Below.alloc ?_ ?hB _); (case hB => (first | omega | (simp; done) | (simp; omega)))) | ((with_reducible refine Below.setCell ?_ ?hB _); (case hB => (first | omega | (simp; done) | (simp; omega)))) | (with_reducible refine Below.drew ?_) | ((with_reducible refine below_ext_of ?_ ?hB); (case hB => (first | omega | (simp; done) | (simp; omega)))) | ((with_reducible refine Below.trans ?_ (Below.mono (by assumption) ?hB)); (case hB => (first | omega | (simp; done) | (simp; omega)))))); done)); (focus ((repeat (first | (with_reducible exact Below.refl _ _) | ((with_reducible refine Below.alloc ?_ ?hB _); (case hB => (first | omega | (simp; done) | (simp; omega)))) | ((with_reducible refine Below.setCell ?_ ?hB _); (case hB => (first | omega | (simp; done) | (simp; omega)))) | (with_reducible refine Below.drew ?_) | ((with_reducible refine below_ext_of ?_ ?hB); (case hB => (first | omega | (simp; done) | (simp; omega)))) | ((with_reducible refine Below.trans ?_ (Below.mono (by assumption) ?hB)); (case hB => (first | omega | (simp; done) | (simp; omega)))))); done)); (focus ((first | omega | (simp; done) | (simp; omega)); done)); (focus omega); intro v4 w4 hown4 hb4 _ _; have hz4 := hb4.size; (try simp only [World.size_alloc, World.size_setCell, World.size_drew] at hz4)))
    go_ret2
    exact ⟨_, by rw [decide_eq_true (show k ∉ l from HK.out)]; rfl, by rw [if_neg HK.out]; unfold addL; rw [if_neg HK.out]; exact OwnK.mono (b1 := w1.heap.size) (OwnK.snoc hown4) (by omega), by (repeat (first | (with_reducible exact Below.refl _ _) | ((with_reducible refine Below.alloc ?_ ?hB _); (case hB => (first | omega | (simp; done) | (simp; omega)))) | ((with_reducible refine Below.setCell ?_ ?hB _); (case hB => (first | omega | (simp; done) | (simp; omega)))) | (with_reducible refine Below.drew ?_) | ((with_reducible refine below_ext_of ?_ ?hB); (case hB => (first | omega | (simp; done) | (simp; omega)))) | ((with_reducible refine Below.trans ?_ (Below.mono (by assumption) ?hB)); (case hB => (first | omega | (simp; done) | (simp; omega))))))⟩
end Go.Proofs.Yteldbnelfeiifaa
