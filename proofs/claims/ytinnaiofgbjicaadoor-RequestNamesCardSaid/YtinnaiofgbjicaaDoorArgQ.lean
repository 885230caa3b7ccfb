/- What the law ArgsApart needs of lists alone. -/
import Derived.Test.YtinnaiofgbjicaaDoorArgO
namespace Go.Proofs.YtinnaiofgbjicaaDoor
open Go.RowKit Go.Proofs.YtinnaiofgbjicaaDoorW.PrintWords
set_option linter.unusedSimpArgs false
set_option linter.unusedVariables false
set_option maxRecDepth 1000000
/-- A row of the call's own, its block and places known where it isn't empty. -/
def GoodO (w : World) (f : ByteArray) (l : List V8) (e : Ending) (w' : World) : Prop := ∃ v, e = .returned v ∧ OwnV w w' w.heap.size v (goodL f l) ∧ Below w.heap.size w w'
def PackOk (w : World) (b : List Int) (e : Ending) (w' : World) : Prop := ∃ A c, e = .returned (.tuple #[.slice A b.length c, .int .i64 0]) ∧ ReadsInt w' .u8 A b.length b ∧ Below w.heap.size w w'
theorem args_PackOk (f : ByteArray) (A : Option Addr) (l : List V8) (c : Nat) (w : World) (b : List Int) (hb : packP f l = (0, b)) (hc : l.length ≤ c) (hz : f.size ≤ 140737488351232) (hok : AllOk l) (hr : AnyRow w A l) : Calls Tryd.prog 58 #[.string f, .slice A l.length c] w (PackOk w b) := by
  refine (args_Pack f A l c w hc hz hok hr).mono ?_
  rw [hb]
  rintro e w' ⟨A', n, c', rfl, hn, _, hr', hb'⟩
  simp only at hn hr'
  subst hn
  exact ⟨A', c', rfl, hr', hb'⟩
theorem str_beq (a b : ByteArray) (v : Bool) (h : decide (a = b) = v) : (a.toList == b.toList) = v := by
  by_cases e : a = b
  · subst e
    rw [← h, decide_eq_true rfl]; simp
  · rw [← h, decide_eq_false e, ByteArray.toList_eq, ByteArray.toList_eq, beq_eq_false_iff_ne]
    intro h'
    exact e (ByteArray.ext (Array.ext' h'))
theorem OwnL.set2 {wq w : World} {base g c k : Nat} {L : List VH} {h1 : VH} (h : OwnL wq w base g c (L.set k h1)) (j : Nat) (u : Value) (h' : VH) (hk : k < L.length) (hj : j < 8) (hc : h'.cells = h1.cells.set j u) (hr : h'.reads wq) : OwnL wq (w.setCell ⟨g, k * 8 + j, none⟩ u) base g c (L.set k h') := by
  have := h.set k j u h' (by rw [List.length_set]; exact hk) hj (by rw [List.getElem_set_self]; exact hc) hr
  rwa [List.set_set] at this
theorem OwnL.copy {wq w : World} {base g c k : Nat} {L : List VH} {y : VH} (h : OwnL wq w base g c (L.set k y)) (x : VH) (hk : k < L.length) (hy : y.reads wq) (hx : x.reads wq) :
    OwnL wq ((((((((w.setCell ⟨g, k * 8, none⟩ (.int .i64 x.x.kind)).setCell ⟨g, k * 8 + 1, none⟩ (.int .i64 x.x.n)).setCell ⟨g, k * 8 + 2, none⟩ (.string x.x.s)).setCell ⟨g, k * 8 + 3, none⟩ (.int .i64 x.x.x0)).setCell ⟨g, k * 8 + 4, none⟩ (.int .i64 x.x.y0)).setCell ⟨g, k * 8 + 5, none⟩ (.int .i64 x.x.x1)).setCell ⟨g, k * 8 + 6, none⟩ (.int .i64 x.x.y1)).setCell ⟨g, k * 8 + 7, none⟩ (.slice x.A x.x.b.length x.m)) base g c (L.set k x) := by
  obtain ⟨⟨yk, yn, ys, y0, y1, y2, y3, yb⟩, yA, ym⟩ := y
  obtain ⟨⟨xk, xn, xs, x0, x1, x2, x3, xb⟩, xA, xm⟩ := x
  have a0 := h.set2 0 (.int .i64 xk) ⟨⟨xk, yn, ys, y0, y1, y2, y3, yb⟩, yA, ym⟩ hk (by omega) rfl hy
  have a1 := a0.set2 1 (.int .i64 xn) ⟨⟨xk, xn, ys, y0, y1, y2, y3, yb⟩, yA, ym⟩ hk (by omega) rfl hy
  have a2 := a1.set2 2 (.string xs) ⟨⟨xk, xn, xs, y0, y1, y2, y3, yb⟩, yA, ym⟩ hk (by omega) rfl hy
  have a3 := a2.set2 3 (.int .i64 x0) ⟨⟨xk, xn, xs, x0, y1, y2, y3, yb⟩, yA, ym⟩ hk (by omega) rfl hy
  have a4 := a3.set2 4 (.int .i64 x1) ⟨⟨xk, xn, xs, x0, x1, y2, y3, yb⟩, yA, ym⟩ hk (by omega) rfl hy
  have a5 := a4.set2 5 (.int .i64 x2) ⟨⟨xk, xn, xs, x0, x1, x2, y3, yb⟩, yA, ym⟩ hk (by omega) rfl hy
  have a6 := a5.set2 6 (.int .i64 x3) ⟨⟨xk, xn, xs, x0, x1, x2, x3, yb⟩, yA, ym⟩ hk (by omega) rfl hy
  exact a6.set2 7 (.slice xA xb.length xm) ⟨⟨xk, xn, xs, x0, x1, x2, x3, xb⟩, xA, xm⟩ hk (by omega) rfl hx
theorem OwnL.self {wq w : World} {base g c k : Nat} {L : List VH} (h : OwnL wq w base g c L) (hk : k < L.length) : OwnL wq w base g c (L.set k L[k]) := by rw [List.set_getElem_self]; exact h
theorem OwnL.drew {wq w : World} {base g c : Nat} {L : List VH} (h : OwnL wq w base g c L) : OwnL wq w.drew base g c L := h
def setN (l : List V8) (k : Nat) (m : Int) : List V8 := l.set k { at8 l k with n := m }
theorem setN_len (l : List V8) (k : Nat) (m : Int) : (setN l k m).length = l.length := by simp [setN]
theorem setN_at (l : List V8) (k : Nat) (m : Int) (h : k < l.length) : at8 (setN l k m) k = { at8 l k with n := m } := by
  have h' : k < (setN l k m).length := by rw [setN_len]; exact h
  show (setN l k m).getD k v0 = _
  rw [List.getD_eq_getElem?_getD, List.getElem?_eq_getElem h']
  simp [setN]
theorem setN_ne (l : List V8) (k i : Nat) (m : Int) (h : i ≠ k) : at8 (setN l k m) i = at8 l i := by
  show (setN l k m).getD i v0 = l.getD i v0
  rw [List.getD_eq_getElem?_getD, List.getD_eq_getElem?_getD]
  simp only [setN]
  rw [List.getElem?_set_ne (Ne.symm h)]
theorem setN_own (l : List V8) (k : Nat) (h : k < l.length) : setN l k (at8 l k).n = l := by
  unfold setN
  have e : at8 l k = l[k] := by unfold at8; rw [List.getD_eq_getElem?_getD, List.getElem?_eq_getElem h]; rfl
  have : ({ at8 l k with n := (at8 l k).n } : V8) = l[k] := by rw [e]
  rw [this, List.set_getElem_self]
/-- What may stand in the place of a number, by the letter. -/
def MayN (c m own : Int) : Prop := (c = 105 ∧ -2147483648 < m ∧ m < 2147483648) ∨ (c = 117 ∧ 0 ≤ m ∧ m < 2147483648) ∨ (¬ c = 105 ∧ ¬ c = 117 ∧ m = own)
theorem goodX_n {c : Int} {x : V8} (h : c = 105 ∨ c = 117) : (goodX c x).kind = 0 ∧ -2147483648 ≤ (goodX c x).n ∧ (goodX c x).n < 2147483648 := by
  have t := tm_bd x.n
  unfold goodX
  rcases h with rfl | rfl
  · rw [if_pos rfl]; exact ⟨rfl, by show _ ≤ tm x.n; omega, by show tm x.n < _; omega⟩
  · rw [if_neg (by omega), if_pos rfl]; exact ⟨rfl, by show _ ≤ max (tm x.n) (-tm x.n); omega, by show max (tm x.n) (-tm x.n) < _; omega⟩
structure ApartP (g : ByteArray) (l : List V8) (k : Nat) (m : Int) : Prop where
  px : packP g l = (0, catB l l.length)
  py : packP g (setN l k m) = (0, catB (setN l k m) l.length)
  eq : strOfNums (catB l l.length) = strOfNums (catB (setN l k m) l.length) ↔ (at8 l k).n = m
  ok : AllOk (setN l k m)
theorem apart_pure (f : ByteArray) (l1 : List V8) (k : Nat) (m : Int) (g : ByteArray) (hg : g = lettersP f) (hk : k < g.size) (hok : AllOk (goodL g l1)) (hm : MayN (byN g k) m (at8 (goodL g l1) k).n) : ApartP g (goodL g l1) k m := by
  have hn := goodL_len g l1
  have hx : ∀ i, i < g.size → putOk (byN g i) (at8 (goodL g l1) i) = true ∧ (putB (at8 (goodL g l1) i)).length ≤ 21 := fun i hi => by
    rw [at8_good g l1 i hi]; exact goodX_put _ _ (by subst hg; exact letters_let f i hi)
  have hform : formP g = true := by subst hg; exact letters_form f
  have hkl : k < (goodL g l1).length := by omega
  have px := pack_ok hform hn.symm (fun i hi => hx i (by omega))
  have hcase : (byN g k = 105 ∨ byN g k = 117) → (at8 (goodL g l1) k).kind = 0 ∧ -2147483648 ≤ (at8 (goodL g l1) k).n ∧ (at8 (goodL g l1) k).n < 2147483648 := fun h => by
    rw [at8_good g l1 k hk]; exact goodX_n h
  generalize goodL g l1 = l at *
  have hs := setN_len l k m
  have hy : ∀ i, i < (setN l k m).length → putOk (byN g i) (at8 (setN l k m) i) = true ∧ (putB (at8 (setN l k m) i)).length ≤ 21 := fun i hi => by
    by_cases e : i = k
    · subst e
      rcases hm with ⟨h1, h2, h3⟩ | ⟨h1, h2, h3⟩ | ⟨h1, h2, h3⟩
      · obtain ⟨c1, c2, c3⟩ := hcase (.inl h1)
        rw [setN_at l i m (by omega)]
        refine ⟨?_, ?_⟩
        · unfold putOk fitI; rw [decide_eq_true_iff]; refine .inl ⟨c1, ?_⟩; rw [decide_eq_true_iff]; left; exact ⟨h1, by show _ ≤ m; omega, by show m < _; omega⟩
        · rw [putB0 (x := { at8 l i with n := m }) c1]; simp [b4]
      · obtain ⟨c1, c2, c3⟩ := hcase (.inr h1)
        rw [setN_at l i m (by omega)]
        refine ⟨?_, ?_⟩
        · unfold putOk fitI; rw [decide_eq_true_iff]; refine .inl ⟨c1, ?_⟩; rw [decide_eq_true_iff]; right; exact ⟨h1, by show _ ≤ m; omega, by show m < _; omega⟩
        · rw [putB0 (x := { at8 l i with n := m }) c1]; simp [b4]
      · subst h3; rw [setN_own l i (by omega)]; exact hx i (by omega)
    · rw [setN_ne l k i m e]; exact hx i (by omega)
  have py := pack_ok hform (by omega) hy
  rw [hs] at py
  refine ⟨px, py, ?_, fun i hi => ?_⟩
  · rcases hm with ⟨h1, h2, h3⟩ | ⟨h1, h2, h3⟩ | ⟨h1, h2, h3⟩
    · obtain ⟨c1, c2, c3⟩ := hcase (.inl h1)
      exact cat_same l (setN l k m) k l.length (by omega) (fun i hi => (setN_ne l k i m hi).symm) _ _ (putB0 c1) (by rw [setN_at l k m (by omega)]; exact putB0 (x := { at8 l k with n := m }) c1) ⟨c2, c3⟩ ⟨by omega, h3⟩
    · obtain ⟨c1, c2, c3⟩ := hcase (.inr h1)
      exact cat_same l (setN l k m) k l.length (by omega) (fun i hi => (setN_ne l k i m hi).symm) _ _ (putB0 c1) (by rw [setN_at l k m (by omega)]; exact putB0 (x := { at8 l k with n := m }) c1) ⟨c2, c3⟩ ⟨by omega, h3⟩
    · subst h3; rw [setN_own l k (by omega)]; exact ⟨fun _ => rfl, fun _ => rfl⟩
  · by_cases e : i = k
    · subst e
      have o := hok i (by omega)
      rw [setN_at l i m (by omega)]
      have hmb : -9223372036854775808 ≤ m ∧ m ≤ 9223372036854775807 := by
        rcases hm with ⟨h1, h2, h3⟩ | ⟨h1, h2, h3⟩ | ⟨h1, h2, h3⟩
        · omega
        · omega
        · rw [h3]; exact o.n
      exact ⟨o.kind, hmb, o.s, o.x0, o.y0, o.x1, o.y1, o.b⟩
    · rw [setN_ne l k i m e]; exact hok i (by omega)
end Go.Proofs.YtinnaiofgbjicaaDoor
