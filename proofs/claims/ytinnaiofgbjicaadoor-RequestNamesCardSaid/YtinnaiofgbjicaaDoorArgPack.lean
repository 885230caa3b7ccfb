/- The law ArgsPack, walked. -/
import Derived.Test.YtinnaiofgbjicaaDoorArgTypes
import Derived.Deep.RegionHeld3
namespace Go.Proofs.YtinnaiofgbjicaaDoor
open Go.RowKit Go.Proofs.YtinnaiofgbjicaaDoorW.PrintWords
set_option linter.unusedSimpArgs false
set_option linter.unusedVariables false
set_option maxRecDepth 1000000
def AllP (w : World) (l : List V8) (e : Ending) (w' : World) : Prop := ∃ A c, e = .returned (.slice A l.length c) ∧ (l.length ≤ c ∧ AnyRow w' A l) ∧ Below w.heap.size w w'
theorem goodX_ok {c : Int} {x : V8} (h : x.Bd) (hs : x.s.size ≤ 140737488351232) (hb : x.b.length ≤ 140737488351232) : (goodX c x).Ok := by
  have t := tm_bd x.n; have t0 := tm_bd x.x0; have t1 := tm_bd x.y0; have t2 := tm_bd x.x1; have t3 := tm_bd x.y1
  have e1 : (x.s.extract 0 (min x.s.size 20)).size ≤ 20 := by rw [ByteArray.size_extract]; omega
  have e2 : (x.b.take (min x.b.length 20)).length ≤ 20 := by simp; omega
  have ez : (ByteArray.mk #[]).size = 0 := rfl
  unfold goodX v0
  split
  · constructor <;> (first | (simp; omega) | (show _ ∧ _; omega) | (simp [ez]))
  · split
    · constructor <;> (first | (simp; omega) | (show _ ∧ _; omega) | (simp [ez]))
    · split
      · constructor <;> (first | (simp; omega) | (show (ByteArray.extract _ _ _).size ≤ _; omega) | (simp [ez]))
      · split
        · constructor <;> (first | (simp; omega) | (show _ ∧ _; omega) | (simp [ez]))
        · constructor <;> (first | (simp; omega) | (show (List.take _ _).length ≤ _; omega) | (simp [ez]))
theorem v0_bd : v0.Bd := by
  have ez : (ByteArray.mk #[]).size = 0 := rfl
  unfold v0
  constructor <;> simp [ez]
theorem fewX_bd {x : V8} (h : x.Bd) : (fewX x).Bd := ⟨h.kind, h.n, by have := fewX_s x; omega, h.x0, h.y0, h.x1, h.y1, by have := fewX_b x; omega, fun n hn => h.y n (List.mem_of_mem_take hn)⟩
theorem at8_few (l : List V8) (i : Nat) (h : i < (fewL l).length) : at8 (fewL l) i = fewX (at8 l i) ∧ i < l.length := by
  rw [fewL_len] at h
  refine ⟨?_, by omega⟩
  unfold at8 fewL
  rw [List.getD_eq_getElem?_getD, List.getD_eq_getElem?_getD, List.getElem?_map, List.getElem?_take, if_pos (by omega), List.getElem?_eq_getElem (show i < l.length by omega)]; rfl
theorem few_allok {l : List V8} (h : ∀ i, i < l.length → (at8 l i).Bd) : AllOk (fewL l) := fun i hi => by
  obtain ⟨e, hi'⟩ := at8_few l i hi
  rw [e]; exact fewX_ok (h i hi')
theorem at8_good (f : ByteArray) (l : List V8) (i : Nat) (h : i < f.size) : at8 (goodL f l) i = goodX (byN f i) (at8 l i) := by
  unfold goodL goodN at8
  rw [List.getD_eq_getElem?_getD, List.getElem?_map, List.getElem?_range h]; rfl
theorem goodL_len (f : ByteArray) (l : List V8) : (goodL f l).length = f.size := by simp [goodL, goodN]
theorem good_allok {f : ByteArray} {l : List V8} (h : ∀ i, i < l.length → (at8 l i).Bd ∧ (at8 l i).s.size ≤ 300 ∧ (at8 l i).b.length ≤ 300) : AllOk (goodL f l) := fun i hi => by
  rw [goodL_len] at hi
  rw [at8_good f l i hi]
  by_cases hl : i < l.length
  · obtain ⟨h1, h2, h3⟩ := h i hl
    exact goodX_ok h1 (by omega) (by omega)
  · rw [at8_out l i hl]
    exact goodX_ok v0_bd (by show (ByteArray.mk #[]).size ≤ _; decide) (by show ([] : List Int).length ≤ _; simp)
theorem few_bd {l : List V8} (h : ∀ i, i < l.length → (at8 l i).Bd) : ∀ i, i < (fewL l).length → (at8 (fewL l) i).Bd ∧ (at8 (fewL l) i).s.size ≤ 300 ∧ (at8 (fewL l) i).b.length ≤ 300 := fun i hi => by
  obtain ⟨e, hi'⟩ := at8_few l i hi
  rw [e]; exact ⟨fewX_bd (h i hi'), fewX_s _, fewX_b _⟩
theorem lettersP_size (s : ByteArray) : (lettersP s).size ≤ 8 := by unfold lettersP; rw [lettersS_size]; omega
def FewsP (w : World) (l : List V8) (e : Ending) (w' : World) : Prop := ∃ A c, e = .returned (.slice A (fewL l).length c) ∧ ((fewL l).length ≤ c ∧ VRow w' A (fewL l)) ∧ Below w.heap.size w w'
def GoodP (w : World) (f : ByteArray) (l : List V8) (e : Ending) (w' : World) : Prop := ∃ A c, e = .returned (.slice A (goodL f l).length c) ∧ ((goodL f l).length ≤ c ∧ VRow w' A (goodL f l)) ∧ Below w.heap.size w w'
theorem pack_cells (w2 : World) (f2 g : ByteArray) (A1 A2 : Option Addr) (n1 n2 c1 c2 : Nat) (W : World) (hW : W = (w2.alloc (.cells #[.string f2, .string g, .string g] 9)).alloc (.cells #[.slice A1 n1 c1, .slice A1 n1 c1, .slice A2 n2 c2] 79)) :
    (W.cell? ⟨w2.heap.size, 0, none⟩ = some (.string f2) ∧ W.cell? ⟨w2.heap.size, 1, none⟩ = some (.string g) ∧ W.cell? ⟨w2.heap.size, 2, none⟩ = some (.string g)) ∧
    (W.cell? ⟨w2.heap.size + 1, 0, none⟩ = some (.slice A1 n1 c1) ∧ W.cell? ⟨w2.heap.size + 1, 1, none⟩ = some (.slice A1 n1 c1) ∧ W.cell? ⟨w2.heap.size + 1, 2, none⟩ = some (.slice A2 n2 c2)) ∧ W.heap.size = w2.heap.size + 2 ∧ Below w2.heap.size w2 W := by
  subst hW
  refine ⟨⟨?_, ?_, ?_⟩, ⟨?_, ?_, ?_⟩, by simp, by (repeat (first | (with_reducible exact Below.refl _ _) | ((with_reducible refine Below.alloc ?_ ?hB _); (case hB => (first | omega | (simp; done) | (simp; omega)))) | ((with_reducible refine Below.setCell ?_ ?hB _); (case hB => (first | omega | (simp; done) | (simp; omega)))) | (with_reducible refine Below.drew ?_) | ((with_reducible refine below_ext_of ?_ ?hB); (case hB => (first | omega | (simp; done) | (simp; omega)))) | ((with_reducible refine Below.trans ?_ (Below.mono (by assumption) ?hB)); (case hB => (first | omega | (simp; done) | (simp; omega))))))⟩
  all_goals go_simp
theorem str_same {b c : ByteArray} (h : b = c) : (b.toList == c.toList) = true := by subst h; simp
end Go.Proofs.YtinnaiofgbjicaaDoor
