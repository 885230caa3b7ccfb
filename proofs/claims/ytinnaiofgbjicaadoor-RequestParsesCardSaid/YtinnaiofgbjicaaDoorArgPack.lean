/- Arguments that came in, opened. -/
import Derived.Test.YtinnaiofgbjicaaDoorArgM
import Derived.ProofKit
import Derived.OpenShut
import Derived.Deep.Slices
import Derived.Lib.SmallJoins
import Derived.Deep.RegionHeld3
namespace Go.Proofs.YtinnaiofgbjicaaDoor
open Go.ChangeShapes Go.WideShapes Go.ChangeAt Go.RowKit Go.Joins Go.Proofs.YtinnaiofgbjicaaDoorW.PrintWords
set_option linter.unusedVariables false
set_option maxRecDepth 1000000
structure V8.Bd (x : V8) : Prop where
  kind : -9223372036854775808 ≤ x.kind ∧ x.kind ≤ 9223372036854775807
  n : -9223372036854775808 ≤ x.n ∧ x.n ≤ 9223372036854775807
  s : x.s.size ≤ 9223372036854775807
  x0 : -9223372036854775808 ≤ x.x0 ∧ x.x0 ≤ 9223372036854775807
  y0 : -9223372036854775808 ≤ x.y0 ∧ x.y0 ≤ 9223372036854775807
  x1 : -9223372036854775808 ≤ x.x1 ∧ x.x1 ≤ 9223372036854775807
  y1 : -9223372036854775808 ≤ x.y1 ∧ x.y1 ≤ 9223372036854775807
  b : x.b.length ≤ 9223372036854775807
  y : ∀ n ∈ x.b, 0 ≤ n ∧ n ≤ 255
theorem cells_v : Tryd.prog.cellsOf 81 = 8 := by kernel_rfl
theorem cells_rectV : Tryd.prog.cellsOf 26 = 4 := by kernel_rfl
theorem cells_intV : Tryd.prog.cellsOf 3 = 1 := by kernel_rfl
theorem cells_strV : Tryd.prog.cellsOf 9 = 1 := by kernel_rfl
theorem cells_bytesV : Tryd.prog.cellsOf 22 = 1 := by kernel_rfl
theorem cells_byteV : Tryd.prog.cellsOf 5 = 1 := by kernel_rfl
theorem open_bytesV {H : Type} {enc : TypeId × Value → H} {w : World} {base : Nat} {spare : Nat → Bool} {held : Bool} {fuel : Nat} {cs : List Value} {x : DataW H × List MemPlace} (h : DataW.trod enc Tryd.prog w base spare held fuel 22 cs = some x) :
    ∃ (A : Option Addr) (m : Nat) (b : List Int), cs = [.slice A b.length m] ∧ b.length ≤ m ∧ m ≤ 9223372036854775807 ∧ ReadsInt w .u8 A b.length b ∧ ∀ n ∈ b, 0 ≤ n ∧ n ≤ 255 := by
  rcases open_ints Tryd.underlying22 Tryd.underlying5 cells_byteV h with ⟨hcs, _⟩ | ⟨a, len, cap, zs, hcs, _, hl, hm, hz, _, hcell, hwf⟩
  · exact ⟨none, 0, [], hcs, Nat.le_refl _, by omega, ⟨rfl, by simp, fun h => by simp at h⟩, fun n hn => by cases hn⟩
  · have hlz : len ≤ zs.length := by rw [hz]; split <;> omega
    have ht : (zs.take len).length = len := by simp; omega
    unfold maxLen at hm
    refine ⟨some a, cap, zs.take len, by rw [ht]; exact hcs, by omega, by omega, ?_, fun n hn => ?_⟩
    · refine ⟨rfl, by omega, fun hp => ⟨a, rfl, fun j hj => ?_⟩⟩
      rw [ht] at hj
      rw [hcell j (by omega)]
      congr 2
      rw [List.getD_eq_getElem?_getD, List.getD_eq_getElem?_getD, List.getElem?_take, if_pos hj]
    · have := hwf n (List.mem_of_mem_take hn)
      simpa [Lit.wf, IntKind.u8] using bounds_u8 this
theorem trod_v {H : Type} {enc : TypeId × Value → H} {w : World} {base : Nat} {spare : Nat → Bool} {held : Bool} {fuel : Nat} {cs : List Value} {x : DataW H × List MemPlace} (hl : cs.length = 8) (h : DataW.trod enc Tryd.prog w base spare held fuel 81 cs = some x) :
    ∃ (v : V8) (A : Option Addr) (m : Nat), cs = (VH.mk v A m).cells ∧ VH.reads w ⟨v, A, m⟩ ∧ v.Bd := by
  match cs, hl with
  | [c0, c1, c2, c3, c4, c5, c6, c7], _ =>
    obtain ⟨ys, n, _, _, _, hys, hg⟩ := DataW.trod_struct Tryd.underlying81 h
    match ys, hys with
    | [y0, y1, y2, y3, y4], _ =>
      have g0 : DataW.trod enc Tryd.prog w base spare held n 3 [c0] = some y0 := by
        have h := hg 0 _ rfl
        change DataW.trod enc Tryd.prog w base spare held n 3 (List.take (Tryd.prog.cellsOf 3) (List.drop 0 [c0, c1, c2, c3, c4, c5, c6, c7])) = some y0 at h
        rw [cells_intV] at h; exact h
      have g1 : DataW.trod enc Tryd.prog w base spare held n 3 [c1] = some y1 := by
        have h := hg 1 _ rfl
        change DataW.trod enc Tryd.prog w base spare held n 3 (List.take (Tryd.prog.cellsOf 3) (List.drop 1 [c0, c1, c2, c3, c4, c5, c6, c7])) = some y1 at h
        rw [cells_intV] at h; exact h
      have g2 : DataW.trod enc Tryd.prog w base spare held n 9 [c2] = some y2 := by
        have h := hg 2 _ rfl
        change DataW.trod enc Tryd.prog w base spare held n 9 (List.take (Tryd.prog.cellsOf 9) (List.drop 2 [c0, c1, c2, c3, c4, c5, c6, c7])) = some y2 at h
        rw [cells_strV] at h; exact h
      have g3 : DataW.trod enc Tryd.prog w base spare held n 26 [c3, c4, c5, c6] = some y3 := by
        have h := hg 3 _ rfl
        change DataW.trod enc Tryd.prog w base spare held n 26 (List.take (Tryd.prog.cellsOf 26) (List.drop 3 [c0, c1, c2, c3, c4, c5, c6, c7])) = some y3 at h
        rw [cells_rectV] at h; exact h
      have g4 : DataW.trod enc Tryd.prog w base spare held n 22 [c7] = some y4 := by
        have h := hg 4 _ rfl
        change DataW.trod enc Tryd.prog w base spare held n 22 (List.take (Tryd.prog.cellsOf 22) (List.drop 7 [c0, c1, c2, c3, c4, c5, c6, c7])) = some y4 at h
        rw [cells_bytesV] at h; exact h
      obtain ⟨kind, e0, _, w0⟩ := DataW.trod_int Tryd.underlying3 g0
      obtain ⟨nn, e1, _, w1⟩ := DataW.trod_int Tryd.underlying3 g1
      obtain ⟨s, e2, _, w2⟩ := DataW.trod_string Tryd.underlying9 g2
      obtain ⟨r0, r1, r2, r3, n', _, _, h0, h1, h2, h3⟩ := trod_struct4 Tryd.underlying26 g3
      obtain ⟨z0, q0, _, v0⟩ := DataW.trod_int Tryd.underlying3 h0
      obtain ⟨z1, q1, _, v1⟩ := DataW.trod_int Tryd.underlying3 h1
      obtain ⟨z2, q2, _, v2⟩ := DataW.trod_int Tryd.underlying3 h2
      obtain ⟨z3, q3, _, v3⟩ := DataW.trod_int Tryd.underlying3 h3
      obtain ⟨Ab, m, b, e4, hm, hmm, hr, hby⟩ := open_bytesV g4
      simp [cells_intV] at q0 q1 q2 q3
      simp only [List.cons.injEq, and_true] at e0 e1 e2 e4
      subst e0 e1 e2 e4 q0 q1 q2 q3
      exact ⟨⟨kind, nn, s, z0, z1, z2, z3, b⟩, Ab, m, rfl, ⟨hm, hr⟩, ⟨bounds_i64 w0, bounds_i64 w1, by unfold maxLen at w2; exact w2, bounds_i64 v0, bounds_i64 v1, bounds_i64 v2, bounds_i64 v3, by show b.length ≤ _; omega, hby⟩⟩
instance : Inhabited VH := ⟨⟨v0, none, 0⟩⟩
theorem open_v {H : Type} {enc : TypeId × Value → H} {w : World} {base b0 : Nat} {spare : Nat → Bool} {held : Bool} {r : Reach} {v : Value} {d : DataW H} {p : List MemPlace} (hv : Value.okWide Tryd.prog w r b0 81 v) (h : DataW.Trod enc Tryd.prog w base spare held 81 v d p) :
    ∃ (x : V8) (A : Option Addr) (m : Nat), v = (.agg #[.int .i64 (x.kind), .int .i64 (x.n), .string (x.s), .int .i64 (x.x0), .int .i64 (x.y0), .int .i64 (x.x1), .int .i64 (x.y1), .slice (A) (x.b.length) (m)]) ∧ VH.reads w ⟨x, A, m⟩ ∧ x.Bd := by
  obtain ⟨cs, rfl, hsz⟩ := okWide_struct Tryd.underlying81 hv
  obtain ⟨fuel, hf⟩ := h
  rw [cells_v] at hsz
  obtain ⟨x, A, m, hc, hr, hb⟩ := trod_v (by simpa [Value.cells] using hsz) hf
  refine ⟨x, A, m, ?_, hr, hb⟩
  have : cs = (VH.mk x A m).cells.toArray := by apply Array.ext'; simpa [Value.cells] using hc
  rw [this]; rfl
theorem open_vs {H : Type} {enc : TypeId × Value → H} {w : World} {base b0 : Nat} {spare : Nat → Bool} {held : Bool} {r : Reach} {v : Value} {d : DataW H} {p : List MemPlace} (hv : Value.okWide Tryd.prog w r b0 79 v) (h : DataW.Trod enc Tryd.prog w base spare held 79 v d p) :
    ∃ (A : Option Addr) (l : List V8) (c : Nat), v = .slice A l.length c ∧ l.length ≤ c ∧ l.length ≤ 9223372036854775807 ∧ VRow w A l ∧ ∀ i, i < l.length → (at8 l i).Bd := by
  obtain ⟨a0, len0, cap0, rfl⟩ := okWide_slice Tryd.underlying79 hv
  obtain ⟨fuel, hf⟩ := h
  rcases Go.Deep.open_slice Tryd.underlying79 hf with ⟨hcs, _⟩ | ⟨a, len, cap, m, n, D, Pl, hcs, _, hl, hm, hmm, _, hi⟩
  · simp [Value.cells] at hcs
    obtain ⟨rfl, rfl, rfl⟩ := hcs
    exact ⟨none, [], 0, rfl, Nat.le_refl _, by simp, fun i hi => by simp at hi, fun i hi => by simp at hi⟩
  · simp [Value.cells] at hcs
    obtain ⟨rfl, rfl, rfl⟩ := hcs
    have hlm : len0 ≤ m := by rw [hmm]; split <;> omega
    have key : ∀ i, i < len0 → ∃ h : VH, (∀ j u, h.cells[j]? = some u → w.cell? ((a.add (i * 8)).add j) = some u) ∧ h.reads w ∧ h.x.Bd := by
      intro i hil
      obtain ⟨cs', hc, ht⟩ := hi i (by omega)
      rw [cells_v] at hc
      obtain ⟨_, hcl, hat⟩ := World.cells?_some hc
      obtain ⟨x, A, m', rfl, hr, hb⟩ := trod_v hcl ht
      refine ⟨⟨x, A, m'⟩, fun j u hj => ?_, hr, hb⟩
      have hj8 : j < 8 := by
        have := (List.getElem?_eq_some_iff.1 hj).1
        exact this
      rw [hat j hj8]; exact hj
    obtain ⟨f, hf⟩ := Go.Deep.choose_lt key
    refine ⟨some a, (List.range len0).map (fun i => (f i).x), cap0, by simp, by simpa using hl, by unfold maxLen at hm; simp; omega, fun i hi => ?_, fun i hi => ?_⟩
    · simp only [List.length_map, List.length_range] at hi
      obtain ⟨h0, h1, h2⟩ := hf i hi
      have hx : at8 ((List.range len0).map (fun i => (f i).x)) i = (f i).x := by
        unfold at8; rw [List.getD_eq_getElem?_getD, List.getElem?_map, List.getElem?_range hi]; rfl
      rw [hx]
      have k : ∀ j u, 0 < j → (f i).cells[j]? = some u → w.cell? ⟨(a.add (i * 8)).block, (a.add (i * 8)).off + j, none⟩ = some u := fun j u hj hu => by
        have := h0 j u hu
        rw [Go.Deep.add_add, add_field _ _ j hj] at this
        exact this
      have k0 := h0 0 _ rfl
      rw [Go.Deep.add_add, Nat.add_zero] at k0
      exact ⟨a, (f i).A, (f i).m, rfl, k0, k 1 _ (by omega) rfl, k 2 _ (by omega) rfl, k 3 _ (by omega) rfl, k 4 _ (by omega) rfl, k 5 _ (by omega) rfl, k 6 _ (by omega) rfl, k 7 _ (by omega) rfl, h1.1, h1.2⟩
    · simp only [List.length_map, List.length_range] at hi
      have hx : at8 ((List.range len0).map (fun i => (f i).x)) i = (f i).x := by
        unfold at8; rw [List.getD_eq_getElem?_getD, List.getElem?_map, List.getElem?_range hi]; rfl
      rw [hx]; exact (hf i hi).2.2
end Go.Proofs.YtinnaiofgbjicaaDoor
namespace Go.Proofs.YtinnaiofgbjicaaDoor
open Go.RowKit Go.Proofs.YtinnaiofgbjicaaDoorW.PrintWords
set_option linter.unusedSimpArgs false
set_option linter.unusedVariables false
set_option maxRecDepth 1000000
theorem isK_eq (x : V8) (k : Int) : isK x k = (x.kind == k) := by unfold isK; rw [Bool.eq_iff_iff]; simp
theorem few1 (x : V8) : fewL [x] = [fewX x] := rfl
theorem fewX_kind (x : V8) : (fewX x).kind = x.kind := rfl
theorem fewX_s (x : V8) : (fewX x).s.size ≤ 300 := by
  show (x.s.extract 0 (min x.s.size 300)).size ≤ 300
  rw [ByteArray.size_extract]; omega
theorem fewX_b (x : V8) : (fewX x).b.length ≤ 300 := by
  show (x.b.take (min x.b.length 300)).length ≤ 300
  simp; omega
theorem fewX_ok {x : V8} (h : x.Bd) : (fewX x).Ok := ⟨h.kind, h.n, by have := fewX_s x; omega, h.x0, h.y0, h.x1, h.y1, by have := fewX_b x; omega⟩
def FewP (w : World) (x : V8) (e : Ending) (w' : World) : Prop := ∃ ad Ab m c, e = .returned (.slice (some ad) 1 c) ∧ (w'.cell? ad = some (.int .i64 (fewX x).kind) ∧ w'.cell? ⟨ad.block, ad.off + 1, none⟩ = some (.int .i64 (fewX x).n) ∧
  w'.cell? ⟨ad.block, ad.off + 2, none⟩ = some (.string (fewX x).s) ∧ w'.cell? ⟨ad.block, ad.off + 3, none⟩ = some (.int .i64 (fewX x).x0) ∧
  w'.cell? ⟨ad.block, ad.off + 4, none⟩ = some (.int .i64 (fewX x).y0) ∧ w'.cell? ⟨ad.block, ad.off + 5, none⟩ = some (.int .i64 (fewX x).x1) ∧
  w'.cell? ⟨ad.block, ad.off + 6, none⟩ = some (.int .i64 (fewX x).y1) ∧ w'.cell? ⟨ad.block, ad.off + 7, none⟩ = some (.slice Ab (fewX x).b.length m)) ∧ ((fewX x).b.length ≤ m ∧ ReadsInt w' .u8 Ab (fewX x).b.length (fewX x).b) ∧ Below w.heap.size w w'
end Go.Proofs.YtinnaiofgbjicaaDoor
namespace Go.Proofs.YtinnaiofgbjicaaDoor
open Go.RowKit Go.Proofs.YtinnaiofgbjicaaDoorW.PrintWords
set_option linter.unusedSimpArgs false
set_option linter.unusedVariables false
set_option maxRecDepth 1000000
def AllP (w : World) (l : List V8) (e : Ending) (w' : World) : Prop := ∃ A c, e = .returned (.slice A l.length c) ∧ (l.length ≤ c ∧ AnyRow w' A l) ∧ Below w.heap.size w w'
theorem goodX_ok {c : Int} {x : V8} (h : x.Bd) (hs : x.s.size ≤ 140737488351232) (hb : x.b.length ≤ 140737488351232) : (goodX c x).Ok := by
  have t := tm_bd x.n; have t0 := tm_bd x.x0; have t1 := tm_bd x.y0; have t2 := tm_bd x.x1; have t3 := tm_bd x.y1
  have e1 : (x.s.extract 0 (min x.s.size 20)).size ≤ 20 := by rw [ByteArray.size_extract]; omega
  have e2 : (x.b.take (min x.b.length 20)).length ≤ 20 := by simp; omega
  have ez : (ByteArray.mk #[]).size = 0 := rfl
  unfold goodX v0
  split
  · constructor <;> (first | (simp; omega) | (show _ ∧ _; omega) | (simp [ez]))
  · split
    · constructor <;> (first | (simp; omega) | (show _ ∧ _; omega) | (simp [ez]))
    · split
      · constructor <;> (first | (simp; omega) | (show (ByteArray.extract _ _ _).size ≤ _; omega) | (simp [ez]))
      · split
        · constructor <;> (first | (simp; omega) | (show _ ∧ _; omega) | (simp [ez]))
        · constructor <;> (first | (simp; omega) | (show (List.take _ _).length ≤ _; omega) | (simp [ez]))
theorem v0_bd : v0.Bd := by
  have ez : (ByteArray.mk #[]).size = 0 := rfl
  unfold v0
  constructor <;> simp [ez]
theorem fewX_bd {x : V8} (h : x.Bd) : (fewX x).Bd := ⟨h.kind, h.n, by have := fewX_s x; omega, h.x0, h.y0, h.x1, h.y1, by have := fewX_b x; omega, fun n hn => h.y n (List.mem_of_mem_take hn)⟩
theorem at8_few (l : List V8) (i : Nat) (h : i < (fewL l).length) : at8 (fewL l) i = fewX (at8 l i) ∧ i < l.length := by
  rw [fewL_len] at h
  refine ⟨?_, by omega⟩
  unfold at8 fewL
  rw [List.getD_eq_getElem?_getD, List.getD_eq_getElem?_getD, List.getElem?_map, List.getElem?_take, if_pos (by omega), List.getElem?_eq_getElem (show i < l.length by omega)]; rfl
theorem few_allok {l : List V8} (h : ∀ i, i < l.length → (at8 l i).Bd) : AllOk (fewL l) := fun i hi => by
  obtain ⟨e, hi'⟩ := at8_few l i hi
  rw [e]; exact fewX_ok (h i hi')
theorem at8_good (f : ByteArray) (l : List V8) (i : Nat) (h : i < f.size) : at8 (goodL f l) i = goodX (byN f i) (at8 l i) := by
  unfold goodL goodN at8
  rw [List.getD_eq_getElem?_getD, List.getElem?_map, List.getElem?_range h]; rfl
theorem goodL_len (f : ByteArray) (l : List V8) : (goodL f l).length = f.size := by simp [goodL, goodN]
theorem good_allok {f : ByteArray} {l : List V8} (h : ∀ i, i < l.length → (at8 l i).Bd ∧ (at8 l i).s.size ≤ 300 ∧ (at8 l i).b.length ≤ 300) : AllOk (goodL f l) := fun i hi => by
  rw [goodL_len] at hi
  rw [at8_good f l i hi]
  by_cases hl : i < l.length
  · obtain ⟨h1, h2, h3⟩ := h i hl
    exact goodX_ok h1 (by omega) (by omega)
  · rw [at8_out l i hl]
    exact goodX_ok v0_bd (by show (ByteArray.mk #[]).size ≤ _; decide) (by show ([] : List Int).length ≤ _; simp)
theorem few_bd {l : List V8} (h : ∀ i, i < l.length → (at8 l i).Bd) : ∀ i, i < (fewL l).length → (at8 (fewL l) i).Bd ∧ (at8 (fewL l) i).s.size ≤ 300 ∧ (at8 (fewL l) i).b.length ≤ 300 := fun i hi => by
  obtain ⟨e, hi'⟩ := at8_few l i hi
  rw [e]; exact ⟨fewX_bd (h i hi'), fewX_s _, fewX_b _⟩
theorem lettersP_size (s : ByteArray) : (lettersP s).size ≤ 8 := by unfold lettersP; rw [lettersS_size]; omega
def FewsP (w : World) (l : List V8) (e : Ending) (w' : World) : Prop := ∃ A c, e = .returned (.slice A (fewL l).length c) ∧ ((fewL l).length ≤ c ∧ VRow w' A (fewL l)) ∧ Below w.heap.size w w'
def GoodP (w : World) (f : ByteArray) (l : List V8) (e : Ending) (w' : World) : Prop := ∃ A c, e = .returned (.slice A (goodL f l).length c) ∧ ((goodL f l).length ≤ c ∧ VRow w' A (goodL f l)) ∧ Below w.heap.size w w'
theorem pack_cells (w2 : World) (f2 g : ByteArray) (A1 A2 : Option Addr) (n1 n2 c1 c2 : Nat) (W : World) (hW : W = (w2.alloc (.cells #[.string f2, .string g, .string g] 9)).alloc (.cells #[.slice A1 n1 c1, .slice A1 n1 c1, .slice A2 n2 c2] 79)) :
    (W.cell? ⟨w2.heap.size, 0, none⟩ = some (.string f2) ∧ W.cell? ⟨w2.heap.size, 1, none⟩ = some (.string g) ∧ W.cell? ⟨w2.heap.size, 2, none⟩ = some (.string g)) ∧
    (W.cell? ⟨w2.heap.size + 1, 0, none⟩ = some (.slice A1 n1 c1) ∧ W.cell? ⟨w2.heap.size + 1, 1, none⟩ = some (.slice A1 n1 c1) ∧ W.cell? ⟨w2.heap.size + 1, 2, none⟩ = some (.slice A2 n2 c2)) ∧ W.heap.size = w2.heap.size + 2 ∧ Below w2.heap.size w2 W := by
  subst hW
  refine ⟨⟨?_, ?_, ?_⟩, ⟨?_, ?_, ?_⟩, by simp, by (repeat (first | (with_reducible exact Below.refl _ _) | ((with_reducible refine Below.alloc ?_ ?hB _); (case hB => (first | omega | (simp; done) | (simp; omega)))) | ((with_reducible refine Below.setCell ?_ ?hB _); (case hB => (first | omega | (simp; done) | (simp; omega)))) | (with_reducible refine Below.drew ?_) | ((with_reducible refine below_ext_of ?_ ?hB); (case hB => (first | omega | (simp; done) | (simp; omega)))) | ((with_reducible refine Below.trans ?_ (Below.mono (by assumption) ?hB)); (case hB => (first | omega | (simp; done) | (simp; omega))))))⟩
  all_goals go_simp
theorem str_same {b c : ByteArray} (h : b = c) : (b.toList == c.toList) = true := by subst h; simp
end Go.Proofs.YtinnaiofgbjicaaDoor
