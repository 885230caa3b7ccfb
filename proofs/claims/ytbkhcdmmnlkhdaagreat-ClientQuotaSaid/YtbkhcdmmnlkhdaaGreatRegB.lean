/- Regions: the edges of rectangles, those that a row goes through, walked. -/
import Derived.Test.YtbkhcdmmnlkhdaaGreatSrtB
import Derived.Test.YtbkhcdmmnlkhdaaGreatRectH
namespace Go.Proofs.YtbkhcdmmnlkhdaaGreat
open Go.RowKit Go.Proofs.YtbkhcdmmnlkhdaaGreatW.PrintWords
set_option linter.unusedSimpArgs false
set_option linter.unusedVariables false
set_option maxRecDepth 1000000
/-- Rectangles in memory. -/
def RE : Enc R := ⟨4, fun r => [.int .i64 (r).x0, .int .i64 (r).y0, .int .i64 (r).x1, .int .i64 (r).y1], fun _ => rfl, by decide, fun x u hu => by simp at hu; rcases hu with rfl | rfl | rfl | rfl <;> rfl⟩
theorem info_rect : (Tryz.prog.info? 26).map (fun i => (i.zero, i.size, i.bytes)) = some (some (.agg #[.int .i64 (0), .int .i64 (0), .int .i64 (0), .int .i64 (0)]), 4, 32) := by kernel_rfl
theorem info_int : (Tryz.prog.info? 3).map (fun i => (i.zero, i.size, i.bytes)) = some (some (.int .i64 0), 1, 8) := by kernel_rfl
def atR (l : List R) (i : Nat) : R := l.getD i ⟨0, 0, 0, 0⟩
theorem atR_get {l : List R} {i : Nat} (h : i < l.length) : atR l i = l[i] := by unfold atR; rw [List.getD_eq_getElem?_getD, List.getElem?_eq_getElem h]; rfl
theorem takeR (l : List R) (k : Nat) (h : k < l.length) : l.take (k + 1) = l.take k ++ [atR l k] := by
  rw [List.take_succ_eq_append_getElem h, atR_get h]
theorem RdR.at {w : World} {A : Option Addr} {l : List R} {c : Nat} (h : RdG RE w A l c) (hl : 0 < l.length) : ∃ b off, A = some ⟨b, off, none⟩ ∧ b < w.heap.size ∧ RowAt w b off (atR l) l.length := by
  obtain ⟨b, off, rfl, hb, hc⟩ := h.place hl
  refine ⟨b, off, rfl, hb, fun i hi => ?_⟩
  rw [atR_get hi]
  exact ⟨hc i hi 0 _ rfl, hc i hi 1 _ rfl, hc i hi 2 _ rfl, hc i hi 3 _ rfl⟩
theorem RdG.lit {α : Type} {E : Enc α} (W : World) (l : List α) (e : TypeId) (hl : l.length ≤ 1000000) : RdG E (W.alloc (.cells (flatE E l).toArray e)) (some ⟨W.heap.size, 0, none⟩) l l.length :=
  ⟨Nat.le_refl _, fun e => (by cases e), by omega, fun j u hj => ⟨_, rfl, World.news_of_block (t := e) (fr := (0, 0)) (heap_alloc_new W _) j u (by simpa using hj)⟩⟩
def ptsL (p q : R → Int) (l : List R) : List Int := l.flatMap (fun r => [p r, q r])
theorem ptsL_snoc (p q : R → Int) (l : List R) (r : R) : ptsL p q (l ++ [r]) = ptsL p q l ++ [p r, q r] := by simp [ptsL]
theorem ptsL_len (p q : R → Int) (l : List R) : (ptsL p q l).length = 2 * l.length := by
  induction l with
  | nil => rfl
  | cons x l ih => simp only [ptsL, List.flatMap_cons, List.length_append, List.length_cons, List.length_nil] at *; omega
def edgesL (p q : R → Int) (l : List R) : List Int := Lib.compact (sorted (ptsL p q l))
theorem blk_cellO {w : World} {b : Nat} {cs : Array Value} {t : TypeId} (h : w.heap[b]? = some (.cells cs t (0, 0))) (o : Nat) (v : Value) (hv : cs[o]? = some v) : w.cell? ⟨b, o, none⟩ = some v := (blk_cell h o).trans hv
set_option maxHeartbeats 1000000 in
theorem reg_edges (fn : Nat) (heg : ∀ args w, (callFunc fn args).run Tryz.prog w = .ok (.enter fn args) w) (p q : R → Int) (hof : ∀ W (r : R), Calls Tryz.prog fn #[(.agg #[.int .i64 (r).x0, .int .i64 (r).y0, .int .i64 (r).x1, .int .i64 (r).y1])] W fun e W' => e = .returned (.tuple #[.int .i64 (p r), .int .i64 (q r)]) ∧ Below W.heap.size W W') (g : Nat) (A B : Option Addr) (a b : List R) (ca cb : Nat) (w : World)
    (hg : w.heap[g]? = some (.cells #[.slice A a.length ca, .slice B b.length cb] 75 (0, 0))) (ha : RdG RE w A a ca) (hb : RdG RE w B b cb) (hn : a.length + b.length ≤ 1000000) : Calls Tryz.prog 209 #[.func (.func fn) #[] #[], .slice (some ⟨g, 0, none⟩) 2 2] w (RowP (EI .i64) 3 w (edgesL p q (a ++ b))) := by
  obtain ⟨L, hL0, hL1, hL2⟩ : ∃ L : Nat → List R, L 0 = [] ∧ L 1 = a ∧ L 2 = a ++ b := ⟨fun j => match j with | 0 => [] | 1 => a | _ => a ++ b, rfl, rfl, rfl⟩
  have hround : ∀ j : Nat, j < 2 → ∃ X l c, w.cell? ⟨g, j, none⟩ = some (.slice X l.length c) ∧ RdG RE w X l c ∧ L (j + 1) = L j ++ l ∧ (L j).length + l.length ≤ 1000000 := by
    intro j hj
    match j, hj with
    | 0, _ => exact ⟨A, a, ca, blk_cellO hg 0 _ rfl, ha, by rw [hL0, hL1]; rfl, by rw [hL0]; simp; omega⟩
    | 1, _ => exact ⟨B, b, cb, blk_cellO hg 1 _ rfl, hb, by rw [hL1, hL2], by rw [hL1]; omega⟩
  have hgl := blk_lt hg
  have hlast : ptsL p q (L 2) = ptsL p q (a ++ b) ∧ (ptsL p q (a ++ b)).length ≤ 2000000 := ⟨by rw [hL2], by rw [ptsL_len, List.length_append]; omega⟩
  have hfirst : ptsL p q (L 0) = [] := by rw [hL0]; rfl
  replace hround := Lib.hid hround
  replace hlast := Lib.hid hlast
  replace hfirst := Lib.hid hfirst
  clear hL0 hL1 hL2 ha hb hg hn
  unfold edgesL
  go_enter Tryz.func209, Tryz.ntmps209
  go_wp2
  go_loopw [5, 14] (fun v i wr => ∃ j : Nat, j ≤ 2 ∧ i = .int .i64 j ∧ Hid (Below w.heap.size w wr) ∧ Hid (OwnG (EI .i64) wr w.heap.size 3 v (ptsL p q (L j)))) (fun _ i _ => 2 - (intOf i).toNat)
  case atStart => exact ⟨0, by omega, rfl, Lib.hid (Below.refl _ _), Lib.hid (by rw [hfirst.out]; exact OwnG.nil _ _ _)⟩
  case round =>
    obtain ⟨j, hj, rfl, hbr, hown⟩ := hrel
    by_cases hlt : j < 2
    · obtain ⟨X, l, c, hx, hrd, hLn, hll⟩ := hround.out j hlt
      have g0 := (hbr.out.cell (p := ⟨g, j, none⟩) hgl).trans hx
      have hlt2 : (j : Int) < 2 := by omega
      have hlen := hrd.len
      replace hrd := Lib.hid hrd
      replace hLn := Lib.hid hLn
      have hzr := hbr.out.size
      clear hx
      go_wp2
      go_loopw [5, 20] (fun v i wr2 => ∃ k : Nat, k ≤ l.length ∧ i = .int .i64 k ∧ Below w.heap.size w wr2 ∧ Hid (OwnG (EI .i64) wr2 w.heap.size 3 v (ptsL p q (L j ++ l.take k)))) (fun _ i _ => l.length - (intOf i).toNat)
      case atStart => exact ⟨0, by omega, rfl, hbr.out, by simpa using hown⟩
      case round =>
        obtain ⟨k, hk, rfl, hb2, ho2⟩ := hrel
        by_cases hkl : k < l.length
        · obtain ⟨b0, off, rfl, hb0, hrow⟩ := RdR.at hrd.out (by omega)
          obtain ⟨f0, f1, f2, f3⟩ := hrow k hkl
          have g0 := (hb2.cell (p := ⟨b0, off + k * 4, none⟩) hb0).trans f0
          have g1 := (hb2.cell (p := ⟨b0, off + k * 4 + 1, none⟩) hb0).trans f1
          have g2 := (hb2.cell (p := ⟨b0, off + k * 4 + 2, none⟩) hb0).trans f2
          have g3 := (hb2.cell (p := ⟨b0, off + k * 4 + 3, none⟩) hb0).trans f3
          have hT := Lib.hid (takeR l k hkl)
          have hkz : (k : Int) < l.length := by omega
          have hzq := hb2.size
          have hLl := Lib.hid (show (ptsL p q (L j ++ l.take k)).length ≤ 2000000 by rw [ptsL_len, List.length_append, List.length_take]; omega)
          generalize atR l k = x at *
          clear f0 f1 f2 f3 hrow
          go_wp2_with (first
            | ((with_reducible refine (hof _ x).mono ?_); rintro e w5 ⟨rfl, hb5⟩; obtain ⟨hc5, hf5⟩ := bcell hb5; have hz5 := hb5.size; (try simp only [World.size_alloc, World.size_setCell, World.size_drew] at hz5))
            | (at_builtin; (refine appG_row (E := EI .i64) (w0 := w) w.heap.size rfl _ _ 40 3 _ 1 8 rfl rfl Tryz.underlying40 info_int rfl (by decide) _ (ptsL p q (L j ++ l.take k)) [p x, q x] (some ⟨w5.heap.size, 0, none⟩) 2 rfl rfl (OwnG.below ho2.out ?_) (RdG.lit w5 [p x, q x] 3 (by simp)) ?_ ?_ ?_ ?_); (focus ((repeat (first | (with_reducible exact Below.refl _ _) | ((with_reducible refine Below.alloc ?_ ?hB _); (case hB => (first | omega | (simp; done) | (simp; omega)))) | ((with_reducible refine Below.setCell ?_ ?hB _); (case hB => (first | omega | (simp; done) | (simp; omega)))) | (with_reducible refine Below.drew ?_) | ((with_reducible refine below_ext_of ?_ ?hB); (case hB => (first | omega | (simp; done) | (simp; omega)))) | ((with_reducible refine Below.trans ?_ (Below.mono (by assumption) ?hB)); (case hB => (first | omega | (simp; done) | (simp; omega)))))); done)); (focus ((repeat (first | (with_reducible exact Below.refl _ _) | ((with_reducible refine Below.alloc ?_ ?hB _); (case hB => (first | omega | (simp; done) | (simp; omega)))) | ((with_reducible refine Below.setCell ?_ ?hB _); (case hB => (first | omega | (simp; done) | (simp; omega)))) | (with_reducible refine Below.drew ?_) | ((with_reducible refine below_ext_of ?_ ?hB); (case hB => (first | omega | (simp; done) | (simp; omega)))) | ((with_reducible refine Below.trans ?_ (Below.mono (by assumption) ?hB)); (case hB => (first | omega | (simp; done) | (simp; omega)))))); done)); (focus ((first | omega | (simp; done) | (simp; omega)); done)); (focus (have := hLl.out; simp; omega)); intro v6 w6 ho6 hb6 _ _; have hz6 := hb6.size))
          go_roundw
          case rel => exact ⟨k + 1, by omega, by go_num, hb6, Lib.hid (by rw [hT.out, ← List.append_assoc, ptsL_snoc]; exact ho6)⟩
          case measure => simp [intOf]; omega
        · obtain rfl : k = l.length := by omega
          have hkz : ¬ ((l.length : Int) < l.length) := by omega
          rw [List.take_length] at ho2
          go_wp2
          go_roundw
          case rel => exact ⟨j + 1, by omega, by go_num, Lib.hid hb2, Lib.hid (by rw [hLn.out]; exact ho2.out)⟩
          case measure => simp [intOf]; omega
    · obtain rfl : j = 2 := by omega
      rw [hlast.out.1] at hown
      have hl2 := hlast.out.2
      generalize ptsL p q (a ++ b) = zs at *
      have HO := Lib.hid hown
      have hzr := hbr.out.size
      have hbr := hbr.out
      have cS := ints_Sort' w.heap.size u5 zs wr (by omega) hown.out
      have hsl := sorted_len zs
      have HS := Lib.hid (fun b hb => own_base hown.out b hb)
      clear hown
      go_wp2_with (first
        | (go_at_call 65; (with_reducible refine cS.mono ?_); rintro e w2 ⟨rfl, ho2, hg2⟩; have hz2 := hg2.size; have hb2 := hbr.grown hg2 (by omega) (fun k hk => own_base HO.out.out k hk); have cC := ints_Compact' w.heap.size u5 (sorted zs) w2 (by rw [hsl]; omega) ho2)
        | (go_at_call 216; (with_reducible refine cC.mono ?_); rintro e w3 ⟨v3, rfl, ho3, hg3⟩; have hb3 := hb2.grown hg3 (by omega) (fun k hk => own_base ho2 k hk)))
      go_ret
      exact ⟨_, rfl, ho3, hb3⟩
def acrossB (y : Int) (r : R) : Bool := decide (r.y0 ≤ y) && decide (y < r.y1) && decide (r.x0 < r.x1)
def acrossL (l : List R) (y : Int) : List R := l.filter (acrossB y)
theorem acrossL_take (l : List R) (y : Int) (k : Nat) (h : k < l.length) : acrossL (l.take (k + 1)) y = acrossL (l.take k) y ++ (if acrossB y (atR l k) then [atR l k] else []) := by
  unfold acrossL; rw [takeR l k h, List.filter_append]; congr 1; by_cases hb : acrossB y (atR l k) = true <;> simp [hb]
theorem acrossL_len (l : List R) (y : Int) : (acrossL l y).length ≤ l.length := List.length_filter_le _ _
set_option maxHeartbeats 1000000 in
theorem reg_across (A : Option Addr) (l : List R) (c : Nat) (y : Int) (w : World) (hl : l.length ≤ 1000000) (hr : RdG RE w A l c) : Calls Tryz.prog 217 #[.slice A l.length c, .int .i64 y] w (RowP RE 26 w (acrossL l y)) := by
  have hlen := hr.len
  replace hr := Lib.hid hr
  go_enter Tryz.func217, Tryz.ntmps217
  go_wp2
  go_loopw [5, 10] (fun v i wr => ∃ k : Nat, k ≤ l.length ∧ i = .int .i64 k ∧ Below w.heap.size w wr ∧ Hid (OwnG RE wr w.heap.size 26 v (acrossL (l.take k) y))) (fun _ i _ => l.length - (intOf i).toNat)
  case atStart => exact ⟨0, by omega, rfl, Below.refl _ _, Lib.hid (OwnG.nil _ _ _)⟩
  case round =>
    obtain ⟨k, hk, rfl, hb2, ho2⟩ := hrel
    by_cases hkl : k < l.length
    · obtain ⟨b0, off, rfl, hb0, hrow⟩ := RdR.at hr.out (by omega)
      obtain ⟨f0, f1, f2, f3⟩ := hrow k hkl
      have g0 := (hb2.cell (p := ⟨b0, off + k * 4, none⟩) hb0).trans f0
      have g1 := (hb2.cell (p := ⟨b0, off + k * 4 + 1, none⟩) hb0).trans f1
      have g2 := (hb2.cell (p := ⟨b0, off + k * 4 + 2, none⟩) hb0).trans f2
      have g3 := (hb2.cell (p := ⟨b0, off + k * 4 + 3, none⟩) hb0).trans f3
      have hT := acrossL_take l y k hkl
      have hkz : (k : Int) < l.length := by omega
      have hzq := hb2.size
      have hml : (acrossL (l.take k) y).length ≤ 1000000 := Nat.le_trans (acrossL_len _ _) (by simp; omega)
      generalize atR l k = x at *
      generalize acrossL (l.take k) y = m at *
      clear f0 f1 f2 f3 hrow
      by_cases h1 : x.y0 ≤ y
      · by_cases h2 : y < x.y1
        · by_cases h3 : x.x0 < x.x1
          · have hT2 := Lib.hid (show acrossL (l.take (k + 1)) y = m ++ [x] by rw [hT]; simp [acrossB, h1, h2, h3])
            clear hT
            go_wp2_with (first | (at_builtin; refine appG_one (E := RE) (w0 := w) (w.heap.size) rfl _ _ 75 26 _ 4 32 rfl rfl Tryz.underlying75 info_rect rfl (by decide) _ (m) (x) _ rfl ?_ rfl (OwnG.below ho2.out ?_) ?_ ?_ ?_ ?_; (focus (go_simp; done)); (focus ((repeat (first | (with_reducible exact Below.refl _ _) | ((with_reducible refine Below.alloc ?_ ?hB _); (case hB => (first | omega | (simp; done) | (simp; omega)))) | ((with_reducible refine Below.setCell ?_ ?hB _); (case hB => (first | omega | (simp; done) | (simp; omega)))) | (with_reducible refine Below.drew ?_) | ((with_reducible refine below_ext_of ?_ ?hB); (case hB => (first | omega | (simp; done) | (simp; omega)))) | ((with_reducible refine Below.trans ?_ (Below.mono (by assumption) ?hB)); (case hB => (first | omega | (simp; done) | (simp; omega)))))); done)); (focus ((repeat (first | (with_reducible exact Below.refl _ _) | ((with_reducible refine Below.alloc ?_ ?hB _); (case hB => (first | omega | (simp; done) | (simp; omega)))) | ((with_reducible refine Below.setCell ?_ ?hB _); (case hB => (first | omega | (simp; done) | (simp; omega)))) | (with_reducible refine Below.drew ?_) | ((with_reducible refine below_ext_of ?_ ?hB); (case hB => (first | omega | (simp; done) | (simp; omega)))) | ((with_reducible refine Below.trans ?_ (Below.mono (by assumption) ?hB)); (case hB => (first | omega | (simp; done) | (simp; omega)))))); done)); (focus ((first | omega | (simp; done) | (simp; omega)); done)); (focus omega); intro v6 w6 ho6 hb6 hg6 hat6; have hz6 := hb6.size))
            go_roundw
            case rel => exact ⟨k + 1, by omega, by go_num, hb6, Lib.hid (by rw [hT2.out]; exact ho6)⟩
            case measure => simp [intOf]; omega
          · have hT2 := Lib.hid (show acrossL (l.take (k + 1)) y = m by rw [hT]; simp [acrossB, h3])
            clear hT
            go_wp2
            go_roundw
            case rel => exact ⟨k + 1, by omega, by go_num, by (repeat (first | (with_reducible exact Below.refl _ _) | ((with_reducible refine Below.alloc ?_ ?hB _); (case hB => (first | omega | (simp; done) | (simp; omega)))) | ((with_reducible refine Below.setCell ?_ ?hB _); (case hB => (first | omega | (simp; done) | (simp; omega)))) | (with_reducible refine Below.drew ?_) | ((with_reducible refine below_ext_of ?_ ?hB); (case hB => (first | omega | (simp; done) | (simp; omega)))) | ((with_reducible refine Below.trans ?_ (Below.mono (by assumption) ?hB)); (case hB => (first | omega | (simp; done) | (simp; omega)))))), Lib.hid (by rw [hT2.out]; exact ho2.out.below (by (repeat (first | (with_reducible exact Below.refl _ _) | ((with_reducible refine Below.alloc ?_ ?hB _); (case hB => (first | omega | (simp; done) | (simp; omega)))) | ((with_reducible refine Below.setCell ?_ ?hB _); (case hB => (first | omega | (simp; done) | (simp; omega)))) | (with_reducible refine Below.drew ?_) | ((with_reducible refine below_ext_of ?_ ?hB); (case hB => (first | omega | (simp; done) | (simp; omega)))) | ((with_reducible refine Below.trans ?_ (Below.mono (by assumption) ?hB)); (case hB => (first | omega | (simp; done) | (simp; omega))))))))⟩
            case measure => simp [intOf]; omega
        · have hT2 := Lib.hid (show acrossL (l.take (k + 1)) y = m by rw [hT]; simp [acrossB, h2])
          clear hT
          go_wp2
          go_roundw
          case rel => exact ⟨k + 1, by omega, by go_num, by (repeat (first | (with_reducible exact Below.refl _ _) | ((with_reducible refine Below.alloc ?_ ?hB _); (case hB => (first | omega | (simp; done) | (simp; omega)))) | ((with_reducible refine Below.setCell ?_ ?hB _); (case hB => (first | omega | (simp; done) | (simp; omega)))) | (with_reducible refine Below.drew ?_) | ((with_reducible refine below_ext_of ?_ ?hB); (case hB => (first | omega | (simp; done) | (simp; omega)))) | ((with_reducible refine Below.trans ?_ (Below.mono (by assumption) ?hB)); (case hB => (first | omega | (simp; done) | (simp; omega)))))), Lib.hid (by rw [hT2.out]; exact ho2.out.below (by (repeat (first | (with_reducible exact Below.refl _ _) | ((with_reducible refine Below.alloc ?_ ?hB _); (case hB => (first | omega | (simp; done) | (simp; omega)))) | ((with_reducible refine Below.setCell ?_ ?hB _); (case hB => (first | omega | (simp; done) | (simp; omega)))) | (with_reducible refine Below.drew ?_) | ((with_reducible refine below_ext_of ?_ ?hB); (case hB => (first | omega | (simp; done) | (simp; omega)))) | ((with_reducible refine Below.trans ?_ (Below.mono (by assumption) ?hB)); (case hB => (first | omega | (simp; done) | (simp; omega))))))))⟩
          case measure => simp [intOf]; omega
      · have hT2 := Lib.hid (show acrossL (l.take (k + 1)) y = m by rw [hT]; simp [acrossB, h1])
        clear hT
        go_wp2
        go_roundw
        case rel => exact ⟨k + 1, by omega, by go_num, by (repeat (first | (with_reducible exact Below.refl _ _) | ((with_reducible refine Below.alloc ?_ ?hB _); (case hB => (first | omega | (simp; done) | (simp; omega)))) | ((with_reducible refine Below.setCell ?_ ?hB _); (case hB => (first | omega | (simp; done) | (simp; omega)))) | (with_reducible refine Below.drew ?_) | ((with_reducible refine below_ext_of ?_ ?hB); (case hB => (first | omega | (simp; done) | (simp; omega)))) | ((with_reducible refine Below.trans ?_ (Below.mono (by assumption) ?hB)); (case hB => (first | omega | (simp; done) | (simp; omega)))))), Lib.hid (by rw [hT2.out]; exact ho2.out.below (by (repeat (first | (with_reducible exact Below.refl _ _) | ((with_reducible refine Below.alloc ?_ ?hB _); (case hB => (first | omega | (simp; done) | (simp; omega)))) | ((with_reducible refine Below.setCell ?_ ?hB _); (case hB => (first | omega | (simp; done) | (simp; omega)))) | (with_reducible refine Below.drew ?_) | ((with_reducible refine below_ext_of ?_ ?hB); (case hB => (first | omega | (simp; done) | (simp; omega)))) | ((with_reducible refine Below.trans ?_ (Below.mono (by assumption) ?hB)); (case hB => (first | omega | (simp; done) | (simp; omega))))))))⟩
        case measure => simp [intOf]; omega
    · obtain rfl : k = l.length := by omega
      have hkz : ¬ ((l.length : Int) < l.length) := by omega
      rw [List.take_length] at ho2
      go_wp2
      go_ret
      exact ⟨_, rfl, ho2.out, hb2⟩
end Go.Proofs.YtbkhcdmmnlkhdaaGreat
