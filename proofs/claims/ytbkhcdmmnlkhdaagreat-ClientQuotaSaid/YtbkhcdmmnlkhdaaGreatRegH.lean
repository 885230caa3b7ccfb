/- Regions: a row without its empty rectangles, in place, walked. -/
import Derived.Test.YtbkhcdmmnlkhdaaGreatRegG
namespace Go.Proofs.YtbkhcdmmnlkhdaaGreat
open Go.RowKit Go.Proofs.YtbkhcdmmnlkhdaaGreatW.PrintWords
set_option linter.unusedSimpArgs false
set_option linter.unusedVariables false
set_option maxRecDepth 1000000
theorem fullL_take (l : List R) (j : Nat) (h : j < l.length) : fullL (l.take (j + 1)) = if isE (atR l j) then fullL (l.take j) else fullL (l.take j) ++ [atR l j] := by
  unfold fullL
  rw [takeR l j h, List.filter_append]
  by_cases hb : isE (atR l j) = true <;> simp [hb]
theorem idxL_cases (p : R → Bool) (l : List R) : (idxL p l = -1 ∧ ∀ i, i < l.length → p (atR l i) = false) ∨ ∃ i, i < l.length ∧ idxL p l = i ∧ p (atR l i) = true ∧ ∀ j, j < i → p (atR l j) = false := by
  by_cases ha : l.any p = true
  · right
    obtain ⟨x, hx, hp⟩ := List.any_eq_true.1 ha
    have hlt := List.findIdx_lt_length_of_exists ⟨x, hx, hp⟩
    refine ⟨l.findIdx p, hlt, by unfold idxL; rw [if_pos ha], ?_, fun j hj => ?_⟩
    · rw [atR_get hlt]; exact List.findIdx_getElem (w := hlt)
    · have := List.not_of_lt_findIdx hj
      rw [atR_get (by omega)]; simpa using this
  · left
    refine ⟨by unfold idxL; rw [if_neg ha], fun i hi => ?_⟩
    rw [atR_get hi]
    cases h : p l[i]
    · rfl
    · exact absurd (List.any_eq_true.2 ⟨_, List.getElem_mem hi, h⟩) ha
theorem fullL_self {l : List R} (h : ∀ i, i < l.length → isE (atR l i) = false) : fullL l = l := by
  unfold fullL
  rw [List.filter_eq_self]
  intro x hx
  obtain ⟨i, hi, rfl⟩ := List.getElem_of_mem hx
  have := h i hi
  rw [atR_get hi] at this
  rw [this]; rfl
theorem atR_take {l : List R} {n i : Nat} (h : i < n) (hn : n ≤ l.length) : atR (l.take n) i = atR l i := by
  rw [atR_get (by rw [List.length_take]; omega), atR_get (by omega)]; simp
theorem drop_consR {l : List R} {j : Nat} (h : j < l.length) : l.drop j = atR l j :: l.drop (j + 1) := by
  rw [atR_get h]; exact List.drop_eq_getElem_cons h
theorem fullL_len (l : List R) : (fullL l).length ≤ l.length := List.length_filter_le _ _
theorem part_at4 {w : World} {g : Nat} {t : TypeId} {P cs S : List Value} (h : w.heap[g]? = some (.cells (P ++ (cs ++ S)).toArray t (0, 0))) {n : Nat} (hn : P.length = n) (i : Nat) (v : Value) (hv : cs[i]? = some v) : w.cell? ⟨g, n + i, none⟩ = some v := by
  subst hn
  refine (blk_cell h (P.length + i)).trans ?_
  have hl := (List.getElem?_eq_some_iff.1 hv).1
  rw [List.getElem?_toArray, List.getElem?_append_right (by omega), Nat.add_sub_cancel_left, List.getElem?_append_left hl]; exact hv
theorem set_four (P S : List Value) (x y z u a b c d : Value) (n : Nat) (hn : P.length = n) : ((((P ++ (x :: y :: z :: u :: S)).toArray.setIfInBounds n a).setIfInBounds (n + 1) b).setIfInBounds (n + 2) c).setIfInBounds (n + 3) d = (P ++ (a :: b :: c :: d :: S)).toArray := by
  subst hn
  apply Array.ext'
  simp [List.set_append]
set_option maxHeartbeats 4000000 in
theorem sl_DeleteFunc (B : Nat) (A : Option Addr) (l : List R) (cap : Nat) (w : World) (hl : l.length ≤ 1000000000000) (hB : B ≤ w.heap.size) (hO : OwnG RE w B 26 (.slice A l.length cap) l) :
    Calls Tryz.prog 183 #[.slice A l.length cap, .func (.func 185) #[] #[]] w fun e w' => ∃ v', e = .returned v' ∧ OwnG RE w' B 26 v' (fullL l) ∧ Below B w w' := by
  obtain ⟨A', c', he, hkr, hAb⟩ := hO.rd
  injection he with he1 _ he2
  subst he1 he2
  have cI := sl_IndexFunc 185 #[] heg_Empty isE A l cap w (pred_Empty w) hkr
  rcases idxL_cases isE l with ⟨hi, hall⟩ | ⟨i, hil, hi, hx, hpre⟩
  · rw [hi] at cI
    have HO := Lib.hid hO
    have HF := Lib.hid (fullL_self hall)
    clear hO hkr hAb hi hall
    go_enter Tryz.func183, Tryz.ntmps183
    go_wp2_with (first | (go_at_call 208; (with_reducible refine cI.mono ?_); rintro e w2 ⟨rfl, hb2⟩))
    go_ret
    exact ⟨_, rfl, by rw [HF.out]; exact HO.out.below hb2, hb2.mono hB⟩
  · rw [hi] at cI
    obtain ⟨g, cap', rest, hv, hbg, hg, hc1, hc2, hc3⟩ := hO.form (by omega)
    injection hv with hv1 _ hv2
    subst hv1 hv2
    have hft : fullL (l.take i) = l.take i := fullL_self (fun j hj => by
      rw [List.length_take] at hj
      rw [atR_take (by omega) (by omega)]; exact hpre j (by omega))
    have HF := Lib.hid (show flatE RE l ++ rest = flatE RE (fullL (l.take (i + 1))) ++ ([.int .i64 ((atR l i)).x0, .int .i64 ((atR l i)).y0, .int .i64 ((atR l i)).x1, .int .i64 ((atR l i)).y1] ++ (flatE RE (l.drop (i + 1)) ++ rest)) ∧ (fullL (l.take (i + 1))).length = i from by
      rw [fullL_take l i hil, if_pos hx, hft]
      refine ⟨?_, by rw [List.length_take]; omega⟩
      conv => lhs; rw [← List.take_append_drop i l, drop_consR hil, flatE_append, flatE_cons]
      rw [List.append_assoc, List.append_assoc]; rfl)
    have HG := Lib.hid hg
    have HC := Lib.hid (show (flatE RE l).length + rest.length = cap * 4 from by rw [← List.length_append]; exact hc3)
    have hgl := blk_lt hg
    have b0 : ((i : Int) == -1) = false := by rw [beq_eq_false_iff_ne]; omega
    have hil' := hil
    clear hO hkr hAb hg hx hft hc3 hi hpre
    go_enter Tryz.func183, Tryz.ntmps183
    go_wp2_with (first | (go_at_call 208; (with_reducible refine cI.mono ?_); rintro e w2 ⟨rfl, hb2⟩))
    have hz2 := hb2.size
    go_loopw [5, 6] (fun iv jv wr => ∃ (j r : Nat) (G : List Value), jv = .int .i64 j ∧ iv = .int .i64 r ∧ r + 1 ≤ j ∧ j ≤ l.length ∧ Hid ((fullL (l.take j)).length = r) ∧ Below B w wr ∧ w2.heap.size ≤ wr.heap.size ∧ Hid (wr.heap[g]? = some (.cells (flatE RE (fullL (l.take j)) ++ (G ++ (flatE RE (l.drop j) ++ rest))).toArray 26 (0, 0))) ∧ Hid (G.length + r * 4 = j * 4)) (fun _ jv _ => l.length - (intOf jv).toNat)
    case atStart =>
      refine ⟨i + 1, i, _, by go_num, rfl, Nat.le_refl _, by omega, Lib.hid HF.out.2, hb2.mono hB, Nat.le_refl _, Lib.hid (by rw [← HF.out.1]; exact (hb2.block g (by omega)).trans HG.out), Lib.hid ?_⟩
      simp; omega
    case round =>
      obtain ⟨j, r, G, rfl, rfl, hrj, hj, hdl, hup, hzr, hgr, hGl⟩ := hrel
      by_cases hlt : j < l.length
      · have HT := drop_consR hlt
        have HD := Lib.hid (fullL_take l j hlt)
        generalize fullL (l.take j) = m1 at *
        obtain ⟨x, hx⟩ : ∃ x, atR l j = x := ⟨_, rfl⟩
        rw [hx] at HT HD
        obtain ⟨D, hD⟩ : ∃ D, l.drop (j + 1) = D := ⟨_, rfl⟩
        rw [hD] at HT
        have HDD := Lib.hid hD
        clear hx hD
        rw [HT, flatE_cons, List.append_assoc] at hgr
        have hfl : (flatE RE m1).length = r * 4 := by rw [flatE_len, hdl.out]; rfl
        have hPl : (flatE RE m1 ++ G).length = j * 4 := by rw [List.length_append, hfl]; have := hGl.out; omega
        have hcx := part_at4 (P := flatE RE m1 ++ G) (cs := [.int .i64 (x).x0, .int .i64 (x).y0, .int .i64 (x).x1, .int .i64 (x).y1]) (S := flatE RE D ++ rest) (by rw [List.append_assoc]; exact hgr.out) hPl
        have g0 : wr.cell? ⟨g, j * 4, none⟩ = some (.int .i64 x.x0) := hcx 0 _ rfl
        have g1 : wr.cell? ⟨g, j * 4 + 1, none⟩ = some (.int .i64 x.y0) := hcx 1 _ rfl
        have g2 : wr.cell? ⟨g, j * 4 + 2, none⟩ = some (.int .i64 x.x1) := hcx 2 _ rfl
        have g3 : wr.cell? ⟨g, j * 4 + 3, none⟩ = some (.int .i64 x.y1) := hcx 3 _ rfl
        have HFL := Lib.hid hfl
        have hjz : (j : Int) < l.length := by omega
        have hgw : g < wr.heap.size := by omega
        clear hcx hPl HT hfl
        have cF := fun w1 => rect_Empty x.x0 x.y0 x.x1 x.y1 w1
        cases he : isE x with
        | true =>
          have he' : rEmpty x.x0 x.y0 x.x1 x.y1 = true := he
          rw [he'] at cF
          replace he := Lib.hid he
          clear he'
          go_wp2_with (first | (go_at_call 185; (with_reducible refine (cF _).mono ?_); rintro e w5 ⟨rfl, hb5⟩; have hz5 := hb5.size; (try simp only [World.size_alloc] at hz5)))
          go_roundw
          case rel =>
            refine ⟨j + 1, r, G ++ [.int .i64 (x).x0, .int .i64 (x).y0, .int .i64 (x).x1, .int .i64 (x).y1], by go_num, rfl, by omega, by omega, Lib.hid (by rw [HD.out, if_pos he.out]; exact hdl.out), by (repeat (first | (with_reducible exact Below.refl _ _) | ((with_reducible refine Below.alloc ?_ ?hB _); (case hB => (first | omega | (simp; done) | (simp; omega)))) | ((with_reducible refine Below.setCell ?_ ?hB _); (case hB => (first | omega | (simp; done) | (simp; omega)))) | (with_reducible refine Below.drew ?_) | ((with_reducible refine below_ext_of ?_ ?hB); (case hB => (first | omega | (simp; done) | (simp; omega)))) | ((with_reducible refine Below.trans ?_ (Below.mono (by assumption) ?hB)); (case hB => (first | omega | (simp; done) | (simp; omega)))))), by omega, Lib.hid ?_, Lib.hid (by have := hGl.out; simp; omega)⟩
            rw [HD.out, if_pos he.out, HDD.out, List.append_assoc]
            exact (hb5.block g (by simp; omega)).trans (blk_alloc hgr.out _)
          case measure => simp [intOf]; omega
        | false =>
          have he' : rEmpty x.x0 x.y0 x.x1 x.y1 = false := he
          rw [he'] at cF
          replace he := Lib.hid he
          clear he'
          obtain ⟨y0, y1, y2, y3, G2, rfl⟩ : ∃ y0 y1 y2 y3 G2, G = y0 :: y1 :: y2 :: y3 :: G2 := by
            have := hGl.out
            match G, this with
            | [], h => simp at h; omega
            | [_], h => simp at h; omega
            | [_, _], h => simp at h; omega
            | [_, _, _], h => simp at h; omega
            | a :: b :: c :: d :: G2, _ => exact ⟨a, b, c, d, G2, rfl⟩
          have hG2 := Lib.hid (show G2.length + 4 + r * 4 = j * 4 from by have := hGl.out; simp at this; omega)
          go_wp2_with (first | (go_at_call 185; (with_reducible refine (cF _).mono ?_); rintro e w5 ⟨rfl, hb5⟩; have hz5 := hb5.size; (try simp only [World.size_alloc] at hz5); have hg5 := Lib.hid ((hb5.block g (by simp; omega)).trans (blk_alloc hgr.out _)); have hcs := part_at4 (P := flatE RE m1) (cs := [y0, y1, y2, y3]) (S := G2 ++ ([.int .i64 (x).x0, .int .i64 (x).y0, .int .i64 (x).x1, .int .i64 (x).y1] ++ (flatE RE D ++ rest))) hg5.out HFL.out; have s0 : w5.cell? ⟨g, r * 4, none⟩ = some y0 := hcs 0 _ rfl; have s1 : w5.cell? ⟨g, r * 4 + 1, none⟩ = some y1 := hcs 1 _ rfl; have s2 : w5.cell? ⟨g, r * 4 + 2, none⟩ = some y2 := hcs 2 _ rfl; have s3 : w5.cell? ⟨g, r * 4 + 3, none⟩ = some y3 := hcs 3 _ rfl; have t0 := blk_frozen hg5.out (r * 4); have t1 := blk_frozen hg5.out (r * 4 + 1); have t2 := blk_frozen hg5.out (r * 4 + 2); have t3 := blk_frozen hg5.out (r * 4 + 3); clear hcs; have bx := (hb5.block wr.heap.size (by simp)).trans (heap_alloc_new wr _); have q0 : w5.cell? ⟨wr.heap.size, 0, none⟩ = some (.int .i64 x.x0) := blk_cellO bx 0 _ rfl; have q1 : w5.cell? ⟨wr.heap.size, 1, none⟩ = some (.int .i64 x.y0) := blk_cellO bx 1 _ rfl; have q2 : w5.cell? ⟨wr.heap.size, 2, none⟩ = some (.int .i64 x.x1) := blk_cellO bx 2 _ rfl; have q3 : w5.cell? ⟨wr.heap.size, 3, none⟩ = some (.int .i64 x.y1) := blk_cellO bx 3 _ rfl; clear bx))
          have hg7 := Lib.hid (show ((((w5.setCell ⟨g, r * 4, none⟩ (.int .i64 x.x0)).setCell ⟨g, r * 4 + 1, none⟩ (.int .i64 x.y0)).setCell ⟨g, r * 4 + 2, none⟩ (.int .i64 x.x1)).setCell ⟨g, r * 4 + 3, none⟩ (.int .i64 x.y1)).heap[g]? = some (.cells (flatE RE m1 ++ (Value.int .i64 x.x0 :: Value.int .i64 x.y0 :: Value.int .i64 x.x1 :: Value.int .i64 x.y1 :: (G2 ++ ([.int .i64 (x).x0, .int .i64 (x).y0, .int .i64 (x).x1, .int .i64 (x).y1] ++ (flatE RE D ++ rest))))).toArray 26 (0, 0)) from by
            rw [blk_set (blk_set (blk_set (blk_set hg5.out (r * 4) _) (r * 4 + 1) _) (r * 4 + 2) _) (r * 4 + 3) _]
            have := set_four (flatE RE m1) (G2 ++ ([.int .i64 (x).x0, .int .i64 (x).y0, .int .i64 (x).x1, .int .i64 (x).y1] ++ (flatE RE D ++ rest))) y0 y1 y2 y3 (.int .i64 x.x0) (.int .i64 x.y0) (.int .i64 x.x1) (.int .i64 x.y1) (r * 4) HFL.out
            rw [← this]; rfl)
          go_roundw
          case rel =>
            refine ⟨j + 1, r + 1, G2 ++ [.int .i64 (x).x0, .int .i64 (x).y0, .int .i64 (x).x1, .int .i64 (x).y1], by go_num, by go_num, by omega, by omega, Lib.hid (by rw [HD.out, if_neg (by rw [he.out]; decide), List.length_append, hdl.out]; rfl), by (repeat (first | (with_reducible exact Below.refl _ _) | ((with_reducible refine Below.alloc ?_ ?hB _); (case hB => (first | omega | (simp; done) | (simp; omega)))) | ((with_reducible refine Below.setCell ?_ ?hB _); (case hB => (first | omega | (simp; done) | (simp; omega)))) | (with_reducible refine Below.drew ?_) | ((with_reducible refine below_ext_of ?_ ?hB); (case hB => (first | omega | (simp; done) | (simp; omega)))) | ((with_reducible refine Below.trans ?_ (Below.mono (by assumption) ?hB)); (case hB => (first | omega | (simp; done) | (simp; omega)))))), by simp; omega, Lib.hid ?_, Lib.hid (by have := hG2.out; simp; omega)⟩
            rw [HD.out, if_neg (by rw [he.out]; decide), HDD.out, flatE_append, flatE_one, hg7.out]
            simp only [List.append_assoc, List.cons_append, List.nil_append]
            rfl
          case measure => simp [intOf]; omega
      · obtain rfl : j = l.length := by omega
        rw [List.take_length] at hdl hgr
        rw [List.drop_length] at hgr
        have hfl : (flatE RE (fullL l)).length = r * 4 := by rw [flatE_len, hdl.out]; rfl
        have HFL := Lib.hid hfl
        obtain ⟨n, hn⟩ : ∃ n, l.length - r = n + 1 := ⟨l.length - r - 1, by omega⟩
        have HN := Lib.hid hn
        have HDL := hdl
        have hrc : r ≤ cap := by omega
        have hrl : r ≤ l.length := by omega
        have hjz : ¬ ((l.length : Int) < l.length) := by omega
        have hGN := Lib.hid (show G.length = (l.length - r) * 4 from by have := hGl.out; omega)
        have hgw : g < wr.heap.size := by omega
        clear hfl hn hdl
        have hgr' := Lib.hid (show wr.heap[g]? = some (.cells (flatE RE (fullL l) ++ (G ++ rest)).toArray 26 (0, 0)) from hgr.out)
        clear hgr
        go_wp2_with (first | (refine wpList_clear_r rfl rfl g (r * 4) (l.length - r) n (cap - r) (flatE RE (fullL l)) G rest HN.out ?_ hgr'.out HFL.out hGN.out ?_; (focus (simp [Act.eval, Act.put]; done)); intro w6 Z hZ hg6 hgr6 hsz6))
        go_ret
        refine ⟨_, rfl, ?_, hup.grown hgr6 (Nat.le_trans hB (by have := hb2.size; omega)) (fun k e => by injection e with e; omega)⟩
        have h5 := HDL.out
        have ho := OwnG.of_form (E := RE) (l := fullL l) (cap := cap) hbg hg6.out (by rw [h5]; omega) hc2 (by
          have h1 := HC.out
          have h2 := HFL.out
          have h3 := flatE_len RE l
          have h4 : RE.k = 4 := rfl
          rw [h4] at h3
          simp only [List.length_append, h4]
          omega)
        rw [h5] at ho
        exact ho
end Go.Proofs.YtbkhcdmmnlkhdaaGreat
