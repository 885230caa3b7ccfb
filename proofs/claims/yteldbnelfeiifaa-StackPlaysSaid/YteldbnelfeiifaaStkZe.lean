/- All keys of a client, struck out of a row in place, walked. -/
import Derived.Test.YteldbnelfeiifaaStkZd
namespace Go.Proofs.Yteldbnelfeiifaa
open Go.RowKit Go.Proofs.YteldbnelfeiifaaW.PrintWords
set_option linter.unusedSimpArgs false
set_option linter.unusedVariables false
set_option maxRecDepth 1000000
attribute [local go_sem high] eqK eqKS
theorem dropA_self {l : List K2} {c : Int} : dropA l c = l ↔ ∀ i, i < l.length → (atK l i).c ≠ c := by
  unfold dropA
  rw [List.filter_eq_self]
  constructor
  · intro h i hi
    have := h (l[i]) (List.getElem_mem hi)
    rw [atK_get hi]; simpa using this
  · intro h x hx
    obtain ⟨i, hi, rfl⟩ := List.getElem_of_mem hx
    have := h i hi
    rw [atK_get hi] at this; simpa using this
theorem atK_take {l : List K2} {n i : Nat} (h : i < n) (hn : n ≤ l.length) : atK (l.take n) i = atK l i := by
  rw [atK_get (by rw [List.length_take]; omega), atK_get (by omega)]; simp
theorem first_at {l : List K2} {c : Int} (h : ¬ dropA l c = l) : ∃ i, i < l.length ∧ (atK l i).c = c ∧ dropA (l.take i) c = l.take i := by
  have hex : ∃ x ∈ l, (fun x : K2 => decide (x.c = c)) x = true := by
    refine Classical.byContradiction fun hn => h ?_
    unfold dropA
    rw [List.filter_eq_self]
    intro x hx
    refine decide_eq_true fun e => hn ⟨x, hx, by simp [e]⟩
  have hlt := List.findIdx_lt_length_of_exists hex
  refine ⟨_, hlt, ?_, ?_⟩
  · have := List.findIdx_getElem (w := hlt)
    rw [atK_get hlt]; simpa using this
  · rw [dropA_self]
    intro i hi
    have hi' : i < l.findIdx (fun x : K2 => decide (x.c = c)) := by rw [List.length_take] at hi; omega
    have := List.not_of_lt_findIdx hi'
    rw [atK_take hi' (by omega), atK_get (by omega)]; simpa using this
theorem sl_IfAll (b3 b5 : Nat) (c : Int) (A : Option Addr) (l : List K2) (cap : Nat) (v : Value) (w : World) (hl : l.length ≤ 10000) (hr : KRow w A l) (hA : ∀ ad, A = some ad → ad.block < b5) (h3 : w.heap[b3]? = some (.cells #[.int .i64 c] 3 (0, 0))) (h5 : Da w b5 v []) (h35 : b3 < b5) (hd : dropA l c = l) :
    Calls Try.prog 99 #[.slice A l.length cap, (.func (.func 85) #[] #[(.pointer (some ⟨b3, 0, none⟩)), (.pointer (some ⟨b5, 0, none⟩))])] w fun e w' => e = .returned (.int .i64 (-1)) ∧ ∃ v', Below b5 w w' ∧ Da w' b5 v' (goneA l c) := by
  refine (sl_IndexFunc b3 b5 c A l cap v w hl hr hA h3 h5 h35).mono fun e w' h => ?_
  obtain ⟨v', hb, (⟨_, rfl, hda⟩ | ⟨i, hi, hx, _⟩)⟩ := h
  · exact ⟨rfl, v', hb, hda⟩
  · exact absurd hx (dropA_self.1 hd i hi)
theorem sl_IfAt (b3 b5 : Nat) (c : Int) (A : Option Addr) (l : List K2) (cap : Nat) (v : Value) (w : World) (hl : l.length ≤ 10000) (hr : KRow w A l) (hA : ∀ ad, A = some ad → ad.block < b5) (h3 : w.heap[b3]? = some (.cells #[.int .i64 c] 3 (0, 0))) (h5 : Da w b5 v []) (h35 : b3 < b5) (i : Nat) (hi : i < l.length) (hx : (atK l i).c = c) (hd : dropA (l.take i) c = l.take i) :
    Calls Try.prog 99 #[.slice A l.length cap, (.func (.func 85) #[] #[(.pointer (some ⟨b3, 0, none⟩)), (.pointer (some ⟨b5, 0, none⟩))])] w fun e w' => e = .returned (.int .i64 i) ∧ ∃ v', Below b5 w w' ∧ Da w' b5 v' (goneA (l.take (i + 1)) c) := by
  refine (sl_IndexFunc b3 b5 c A l cap v w hl hr hA h3 h5 h35).mono fun e w' h => ?_
  obtain ⟨v', hb, (⟨hn, _⟩ | ⟨j, hj, hy, hdj, rfl, hda⟩)⟩ := h
  · exact absurd hx (dropA_self.1 hn i hi)
  · rcases Nat.lt_trichotomy i j with hij | rfl | hij
    · have := dropA_self.1 hdj i (by rw [List.length_take]; omega)
      rw [atK_take hij (by omega)] at this
      exact absurd hx this
    · exact ⟨rfl, v', hb, hda⟩
    · have := dropA_self.1 hd j (by rw [List.length_take]; omega)
      rw [atK_take hij (by omega)] at this
      exact absurd hy this
theorem drop_consK {l : List K2} {j : Nat} (h : j < l.length) : l.drop j = atK l j :: l.drop (j + 1) := by
  rw [atK_get h]; exact List.drop_eq_getElem_cons h
theorem OwnK.same {w w' : World} {base : Nat} {t : TypeId} {v : Value} {l : List K2} (h : OwnK w base t v l) (hs : ∀ b, v.ownBlock = some b → w'.heap[b]? = w.heap[b]?) : OwnK w' base t v l := by
  refine ⟨h.1, ?_⟩
  rcases h.2 with hn | ⟨g, cap, cur, rfl, hb, hgg, rest⟩
  · exact .inl hn
  · exact .inr ⟨g, cap, cur, rfl, hb, (hs g rfl).trans hgg, rest⟩
theorem flatK_cons (k : K2) (l : List K2) : flatK (k :: l) = [.int .i64 k.c, .int .i64 k.i] ++ flatK l := rfl
set_option maxHeartbeats 4000000 in
theorem sl_DeleteFunc (p b3 b5 : Nat) (c : Int) (A : Option Addr) (l : List K2) (cap : Nat) (v : Value) (w : World) (hl : l.length ≤ 10000) (hO : OwnK w (p + 1) 62 (.slice A l.length cap) l) (hA : ∀ ad, A = some ad → ad.block < b3) (h3 : w.heap[b3]? = some (.cells #[.int .i64 c] 3 (0, 0))) (h5 : Da w b5 v []) (h35 : b3 < b5) :
    Calls Try.prog 84 #[.slice A l.length cap, (.func (.func 85) #[] #[(.pointer (some ⟨b3, 0, none⟩)), (.pointer (some ⟨b5, 0, none⟩))])] w (DfP w p b5 l A c) := by
  have hl5 := blk_lt h5.blk
  obtain ⟨A', c', he, hkr⟩ := hO.kr
  injection he with he1 _ he2
  subst he1 he2
  have hown_eq : ∀ (n1 c1 n2 c2 : Nat), (Value.slice A n1 c1).ownBlock = (Value.slice A n2 c2).ownBlock := fun _ _ _ _ => by cases A <;> rfl
  by_cases hd : dropA l c = l
  · have cI := sl_IfAll b3 b5 c A l cap v w hl hkr.row (fun ad e => by have := hA ad e; omega) h3 h5 h35 hd
    have HD := Lib.hid hd
    have HO := Lib.hid hO
    have HA := Lib.hid hA
    have HE := Lib.hid hown_eq
    clear hd hO hA h3 h5 hkr hown_eq
    go_enter Try.func84, Try.ntmps84
    go_wp2_with (first | (go_at_call 99; (with_reducible refine cI.mono ?_); rintro e w2 ⟨rfl, v2, hb2, hda⟩; replace hda := Lib.hid hda))
    go_ret
    refine ⟨A, _, _, v2, rfl, ?_, HE.out _ _ _ _, hda.out, Upto.below hb2⟩
    rw [HD.out]
    refine HO.out.same fun b hb => hb2.block b ?_
    cases A with
    | none => cases hb
    | some ad => injection hb with hb; subst hb; have := HA.out ad rfl; omega
  · obtain ⟨i, hi, hx, hdt⟩ := first_at hd
    have cI := sl_IfAt b3 b5 c A l cap v w hl hkr.row (fun ad e => by have := hA ad e; omega) h3 h5 h35 i hi hx hdt
    obtain ⟨g, cap', rest, hv, hbg, hg, hc1, hc2, hc3⟩ := hO.form (by omega)
    injection hv with hv1 _ hv2
    subst hv1 hv2
    have hgb : g < b3 := hA _ rfl
    have H3 := Lib.hid h3
    have HF := Lib.hid (show flatK l ++ rest = flatK (dropA (l.take (i + 1)) c) ++ ([.int .i64 (atK l i).c, .int .i64 (atK l i).i] ++ (flatK (l.drop (i + 1)) ++ rest)) ∧ (dropA (l.take (i + 1)) c).length = i from by
      rw [dropA_take l c i hi, if_pos hx, hdt]
      refine ⟨?_, by rw [List.length_take]; omega⟩
      conv => lhs; rw [← List.take_append_drop i l, drop_consK hi, flatK_append, flatK_cons]
      simp only [List.append_assoc])
    have HG := Lib.hid hg
    have HX := Lib.hid hx
    have HC := Lib.hid (show (flatK l).length + rest.length = cap * 2 from by rw [← List.length_append]; exact hc3)
    have hgl := blk_lt hg
    have b0 : ((i : Int) == -1) = false := by rw [beq_eq_false_iff_ne]; omega
    clear hd hO hA h3 h5 hkr hown_eq hg hx hdt hc3
    go_enter Try.func84, Try.ntmps84
    go_wp2_with (first | (go_at_call 99; (with_reducible refine cI.mono ?_); rintro e w2 ⟨rfl, v2, hb2, hda⟩; replace hda := Lib.hid hda))
    have hz2 := hb2.size
    go_loopw [5, 6] (fun iv jv wr => ∃ (j r : Nat) (v1 : Value) (G : List Value), jv = .int .i64 j ∧ iv = .int .i64 r ∧ r + 1 ≤ j ∧ j ≤ l.length ∧ Hid ((dropA (l.take j) c).length = r) ∧ Hid (Upto b5 (some g) w wr) ∧ Hid (Da wr b5 v1 (goneA (l.take j) c)) ∧ Hid (wr.heap[g]? = some (.cells (flatK (dropA (l.take j) c) ++ (G ++ (flatK (l.drop j) ++ rest))).toArray 62 (0, 0))) ∧ Hid (G.length + r * 2 = j * 2)) (fun _ jv _ => l.length - (intOf jv).toNat)
    case atStart =>
      refine ⟨i + 1, i, v2, _, by go_num, rfl, Nat.le_refl _, by omega, Lib.hid HF.out.2, Lib.hid (Upto.below hb2), hda, Lib.hid (by rw [← HF.out.1]; exact (hb2.block g (by omega)).trans HG.out), Lib.hid ?_⟩
      simp; omega
    case round =>
      obtain ⟨j, r, v1, G, rfl, rfl, hrj, hj, hdl, hup, hda1, hgr, hGl⟩ := hrel
      have hzr := hup.out.size
      have hbl := blk_lt hda1.out.blk
      have hgb5 : g < b5 := by omega
      by_cases hlt : j < l.length
      · have HT := drop_consK hlt
        have HD := Lib.hid (dropA_take l c j hlt)
        have HE := Lib.hid (goneA_take l c j hlt)
        have hm2 := goneA_len (l.take j) c
        rw [List.length_take] at hm2
        generalize dropA (l.take j) c = m1 at *
        generalize goneA (l.take j) c = m2 at *
        have hm2' : m2.length ≤ 10000 := by omega
        obtain ⟨x, hx⟩ : ∃ x, atK l j = x := ⟨_, rfl⟩
        rw [hx] at HT HD HE
        obtain ⟨D, hD⟩ : ∃ D, l.drop (j + 1) = D := ⟨_, rfl⟩
        rw [hD] at HT
        have HDD := Lib.hid hD
        clear hx hD
        rw [HT, flatK_cons, List.append_assoc] at hgr
        have hfl : (flatK m1).length = r * 2 := by rw [flatK_len, hdl.out]
        have hPl : (flatK m1 ++ G).length = j * 2 := by rw [List.length_append, hfl]; have := hGl.out; omega
        have hcx := part_at (P := flatK m1 ++ G) (cs := [.int .i64 x.c, .int .i64 x.i]) (R := flatK D ++ rest) (by rw [List.append_assoc]; exact hgr.out) hPl
        have g0 : wr.cell? ⟨g, j * 2, none⟩ = some (.int .i64 x.c) := by have := hcx 0 _ rfl; rwa [add_any, Nat.add_zero] at this
        have g1 : wr.cell? ⟨g, j * 2 + 1, none⟩ = some (.int .i64 x.i) := by have := hcx 1 _ rfl; rwa [add_any] at this
        have HFL := Lib.hid hfl
        clear hcx hPl HT hfl hm2
        have cF := fun w1 (hb : Below wr.heap.size wr w1) => da_fn b3 b5 c x m2 v1 w1 ((hb.block b3 (by omega)).trans ((hup.out.block b3 h35 (fun e => by injection e with e; omega)).trans H3.out)) (hda1.out.below hb) h35 hm2'
        unfold DaP at cF
        have hvl := Lib.hid (fun b hb => hda1.out.own.lt b hb)
        by_cases he : x.c = c
        · rw [decide_eq_true he] at cF
          have HC' := Lib.hid he
          clear he
          go_wp2_with (first | (go_at_call 85; (with_reducible refine (cF _ ?_).mono ?_); (focus ((repeat (first | (with_reducible exact Below.refl _ _) | ((with_reducible refine Below.alloc ?_ ?hB _); (case hB => (first | omega | (simp; done) | (simp; omega)))) | ((with_reducible refine Below.setCell ?_ ?hB _); (case hB => (first | omega | (simp; done) | (simp; omega)))) | (with_reducible refine Below.drew ?_) | ((with_reducible refine below_ext_of ?_ ?hB); (case hB => (first | omega | (simp; done) | (simp; omega)))) | ((with_reducible refine Below.trans ?_ (Below.mono (by assumption) ?hB)); (case hB => (first | omega | (simp; done) | (simp; omega)))))); done)); rintro e w5 ⟨v5, rfl, hb5, hd5, hk5⟩; replace hd5 := Lib.hid hd5; replace hk5 := Lib.hid hk5))
          go_roundw
          case rel =>
            refine ⟨j + 1, r, v5, G ++ [.int .i64 x.c, .int .i64 x.i], by go_num, rfl, by omega, by omega, Lib.hid (by rw [HD.out, if_pos HC'.out]; exact hdl.out), Lib.hid (hup.out.trans (Upto.below ?_)), Lib.hid ?_, Lib.hid ?_, Lib.hid (by have := hGl.out; simp; omega)⟩
            · exact ((show Below wr.heap.size wr (wr.alloc (.cells #[.int .i64 x.c, .int .i64 x.i] 62)) from by (repeat (first | (with_reducible exact Below.refl _ _) | ((with_reducible refine Below.alloc ?_ ?hB _); (case hB => (first | omega | (simp; done) | (simp; omega)))) | ((with_reducible refine Below.setCell ?_ ?hB _); (case hB => (first | omega | (simp; done) | (simp; omega)))) | (with_reducible refine Below.drew ?_) | ((with_reducible refine below_ext_of ?_ ?hB); (case hB => (first | omega | (simp; done) | (simp; omega)))) | ((with_reducible refine Below.trans ?_ (Below.mono (by assumption) ?hB)); (case hB => (first | omega | (simp; done) | (simp; omega))))))).mono (by omega)).trans hb5
            · have := hd5.out
              rw [HE.out, if_pos HC'.out]
              rwa [show goneA [x] c = [x] from by simp [goneA, HC'.out]] at this
            · rw [HD.out, if_pos HC'.out, HDD.out, List.append_assoc]
              exact (hb5.block g hgb5).trans (blk_alloc hgr.out _)
          case measure => simp [intOf]; omega
        · rw [decide_eq_false he] at cF
          have HC' := Lib.hid he
          clear he
          obtain ⟨y0, y1, G2, rfl⟩ : ∃ y0 y1 G2, G = y0 :: y1 :: G2 := by
            have := hGl.out
            match G, this with
            | [], h => simp at h; omega
            | [_], h => simp at h; omega
            | a :: b :: G2, _ => exact ⟨a, b, G2, rfl⟩
          have hG2 := Lib.hid (show G2.length + 2 + r * 2 = j * 2 from by have := hGl.out; simp at this; omega)
          go_wp2_with (first | (go_at_call 85; (with_reducible refine (cF _ ?_).mono ?_); (focus ((repeat (first | (with_reducible exact Below.refl _ _) | ((with_reducible refine Below.alloc ?_ ?hB _); (case hB => (first | omega | (simp; done) | (simp; omega)))) | ((with_reducible refine Below.setCell ?_ ?hB _); (case hB => (first | omega | (simp; done) | (simp; omega)))) | (with_reducible refine Below.drew ?_) | ((with_reducible refine below_ext_of ?_ ?hB); (case hB => (first | omega | (simp; done) | (simp; omega)))) | ((with_reducible refine Below.trans ?_ (Below.mono (by assumption) ?hB)); (case hB => (first | omega | (simp; done) | (simp; omega)))))); done)); rintro e w5 ⟨v5, rfl, hb5, hd5, hk5⟩; replace hd5 := Lib.hid hd5; replace hk5 := Lib.hid hk5; have hg5 := Lib.hid ((hb5.block g hgb5).trans (blk_alloc hgr.out _)); have hcs := part_at (P := flatK m1) (cs := [y0, y1]) (R := G2 ++ ([.int .i64 x.c, .int .i64 x.i] ++ (flatK D ++ rest))) hg5.out HFL.out; have s0 : w5.cell? ⟨g, r * 2, none⟩ = some y0 := (by have := hcs 0 _ rfl; rwa [add_any, Nat.add_zero] at this); have s1 : w5.cell? ⟨g, r * 2 + 1, none⟩ = some y1 := (by have := hcs 1 _ rfl; rwa [add_any] at this); have t0 := blk_frozen hg5.out (r * 2); have t1 := blk_frozen hg5.out (r * 2 + 1); clear hcs; have hz5 := hb5.size; have bx := (hk5.out wr.heap.size (by simp) (by omega) (fun e => Nat.lt_irrefl _ (hvl.out _ e))).trans (heap_alloc_new wr _); have q0 : w5.cell? ⟨wr.heap.size, 0, none⟩ = some (.int .i64 x.c) := (by simp [World.cell?, bx]); have q1 : w5.cell? ⟨wr.heap.size, 1, none⟩ = some (.int .i64 x.i) := (by simp [World.cell?, bx]); clear bx))
          have hg7 := Lib.hid (show ((w5.setCell ⟨g, r * 2, none⟩ (.int .i64 x.c)).setCell ⟨g, r * 2 + 1, none⟩ (.int .i64 x.i)).heap[g]? = some (.cells (flatK m1 ++ (Value.int .i64 x.c :: Value.int .i64 x.i :: (G2 ++ ([Value.int .i64 x.c, Value.int .i64 x.i] ++ (flatK D ++ rest))))).toArray 62 (0, 0)) from by
            rw [blk_set (blk_set hg5.out (r * 2) _) (r * 2 + 1) _]
            have := set_two (flatK m1) (G2 ++ ([.int .i64 x.c, .int .i64 x.i] ++ (flatK D ++ rest))) y0 y1 (.int .i64 x.c) (.int .i64 x.i) (r * 2) HFL.out
            rw [← this]; rfl)
          go_roundw
          case rel =>
            refine ⟨j + 1, r + 1, v5, G2 ++ [.int .i64 x.c, .int .i64 x.i], by go_num, by go_num, by omega, by omega, Lib.hid (by rw [HD.out, if_neg HC'.out, List.length_append, hdl.out]; rfl), Lib.hid (hup.out.trans ((Upto.below ?_).trans ((Upto.set w5 _).trans (Upto.set _ _)))), Lib.hid ?_, Lib.hid ?_, Lib.hid (by have := hG2.out; simp; omega)⟩
            · exact ((show Below wr.heap.size wr (wr.alloc (.cells #[.int .i64 x.c, .int .i64 x.i] 62)) from by (repeat (first | (with_reducible exact Below.refl _ _) | ((with_reducible refine Below.alloc ?_ ?hB _); (case hB => (first | omega | (simp; done) | (simp; omega)))) | ((with_reducible refine Below.setCell ?_ ?hB _); (case hB => (first | omega | (simp; done) | (simp; omega)))) | (with_reducible refine Below.drew ?_) | ((with_reducible refine below_ext_of ?_ ?hB); (case hB => (first | omega | (simp; done) | (simp; omega)))) | ((with_reducible refine Below.trans ?_ (Below.mono (by assumption) ?hB)); (case hB => (first | omega | (simp; done) | (simp; omega))))))).mono (by omega)).trans hb5
            · have hd := hd5.out
              rw [HE.out, if_neg HC'.out]
              rw [show goneA [x] c = [] from by simp [goneA, HC'.out], List.append_nil] at hd
              have hne : some g ≠ v5.ownBlock := fun e => by have := (World.ownsRow.lt hd.own g e.symm).1; omega
              exact ⟨(heap_set_ne _ ⟨g, r * 2 + 1, none⟩ _ b5 (by show b5 ≠ g; omega)).trans ((heap_set_ne _ ⟨g, r * 2, none⟩ _ b5 (by show b5 ≠ g; omega)).trans hd.blk), own_setCell (own_setCell hd.own hne _) hne _⟩
            · rw [HD.out, if_neg HC'.out, HDD.out, flatK_append, flatK_one, hg7.out]
              simp only [List.append_assoc, List.cons_append, List.nil_append]
          case measure => simp [intOf]; omega
      · obtain rfl : j = l.length := by omega
        rw [List.take_length] at hdl hda1 hgr
        rw [List.drop_length] at hgr
        have hfl : (flatK (dropA l c)).length = r * 2 := by rw [flatK_len, hdl.out]
        have HFL := Lib.hid hfl
        obtain ⟨n, hn⟩ : ∃ n, l.length - r = n + 1 := ⟨l.length - r - 1, by omega⟩
        have HN := Lib.hid hn
        have HDL := hdl
        have hrc : r ≤ cap := by omega
        have hrl : r ≤ l.length := by omega
        have hGN := Lib.hid (show G.length = (l.length - r) * 2 from by have := hGl.out; omega)
        clear hfl hn hdl
        have hgr' := Lib.hid (show wr.heap[g]? = some (.cells (flatK (dropA l c) ++ (G ++ rest)).toArray 62 (0, 0)) from hgr.out)
        clear hgr
        go_wp2_with (first | (refine wpList_clear_k rfl rfl g (r * 2) (l.length - r) n (cap - r) (flatK (dropA l c)) G rest HN.out ?_ hgr'.out HFL.out hGN.out ?_; (focus (simp [Act.eval, Act.put]; done)); intro w6 Z hZ hg6 hgr6 hsz6))
        go_ret
        refine ⟨some ⟨g, 0, none⟩, r, cap, v1, rfl, ?_, rfl, ?_, hup.out.trans (Upto.grown hgr6 (by omega))⟩
        · have ho := OwnK.mk (l := dropA l c) hbg hg6.out (by rw [HDL.out]; omega) hc2 (by
            have h1 := HC.out
            have h2 := HFL.out
            have h3 := flatK_len l
            simp only [List.length_append]
            omega)
          rwa [HDL.out] at ho
        · exact ⟨(hgr6.block b5 hbl (fun e => by injection e with e; omega)).trans hda1.out.blk, hda1.out.own.same fun b hb => by
            have hr := World.ownsRow.lt hda1.out.own b hb
            exact hgr6.block b hr.2 (fun e => by injection e with e; omega)⟩
end Go.Proofs.Yteldbnelfeiifaa
