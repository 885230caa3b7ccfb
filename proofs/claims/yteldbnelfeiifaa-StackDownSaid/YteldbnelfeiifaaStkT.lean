/- The law StackAll, walked. -/
import Derived.Test.YteldbnelfeiifaaStkS
namespace Go.Proofs.Yteldbnelfeiifaa
open Go.RowKit Go.Proofs.YteldbnelfeiifaaW.PrintWords
set_option linter.unusedSimpArgs false
set_option linter.unusedVariables false
set_option maxRecDepth 1000000
attribute [local go_sem high] eqK eqKS
theorem stk_New0 (w : World) : Calls Try.prog 31 #[.slice none 0 0] w fun e w' => e = .returned (.pointer (some ⟨w.heap.size, 0, none⟩)) ∧ Stk w' w.heap.size [] ∧ Below w.heap.size w w' := by
  have := stk_New none [] 0 w (by simp) ⟨Nat.le_refl _, fun _ => rfl, by omega, KRow.nil _ _⟩
  exact this
theorem add_yes (p : Nat) (l : List K2) (k : K2) (w : World) (hl : l.length ≤ 10000) (h : Stk w p l) (hk : k ∈ l) : Calls Try.prog 32 #[(.pointer (some ⟨p, 0, none⟩)), (.agg #[.int .i64 (k).c, .int .i64 (k).i])] w fun e w' => e = .returned (.bool false) ∧ StkP w p l w' := by
  have := stk_Add p l k w hl h
  unfold AddSP at this
  rwa [addL_in hk, decide_eq_false (not_not_intro hk)] at this
theorem add_no (p : Nat) (l : List K2) (k : K2) (w : World) (hl : l.length ≤ 10000) (h : Stk w p l) (hk : k ∉ l) : Calls Try.prog 32 #[(.pointer (some ⟨p, 0, none⟩)), (.agg #[.int .i64 (k).c, .int .i64 (k).i])] w fun e w' => e = .returned (.bool true) ∧ StkP w p (l ++ [k]) w' := by
  have := stk_Add p l k w hl h
  unfold AddSP at this
  rwa [addL_out hk, decide_eq_true hk] at this
theorem at_yes {l : List K2} {k : K2} (h : k ∈ l) : 0 ≤ atP l k := by
  rcases Int.lt_or_le (atP l k) 0 with h0 | h0
  · exact absurd h (atP_neg.1 h0)
  · exact h0
theorem idx_nodup {l : List K2} (h : l.Nodup) {i : Nat} (hi : i < l.length) : l.idxOf (atK l i) = i := by
  rw [atK_get hi]; exact h.idxOf_getElem i hi
theorem at_nodup {l : List K2} (h : l.Nodup) {i : Nat} (hi : i < l.length) : atP l (atK l i) = i := by
  unfold atP; rw [idx_nodup h hi, if_pos]; rw [atK_get hi]; exact List.getElem_mem _
theorem StkP.stk {w w1 : World} {p : Nat} {m : List K2} (h : StkP w p m w1) : Stk w1 p m := h.1
theorem StkP.bel {w w1 : World} {p : Nat} {m : List K2} (h : StkP w p m w1) : Below p w w1 := h.2.1
theorem StkP.keep {w w1 : World} {p : Nat} {m : List K2} (h : StkP w p m w1) : Keeps p w w1 := h.2.2
theorem box_kept {w w1 w2 : World} {p b : Nat} {l m : List K2} {k : K2} {t : TypeId} (hs : StkP w1 p m w2) (h : Stk w p l) (hb : Below w.heap.size w w1) (hq : w.heap.size ≤ b) (hlt : b < w1.heap.size) (hbox : w1.heap[b]? = some (.cells #[.int .i64 k.c, .int .i64 k.i] t (0, 0))) :
    w2.cell? ⟨b, 0, none⟩ = some (.int .i64 k.c) ∧ w2.cell? ⟨b, 1, none⟩ = some (.int .i64 k.i) := by
  have h2 := (hs.2.2.2 b hlt (h.free hb hq)).1.trans hbox
  exact ⟨by simp [World.cell?, h2], by simp [World.cell?, h2]⟩
theorem over_len (p : Nat) (m : List K2) (i : Nat) (w : World) (hm : m.length ≤ 10000) (h : Stk w p m) (hi : i < m.length) : Calls Try.prog 43 #[(.pointer (some ⟨p, 0, none⟩)), (.agg #[.int .i64 ((atK m i)).c, .int .i64 ((atK m i)).i])] w fun e w' => ∃ B d n, e = .returned (.slice B n d) ∧ ((n : Int) != (m.length : Int) - 1 - (i : Int)) = false ∧ Below w.heap.size w w' := by
  refine (stk_Over p m (atK m i) w hm h).mono fun e w' ho => ?_
  obtain ⟨v, rfl, ho, hb⟩ := ho
  have hmem : atK m i ∈ m := by rw [atK_get hi]; exact List.getElem_mem _
  rw [if_pos hmem, idx_nodup h.nodup hi] at ho
  obtain ⟨B, d, rfl, _⟩ := ho.kr
  refine ⟨B, d, _, rfl, ?_, hb⟩
  have : (m.drop (i + 1)).length = m.length - (i + 1) := by simp
  rw [this]
  simp; omega
theorem atK_ne {m : List K2} (h : m.Nodup) {i j : Nat} (hi : i < m.length) (hj : j < i) : kEq (atK m j).c (atK m j).i (atK m i).c (atK m i).i = false := by
  rw [kEq_iff, decide_eq_false_iff_not]
  intro e
  rw [atK_get hi, atK_get (by omega)] at e
  have h1 := h.idxOf_getElem i hi
  have h2 := h.idxOf_getElem j (by omega)
  rw [e] at h2
  omega
set_option maxHeartbeats 4000000 in
theorem walk_StackAll (A : Option Addr) (l : List K2) (c : Nat) (w : World) (hr : KR w A l c) (hbd : ∀ i, i < l.length → (atK l i).Bd) : Calls Try.prog 8 #[.slice A l.length c] w fun e w' => e = .returned (.bool true) ∧ Below w.heap.size w w' := by
  have hll := hr.len
  have hrow := hr.row
  have cN := stk_New0 w
  clear hr
  go_enter Try.func8, Try.ntmps8
  go_wp2_with (first | (go_at_call 31; (with_reducible refine cN.mono ?_); rintro e w1 ⟨rfl, hs1, hb1⟩; have hz1 := hb1.size; replace hs1 := Lib.hid hs1))
  go_loopw [4, 5, 6] (fun i b q wr => ∃ (j : Nat) (m : List K2), j ≤ l.length ∧ j ≤ 9 ∧ i = .int .i64 j ∧ m.length ≤ j ∧ Hid (Stk wr w.heap.size m) ∧ Below w.heap.size w wr) (fun i _ _ _ => 9 - (intOf i).toNat)
  case atStart => exact ⟨0, [], by omega, by omega, rfl, by simp, hs1, hb1⟩
  case round =>
    obtain ⟨j, m, hj, hj9, rfl, hml, hst, hbr⟩ := hrel
    have hlt := hst.out.lt
    have hzr := hbr.size
    by_cases hc : j < l.length ∧ j < 9
    · obtain ⟨hjl, hj9'⟩ := hc
      obtain ⟨ad, rfl, f0, f1⟩ := hrow j hjl
      have g0 := pw_cell_below hbr f0; have g1 := pw_cell_below hbr f1
      have hxb := Lib.hid (hbd j hjl)
      clear f0 f1 hrow hbd
      generalize atK l j = x at *
      have cS := fun w => law_small x w hxb.out
      obtain ⟨k, hk⟩ : ∃ k, smallK x = k := ⟨_, rfl⟩
      rw [hk] at cS
      clear hk hxb
      have hm4 : m.length ≤ 10000 := by omega
      have cA := fun w1 (h : Stk w1 w.heap.size m) => stk_At _ m k w1 (by omega) h
      by_cases hkm : k ∈ m
      · have hat := at_yes hkm
        have cY := fun w1 (h : Stk w1 w.heap.size m) => add_yes _ m k w1 hm4 h hkm
        clear hkm
        obtain ⟨r, hrr⟩ : ∃ r, atP m k = r := ⟨_, rfl⟩
        rw [hrr] at cA hat
        clear hrr
        go_wp2_with (first | (go_at_call 29; (with_reducible refine (cS _).mono ?_); rintro e w4 ⟨rfl, hb4⟩; obtain ⟨hc4, hf4⟩ := bcell hb4; have hz4 := hb4.size) | (go_at_call 36; (with_reducible refine (cA _ (hst.out.below ?_)).mono ?_); (focus ((repeat (first | (with_reducible exact Below.refl _ _) | ((with_reducible refine Below.alloc ?_ ?hB _); (case hB => (first | omega | (simp; done) | (simp; omega)))) | ((with_reducible refine Below.setCell ?_ ?hB _); (case hB => (first | omega | (simp; done) | (simp; omega)))) | (with_reducible refine Below.drew ?_) | ((with_reducible refine below_ext_of ?_ ?hB); (case hB => (first | omega | (simp; done) | (simp; omega)))) | ((with_reducible refine Below.trans ?_ (Below.mono (by assumption) ?hB)); (case hB => (first | omega | (simp; done) | (simp; omega)))))); done)); rintro e w5 ⟨rfl, hb5⟩; obtain ⟨hc5, hf5⟩ := bcell hb5; have hz5 := hb5.size; (try simp only [World.size_alloc, World.size_setCell] at hz5)) | (go_at_call 32; (with_reducible refine (cY _ hs6.out.stk).mono ?_); rintro e w7 ⟨rfl, hs7⟩; replace hs7 := Lib.hid hs7) | (go_at_call 32; (with_reducible refine (cY _ (hst.out.below ?_)).mono ?_); (focus ((repeat (first | (with_reducible exact Below.refl _ _) | ((with_reducible refine Below.alloc ?_ ?hB _); (case hB => (first | omega | (simp; done) | (simp; omega)))) | ((with_reducible refine Below.setCell ?_ ?hB _); (case hB => (first | omega | (simp; done) | (simp; omega)))) | (with_reducible refine Below.drew ?_) | ((with_reducible refine below_ext_of ?_ ?hB); (case hB => (first | omega | (simp; done) | (simp; omega)))) | ((with_reducible refine Below.trans ?_ (Below.mono (by assumption) ?hB)); (case hB => (first | omega | (simp; done) | (simp; omega)))))); done)); rintro e w6 ⟨rfl, hs6⟩; have hbx := box_kept hs6 hst.out (by (repeat (first | (with_reducible exact Below.refl _ _) | ((with_reducible refine Below.alloc ?_ ?hB _); (case hB => (first | omega | (simp; done) | (simp; omega)))) | ((with_reducible refine Below.setCell ?_ ?hB _); (case hB => (first | omega | (simp; done) | (simp; omega)))) | (with_reducible refine Below.drew ?_) | ((with_reducible refine below_ext_of ?_ ?hB); (case hB => (first | omega | (simp; done) | (simp; omega)))) | ((with_reducible refine Below.trans ?_ (Below.mono (by assumption) ?hB)); (case hB => (first | omega | (simp; done) | (simp; omega))))))) hz4 (by omega) ((hb5.block w4.heap.size (by simp)).trans (heap_alloc_new w4 _)); have q0 := hbx.1; have q1 := hbx.2; clear hbx; replace hs6 := Lib.hid hs6))
        go_roundw
        case rel => exact ⟨j + 1, m, by omega, by omega, by go_num, by omega, Lib.hid hs7.out.stk, (show Below w.heap.size w w5 from by (repeat (first | (with_reducible exact Below.refl _ _) | ((with_reducible refine Below.alloc ?_ ?hB _); (case hB => (first | omega | (simp; done) | (simp; omega)))) | ((with_reducible refine Below.setCell ?_ ?hB _); (case hB => (first | omega | (simp; done) | (simp; omega)))) | (with_reducible refine Below.drew ?_) | ((with_reducible refine below_ext_of ?_ ?hB); (case hB => (first | omega | (simp; done) | (simp; omega)))) | ((with_reducible refine Below.trans ?_ (Below.mono (by assumption) ?hB)); (case hB => (first | omega | (simp; done) | (simp; omega))))))).trans (hs6.out.bel.trans hs7.out.bel)⟩
        case measure => simp [intOf]; omega
      · have hat := atP_neg.2 hkm
        have cX := fun w1 (h : Stk w1 w.heap.size m) => add_no _ m k w1 hm4 h hkm
        have cY := fun w1 (h : Stk w1 w.heap.size (m ++ [k])) => add_yes _ (m ++ [k]) k w1 (by simp; omega) h (by simp)
        clear hkm
        obtain ⟨r, hrr⟩ : ∃ r, atP m k = r := ⟨_, rfl⟩
        rw [hrr] at cA hat
        clear hrr
        go_wp2_with (first | (go_at_call 29; (with_reducible refine (cS _).mono ?_); rintro e w4 ⟨rfl, hb4⟩; obtain ⟨hc4, hf4⟩ := bcell hb4; have hz4 := hb4.size) | (go_at_call 36; (with_reducible refine (cA _ (hst.out.below ?_)).mono ?_); (focus ((repeat (first | (with_reducible exact Below.refl _ _) | ((with_reducible refine Below.alloc ?_ ?hB _); (case hB => (first | omega | (simp; done) | (simp; omega)))) | ((with_reducible refine Below.setCell ?_ ?hB _); (case hB => (first | omega | (simp; done) | (simp; omega)))) | (with_reducible refine Below.drew ?_) | ((with_reducible refine below_ext_of ?_ ?hB); (case hB => (first | omega | (simp; done) | (simp; omega)))) | ((with_reducible refine Below.trans ?_ (Below.mono (by assumption) ?hB)); (case hB => (first | omega | (simp; done) | (simp; omega)))))); done)); rintro e w5 ⟨rfl, hb5⟩; obtain ⟨hc5, hf5⟩ := bcell hb5; have hz5 := hb5.size; (try simp only [World.size_alloc, World.size_setCell] at hz5)) | (go_at_call 32; (with_reducible refine (cY _ hs6.out.stk).mono ?_); rintro e w7 ⟨rfl, hs7⟩; replace hs7 := Lib.hid hs7) | (go_at_call 32; (with_reducible refine (cX _ (hst.out.below ?_)).mono ?_); (focus ((repeat (first | (with_reducible exact Below.refl _ _) | ((with_reducible refine Below.alloc ?_ ?hB _); (case hB => (first | omega | (simp; done) | (simp; omega)))) | ((with_reducible refine Below.setCell ?_ ?hB _); (case hB => (first | omega | (simp; done) | (simp; omega)))) | (with_reducible refine Below.drew ?_) | ((with_reducible refine below_ext_of ?_ ?hB); (case hB => (first | omega | (simp; done) | (simp; omega)))) | ((with_reducible refine Below.trans ?_ (Below.mono (by assumption) ?hB)); (case hB => (first | omega | (simp; done) | (simp; omega)))))); done)); rintro e w6 ⟨rfl, hs6⟩; have hbx := box_kept hs6 hst.out (by (repeat (first | (with_reducible exact Below.refl _ _) | ((with_reducible refine Below.alloc ?_ ?hB _); (case hB => (first | omega | (simp; done) | (simp; omega)))) | ((with_reducible refine Below.setCell ?_ ?hB _); (case hB => (first | omega | (simp; done) | (simp; omega)))) | (with_reducible refine Below.drew ?_) | ((with_reducible refine below_ext_of ?_ ?hB); (case hB => (first | omega | (simp; done) | (simp; omega)))) | ((with_reducible refine Below.trans ?_ (Below.mono (by assumption) ?hB)); (case hB => (first | omega | (simp; done) | (simp; omega))))))) hz4 (by omega) ((hb5.block w4.heap.size (by simp)).trans (heap_alloc_new w4 _)); have q0 := hbx.1; have q1 := hbx.2; clear hbx; replace hs6 := Lib.hid hs6))
        go_roundw
        case rel => exact ⟨j + 1, m ++ [k], by omega, by omega, by go_num, by simp; omega, Lib.hid hs7.out.stk, (show Below w.heap.size w w5 from by (repeat (first | (with_reducible exact Below.refl _ _) | ((with_reducible refine Below.alloc ?_ ?hB _); (case hB => (first | omega | (simp; done) | (simp; omega)))) | ((with_reducible refine Below.setCell ?_ ?hB _); (case hB => (first | omega | (simp; done) | (simp; omega)))) | (with_reducible refine Below.drew ?_) | ((with_reducible refine below_ext_of ?_ ?hB); (case hB => (first | omega | (simp; done) | (simp; omega)))) | ((with_reducible refine Below.trans ?_ (Below.mono (by assumption) ?hB)); (case hB => (first | omega | (simp; done) | (simp; omega))))))).trans (hs6.out.bel.trans hs7.out.bel)⟩
        case measure => simp [intOf]; omega
    · have hm4 : m.length ≤ 10000 := by omega
      have hnd := Lib.hid hst.out.nodup
      have cL := fun w1 (h : Stk w1 w.heap.size m) => stk_All _ m w1 (by omega) h
      have hg : (j < l.length ∧ ¬ j < 9) ∨ ¬ j < l.length := by omega
      clear hc hrow hbd
      rcases hg with ⟨hg1, hg2⟩ | hg1
      all_goals
        go_wp2_with (first | (go_at_call 39; (with_reducible refine (cL _ hst.out).mono ?_); rintro e w2 ⟨v2, rfl, ho2, hb2⟩; obtain ⟨B, d, rfl, hk2⟩ := ho2.kr; have hz2 := hb2.size; replace hk2 := Lib.hid hk2; clear ho2))
        have hst2 := Lib.hid (hst.out.below hb2)
        have hb02 := Lib.hid (show Below w.heap.size w w2 from by (repeat (first | (with_reducible exact Below.refl _ _) | ((with_reducible refine Below.alloc ?_ ?hB _); (case hB => (first | omega | (simp; done) | (simp; omega)))) | ((with_reducible refine Below.setCell ?_ ?hB _); (case hB => (first | omega | (simp; done) | (simp; omega)))) | (with_reducible refine Below.drew ?_) | ((with_reducible refine below_ext_of ?_ ?hB); (case hB => (first | omega | (simp; done) | (simp; omega)))) | ((with_reducible refine Below.trans ?_ (Below.mono (by assumption) ?hB)); (case hB => (first | omega | (simp; done) | (simp; omega)))))))
        clear hst
        go_loopw [8, 9] (fun i q wr => ∃ (n : Nat), n ≤ m.length ∧ i = .int .i64 n ∧ Below w2.heap.size w2 wr) (fun i _ _ => m.length - (intOf i).toNat)
        case atStart => exact ⟨0, by omega, rfl, Below.refl _ _⟩
        case round =>
          obtain ⟨n, hn, rfl, hbq⟩ := hrel
          have hzq := hbq.size
          by_cases hnl : n < m.length
          · have cA := fun w1 (h : Stk w1 w.heap.size m) => stk_At _ m (atK m n) w1 (by omega) h
            rw [at_nodup hnd.out hnl] at cA
            have cO := fun w1 (h : Stk w1 w.heap.size m) => over_len _ m n w1 hm4 h hnl
            obtain ⟨ad2, rfl, f0, f1⟩ := hk2.out.row n hnl
            have g0 := pw_cell_below hbq f0; have g1 := pw_cell_below hbq f1
            have hne := Lib.hid (fun k (hk : k < n) => atK_ne hnd.out hnl hk)
            have hkr := Lib.hid hk2.out.row
            clear f0 f1
            obtain ⟨x, hx⟩ : ∃ x, atK m n = x := ⟨_, rfl⟩
            rw [hx] at g0 g1 cA cO hne
            clear hx
            go_wp2_with (first | (go_at_call 36; (with_reducible refine (cA _ (hst2.out.below ?_)).mono ?_); (focus ((repeat (first | (with_reducible exact Below.refl _ _) | ((with_reducible refine Below.alloc ?_ ?hB _); (case hB => (first | omega | (simp; done) | (simp; omega)))) | ((with_reducible refine Below.setCell ?_ ?hB _); (case hB => (first | omega | (simp; done) | (simp; omega)))) | (with_reducible refine Below.drew ?_) | ((with_reducible refine below_ext_of ?_ ?hB); (case hB => (first | omega | (simp; done) | (simp; omega)))) | ((with_reducible refine Below.trans ?_ (Below.mono (by assumption) ?hB)); (case hB => (first | omega | (simp; done) | (simp; omega)))))); done)); rintro e w5 ⟨rfl, hb5⟩; have hz5 := hb5.size; replace g0 := pw_cell_below hb5 g0; replace g1 := pw_cell_below hb5 g1) | (go_at_call 43; (with_reducible refine (cO _ (hst2.out.below ?_)).mono ?_); (focus ((repeat (first | (with_reducible exact Below.refl _ _) | ((with_reducible refine Below.alloc ?_ ?hB _); (case hB => (first | omega | (simp; done) | (simp; omega)))) | ((with_reducible refine Below.setCell ?_ ?hB _); (case hB => (first | omega | (simp; done) | (simp; omega)))) | (with_reducible refine Below.drew ?_) | ((with_reducible refine below_ext_of ?_ ?hB); (case hB => (first | omega | (simp; done) | (simp; omega)))) | ((with_reducible refine Below.trans ?_ (Below.mono (by assumption) ?hB)); (case hB => (first | omega | (simp; done) | (simp; omega)))))); done)); rintro e w6 ⟨B6, d6, n6, rfl, hn6, hb6⟩; have hz6 := hb6.size; replace g0 := pw_cell_below hb6 g0; replace g1 := pw_cell_below hb6 g1))
            have hb26 := Lib.hid (show Below w2.heap.size w2 w6 from by (repeat (first | (with_reducible exact Below.refl _ _) | ((with_reducible refine Below.alloc ?_ ?hB _); (case hB => (first | omega | (simp; done) | (simp; omega)))) | ((with_reducible refine Below.setCell ?_ ?hB _); (case hB => (first | omega | (simp; done) | (simp; omega)))) | (with_reducible refine Below.drew ?_) | ((with_reducible refine below_ext_of ?_ ?hB); (case hB => (first | omega | (simp; done) | (simp; omega)))) | ((with_reducible refine Below.trans ?_ (Below.mono (by assumption) ?hB)); (case hB => (first | omega | (simp; done) | (simp; omega)))))))
            clear hbq hb5 cA cO
            go_loopw [9] (fun q wr3 => ∃ (k : Nat), k ≤ n ∧ q = .int .i64 k ∧ Below w6.heap.size w6 wr3) (fun q _ => n - (intOf q).toNat)
            case atStart => exact ⟨0, by omega, rfl, Below.refl _ _⟩
            case round =>
              obtain ⟨k, hkn, rfl, hbt⟩ := hrel
              have hzt := hbt.size
              by_cases hkl : k < n
              · obtain ⟨ad3, e3, f0, f1⟩ := hkr.out k (by omega)
                injection e3 with e3
                subst e3
                have ek := hne.out k hkl
                have y0 := pw_cell_below hbt (pw_cell_below hb26.out f0); have y1 := pw_cell_below hbt (pw_cell_below hb26.out f1)
                replace g0 := pw_cell_below hbt g0; replace g1 := pw_cell_below hbt g1
                clear f0 f1
                have gx0 := fun x => pw_cell_below (below_ext _ x) g0
                have gx1 := fun x => pw_cell_below (below_ext _ x) g1
                have yx0 := fun x => pw_cell_below (below_ext _ x) y0
                have yx1 := fun x => pw_cell_below (below_ext _ x) y1
                generalize atK m k = y at *
                go_wp2
                (refine wp_region_ext_lit (by kernel_rfl) (by kernel_rfl) ?_; (repeat (go_big_quiet_step ((fail)))); refine wpQuiet_nil ?_; intro w7 hb_w7; obtain ⟨hc_w7, hf_w7⟩ := bcell hb_w7; have hz_w7 := hb_w7.size; (try simp only [World.size_alloc, World.size_setCell, World.size_drew] at hz_w7))
                go_wp2
                go_roundw
                case rel => exact ⟨k + 1, by omega, by go_num, by (repeat (first | (with_reducible exact Below.refl _ _) | ((with_reducible refine Below.alloc ?_ ?hB _); (case hB => (first | omega | (simp; done) | (simp; omega)))) | ((with_reducible refine Below.setCell ?_ ?hB _); (case hB => (first | omega | (simp; done) | (simp; omega)))) | (with_reducible refine Below.drew ?_) | ((with_reducible refine below_ext_of ?_ ?hB); (case hB => (first | omega | (simp; done) | (simp; omega)))) | ((with_reducible refine Below.trans ?_ (Below.mono (by assumption) ?hB)); (case hB => (first | omega | (simp; done) | (simp; omega))))))⟩
                case measure => simp [intOf]; omega
              · obtain rfl : k = n := by omega
                go_wp2
                go_roundw
                case rel => exact ⟨k + 1, by omega, by go_num, hb26.out.trans (hbt.mono (by omega))⟩
                case measure => simp [intOf]; omega
          · obtain rfl : n = m.length := by omega
            have hst3 := Lib.hid (stk_lives)
            go_wp2_with (first | (go_at_call 33; (with_reducible refine (hst3.out _).mono ?_); rintro e w9 ⟨rfl, hb9⟩; have hz9 := hb9.size))
            go_ret
            exact ⟨rfl, (hb02.out.trans (hbq.mono (by omega))).trans (hb9.mono (by omega))⟩
end Go.Proofs.Yteldbnelfeiifaa
