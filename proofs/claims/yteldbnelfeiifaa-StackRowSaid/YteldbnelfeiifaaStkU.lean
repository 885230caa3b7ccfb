/- The law StackBack, walked. -/
import Derived.Test.YteldbnelfeiifaaStkT
import Derived.Lib.SliceRun
namespace Go.Proofs.Yteldbnelfeiifaa
open Go.RowKit Go.Proofs.YteldbnelfeiifaaW.PrintWords
set_option linter.unusedSimpArgs false
set_option linter.unusedVariables false
set_option maxRecDepth 1000000
attribute [local go_sem high] eqK eqKS
theorem raise_swap {w w' : World} {p : Nat} {X Y : List K2} {a b : K2} {e : Ending} (hnd : (X ++ ([a, b] ++ Y)).Nodup) (h : RaiseP w p (X ++ ([a, b] ++ Y)) a b e w') : e = .returned (.int .i64 0) ∧ StkP w p (X ++ ([b, a] ++ Y)) w' := by
  have hd : dropL (X ++ ([a, b] ++ Y)) a = X ++ ([b] ++ Y) := dropL_split (b := [b] ++ Y) (by simp) hnd
  have hn2 := hnd
  rw [List.nodup_append] at hn2
  obtain ⟨_, h2, h3⟩ := hn2
  have hab : a ≠ b := by simp at h2; intro e; exact h2.1.1 e
  have hbX : b ∉ X := fun h => h3 b h b (by simp) rfl
  have hi : (X ++ ([b] ++ Y)).idxOf b = X.length := by
    rw [List.idxOf_append, if_neg hbX]; simp
  unfold RaiseP at h
  rw [if_neg (by simp), if_neg hab, hd, hi] at h
  have hl : insL (X ++ ([b] ++ Y)) (X.length + 1) a = X ++ ([b, a] ++ Y) := by
    unfold insL
    rw [List.take_append, List.drop_append, List.take_of_length_le (by omega), List.drop_eq_nil_of_le (by omega : X.length ≤ X.length + 1), show X.length + 1 - X.length = 1 by omega]
    simp
  rw [hl] at h
  exact h
theorem split_two {m : List K2} {k : Nat} (h : k + 1 < m.length) : ∃ X Y : List K2, m = X ++ ([atK m k, atK m (k + 1)] ++ Y) ∧ X.length = k := by
  refine ⟨m.take k, m.drop (k + 2), ?_, by simp; omega⟩
  have e1 := List.drop_eq_getElem_cons (l := m) (i := k) (by omega)
  have e2 := List.drop_eq_getElem_cons (l := m) (i := k + 1) h
  rw [atK_get (by omega), atK_get h]
  rw [e2] at e1
  simp only [List.cons_append, List.nil_append]
  rw [← e1, List.take_append_drop]
theorem swap_at {X Y : List K2} {a b : K2} (hnd : (X ++ ([a, b] ++ Y)).Nodup) : atP (X ++ ([a, b] ++ Y)) a = X.length ∧ atP (X ++ ([a, b] ++ Y)) b = X.length + 1 := by
  have e1 : atK (X ++ ([a, b] ++ Y)) X.length = a := by rw [atK_get (by simp)]; simp
  have e2 : atK (X ++ ([a, b] ++ Y)) (X.length + 1) = b := by rw [atK_get (by simp)]; rw [List.getElem_append_right (by omega)]; simp
  have h1 := at_nodup hnd (i := X.length) (by simp)
  have h2 := at_nodup hnd (i := X.length + 1) (by simp)
  rw [e1] at h1; rw [e2] at h2
  exact ⟨h1, by rw [h2]; simp⟩
theorem not_take {m : List K2} (h : m.Nodup) {j : Nat} (hj : j < m.length) : atK m j ∉ m.take j := by
  intro hm
  obtain ⟨i, hi, he⟩ := List.getElem_of_mem hm
  have hij : i < j := by simp at hi; omega
  have hh := atK_ne h hj hij
  rw [List.getElem_take] at he
  rw [kEq_iff, decide_eq_false_iff_not] at hh
  exact hh (by rw [atK_get (by omega)]; exact he)
theorem swap_nodup {X Y : List K2} {a b : K2} (h : (X ++ ([a, b] ++ Y)).Nodup) : (X ++ ([b, a] ++ Y)).Nodup := by
  refine (List.Perm.nodup_iff ?_).1 h
  exact List.Perm.append_left X (List.Perm.append_right Y (List.Perm.swap b a []))
theorem two_boxes {w w2 : World} {p : Nat} {l m : List K2} {a b : K2} {t : TypeId} (hs : StkP ((w.alloc (.cells #[.int .i64 a.c, .int .i64 a.i] t)).alloc (.cells #[.int .i64 b.c, .int .i64 b.i] t)) p m w2) (h : Stk w p l) :
    w2.cell? ⟨w.heap.size, 0, none⟩ = some (.int .i64 a.c) ∧ w2.cell? ⟨w.heap.size, 1, none⟩ = some (.int .i64 a.i) ∧ w2.cell? ⟨w.heap.size + 1, 0, none⟩ = some (.int .i64 b.c) ∧ w2.cell? ⟨w.heap.size + 1, 1, none⟩ = some (.int .i64 b.i) := by
  have hb : Below w.heap.size w ((w.alloc (.cells #[.int .i64 a.c, .int .i64 a.i] t)).alloc (.cells #[.int .i64 b.c, .int .i64 b.i] t)) := ((Below.refl _ _).alloc (Nat.le_refl _) _).alloc (by simp) _
  have e1 : ((w.alloc (.cells #[.int .i64 a.c, .int .i64 a.i] t)).alloc (.cells #[.int .i64 b.c, .int .i64 b.i] t)).heap[w.heap.size]? = some (.cells #[.int .i64 a.c, .int .i64 a.i] t (0, 0)) := by
    first | exact (heap_alloc_old _ _ _ (by simp)).trans (heap_alloc_new _ _) | exact (heap_alloc_old _ _ (by simp)).trans (heap_alloc_new _ _)
  have e2 := heap_alloc_new (w.alloc (.cells #[.int .i64 a.c, .int .i64 a.i] t)) (.cells #[.int .i64 b.c, .int .i64 b.i] t)
  rw [World.size_alloc] at e2
  have x1 := box_kept (b := w.heap.size) (k := a) (t := t) hs h hb (Nat.le_refl _) (by simp only [World.size_alloc]; omega) e1
  have x2 := box_kept (b := w.heap.size + 1) (k := b) (t := t) hs h hb (by omega) (by simp only [World.size_alloc]; omega) e2
  exact ⟨x1.1, x1.2, x2.1, x2.2⟩
set_option maxHeartbeats 4000000 in
theorem walk_StackBack (A : Option Addr) (l : List K2) (c : Nat) (at_ : Int) (w : World) (hr : KR w A l c) (hbd : ∀ i, i < l.length → (atK l i).Bd) (hat : -9223372036854775808 ≤ at_ ∧ at_ ≤ 9223372036854775807) : Calls Try.prog 6 #[.slice A l.length c, .int .i64 at_] w fun e w' => e = .returned (.bool true) ∧ Below w.heap.size w w' := by
  have hll := hr.len
  have hrow := hr.row
  have HLV := Lib.hid stk_lives
  clear hr
  go_enter Try.func6, Try.ntmps6
  go_wp2
  go_loopw [5, 6] (fun v i wr => ∃ (j : Nat) (m : List K2), j ≤ l.length ∧ j ≤ 9 ∧ i = .int .i64 j ∧ m.length = j ∧ OwnK wr w.heap.size 56 v m ∧ Below w.heap.size w wr) (fun _ i _ => 9 - (intOf i).toNat)
  case atStart => exact ⟨0, [], by omega, by omega, rfl, rfl, OwnK.nil _ _ _, Below.refl _ _⟩
  case round =>
    obtain ⟨j, m, hj, hj9, rfl, hml, hown, hbr⟩ := hrel
    have hzr := hbr.size
    by_cases hc : j < l.length ∧ j < 9
    · obtain ⟨hjl, hj9'⟩ := hc
      obtain ⟨ad, rfl, f0, f1⟩ := hrow j hjl
      have g0 := pw_cell_below hbr f0; have g1 := pw_cell_below hbr f1
      have hxb := Lib.hid (hbd j hjl)
      clear f0 f1 hrow hbd
      generalize atK l j = x at *
      have cS := fun w => law_small x w hxb.out
      obtain ⟨k, hk⟩ : ∃ k, smallK x = k := ⟨_, rfl⟩
      rw [hk] at cS
      clear hk hxb
      have hm4 : m.length ≤ 10000 := by omega
      have HML := Lib.hid hml
      clear hml
      go_wp2_with (first | (go_at_call 29; (with_reducible refine (cS _).mono ?_); rintro e w4 ⟨rfl, hb4⟩; have hz4 := hb4.size) | (at_builtin; refine print_append_cells (w0 := w) (w.heap.size) rfl _ _ 54 56 _ 2 16 rfl Try.underlying54 info_k rfl (by decide) (by decide) _ _ _ [.int .i64 (k).c, .int .i64 (k).i] rfl ?_ rfl ?_ (OwnK.below hown ?_) ?_ ?_ ?_ ?_; (focus (go_simp; done)); (focus (simp [Value.oneCell']; done)); (focus ((repeat (first | (with_reducible exact Below.refl _ _) | ((with_reducible refine Below.alloc ?_ ?hB _); (case hB => (first | omega | (simp; done) | (simp; omega)))) | ((with_reducible refine Below.setCell ?_ ?hB _); (case hB => (first | omega | (simp; done) | (simp; omega)))) | (with_reducible refine Below.drew ?_) | ((with_reducible refine below_ext_of ?_ ?hB); (case hB => (first | omega | (simp; done) | (simp; omega)))) | ((with_reducible refine Below.trans ?_ (Below.mono (by assumption) ?hB)); (case hB => (first | omega | (simp; done) | (simp; omega)))))); done)); (focus ((repeat (first | (with_reducible exact Below.refl _ _) | ((with_reducible refine Below.alloc ?_ ?hB _); (case hB => (first | omega | (simp; done) | (simp; omega)))) | ((with_reducible refine Below.setCell ?_ ?hB _); (case hB => (first | omega | (simp; done) | (simp; omega)))) | (with_reducible refine Below.drew ?_) | ((with_reducible refine below_ext_of ?_ ?hB); (case hB => (first | omega | (simp; done) | (simp; omega)))) | ((with_reducible refine Below.trans ?_ (Below.mono (by assumption) ?hB)); (case hB => (first | omega | (simp; done) | (simp; omega)))))); done)); (focus ((first | omega | (simp; done) | (simp; omega)); done)); (focus omega); intro v5 w5 hown5 hb5 _ _; have hz5 := hb5.size; (try simp only [World.size_alloc, World.size_setCell, World.size_drew] at hz5)))
      go_roundw
      case rel => exact ⟨j + 1, m ++ [k], by omega, by omega, by go_num, by have := HML.out; simp; omega, OwnK.snoc hown5, hb5⟩
      case measure => simp [intOf]; omega
    · have hg : (j < l.length ∧ ¬ j < 9) ∨ ¬ j < l.length := by omega
      clear hc hrow hbd
      obtain ⟨B, d, rfl, hkr⟩ := hown.kr
      have hm4 : m.length ≤ 100000 := by omega
      have cN := fun w1 (hb : Below wr.heap.size wr w1) => ref_New B m d w1 hm4 (hkr.below hb)
      have hmm := newL_len m
      have hmn := newL_nodup m
      obtain ⟨mm, hmq⟩ : ∃ mm, newL m = mm := ⟨_, rfl⟩
      rw [hmq] at cN hmm hmn
      have HND := Lib.hid hmn
      have hm10 : mm.length ≤ 9 := by omega
      clear hmq hmn hown hkr hmm hml
      rcases hg with ⟨hg1, hg2⟩ | hg1
      all_goals
        go_wp2_with (first | (go_at_call 30; (with_reducible refine (cN _ ?_).mono ?_); (focus ((repeat (first | (with_reducible exact Below.refl _ _) | ((with_reducible refine Below.alloc ?_ ?hB _); (case hB => (first | omega | (simp; done) | (simp; omega)))) | ((with_reducible refine Below.setCell ?_ ?hB _); (case hB => (first | omega | (simp; done) | (simp; omega)))) | (with_reducible refine Below.drew ?_) | ((with_reducible refine below_ext_of ?_ ?hB); (case hB => (first | omega | (simp; done) | (simp; omega)))) | ((with_reducible refine Below.trans ?_ (Below.mono (by assumption) ?hB)); (case hB => (first | omega | (simp; done) | (simp; omega)))))); done)); rintro e w2 ⟨v2, rfl, ho2, hb2⟩; have hz2 := hb2.size; obtain ⟨B2, d2, rfl, hk2⟩ := ho2.kr; clear ho2; replace hk2 := Lib.hid hk2) | (go_at_call 31; (with_reducible refine (stk_New0 _).mono ?_); rintro e w3 ⟨rfl, hs3, hb3⟩; have hz3 := hb3.size; replace hs3 := Lib.hid hs3))
        have hb02 := Lib.hid (show Below w.heap.size w w2 from by (repeat (first | (with_reducible exact Below.refl _ _) | ((with_reducible refine Below.alloc ?_ ?hB _); (case hB => (first | omega | (simp; done) | (simp; omega)))) | ((with_reducible refine Below.setCell ?_ ?hB _); (case hB => (first | omega | (simp; done) | (simp; omega)))) | (with_reducible refine Below.drew ?_) | ((with_reducible refine below_ext_of ?_ ?hB); (case hB => (first | omega | (simp; done) | (simp; omega)))) | ((with_reducible refine Below.trans ?_ (Below.mono (by assumption) ?hB)); (case hB => (first | omega | (simp; done) | (simp; omega)))))))
        have hz02 : w.heap.size ≤ w2.heap.size := by omega
        clear hbr hb2
        go_loopw [8] (fun i wr => ∃ n : Nat, n ≤ mm.length ∧ i = .int .i64 n ∧ Hid (Stk wr w2.heap.size (mm.take n)) ∧ Below w2.heap.size w2 wr) (fun i _ => mm.length - (intOf i).toNat)
        case atStart => exact ⟨0, by omega, rfl, hs3, hb3⟩
        case round =>
          obtain ⟨n, hn, rfl, hst, hbq⟩ := hrel
          have hzq := hbq.size
          have hlt := hst.out.lt
          by_cases hnl : n < mm.length
          · obtain ⟨ad2, rfl, f0, f1⟩ := hk2.out.row n hnl
            have g0 := pw_cell_below hbq f0; have g1 := pw_cell_below hbq f1
            have cX := fun w1 (h : Stk w1 w2.heap.size (mm.take n)) => add_no _ _ (atK mm n) w1 (by simp; omega) h (not_take HND.out hnl)
            rw [← takeK mm n hnl] at cX
            clear f0 f1
            generalize atK mm n = x at *
            go_wp2_with (first | (go_at_call 32; (with_reducible refine (cX _ (hst.out.below ?_)).mono ?_); (focus ((repeat (first | (with_reducible exact Below.refl _ _) | ((with_reducible refine Below.alloc ?_ ?hB _); (case hB => (first | omega | (simp; done) | (simp; omega)))) | ((with_reducible refine Below.setCell ?_ ?hB _); (case hB => (first | omega | (simp; done) | (simp; omega)))) | (with_reducible refine Below.drew ?_) | ((with_reducible refine below_ext_of ?_ ?hB); (case hB => (first | omega | (simp; done) | (simp; omega)))) | ((with_reducible refine Below.trans ?_ (Below.mono (by assumption) ?hB)); (case hB => (first | omega | (simp; done) | (simp; omega)))))); done)); rintro e w6 ⟨rfl, hs6⟩; have hb6 := hs6.bel; have hz6 := hs6.keep.1; replace hs6 := Lib.hid hs6))
            go_roundw
            case rel => exact ⟨n + 1, by omega, by go_num, Lib.hid hs6.out.stk, by (repeat (first | (with_reducible exact Below.refl _ _) | ((with_reducible refine Below.alloc ?_ ?hB _); (case hB => (first | omega | (simp; done) | (simp; omega)))) | ((with_reducible refine Below.setCell ?_ ?hB _); (case hB => (first | omega | (simp; done) | (simp; omega)))) | (with_reducible refine Below.drew ?_) | ((with_reducible refine below_ext_of ?_ ?hB); (case hB => (first | omega | (simp; done) | (simp; omega)))) | ((with_reducible refine Below.trans ?_ (Below.mono (by assumption) ?hB)); (case hB => (first | omega | (simp; done) | (simp; omega))))))⟩
            case measure => simp [intOf]; omega
          · obtain rfl : n = mm.length := by omega
            rw [List.take_length] at hst
            by_cases h2 : mm.length < 2
            · go_wp2_with (first | (go_at_call 33; (with_reducible refine (HLV.out _).mono ?_); rintro e w9 ⟨rfl, hb9⟩; have hz9 := hb9.size))
              go_ret
              exact ⟨rfl, (hb02.out.trans (hbq.mono (by omega))).trans (hb9.mono (by omega))⟩
            · have hN : (0 : Int) < (mm.length : Int) - 1 := by omega
              have hab := around_bd at_ ((mm.length : Int) - 1) hN
              have cR := fun w => ref_Around at_ ((mm.length : Int) - 1) w hat.1 hat.2 hN (by omega)
              obtain ⟨k, hk⟩ : ∃ k : Nat, around at_ ((mm.length : Int) - 1) = k := ⟨(around at_ ((mm.length : Int) - 1)).toNat, by omega⟩
              rw [hk] at cR hab
              have hkl : k + 1 < mm.length := by omega
              obtain ⟨ad2, e1, f0, f1⟩ := hk2.out.row k (by omega)
              obtain ⟨ad3, e2, p0, p1⟩ := hk2.out.row (k + 1) hkl
              subst e1
              injection e2 with e2
              subst e2
              have g0 := pw_cell_below hbq f0; have g1 := pw_cell_below hbq f1
              have g2 := pw_cell_below hbq p0; have g3 := pw_cell_below hbq p1
              obtain ⟨X, Y, hXY, hX⟩ := split_two hkl
              clear hk f0 f1 p0 p1
              obtain ⟨a, ha⟩ : ∃ a, atK mm k = a := ⟨_, rfl⟩
              obtain ⟨b, hb⟩ : ∃ b, atK mm (k + 1) = b := ⟨_, rfl⟩
              rw [ha] at g0 g1 hXY
              rw [hb] at g2 g3 hXY
              clear ha hb
              have g2a := fun o => Lib.cell?_alloc_some o g2
              have g3a := fun o => Lib.cell?_alloc_some o g3
              have hnd := HND.out
              rw [hXY] at hnd
              have hnd2 := swap_nodup hnd
              have hsw := swap_at hnd2
              rw [hX] at hsw
              have cQ := fun w1 (h : Stk w1 w2.heap.size mm) => stk_Raise _ mm a b w1 (by omega) h
              have hlen : (X ++ ([b, a] ++ Y)).length = mm.length := by rw [hXY]; simp
              have cQ2 := fun w1 (h : Stk w1 w2.heap.size (X ++ ([b, a] ++ Y))) => stk_Raise _ (X ++ ([b, a] ++ Y)) b a w1 (by omega) h
              have cAa := fun w1 (h : Stk w1 w2.heap.size (X ++ ([b, a] ++ Y))) => stk_At _ (X ++ ([b, a] ++ Y)) a w1 (by omega) h
              have cAb := fun w1 (h : Stk w1 w2.heap.size (X ++ ([b, a] ++ Y))) => stk_At _ (X ++ ([b, a] ++ Y)) b w1 (by omega) h
              rw [hsw.2] at cAa
              rw [hsw.1] at cAb
              have HR1 := Lib.hid (fun (w1 w' : World) e (h : RaiseP w1 w2.heap.size mm a b e w') => raise_swap (X := X) (Y := Y) hnd (by rw [← hXY]; exact h))
              have HR2 := Lib.hid (fun (w1 w' : World) e (h : RaiseP w1 w2.heap.size (X ++ ([b, a] ++ Y)) b a e w') => by have := raise_swap (X := X) (Y := Y) hnd2 h; rwa [← hXY] at this)
              obtain ⟨L, hL⟩ : ∃ L, X ++ ([b, a] ++ Y) = L := ⟨_, rfl⟩
              rw [hL] at cQ2 cAa cAb HR1 HR2
              have cL := fun w1 (h : Stk w1 w2.heap.size mm) => stk_All _ mm w1 (by omega) h
              clear hXY hX hnd hnd2 hsw hlen hL
              go_wp2_with (first | (go_at_call 34; (with_reducible refine (cR _).mono ?_); rintro e w1 ⟨rfl, rfl⟩) | (go_at_call 35; (with_reducible refine (cQ _ (hst.out.below ?_)).mono ?_); (focus ((repeat (first | (with_reducible exact Below.refl _ _) | ((with_reducible refine Below.alloc ?_ ?hB _); (case hB => (first | omega | (simp; done) | (simp; omega)))) | ((with_reducible refine Below.setCell ?_ ?hB _); (case hB => (first | omega | (simp; done) | (simp; omega)))) | (with_reducible refine Below.drew ?_) | ((with_reducible refine below_ext_of ?_ ?hB); (case hB => (first | omega | (simp; done) | (simp; omega)))) | ((with_reducible refine Below.trans ?_ (Below.mono (by assumption) ?hB)); (case hB => (first | omega | (simp; done) | (simp; omega)))))); done)); rintro e w7 hr7; replace hr7 := HR1.out _ _ _ hr7; obtain ⟨rfl, hs7⟩ := hr7; have bA := two_boxes hs7 hst.out; obtain ⟨q0, q1, q2, q3⟩ := bA; have hb7 := hs7.bel; have hz7 := hs7.keep.1; (try simp only [World.size_alloc] at hz7); replace hs7 := Lib.hid hs7) | (go_at_call 35; (with_reducible refine (cQ2 _ (hs7.out.stk.below ?_)).mono ?_); (focus ((repeat (first | (with_reducible exact Below.refl _ _) | ((with_reducible refine Below.alloc ?_ ?hB _); (case hB => (first | omega | (simp; done) | (simp; omega)))) | ((with_reducible refine Below.setCell ?_ ?hB _); (case hB => (first | omega | (simp; done) | (simp; omega)))) | (with_reducible refine Below.drew ?_) | ((with_reducible refine below_ext_of ?_ ?hB); (case hB => (first | omega | (simp; done) | (simp; omega)))) | ((with_reducible refine Below.trans ?_ (Below.mono (by assumption) ?hB)); (case hB => (first | omega | (simp; done) | (simp; omega)))))); done)); rintro e w10 hr10; replace hr10 := HR2.out _ _ _ hr10; obtain ⟨rfl, hs10⟩ := hr10; have hb10 := hs10.bel; have hz10 := hs10.keep.1; replace hs10 := Lib.hid hs10) | (go_at_call 36; (with_reducible refine (cAa _ (hs7.out.stk.below ?_)).mono ?_); (focus ((repeat (first | (with_reducible exact Below.refl _ _) | ((with_reducible refine Below.alloc ?_ ?hB _); (case hB => (first | omega | (simp; done) | (simp; omega)))) | ((with_reducible refine Below.setCell ?_ ?hB _); (case hB => (first | omega | (simp; done) | (simp; omega)))) | (with_reducible refine Below.drew ?_) | ((with_reducible refine below_ext_of ?_ ?hB); (case hB => (first | omega | (simp; done) | (simp; omega)))) | ((with_reducible refine Below.trans ?_ (Below.mono (by assumption) ?hB)); (case hB => (first | omega | (simp; done) | (simp; omega)))))); done)); rintro e w8 ⟨rfl, hb8⟩; have hz8 := hb8.size; replace q0 := pw_cell_below hb8 q0; replace q1 := pw_cell_below hb8 q1; replace q2 := pw_cell_below hb8 q2; replace q3 := pw_cell_below hb8 q3) | (go_at_call 36; (with_reducible refine (cAb _ (hs7.out.stk.below ?_)).mono ?_); (focus ((repeat (first | (with_reducible exact Below.refl _ _) | ((with_reducible refine Below.alloc ?_ ?hB _); (case hB => (first | omega | (simp; done) | (simp; omega)))) | ((with_reducible refine Below.setCell ?_ ?hB _); (case hB => (first | omega | (simp; done) | (simp; omega)))) | (with_reducible refine Below.drew ?_) | ((with_reducible refine below_ext_of ?_ ?hB); (case hB => (first | omega | (simp; done) | (simp; omega)))) | ((with_reducible refine Below.trans ?_ (Below.mono (by assumption) ?hB)); (case hB => (first | omega | (simp; done) | (simp; omega)))))); done)); rintro e w8 ⟨rfl, hb8⟩; have hz8 := hb8.size; replace q0 := pw_cell_below hb8 q0; replace q1 := pw_cell_below hb8 q1; replace q2 := pw_cell_below hb8 q2; replace q3 := pw_cell_below hb8 q3) | (go_at_call 39; (with_reducible refine (cL _ hs10.out.stk).mono ?_); rintro e w11 ⟨v11, rfl, ho11, hb11⟩; have hz11 := hb11.size; obtain ⟨A11, c11, rfl, hk11⟩ := ho11.kr; clear ho11; replace hk11 := Lib.hid hk11) | (go_at_call 38; (with_reducible refine (law_as _ mm _ _ (by omega) hk11.out).mono ?_); rintro e w12 ⟨v12, rfl, ho12, hb12⟩; have hz12 := hb12.size; obtain ⟨A12, c12, rfl, hk12⟩ := ho12.kr; clear ho12; replace hk12 := Lib.hid hk12) | (go_at_call 37; (with_reducible refine (ref_Same _ _ mm mm _ _ _ (by omega) (by omega) hk12.out.row (hk2.out.row.below ?_)).mono ?_); (focus ((repeat (first | (with_reducible exact Below.refl _ _) | ((with_reducible refine Below.alloc ?_ ?hB _); (case hB => (first | omega | (simp; done) | (simp; omega)))) | ((with_reducible refine Below.setCell ?_ ?hB _); (case hB => (first | omega | (simp; done) | (simp; omega)))) | (with_reducible refine Below.drew ?_) | ((with_reducible refine below_ext_of ?_ ?hB); (case hB => (first | omega | (simp; done) | (simp; omega)))) | ((with_reducible refine Below.trans ?_ (Below.mono (by assumption) ?hB)); (case hB => (first | omega | (simp; done) | (simp; omega)))))); done)); rintro e w13 ⟨rfl, hb13⟩; have hz13 := hb13.size) | (go_at_call 33; (with_reducible refine (HLV.out _).mono ?_); rintro e w14 ⟨rfl, hb14⟩; have hz14 := hb14.size))
              go_ret
              exact ⟨rfl, hb02.out.trans (Below.mono (show Below w2.heap.size w2 w14 from by (repeat (first | (with_reducible exact Below.refl _ _) | ((with_reducible refine Below.alloc ?_ ?hB _); (case hB => (first | omega | (simp; done) | (simp; omega)))) | ((with_reducible refine Below.setCell ?_ ?hB _); (case hB => (first | omega | (simp; done) | (simp; omega)))) | (with_reducible refine Below.drew ?_) | ((with_reducible refine below_ext_of ?_ ?hB); (case hB => (first | omega | (simp; done) | (simp; omega)))) | ((with_reducible refine Below.trans ?_ (Below.mono (by assumption) ?hB)); (case hB => (first | omega | (simp; done) | (simp; omega))))))) hz02)⟩
end Go.Proofs.Yteldbnelfeiifaa
