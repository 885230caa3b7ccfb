/- The law EventWords, walked. -/
import Derived.Test.YtinnaiofgbjicaaDoorShG
namespace Go.Proofs.YtinnaiofgbjicaaDoor
open Go.RowKit Go.Proofs.YtinnaiofgbjicaaDoorW.PrintWords
set_option linter.unusedSimpArgs false
set_option linter.unusedVariables false
set_option maxRecDepth 1000000
attribute [local go_sem high] eqE
set_option maxHeartbeats 4000000 in
theorem walk_EventWords (a b : E4) (w : World) (ha : a.Bd) (hb : b.Bd) (hT : Tab w) : Calls Tryd.prog 5 #[(.agg #[.int .i64 (a).k, .int .i64 (a).id, .int .i64 (a).a, .int .i64 (a).b]), (.agg #[.int .i64 (b).k, .int .i64 (b).id, .int .i64 (b).a, .int .i64 (b).b])] w fun e w' => e = .returned (.bool true) ∧ Below w.heap.size w w' := by
  have cGx := fun w => ref_GoodE a w ha
  have cGy := fun w => ref_GoodE b w hb
  have hmx := good_mayE a
  have hmy := good_mayE b
  have hbx := goodE_bd a
  have hby := goodE_bd b
  generalize goodE a = x at *
  generalize goodE b = y at *
  have HX := Lib.hid (And.intro hbx hby)
  have HT := Lib.hid hT
  have HLV := Lib.hid ev_lives
  have HM := Lib.hid (fun h : showS x = showS y => showS_inj hmx hmy h)
  have cO : ∀ (w' : World) (n : Nat), w'.heap.size = n → Calls Tryd.prog 24 #[.slice (some ⟨n, 0, none⟩) 2 2] (w'.alloc (.cells #[.int .i64 x.k, .int .i64 x.id, .int .i64 x.a, .int .i64 x.b, .int .i64 y.k, .int .i64 y.id, .int .i64 y.a, .int .i64 y.b] 51)) (RowE (w'.alloc (.cells #[.int .i64 x.k, .int .i64 x.id, .int .i64 x.a, .int .i64 x.b, .int .i64 y.k, .int .i64 y.id, .int .i64 y.a, .int .i64 y.b] 51)) 57 [x, y]) := fun w' n hn => by subst hn; exact law_of (some ⟨w'.heap.size, 0, none⟩) [x, y] 2 _ (by simp) (er_new w' 51 [x, y] (by simp))
  unfold RowE at cO
  clear ha hb hmx hmy hbx hby hT
  go_enter Tryd.func5, Tryd.ntmps5
  go_wp2_with (first | (go_at_call 23; (with_reducible refine (cGx _).mono ?_); rintro en w1 ⟨rfl, hb1⟩; obtain ⟨hc1, hf1⟩ := bcell hb1; have hz1 := hb1.size; (try simp only [World.size_alloc, World.size_setCell, World.size_drew] at hz1)) | (go_at_call 23; (with_reducible refine (cGy _).mono ?_); rintro en w2 ⟨rfl, hb2⟩; obtain ⟨hc2, hf2⟩ := bcell hb2; have hz2 := hb2.size; (try simp only [World.size_alloc, World.size_setCell, World.size_drew] at hz2)) | (go_at_call 24; (with_reducible refine (cO _ _ ?_).mono ?_); (focus (simp; done)); rintro en w3 ⟨v3, rfl, ho3, hb3⟩; obtain ⟨A3, c3, rfl, hr3⟩ := ho3.er; clear ho3; obtain ⟨hc3, hf3⟩ := bcell hb3; have hz3 := hb3.size; replace hr3 := Lib.hid hr3; (try simp only [World.size_alloc, World.size_setCell, World.size_drew] at hz3)))
  obtain ⟨ad, rfl, p0, p1, p2, p3⟩ := hr3.out.row 0 (by simp)
  obtain ⟨ad', e', r0, r1, r2, r3⟩ := hr3.out.row 1 (by simp)
  injection e' with e'
  subst e'
  rw [add04] at p0 p1 p2 p3
  have hx0 : atE [x, y] 0 = x := rfl
  have hy1 : atE [x, y] 1 = y := rfl
  rw [hx0] at p0 p1 p2 p3
  rw [hy1] at r0 r1 r2 r3
  clear hx0 hy1
  have hz4 : (1 * 4 : Nat) = 4 := rfl
  rw [hz4] at r0 r1 r2 r3
  have hadd : ad.add 4 = ⟨ad.block, ad.off + 4, none⟩ := by simp [Addr.add]
  rw [hadd] at r0 r1 r2 r3
  clear hadd
  have B5 := Lib.hid (blk_belowB (blk_alloc (blk_alloc (blk_belowB (blk_new w1 (.cells #[.int .i64 x.k, .int .i64 x.id, .int .i64 x.a, .int .i64 x.b] 51)) hb2 (by simp)) (.cells #[.int .i64 y.k, .int .i64 y.id, .int .i64 y.a, .int .i64 y.b] 51)) (.cells #[.int .i64 x.k, .int .i64 x.id, .int .i64 x.a, .int .i64 x.b, .int .i64 y.k, .int .i64 y.id, .int .i64 y.a, .int .i64 y.b] 51)) hb3 (by simp; omega))
  have B6 := Lib.hid (blk_belowB (blk_alloc (blk_new w2 (.cells #[.int .i64 y.k, .int .i64 y.id, .int .i64 y.a, .int .i64 y.b] 51)) (.cells #[.int .i64 x.k, .int .i64 x.id, .int .i64 x.a, .int .i64 x.b, .int .i64 y.k, .int .i64 y.id, .int .i64 y.a, .int .i64 y.b] 51)) hb3 (by simp; omega))
  have P0 := fun x => pw_cell_below (below_ext w3 x) p0; have P1 := fun x => pw_cell_below (below_ext w3 x) p1; have P2 := fun x => pw_cell_below (below_ext w3 x) p2; have P3 := fun x => pw_cell_below (below_ext w3 x) p3
  have R0 := fun x => pw_cell_below (below_ext w3 x) r0; have R1 := fun x => pw_cell_below (below_ext w3 x) r1; have R2 := fun x => pw_cell_below (below_ext w3 x) r2; have R3 := fun x => pw_cell_below (below_ext w3 x) r3
  have S0 := fun x => pw_cell_below (below_ext w3 x) ((blk_cell B5.out 0).trans rfl); have S1 := fun x => pw_cell_below (below_ext w3 x) ((blk_cell B5.out 1).trans rfl); have S2 := fun x => pw_cell_below (below_ext w3 x) ((blk_cell B5.out 2).trans rfl); have S3 := fun x => pw_cell_below (below_ext w3 x) ((blk_cell B5.out 3).trans rfl)
  have T0 := fun x => pw_cell_below (below_ext w3 x) ((blk_cell B6.out 0).trans rfl); have T1 := fun x => pw_cell_below (below_ext w3 x) ((blk_cell B6.out 1).trans rfl); have T2 := fun x => pw_cell_below (below_ext w3 x) ((blk_cell B6.out 2).trans rfl); have T3 := fun x => pw_cell_below (below_ext w3 x) ((blk_cell B6.out 3).trans rfl)
  have hb03 : Below w.heap.size w w3 := by (repeat (first | (with_reducible exact Below.refl _ _) | ((with_reducible refine Below.alloc ?_ ?hB _); (case hB => (first | omega | (simp; done) | (simp; omega)))) | ((with_reducible refine Below.setCell ?_ ?hB _); (case hB => (first | omega | (simp; done) | (simp; omega)))) | (with_reducible refine Below.drew ?_) | ((with_reducible refine below_ext_of ?_ ?hB); (case hB => (first | omega | (simp; done) | (simp; omega)))) | ((with_reducible refine Below.trans ?_ (Below.mono (by assumption) ?hB)); (case hB => (first | omega | (simp; done) | (simp; omega))))))
  have cX := fun e => ev_Show x (ext w3 e) HX.out.1 (HT.out.at (hb03.trans (Below.mono (below_ext w3 e) hb03.size)))
  have cY := fun e => ev_Show y (ext w3 e) HX.out.2 (HT.out.at (hb03.trans (Below.mono (below_ext w3 e) hb03.size)))
  have cL := fun w => HLV.out w
  clear hc1 hc2 hc3 hf1 hf2 hf3 p0 p1 p2 p3 r0 r1 r2 r3
  have ek := eEq_iff x y
  by_cases hxy : x = y
  · rw [decide_eq_true hxy] at ek
    have hs : showS x = showS y := by rw [hxy]
    rw [hs] at cX
    clear hxy hs
    generalize showS y = s at *
    (refine wp_region_ext_lit (by kernel_rfl) (by kernel_rfl) ?_; (repeat (go_big_quiet_step ((first | (go_at_call 25; with_reducible exact ext_call (cX _)) | (go_at_call 25; with_reducible exact ext_call (cY _)) | (go_at_call 26; with_reducible exact ext_call (cL _)))))); refine wpQuiet_nil ?_; intro w4 hb_w4; obtain ⟨hc_w4, hf_w4⟩ := bcell hb_w4; have hz_w4 := hb_w4.size; (try simp only [World.size_alloc, World.size_setCell, World.size_drew] at hz_w4))
    go_wp2
    go_ret
    exact ⟨rfl, by (repeat (first | (with_reducible exact Below.refl _ _) | ((with_reducible refine Below.alloc ?_ ?hB _); (case hB => (first | omega | (simp; done) | (simp; omega)))) | ((with_reducible refine Below.setCell ?_ ?hB _); (case hB => (first | omega | (simp; done) | (simp; omega)))) | (with_reducible refine Below.drew ?_) | ((with_reducible refine below_ext_of ?_ ?hB); (case hB => (first | omega | (simp; done) | (simp; omega)))) | ((with_reducible refine Below.trans ?_ (Below.mono (by assumption) ?hB)); (case hB => (first | omega | (simp; done) | (simp; omega))))))⟩
  · rw [decide_eq_false hxy] at ek
    have hs := str_beq (showS x) (showS y) false (decide_eq_false (fun h => hxy (HM.out h)))
    clear hxy HM
    generalize showS x = sx at *
    generalize showS y = sy at *
    (refine wp_region_ext_lit (by kernel_rfl) (by kernel_rfl) ?_; (repeat (go_big_quiet_step ((first | (go_at_call 25; with_reducible exact ext_call (cX _)) | (go_at_call 25; with_reducible exact ext_call (cY _)) | (go_at_call 26; with_reducible exact ext_call (cL _)))))); refine wpQuiet_nil ?_; intro w4 hb_w4; obtain ⟨hc_w4, hf_w4⟩ := bcell hb_w4; have hz_w4 := hb_w4.size; (try simp only [World.size_alloc, World.size_setCell, World.size_drew] at hz_w4))
    go_wp2
    go_ret
    exact ⟨rfl, by (repeat (first | (with_reducible exact Below.refl _ _) | ((with_reducible refine Below.alloc ?_ ?hB _); (case hB => (first | omega | (simp; done) | (simp; omega)))) | ((with_reducible refine Below.setCell ?_ ?hB _); (case hB => (first | omega | (simp; done) | (simp; omega)))) | (with_reducible refine Below.drew ?_) | ((with_reducible refine below_ext_of ?_ ?hB); (case hB => (first | omega | (simp; done) | (simp; omega)))) | ((with_reducible refine Below.trans ?_ (Below.mono (by assumption) ?hB)); (case hB => (first | omega | (simp; done) | (simp; omega))))))⟩
end Go.Proofs.YtinnaiofgbjicaaDoor
